/- Parts of the walk of package sched, merged. -/
/- SchedTurns, plain: what is picked where there are no gangs and no credit. -/
import Derived.Test.YtdaadmjppikebaaK9
import Derived.Test.YtdaadmjppikebaaK11
namespace Go.Proofs.Ytdaadmjppikebaa.SC
open Go.RowKit
open Go.Proofs.Ytdaadmjppikebaa.PV (S94 k94 S29 k29 rd_T94 rd_T29)
set_option linter.unusedVariables false
set_option linter.unusedSimpArgs false

theorem modE_gn (s : SS) (i : Nat) (f : SE → SE) (hf : ∀ x, (f x).gn = x.gn) (j : Nat) : ((s.modE i f).ent j).gn = (s.ent j).gn := by
  unfold SS.modE SS.ent
  simp only [List.getD_eq_getElem?_getD, List.getElem?_modify]
  cases h : s.es[j]? with
  | none => simp
  | some x =>
    simp only [Option.map_eq_map, Option.map_some, Option.getD_some]
    split
    · exact hf x
    · rfl
theorem ranF_gn (s : SS) (g : Int) (h : Nat) (e : Int) (j : Nat) : ((ranF s g h e).ent j).gn = (s.ent j).gn := by
  unfold ranF
  split
  · rfl
  · split
    · exact modE_gn s e.toNat (fun x => { x with rn := x.rn + 1, cd := max (x.cd - 1) (-limitF s) }) (fun _ => rfl) j
    · exact modE_gn s e.toNat (fun x => { x with rn := x.rn + 1 }) (fun _ => rfl) j
theorem tickH_gn {s : SS} (hw : Wf s) (g : Int) (h : Nat) (rd : List Bool) (j : Nat) : ((tickH s g h rd).ent j).gn = (s.ent j).gn := by
  unfold tickH
  rw [ranF_gn]
  have h1 := (pickF_pk hw h rd)
  have h2 := (chargeF_tk h1.wf g h (pickF s h rd).1).2.1
  unfold SS.ent
  rw [h2, h1.es]
theorem tickFrom_gn (g : Int) (rd : List Bool) : ∀ (f h : Nat) (s : SS) (k : Int), Wf s → g = gangF s → ((h + f : Nat) : Int) ≤ s.H → CntC s k → CntR s k → ∀ j, ((tickFrom g rd f h s).ent j).gn = (s.ent j).gn
  | 0, h, s, k, hw, _, _, hc, hr, j => rfl
  | f + 1, h, s, k, hw, hg, hh, hc, hr, j => by
    obtain ⟨h1, h2, h3⟩ := tickH_tk hw hg (h := h) (by omega) rd hc hr
    exact (tickFrom_gn g rd f (h + 1) (tickH s g h rd) (k + 1) h1.wf (by rw [h1.st.gang h1.now]; exact hg) (by rw [h1.st.H]; omega) h2 h3 j).trans (tickH_gn hw g h rd j)
theorem tickF_gn {s : SS} (rd : List Bool) (hw : Wf s) (hn : s.now < 4611686018427387904) (hc : CntC s 0) (hr : CntR s 0) (j : Nat) : ((tickF s rd).ent j).gn = (s.ent j).gn := by
  have hH1 := hw.H1
  have hH8 := hw.H8
  have g1 := tickFrom_gn (gangF s) rd s.H.toNat 0 s 0 hw rfl (by omega) hc hr j
  obtain ⟨h1, h2, h3⟩ := tickFrom_tk (gangF s) rd s.H.toNat 0 s 0 hw rfl (by omega) hc hr
  obtain ⟨e1, e2⟩ := tickE_wf h1.wf (gangF s) (by rw [h1.now]; exact hn)
  have g2 : ((tickE (tickFrom (gangF s) rd s.H.toNat 0 s) (gangF s)).ent j).gn = (s.ent j).gn := g1
  show ((if (tickE (tickFrom (gangF s) rd s.H.toNat 0 s) (gangF s)).now % (tickE (tickFrom (gangF s) rd s.H.toNat 0 s) (gangF s)).P = 0 ∧ (tickE (tickFrom (gangF s) rd s.H.toNat 0 s) (gangF s)).cr = true then giveF (tickE (tickFrom (gangF s) rd s.H.toNat 0 s) (gangF s)) else tickE (tickFrom (gangF s) rd s.H.toNat 0 s) (gangF s)).ent j).gn = _
  split
  · rw [((giveF_gk e1).gn j).1]; exact g2
  · exact g2
/-- Partitioned, no gangs, nobody gone. -/
structure TP (m n : Nat) (S : Int) (s : SS) : Prop where
  H : s.H = m
  S : s.S = S
  cr : s.cr = false
  en : s.es.length = n
  g : ∀ i, (s.gst i).g = false
  gn : ∀ i, (s.ent i).gn = false
  sh : s.sh = s.now
theorem no_gang : ∀ (l : List SG) (i : Nat) (a : Int), (∀ x ∈ l, x.g = false) → gangGo l i a = -1
  | [], _, _, _ => rfl
  | x :: r, i, a, h => by
    unfold gangGo
    rw [if_neg (by rw [h x List.mem_cons_self]; decide)]
    exact no_gang r (i + 1) a (fun y hy => h y (List.mem_cons_of_mem _ hy))
theorem TP.gang {m n : Nat} {S : Int} {s : SS} (h : TP m n S s) : gangF s = -1 := by
  unfold gangF
  refine no_gang _ _ _ (fun x hx => ?_)
  obtain ⟨i, hi, rfl⟩ := List.getElem_of_mem hx
  have := h.g i
  unfold SS.gst at this
  rw [List.getD_eq_getElem?_getD, List.getElem?_eq_getElem hi] at this
  exact this
theorem TP.tick {m n : Nat} {S : Int} {s : SS} (h : TP m n S s) (rd : List Bool) (hw : Wf s) (hn : s.now < 4611686018427387904) (hc : CntC s 0) (hr : CntR s 0) : TP m n S (tickF s rd) := by
  have ht := tickF_tf rd hw hn hc hr
  exact ⟨ht.st.H.trans h.H, ht.st.S.trans h.S, ht.st.cr.trans h.cr, ht.st.el.trans h.en, fun i => by rw [ht.st.gst]; exact h.g i, fun i => (tickF_gn rd hw hn hc hr i).trans (h.gn i), by rw [ht.sh, ht.now, h.gang, if_pos (by decide), h.sh]⟩
theorem TP.gng {m n : Nat} {S : Int} {s : SS} (h : TP m n S s) (i : Nat) : s.gng i = false := h.g _
theorem TP.plainP {m n : Nat} {S : Int} {s : SS} (h : TP m n S s) (a i : Nat) : plainP s (a : Int) i = decide (i % m = a) := by
  unfold SC.plainP homeOf
  rw [if_neg (by rw [h.gng]; decide), h.gng, h.H]
  simp only [Bool.not_false, Bool.and_true]
  by_cases e : i % m = a
  · have : (i : Int) % (m : Int) = (a : Int) := by omega
    simp [e, this]
  · have : ¬ (i : Int) % (m : Int) = (a : Int) := by omega
    simp [e, this]
theorem TP.skip {m n : Nat} {S : Int} {s : SS} (h : TP m n S s) (a k : Nat) : ∀ d : Nat, (∀ i, k ≤ i → i < k + d → i % m ≠ a) → plainTo s (a : Int) (k + d) = plainTo s (a : Int) k
  | 0, _ => rfl
  | d + 1, hi => by
    rw [← Nat.add_assoc, plainTo_succ, h.plainP, decide_eq_false (hi (k + d) (by omega) (by omega))]
    simp only [Bool.false_eq_true, if_false, List.append_nil]
    exact TP.skip h a k d (fun i h1 h2 => hi i h1 (by omega))
theorem TP.pick {m n : Nat} {S : Int} {s : SS} (h : TP m n S s) (a : Nat) (ha : a < m) (rd : List Bool) : pickF s (a : Int) rd = (byTurnF s (a : Int) rd, s) := by
  unfold pickF
  rw [if_neg (by rw [h.H]; omega), if_neg (by rw [h.gang]; omega), if_neg (by rw [h.cr]; decide)]
end Go.Proofs.Ytdaadmjppikebaa.SC

/- SchedPicks, plain: two schedulers of one conf; what one hart runs. -/
namespace Go.Proofs.Ytdaadmjppikebaa.SC
open Go.RowKit Go.Proofs.YtdaadmjppikebaaW.PrintWords Go.Proofs.YtdaadmjppikebaaW.PrintLast
open Go.Proofs.Ytdaadmjppikebaa.PV (S94 k94 S29 k29 rd_T94 rd_T29)
set_option linter.unusedVariables false
set_option linter.unusedSimpArgs false

theorem newF_gn {m : Nat} {S P : Int} {cr : Bool} {gl : List S94} (hok : NOk m S P gl) : ∀ k, ((newF m S P cr gl).ent k).gn = false := by
  have h1 : ∀ k, ((newS1 m S P cr gl).ent k).gn = false := fun k => by
    show ((newS0 m S P cr gl).ent k).gn = false
    rcases Nat.lt_or_ge k (entsL 0 gl).length with q | q
    · obtain ⟨j, x, k', h1, h2, h3⟩ := new_ent (m := m) (S := S) (P := P) (cr := cr) q
      rw [h3]
    · show ((entsL 0 gl).getD k e0).gn = false
      rw [List.getD_eq_getElem?_getD, List.getElem?_eq_none q]; rfl
  unfold newF
  split
  · intro k
    rw [((giveF_gk (newS1_wf hok)).gn k).1]
    exact h1 k
  · exact h1
/-- Two schedulers of one conf, the second one ticked as often. -/
structure PkP (m : Nat) (S P : Int) (cr : Bool) (ys : List S29) (s u : SS) (i : Int) : Prop where
  c : CQ s
  n : NP m S P cr ys s
  st : St s u
  now : s.now = i
  un : u.now = s.now
  us : u.sh = s.sh
  gn : ∀ k, (u.ent k).gn = false
  gs : ∀ k, (s.ent k).gn = false
theorem CQ.pick {s : SS} (hw : Wf s) (h : CQ s) (a : Int) (rd : List Bool) : CQ (pickF s a rd).2 := by
  have hp := pickF_pk hw a rd
  exact ⟨pickF_qi hw h.q a rd, h.c.of hp.st (fun i hi => by unfold SS.ent; rw [hp.es])⟩
section
variable {m : Nat} {S P : Int} {cr : Bool} {ys : List S29} {s u : SS} {i : Int}
theorem PkP.pick (hw : Wf s) (h : PkP m S P cr ys s u i) (a : Int) (rd : List Bool) : PkP m S P cr ys (pickF s a rd).2 u i := by
  have hp := pickF_pk hw a rd
  have hst : St (pickF s a rd).2 s := ⟨hp.st.H.symm, hp.st.S.symm, hp.st.P.symm, hp.st.cr.symm, hp.st.gs.symm, hp.st.el.symm, fun i => ⟨(hp.st.en i).1.symm, (hp.st.en i).2.1.symm, (hp.st.en i).2.2.symm⟩, hp.st.tl.symm, hp.st.cl.symm⟩
  exact ⟨h.c.pick hw a rd, h.n.st hp.st, hst.trans h.st, hp.now.trans h.now, h.un.trans hp.now.symm, h.us.trans hp.sh.symm, h.gn, fun k => by have := h.gs k; unfold SS.ent at this ⊢; rw [hp.es]; exact this⟩
theorem St.symm {s s' : SS} (h : St s s') : St s' s := ⟨h.H.symm, h.S.symm, h.P.symm, h.cr.symm, h.gs.symm, h.el.symm, fun i => ⟨(h.en i).1.symm, (h.en i).2.1.symm, (h.en i).2.2.symm⟩, h.tl.symm, h.cl.symm⟩
theorem PkP.tick {W : World} {own own2 : Nat → Prop} {b b2 : Nat} (hx : SB W own b s) (hy : SB W own2 b2 u) (h : PkP m S P cr ys s u i) (hi : i ≤ 1048576) (rd : List Bool) : PkP m S P cr ys (tickF s rd) (tickF u []) (i + 1) := by
  have hn := h.now
  have hun := h.un
  have ht := tickF_tf rd hx.wf (by omega) hx.cntC hx.cntR
  have hu := tickF_tf [] hy.wf (by omega) hy.cntC hy.cntR
  have hg : gangF u = gangF s := h.st.gang h.un
  exact ⟨tickF_cq rd hx.wf (by omega) hx.cntC hx.cntR h.c, h.n.st ht.st, (ht.st.symm.trans h.st).trans hu.st, by rw [ht.now, hn], by rw [hu.now, ht.now, hun], by rw [hu.sh, ht.sh, hg, h.us], fun k => (tickF_gn [] hy.wf (by omega) hy.cntC hy.cntR k).trans (h.gn k), fun k => (tickF_gn rd hx.wf (by omega) hx.cntC hx.cntR k).trans (h.gs k)⟩
/-- What a hart picks is its own, and can run. -/
theorem PkP.own (hw : Wf s) (h : PkP m S P cr ys s u i) {a : Nat} (ha : a < m) (rd : List Bool) (hrd : rd.length = s.es.length) :
    (pickF s (a : Int) rd).1 = -1 ∨ ∃ p : Nat, (pickF s (a : Int) rd).1 = (p : Int) ∧ p < s.es.length ∧ homeOf s p = (a : Int) ∧ rd.getD p false = true := by
  have hH := h.n.H
  rcases gangF_range s with hg | hg
  · obtain ⟨_, h2, _⟩ := pickF_pp hw h.c.q (h := a) (by omega) (by omega) rd
    rcases (pickF_pk hw (a : Int) rd).rg with hr | hr
    · exact .inl hr
    · obtain ⟨h3, h4⟩ := h2 hr.1
      obtain ⟨p, hp, hp1, hp2, _⟩ := plainTo_mem h3
      refine .inr ⟨p, hp, hp1, hp2, ?_⟩
      rw [hp] at h4
      unfold readyF at h4
      simp only [Bool.and_eq_true, Int.toNat_natCast] at h4
      exact h4.1.2
  · obtain ⟨g, hgg⟩ : ∃ g : Nat, gangF s = (g : Int) := ⟨(gangF s).toNat, by omega⟩
    obtain ⟨_, h2⟩ := pick_gang hw (h := a) (by omega) hgg rd
    rcases h2 with h2 | ⟨p, hp, hp1, hp2, hp3, hp4, hp5⟩
    · exact .inl h2
    · refine .inr ⟨p, hp, hp1, ?_, hp5⟩
      have := (gangF_g (s := s) (by omega)).2
      rw [hgg, Int.toNat_natCast] at this
      unfold homeOf SS.gng
      rw [hp2, Int.toNat_natCast, if_pos this, hp3]
theorem firstGo_only (p : Nat → Bool) (k : Nat) (hk : p k = true) (hu : ∀ j, p j = true → j = k) : ∀ f j, j ≤ k → k < j + f → firstGo p f j = (k : Int)
  | 0, j, h1, h2 => by omega
  | f + 1, j, h1, h2 => by
    unfold firstGo
    by_cases c : p j = true
    · rw [if_pos c, hu j c]
    · rw [if_neg c]
      have : j ≠ k := fun e => c (e ▸ hk)
      exact firstGo_only p k hk hu f (j + 1) (by omega) (by omega)
/-- Partitioned, what a hart runs hangs on nobody else. -/
theorem PkP.twin (hw : Wf s) (h : PkP m S P false ys s u i) {a : Nat} (ha : a < m) (rd : List Bool) {p : Nat} (hp : (pickF s (a : Int) rd).1 = (p : Int)) (hpl : p < s.es.length) :
    pickF u (a : Int) ((List.replicate s.es.length false).set p true) = ((p : Int), u) := by
  have hH := h.n.H
  have huH : u.H = m := by rw [h.st.H, hH]
  have hcr : s.cr = false := h.n.cr
  have hg : gangF u = gangF s := h.st.gang h.un
  have hel := h.st.el
  have honly : ∀ j, ((List.replicate s.es.length false).set p true).getD j false = decide (j = p) := fun j => by
    rw [List.getD_eq_getElem?_getD, List.getElem?_set]
    by_cases c : p = j
    · subst c; simp [hpl]
    · rw [if_neg c, List.getElem?_replicate]
      have : decide (j = p) = false := by simp; omega
      rw [this]
      split <;> rfl
  have hready : ∀ j : Nat, readyF u ((List.replicate s.es.length false).set p true) (j : Int) = decide (j = p) := fun j => by
    unfold readyF
    rw [Int.toNat_natCast, honly, h.gn, List.length_set, List.length_replicate]
    by_cases c : j = p
    · subst c
      have : decide ((j : Int) < (s.es.length : Int)) = true := by simp; omega
      rw [this]; simp
    · simp [c]
  unfold pickF at hp ⊢
  rw [if_neg (by omega)] at hp
  rw [if_neg (by omega)]
  by_cases hg0 : 0 ≤ gangF s
  · rw [if_pos hg0] at hp
    rw [if_pos (by rw [hg]; exact hg0), hg]
    congr 1
    unfold ofGangF at hp ⊢
    rw [hel]
    have hpp : ofGangP s (gangF s) a rd p = true := by
      rcases firstGo_range (ofGangP s (gangF s) a rd) s.es.length 0 with h1 | ⟨n, h1, _, _, h3⟩
      · have hp' : firstGo (ofGangP s (gangF s) a rd) s.es.length 0 = (p : Int) := hp
        omega
      · have hp' : firstGo (ofGangP s (gangF s) a rd) s.es.length 0 = (p : Int) := hp
        have : n = p := by omega
        rw [← this]; exact h3
    unfold ofGangP at hpp
    simp only [Bool.and_eq_true, beq_iff_eq] at hpp
    refine firstGo_only _ p ?_ (fun j hj => ?_) _ _ (Nat.zero_le _) (by omega)
    · unfold ofGangP
      rw [(h.st.en p).1, (h.st.en p).2.1, hpp.1.1, hpp.1.2, hready]
      simp
    · unfold ofGangP at hj
      rw [hready] at hj
      simp only [Bool.and_eq_true, decide_eq_true_eq] at hj
      exact hj.2
  · rw [if_neg hg0, hcr, if_neg (by decide)] at hp
    rw [if_neg (by rw [hg]; exact hg0), h.st.cr, hcr, if_neg (by decide)]
    congr 1
    have hwh := h.st.whose h.us (a : Int)
    have hp' : byTurnF s (a : Int) rd = (p : Int) := hp
    unfold byTurnF at hp' ⊢
    by_cases c : 0 ≤ whoseF s (a : Int) ∧ readyF s rd (whoseF s (a : Int)) = true
    · rw [if_pos c] at hp'
      rw [hwh, hp', hready, if_pos ⟨by omega, by simp⟩]
    · rw [if_neg c] at hp'; omega
/-- By credit, in shared time, a hart that runs nobody has nobody who can run. -/
theorem PkP.idle (hw : Wf s) (h : PkP m S P true ys s u i) {a : Nat} (ha : a < m) (rd : List Bool) (hg : gangF s < 0) (hp : (pickF s (a : Int) rd).1 = -1) : ∀ e ∈ plainL s a, rd.getD e.toNat false = false := by
  obtain ⟨_, _, h3⟩ := pickF_pp hw h.c.q (h := a) (by have := h.n.H; omega) hg rd
  intro e he
  have := h3 h.n.cr (by omega) e he
  unfold readyF at this
  rw [h.gs] at this
  obtain ⟨k, hk, hk2, _⟩ := plainTo_mem he
  by_cases c : e < (rd.length : Int)
  · rw [decide_eq_true c] at this; simpa using this
  · rw [List.getD_eq_getElem?_getD, List.getElem?_eq_none (by omega)]; rfl
end
/-- A row of bools in a block of its own, as cells. -/
theorem blk_bools {W : World} {ob t : Nat} {l : List Bool} (h : Blk W ob t (l.map Value.bool)) (hl : l.length ≤ 64) : Kd.C Kd.bool W (some ⟨ob, 0, none⟩) l.length l := by
  refine ⟨rfl, by omega, fun _ => ⟨⟨ob, 0, none⟩, rfl, fun j p hj => ⟨[.bool p], rfl, rfl, fun q v hq => ?_⟩⟩⟩
  have hq0 : q = 0 := by
    rcases Nat.eq_zero_or_pos q with h0 | h0
    · exact h0
    · rw [List.getElem?_eq_none (by simp; omega)] at hq; cases hq
  subst hq0
  simp only [List.getElem?_cons_zero, Option.some.injEq] at hq
  subst hq
  have := h.cell (i := j) (v := .bool p) (by rw [List.getElem?_map, hj]; rfl)
  have e : (⟨ob, 0, none⟩ : Addr).add (j * Kd.bool.sz + 0) = ⟨ob, j, none⟩ := by
    show (⟨ob, 0, none⟩ : Addr).add (j * 1 + 0) = _
    simp [Addr.add]
    intro hj0
    exact hj0.symm
  rw [e]
  exact this
/-- Two schedulers and a law's conf. -/
structure LT (W0 W : World) (own own2 : Nat → Prop) (b b2 gb hN : Nat) (s u : SS) (m S P : Int) (cr : Bool) (Ag : Option Addr) (cg : Nat) (ys : List S29) : Prop where
  L : LW W0 W own b gb hN s m S P cr Ag cg ys
  X : SB W own2 b2 u
  D : ∀ k, own k → ¬ own2 k
  N : ∀ k, own2 k → hN ≤ k
section
variable {W0 W w' : World} {own own2 own' own2' : Nat → Prop} {b b2 gb hN : Nat} {s s' u u' : SS} {m S P : Int} {cr : Bool} {Ag : Option Addr} {cg : Nat} {ys : List S29} {A : Option Addr} {c : Nat} {rd : List Bool}
theorem LT.of (h : LW W0 W own b gb hN s m S P cr Ag cg ys) (hb : Below W.heap.size W w') (hs : SB w' own2 b2 u) (ho : ∀ k, own2 k → W.heap.size ≤ k) : LT W0 w' own own2 b b2 gb hN s u m S P cr Ag cg ys :=
  ⟨h.below hb, hs, fun k h1 h2 => by have := h.X.lt k h1; have := ho k h2; omega, fun k hk => Nat.le_trans h.z (ho k hk)⟩
theorem LT.below (h : LT W0 W own own2 b b2 gb hN s u m S P cr Ag cg ys) (hb : Below W.heap.size W w') : LT W0 w' own own2 b b2 gb hN s u m S P cr Ag cg ys :=
  ⟨h.L.below hb, h.X.below hb, h.D, h.N⟩
theorem LT.s_then (h : LT W0 W own own2 b b2 gb hN s u m S P cr Ag cg ys) (hs : SB w' own' b s') (ht : Then W own w' own') : LT W0 w' own' own2 b b2 gb hN s' u m S P cr Ag cg ys :=
  ⟨h.L.then_ hs ht, h.X.mut ht.m (fun k h2 h1 => h.D k h1 h2), fun k h1 h2 => (ht.z k h1).elim (fun h3 => h.D k h3 h2) (fun h3 => by have := h.X.lt k h2; omega), h.N⟩
theorem LT.t_then (h : LT W0 W own own2 b b2 gb hN s u m S P cr Ag cg ys) (hs : SB w' own2' b2 u') (ht : Then W own2 w' own2') : LT W0 w' own own2' b b2 gb hN s u' m S P cr Ag cg ys :=
  ⟨⟨h.L.X.mut ht.m (fun k h1 h2 => h.D k h1 h2), h.L.C.mut ht.m (fun k hk => ⟨Nat.le_trans h.L.z0 (h.N k hk), fun e => by have := h.N k hk; have := h.L.G; omega, fun e => by have := h.N k hk; have := h.L.h k e; omega⟩), h.L.N, h.L.G, h.L.h, Nat.le_trans h.L.z ht.m.size, h.L.z0⟩,
   hs, fun k h1 h2 => (ht.z k h2).elim (h.D k h1) (fun h3 => by have := h.L.X.lt k h1; omega), fun k hk => (ht.z k hk).elim (h.N k) (fun h3 => Nat.le_trans h.L.z h3)⟩
theorem LT.put (h : LT W0 W own own2 b b2 gb hN s u m S P cr Ag cg ys) {sb : Nat} (ho : ¬ own sb) (ho2 : ¬ own2 sb) (hg : hN ≤ sb) (q : Nat) (v : Value) : LT W0 (W.setCell ⟨sb, q, none⟩ v) own own2 b b2 gb hN s u m S P cr Ag cg ys :=
  ⟨h.L.put ho hg q v, h.X.mut (set_mut _ _ _) (fun k hk e => ho2 (by have e2 : k = sb := e; rw [← e2]; exact hk)), h.D, h.N⟩
/-- A list of who can run, apart from both. -/
structure RL2 (W : World) (own own2 : Nat → Prop) (A : Option Addr) (c : Nat) (rd : List Bool) : Prop where
  a : RL W own A c rd
  b : RL W own2 A c rd
theorem RL.mutX {X : Nat → Prop} (h : RL W own2 A c rd) (hm : Mut X W w') (hX : ∀ k, (Value.slice A rd.length c).ownBlock = some k → ¬ X k) : RL w' own2 A c rd := by
  obtain ⟨h1, inner, ho, hr⟩ := h.r
  have h2 : Kd.R Kd.bool 4 W 0 (fun k => ¬ own2 k ∧ ¬ X k) (.slice A rd.length c) rd := ⟨fun k hk => ⟨h1 k hk, hX k hk⟩, inner, ho, hr⟩
  have h3 : Kd.R Kd.bool 4 w' 0 (fun k => ¬ own2 k ∧ ¬ X k) (.slice A rd.length c) rd := Kd.R_kept h2 hm.kept (fun k hk => hk.2)
  obtain ⟨h4, inner, ho, hr⟩ := h3
  exact ⟨⟨fun k hk => (h4 k hk).1, inner, ho, hr⟩⟩
theorem RL2.below (h : RL2 W own own2 A c rd) (hb : Below W.heap.size W w') : RL2 w' own own2 A c rd := ⟨h.a.below hb, h.b.below hb⟩
theorem RL2.s_then (h : RL2 W own own2 A c rd) (t : Then W own w' own') : RL2 w' own' own2 A c rd := ⟨h.a.then_ t, h.b.mutX t.m (fun k hk => h.a.r.1 k hk)⟩
theorem RL2.t_then (h : RL2 W own own2 A c rd) (t : Then W own2 w' own2') : RL2 w' own own2' A c rd := ⟨h.a.mutX t.m (fun k hk => h.b.r.1 k hk), h.b.then_ t⟩
theorem RL2.put (h : RL2 W own own2 A c rd) {sb : Nat} (hne : ∀ k, (Value.slice A rd.length c).ownBlock = some k → k ≠ sb) (q : Nat) (v : Value) : RL2 (W.setCell ⟨sb, q, none⟩ v) own own2 A c rd := ⟨h.a.put hne q v, h.b.put hne q v⟩
theorem LT.list (h : LT W0 W own own2 b b2 gb hN s u m S P cr Ag cg ys) (v : Int) (n : Nat) (hn : n = s.es.length) :
    Calls Try.prog 16 #[.int .u64 v, .int .i64 (n : Int)] W fun e w' => ∃ A c, e = .returned (.slice A (bitsL v n).length c) ∧ RL2 w' own own2 A c (bitsL v n) ∧ LT W0 w' own own2 b b2 gb hN s u m S P cr Ag cg ys ∧ Below W.heap.size W w' := by
  refine (PV.citadellaw18_list.calls (n + 1) v (n : Int) (bitsL v n) _ (list_f v n (by rw [hn]; exact h.L.X.wf.em))).mono ?_
  rintro e w' ⟨v5, rfl, hr5, hb5⟩
  obtain ⟨A, c, e, hl⟩ := RL.new h.L.X hr5
  obtain ⟨A', c', e', hl'⟩ := RL.new h.X hr5
  subst e
  cases e'
  exact ⟨A, c, rfl, ⟨hl, hl'⟩, h.below hb5, hb5⟩
theorem LT.pick (h : LT W0 W own own2 b b2 gb hN s u m S P cr Ag cg ys) (hr : RL2 W own own2 A c rd) (hart : Int) :
    Calls Try.prog 17 #[.pointer (some ⟨b, 0, none⟩), .int .i64 hart, .slice A rd.length c] W fun x w' => x = .returned (.int .i64 (pickF s hart rd).1) ∧ ∃ own', LT W0 w' own' own2 b b2 gb hN (pickF s hart rd).2 u m S P cr Ag cg ys ∧ RL2 w' own' own2 A c rd := by
  refine (h.L.X.pick hr.a hart).mono ?_
  rintro x w' ⟨rfl, own', h1, h2⟩
  exact ⟨rfl, own', h.s_then h1 h2, hr.s_then h2⟩
theorem LT.tick (h : LT W0 W own own2 b b2 gb hN s u m S P cr Ag cg ys) (hn : s.now ≤ 288230376151711744) (hr : RL2 W own own2 A c rd) :
    Calls Try.prog 18 #[.pointer (some ⟨b, 0, none⟩), .slice A rd.length c] W fun x w' => x = .returned (.tuple #[]) ∧ ∃ own', LT W0 w' own' own2 b b2 gb hN (tickF s rd) u m S P cr Ag cg ys := by
  refine (h.L.X.tick hn hr.a).mono ?_
  rintro x w' ⟨rfl, own', h1, h2⟩
  exact ⟨rfl, own', h.s_then h1 h2⟩
theorem LT.tick2 (h : LT W0 W own own2 b b2 gb hN s u m S P cr Ag cg ys) (hn : u.now ≤ 288230376151711744) :
    Calls Try.prog 18 #[.pointer (some ⟨b2, 0, none⟩), .slice none 0 0] W fun x w' => x = .returned (.tuple #[]) ∧ ∃ own2', LT W0 w' own own2' b b2 gb hN s (tickF u []) m S P cr Ag cg ys := by
  refine (h.X.tick (A := none) (c := 0) (rd := []) hn ⟨Kd.R_nil _ _ _ _ _⟩).mono ?_
  rintro x w' ⟨rfl, own', h1, h2⟩
  exact ⟨rfl, own', h.t_then h1 h2⟩
/-- A pick of the second one, by a list in a block of its own. -/
theorem LT.pick2 (h : LT W0 W own own2 b b2 gb hN s u m S P cr Ag cg ys) (hr : RL2 W own own2 A c rd) {ob t : Nat} {l : List Bool} (hb : Blk W ob t (l.map Value.bool)) (hl : l.length ≤ 64) (ho : ¬ own2 ob) (hart : Int) :
    Calls Try.prog 17 #[.pointer (some ⟨b2, 0, none⟩), .int .i64 hart, .slice (some ⟨ob, 0, none⟩) l.length l.length] W fun x w' => x = .returned (.int .i64 (pickF u hart l).1) ∧ ∃ own2', LT W0 w' own own2' b b2 gb hN s (pickF u hart l).2 m S P cr Ag cg ys ∧ RL2 w' own own2' A c rd := by
  obtain ⟨L, rfl, hx⟩ := h.X
  refine (picks_calls hx ⟨blk_bools hb hl, Nat.le_refl _⟩ (fun ad e => by cases e; exact ho) hart).mono ?_
  rintro x w' ⟨rfl, own', L', h1, h2, h3, h4, h5⟩
  have t : Then W own2 w' own' := ⟨h3, h4, h5⟩
  have h' := h.t_then (u' := (pickF u hart l).2) (own2' := own') ⟨L', h1, h2⟩ t
  exact ⟨rfl, own', h', hr.t_then t⟩
end
end Go.Proofs.Ytdaadmjppikebaa.SC
