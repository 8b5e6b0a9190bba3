import Derived.Test.YtdaadmjppikebaaK1
import Derived.Test.YtdaadmjppikebaaK2
/- Parts of the walk of package sched, merged. -/
/- What stays, and what holds of every state that is reached. -/
namespace Go.Proofs.Ytdaadmjppikebaa.SC
set_option linter.unusedVariables false
set_option linter.unusedSimpArgs false

structure St (s s' : SS) : Prop where
  H : s'.H = s.H
  S : s'.S = s.S
  P : s'.P = s.P
  cr : s'.cr = s.cr
  gs : s'.gs = s.gs
  el : s'.es.length = s.es.length
  en : ∀ i, (s'.ent i).gu = (s.ent i).gu ∧ (s'.ent i).ix = (s.ent i).ix ∧ (s'.ent i).wt = (s.ent i).wt
  tl : s'.ts.length = s.ts.length
  cl : s'.ch.length = s.ch.length
section
variable {s s' s2 : SS}
theorem St.refl (s : SS) : St s s := ⟨rfl, rfl, rfl, rfl, rfl, rfl, fun _ => ⟨rfl, rfl, rfl⟩, rfl, rfl⟩
theorem St.trans (h : St s s') (k : St s' s2) : St s s2 := ⟨k.H.trans h.H, k.S.trans h.S, k.P.trans h.P, k.cr.trans h.cr, k.gs.trans h.gs, k.el.trans h.el, fun i => ⟨(k.en i).1.trans (h.en i).1, (k.en i).2.1.trans (h.en i).2.1, (k.en i).2.2.trans (h.en i).2.2⟩, k.tl.trans h.tl, k.cl.trans h.cl⟩
theorem modE_out (s : SS) {i : Nat} (f : SE → SE) (hi : ¬ i < s.es.length) : s.modE i f = s := by
  unfold SS.modE
  have : s.es.modify i f = s.es := by
    apply List.ext_getElem?
    intro j
    rw [List.getElem?_modify]
    by_cases e : i = j
    · subst e; rw [List.getElem?_eq_none (by omega)]; rfl
    · simp [e]
  rw [this]
theorem St.modE (s : SS) (i : Nat) (f : SE → SE) (hf : ∀ x, (f x).gu = x.gu ∧ (f x).ix = x.ix ∧ (f x).wt = x.wt) : St s (s.modE i f) := by
  by_cases hi : i < s.es.length
  · refine ⟨rfl, rfl, rfl, rfl, rfl, by simp, fun j => ?_, rfl, rfl⟩
    rw [modE_ent f hi]
    by_cases e : i = j
    · subst e; rw [if_pos rfl]; exact hf _
    · rw [if_neg e]; exact ⟨rfl, rfl, rfl⟩
  · rw [modE_out s f hi]; exact St.refl s
theorem St.modT (s : SS) (i : Nat) (f : ST → ST) : St s (s.modT i f) := ⟨rfl, rfl, rfl, rfl, rfl, rfl, fun _ => ⟨rfl, rfl, rfl⟩, by simp, rfl⟩
theorem St.modC (s : SS) (i : Nat) (f : Int → Int) : St s (s.modC i f) := ⟨rfl, rfl, rfl, rfl, rfl, rfl, fun _ => ⟨rfl, rfl, rfl⟩, rfl, by simp⟩
theorem St.gst (h : St s s') (i : Nat) : s'.gst i = s.gst i := by unfold SS.gst; rw [h.gs]
theorem St.gng (h : St s s') (i : Nat) : s'.gng i = s.gng i := by unfold SS.gng; rw [h.gst, (h.en i).1]
theorem St.home (h : St s s') (i : Nat) : homeOf s' i = homeOf s i := by unfold homeOf; rw [h.gng, (h.en i).2.1, h.H]
theorem St.plainTo (h : St s s') (a : Int) (k : Nat) : plainTo s' a k = plainTo s a k := by
  unfold SC.plainTo
  congr 1
  exact List.filter_congr (fun i _ => by unfold plainP; rw [h.home, h.gng])
theorem St.plain (h : St s s') (a : Int) : plainL s' a = plainL s a := by unfold plainL; rw [h.el, h.plainTo]
theorem St.ticks (h : St s s') : ticksF s' = ticksF s := by unfold ticksF; rw [h.gs, h.P]
theorem St.limit (h : St s s') : limitF s' = limitF s := by unfold limitF; rw [h.ticks]
theorem St.gang (h : St s s') (hn : s'.now = s.now) : gangF s' = gangF s := by unfold gangF; rw [h.gs, h.P, hn]
theorem St.whose (h : St s s') (hn : s'.sh = s.sh) (a : Int) : whoseF s' a = whoseF s a := by unfold whoseF; rw [h.plain, hn, h.S]
end
/-- What holds of a hart's turn. -/
def TQ (s : SS) (t : ST) : Prop := (∀ e ∈ t.q, 0 ≤ e ∧ e < s.es.length) ∧ t.q.length ≤ 64 ∧ t.q.Nodup ∧ -1 ≤ t.cu ∧ t.cu < s.es.length ∧ 0 ≤ t.us ∧ t.us ≤ s.S ∧ (0 ≤ t.cu → t.cu ∈ t.q)
theorem Wf.st {s s' : SS} (hw : Wf s) (h : St s s') (ec : ∀ i, i < s.es.length → -10128 ≤ (s'.ent i).cd ∧ (s'.ent i).cd ≤ 10128 ∧ 0 ≤ (s'.ent i).pt ∧ (s'.ent i).pt ≤ 64000) (tq : ∀ i, i < s.ts.length → TQ s (s'.trn i)) (nw : 0 ≤ s'.now ∧ s'.now ≤ 4611686018427387904) (sw : 0 ≤ s'.sh ∧ s'.sh ≤ s'.now) : Wf s' :=
  { H1 := by rw [h.H]; exact hw.H1, H8 := by rw [h.H]; exact hw.H8, S1 := by rw [h.S]; exact hw.S1, S2 := by rw [h.S]; exact hw.S2, P1 := by rw [h.P]; exact hw.P1, P2 := by rw [h.P]; exact hw.P2,
    gn := by rw [h.gs]; exact hw.gn, gm := by rw [h.gs]; exact hw.gm, en := by rw [h.el]; exact hw.en, em := by rw [h.el]; exact hw.em, tn := by rw [h.tl, h.H]; exact hw.tn, cn := by rw [h.cl, h.gs]; exact hw.cn,
    eg := fun i hi => by rw [(h.en i).1, (h.en i).2.1, h.gs]; exact hw.eg i (by rw [← h.el]; exact hi),
    ew := fun i hi => by rw [(h.en i).2.2]; exact hw.ew i (by rw [← h.el]; exact hi),
    ec := fun i hi => ec i (by rw [← h.el]; exact hi),
    eh := fun i hi hg => by rw [(h.en i).2.1, h.H]; exact hw.eh i (by rw [← h.el]; exact hi) (by rw [← h.gng]; exact hg),
    gw := fun i hi => by rw [h.gst]; exact hw.gw i (by rw [← h.gs]; exact hi),
    tk := by rw [h.ticks]; exact hw.tk,
    tq := fun i hi => by have := tq i (by rw [← h.tl]; exact hi); unfold TQ at this; rw [h.el, h.S]; exact this,
    nw := nw, sw := sw }
theorem Wf.modT {s : SS} (hw : Wf s) (i : Nat) (hi : i < s.ts.length) (f : ST → ST) (ht : TQ s (f (s.trn i))) : Wf (s.modT i f) :=
  hw.st (St.modT s i f) (fun k hk => hw.ec k hk) (fun k hk => by
    rw [modT_trn f hi]
    by_cases e : i = k
    · subst e; rw [if_pos rfl]; exact ht
    · rw [if_neg e]; exact hw.tq k hk) hw.nw hw.sw
theorem Wf.modE {s : SS} (hw : Wf s) (i : Nat) (hi : i < s.es.length) (f : SE → SE) (hf : ∀ x, (f x).gu = x.gu ∧ (f x).ix = x.ix ∧ (f x).wt = x.wt) (hc : -10128 ≤ (f (s.ent i)).cd ∧ (f (s.ent i)).cd ≤ 10128 ∧ 0 ≤ (f (s.ent i)).pt ∧ (f (s.ent i)).pt ≤ 64000) : Wf (s.modE i f) :=
  hw.st (St.modE s i f hf) (fun k hk => by
    rw [modE_ent f hi]
    by_cases e : i = k
    · subst e; rw [if_pos rfl]; exact hc
    · rw [if_neg e]; exact hw.ec k hk) (fun k hk => hw.tq k hk) hw.nw hw.sw
theorem Wf.modC {s : SS} (hw : Wf s) (i : Nat) (f : Int → Int) : Wf (s.modC i f) := hw.st (St.modC s i f) (fun k hk => hw.ec k hk) (fun k hk => hw.tq k hk) hw.nw hw.sw

theorem nodup_back {l : List Int} (h : l.Nodup) (c : Int) : ((l.filter fun x => x != c) ++ [c]).Nodup := by
  rw [List.nodup_append]
  refine ⟨h.filter _, by simp, fun a ha b hb => ?_⟩
  have h1 := (List.mem_filter.1 ha).2
  have h2 := List.mem_singleton.1 hb
  subst h2
  simpa using h1
theorem TQ.back {s : SS} (hw : Wf s) {i : Nat} (hi : i < s.ts.length) (hc : 0 ≤ (s.trn i).cu) : TQ s (backF (s.trn i)) := by
  obtain ⟨h1, h2, h3, h4, h5, h6, h7, h8⟩ := hw.tq i hi
  refine ⟨fun e he => ?_, back_len hw hi hc, nodup_back h3 _, by simp [backF], by simp [backF]; have := hw.en; omega, h6, h7, fun h => by simp [backF] at h⟩
  rcases List.mem_append.1 he with h | h
  · exact h1 e (List.mem_filter.1 h).1
  · rw [List.mem_singleton.1 h]; exact ⟨hc, h5⟩
/-- What a pick leaves: a state as before but for one turn; whom it takes. -/
structure PK (s : SS) (h : Nat) (e : Int) (s' : SS) : Prop where
  st : St s s'
  wf : Wf s'
  es : s'.es = s.es
  ch : s'.ch = s.ch
  now : s'.now = s.now
  sh : s'.sh = s.sh
  rg : e = -1 ∨ (0 ≤ e ∧ e < s.es.length)
theorem PK.same {s : SS} (hw : Wf s) (h : Nat) {e : Int} (hr : e = -1 ∨ (0 ≤ e ∧ e < s.es.length)) : PK s h e s := ⟨St.refl s, hw, rfl, rfl, rfl, rfl, hr⟩
theorem creditF2_pk {s : SS} (hw : Wf s) {i : Nat} (hi : i < s.ts.length) (rd : List Bool) (sm : Bool) : PK s i (creditF2 s i rd sm).1 (creditF2 s i rd sm).2 ∧ (0 ≤ (creditF2 s i rd sm).1 → ((creditF2 s i rd sm).2.trn i).us < s.S ∧ ((creditF2 s i rd sm).2.trn i).cu = (creditF2 s i rd sm).1) := by
  unfold creditF2
  obtain ⟨h1, h2, h3, h4, h5, h6, h7, h8⟩ := hw.tq i hi
  by_cases hf : findQ s rd sm (s.trn i).q = -1
  · rw [if_pos hf]
    exact ⟨PK.same hw i (.inl rfl), fun h => by simp at h⟩
  · rw [if_neg hf]
    rcases findQ_range (s := s) (rd := rd) (sm := sm) (s.trn i).q h1 with hm | hm
    · exact absurd hm hf
    · have hr := h1 _ hm
      refine ⟨⟨St.modT _ _ _, hw.modT i hi _ ⟨h1, h2, h3, by simp only; omega, hr.2, by simp, by simp only; have := hw.S1; omega, fun _ => hm⟩, rfl, rfl, rfl, rfl, .inr hr⟩, fun _ => ?_⟩
      rw [modT_trn _ hi, if_pos rfl]
      exact ⟨by simp only; have := hw.S1; omega, rfl⟩
theorem byCreditF_pk {s : SS} (hw : Wf s) {i : Nat} (hi : i < s.ts.length) (rd : List Bool) : PK s i (byCreditF s i rd).1 (byCreditF s i rd).2 ∧ (0 ≤ (byCreditF s i rd).1 → ((byCreditF s i rd).2.trn i).us < s.S ∧ ((byCreditF s i rd).2.trn i).cu = (byCreditF s i rd).1) := by
  unfold byCreditF
  obtain ⟨h1, h2, h3, h4, h5, h6, h7, h8⟩ := hw.tq i hi
  by_cases hc : 0 ≤ (s.trn i).cu
  · rw [if_pos hc]
    by_cases hg : goesOn s i rd = true
    · rw [if_pos hg]
      refine ⟨PK.same hw i (.inr ⟨hc, h5⟩), fun _ => ⟨?_, rfl⟩⟩
      unfold goesOn at hg
      simp only [Bool.and_eq_true, decide_eq_true_eq] at hg
      exact hg.1.2
    · rw [if_neg hg]
      have hw2 := hw.modT i hi backF (TQ.back hw hi hc)
      obtain ⟨p, q⟩ := creditF2_pk hw2 (i := i) (by simpa using hi) rd (someF s i rd)
      exact ⟨⟨(St.modT _ _ _).trans p.st, p.wf, p.es, p.ch, p.now, p.sh, p.rg⟩, q⟩
  · rw [if_neg hc]
    exact creditF2_pk hw hi rd (someF s i rd)
theorem firstGo_range (p : Nat → Bool) : ∀ (f k : Nat), firstGo p f k = -1 ∨ ∃ n : Nat, firstGo p f k = (n : Int) ∧ k ≤ n ∧ n < k + f ∧ p n = true := by
  intro f
  induction f with
  | zero => intro k; exact .inl rfl
  | succ f ih =>
    intro k
    simp only [firstGo]
    by_cases h : p k = true
    · rw [if_pos h]; exact .inr ⟨k, rfl, by omega, by omega, h⟩
    · rw [if_neg h]
      rcases ih (k + 1) with h1 | ⟨n, h1, h2, h3, h4⟩
      · exact .inl h1
      · exact .inr ⟨n, h1, by omega, by omega, h4⟩
theorem pickF_pk {s : SS} (hw : Wf s) (h : Int) (rd : List Bool) : PK s h.toNat (pickF s h rd).1 (pickF s h rd).2 := by
  unfold pickF
  by_cases h0 : h < 0 ∨ s.H ≤ h
  · rw [if_pos h0]; exact PK.same hw _ (.inl rfl)
  · rw [if_neg h0]
    by_cases hg : 0 ≤ gangF s
    · rw [if_pos hg]
      refine PK.same hw _ ?_
      unfold ofGangF
      rcases firstGo_range (ofGangP s (gangF s) h rd) s.es.length 0 with h1 | ⟨n, h1, h2, h3, h4⟩
      · exact .inl h1
      · rw [h1]; exact .inr ⟨by omega, by omega⟩
    · rw [if_neg hg]
      by_cases hc : s.cr = true
      · rw [if_pos hc]
        exact (byCreditF_pk hw (by have := hw.tn; omega) rd).1
      · rw [if_neg hc]
        refine PK.same hw _ ?_
        unfold byTurnF
        split
        · rcases whoseF_range s h with h1 | ⟨n, h1, h2, _, _⟩
          · exact .inl h1
          · rw [h1]; exact .inr ⟨by omega, by omega⟩
        · exact .inl rfl
theorem pickF_us {s : SS} (hw : Wf s) (h : Int) (rd : List Bool) (hg : gangF s < 0) (hc : s.cr = true) (he : 0 ≤ (pickF s h rd).1) : ((pickF s h rd).2.trn h.toNat).us < s.S ∧ 0 ≤ h ∧ h < s.H := by
  by_cases h0 : h < 0 ∨ s.H ≤ h
  · unfold pickF at he; rw [if_pos h0] at he; simp at he
  · have e : pickF s h rd = byCreditF s h.toNat rd := by unfold pickF; rw [if_neg h0, if_neg (by omega), if_pos hc]
    rw [e] at he ⊢
    exact ⟨((byCreditF_pk hw (by have := hw.tn; omega) rd).2 he).1, by omega, by omega⟩
/-- Counters within a tick, k harts of which are behind. -/
def CntR (s : SS) (k : Int) : Prop := ∀ i, i < s.es.length → 0 ≤ (s.ent i).rn ∧ (s.ent i).rn ≤ 8 * s.now + k
def CntC (s : SS) (k : Int) : Prop := ∀ i, i < s.ch.length → 0 ≤ s.ch.getD i 0 ∧ s.ch.getD i 0 ≤ 8 * s.now + k
theorem modC_get (s : SS) (i j : Nat) (f : Int → Int) (hi : i < s.ch.length) : (s.modC i f).ch.getD j 0 = if i = j then f (s.ch.getD i 0) else s.ch.getD j 0 := by
  unfold SS.modC
  simp only [List.getD_eq_getElem?_getD, List.getElem?_modify]
  by_cases e : i = j
  · subst e; simp [List.getElem?_eq_getElem hi]
  · simp [e]
theorem CntC.modC {s : SS} {k : Int} (h : CntC s k) (i : Nat) (hi : i < s.ch.length) : CntC (s.modC i (· + 1)) (k + 1) := by
  intro j hj
  have hj' : j < s.ch.length := by simpa using hj
  have h1 := h j hj'
  show 0 ≤ _ ∧ _ ≤ 8 * s.now + (k + 1)
  rw [modC_get s i j _ hi]
  by_cases e : i = j
  · subst e; rw [if_pos rfl]; constructor <;> omega
  · rw [if_neg e]; omega
theorem CntC.mono {s : SS} {k k' : Int} (h : CntC s k) (hk : k ≤ k') : CntC s k' := fun i hi => by have := h i hi; omega
theorem CntR.mono {s : SS} {k k' : Int} (h : CntR s k) (hk : k ≤ k') : CntR s k' := fun i hi => by have := h i hi; omega
theorem CntR.modE {s : SS} {k : Int} (h : CntR s k) (i : Nat) (hi : i < s.es.length) (f : SE → SE) (hf : (f (s.ent i)).rn = (s.ent i).rn + 1) : CntR (s.modE i f) (k + 1) := by
  intro j hj
  have hj' : j < s.es.length := by simpa using hj
  have h1 := h j hj'
  show 0 ≤ _ ∧ _ ≤ 8 * s.now + (k + 1)
  rw [modE_ent f hi]
  by_cases e : i = j
  · subst e; rw [if_pos rfl, hf]; omega
  · rw [if_neg e]; omega
/-- What a hart's tick leaves. -/
structure TK (s : SS) (s' : SS) : Prop where
  st : St s s'
  wf : Wf s'
  now : s'.now = s.now
  sh : s'.sh = s.sh
theorem TK.trans {s s' s2 : SS} (h : TK s s') (k : TK s' s2) : TK s s2 := ⟨h.st.trans k.st, k.wf, k.now.trans h.now, k.sh.trans h.sh⟩
theorem PK.tk {s s' : SS} {h : Nat} {e : Int} (p : PK s h e s') : TK s s' := ⟨p.st, p.wf, p.now, p.sh⟩
theorem gangGo_lt' : ∀ (l : List SG) (i : Nat) (a : Int), gangGo l i a = -1 ∨ ((i : Int) ≤ gangGo l i a ∧ gangGo l i a < (i : Int) + l.length) := by
  intro l
  induction l with
  | nil => intro i a; exact .inl rfl
  | cons g r ih =>
    intro i a
    simp only [gangGo, List.length_cons]
    split
    · split
      · right; push_cast; omega
      · rcases ih (i + 1) (a - g.w) with h | h
        · exact .inl h
        · right; push_cast at h ⊢; omega
    · rcases ih (i + 1) a with h | h
      · exact .inl h
      · right; push_cast at h ⊢; omega
theorem gangF_range (s : SS) : gangF s = -1 ∨ (0 ≤ gangF s ∧ gangF s < s.gs.length) := by
  rcases gangGo_lt' s.gs 0 (s.now % s.P) with h | h
  · exact .inl h
  · right; unfold gangF; simpa using h
theorem chargeF_tk {s : SS} (hw : Wf s) (g : Int) (h : Nat) (e : Int) : TK s (chargeF s g h e) ∧ (chargeF s g h e).es = s.es ∧ (chargeF s g h e).ts = s.ts := by
  unfold chargeF
  have c : ∀ i, TK s (s.modC i (· + 1)) ∧ (s.modC i (· + 1)).es = s.es ∧ (s.modC i (· + 1)).ts = s.ts := fun i => ⟨⟨St.modC s i _, hw.modC i _, rfl, rfl⟩, rfl, rfl⟩
  split
  · exact c _
  · split
    · exact c _
    · split
      · exact c _
      · exact ⟨⟨St.refl s, hw, rfl, rfl⟩, rfl, rfl⟩
theorem chargeF_cnt {s : SS} (hw : Wf s) {g : Int} (hg : g = -1 ∨ (0 ≤ g ∧ g < s.gs.length)) (h : Nat) {e : Int} (he : e = -1 ∨ (0 ≤ e ∧ e < s.es.length)) {k : Int} (hc : CntC s k) (hr : CntR s k) : CntC (chargeF s g h e) (k + 1) ∧ CntR (chargeF s g h e) k := by
  have hR : ∀ i, CntR (s.modC i (· + 1)) k := fun i => hr
  unfold chargeF
  split
  · exact ⟨hc.modC _ (by rw [hw.cn]; omega), hR _⟩
  · split
    · exact ⟨hc.modC _ (by have := hw.eg e.toNat (by omega); rw [hw.cn]; omega), hR _⟩
    · split
      · rename_i h3
        refine ⟨hc.modC _ ?_, hR _⟩
        rcases whoseF_range s h with h4 | ⟨n, h4, h5, _, _⟩
        · omega
        · rw [h4, Int.toNat_natCast]; have := hw.eg n h5; rw [hw.cn]; omega
      · exact ⟨hc.mono (by omega), hr⟩
theorem limitF_range {s : SS} (hw : Wf s) : 129 ≤ limitF s ∧ limitF s ≤ 10128 := by have := ticksF_range hw.toS; unfold limitF; omega
theorem ranF_tk {s : SS} (hw : Wf s) (g : Int) {h : Nat} (hh : h < s.ts.length) {e : Int} (he : e = -1 ∨ (0 ≤ e ∧ e < s.es.length)) (hu : s.cr = true → g < 0 → 0 ≤ e → (s.trn h).us < s.S) : TK s (ranF s g h e) ∧ (ranF s g h e).ch = s.ch := by
  have hl := limitF_range hw
  unfold ranF
  split
  · exact ⟨⟨St.refl s, hw, rfl, rfl⟩, rfl⟩
  · rename_i h1
    have hen : e.toNat < s.es.length := by omega
    have hec := hw.ec e.toNat hen
    split
    · rename_i h2
      have w1 := hw.modE e.toNat hen (fun x => { x with rn := x.rn + 1, cd := max (x.cd - 1) (-limitF s) }) (fun _ => ⟨rfl, rfl, rfl⟩) (by simp only; omega)
      obtain ⟨q1, q2, q3, q4, q5, q6, q7, q8⟩ := hw.tq h hh
      have hus := hu h2.1 h2.2 (by omega)
      have w2 := w1.modT h (by simpa using hh) (fun t => { t with us := t.us + 1 }) ⟨by rw [modE_len]; exact q1, q2, q3, q4, by rw [modE_len]; exact q5, by show 0 ≤ (s.trn h).us + 1; omega, by show (s.trn h).us + 1 ≤ s.S; omega, q8⟩
      exact ⟨⟨(St.modE s e.toNat (fun x => { x with rn := x.rn + 1, cd := max (x.cd - 1) (-limitF s) }) (fun _ => ⟨rfl, rfl, rfl⟩)).trans (St.modT _ _ _), w2, rfl, rfl⟩, rfl⟩
    · exact ⟨⟨St.modE s _ _ (fun _ => ⟨rfl, rfl, rfl⟩), hw.modE e.toNat hen _ (fun _ => ⟨rfl, rfl, rfl⟩) hec, rfl, rfl⟩, rfl⟩
theorem ranF_cnt {s : SS} (g : Int) {h : Nat} {e : Int} (he : e = -1 ∨ (0 ≤ e ∧ e < s.es.length)) {k : Int} (hr : CntR s k) : CntR (ranF s g h e) (k + 1) := by
  unfold ranF
  split
  · exact hr.mono (by omega)
  · split
    · exact hr.modE e.toNat (by omega) (fun x => { x with rn := x.rn + 1, cd := max (x.cd - 1) (-limitF s) }) rfl
    · exact hr.modE e.toNat (by omega) (fun x => { x with rn := x.rn + 1 }) rfl
theorem tickH_tk {s : SS} (hw : Wf s) {g : Int} (hg : g = gangF s) {h : Nat} (hh : (h : Int) < s.H) (rd : List Bool) {k : Int} (hc : CntC s k) (hr : CntR s k) : TK s (tickH s g h rd) ∧ CntC (tickH s g h rd) (k + 1) ∧ CntR (tickH s g h rd) (k + 1) := by
  have hht : h < s.ts.length := by have := hw.tn; omega
  have p := pickF_pk hw (h : Int) rd
  rw [Int.toNat_natCast] at p
  unfold tickH
  generalize hs1 : (pickF s (h : Int) rd).2 = s1 at p ⊢
  generalize he : (pickF s (h : Int) rd).1 = e at p ⊢
  have hgr : g = -1 ∨ (0 ≤ g ∧ g < s1.gs.length) := by rw [hg, p.st.gs]; exact gangF_range s
  have her : e = -1 ∨ (0 ≤ e ∧ e < s1.es.length) := by rw [p.st.el]; exact p.rg
  have c1 : CntC s1 k := fun i hi => by rw [p.ch, p.now]; exact hc i (by rw [← p.ch]; exact hi)
  have r1 : CntR s1 k := fun i hi => by
    have e : s1.ent i = s.ent i := by unfold SS.ent; rw [p.es]
    rw [e, p.now]; exact hr i (by rw [← p.es]; exact hi)
  obtain ⟨t1, t2, t3⟩ := chargeF_tk p.wf g h e
  obtain ⟨d1, d2⟩ := chargeF_cnt p.wf hgr h her c1 r1
  have her2 : e = -1 ∨ (0 ≤ e ∧ e < (chargeF s1 g h e).es.length) := by rw [t2]; exact her
  obtain ⟨u1, u2⟩ := ranF_tk t1.wf g (h := h) (by rw [t3, p.st.tl]; exact hht) her2 (fun a b c => by
    have hx := pickF_us hw (h : Int) rd (by omega) (by rw [← p.st.cr, ← t1.st.cr]; exact a) (by rw [he]; exact c)
    rw [hs1, Int.toNat_natCast] at hx
    have e2 : (chargeF s1 g h e).trn h = s1.trn h := by unfold SS.trn; rw [t3]
    rw [e2, t1.st.S, p.st.S]; exact hx.1)
  refine ⟨p.tk.trans (t1.trans u1), fun i hi => ?_, ranF_cnt g her2 d2⟩
  rw [u2, u1.now]; exact d1 i (by rw [← u2]; exact hi)
theorem tickFrom_succ (g : Int) (rd : List Bool) {n k : Nat} (hk : k < n) (s : SS) : tickFrom g rd (n - k) k s = tickFrom g rd (n - (k + 1)) (k + 1) (tickH s g k rd) := by
  rw [show n - k = (n - (k + 1)) + 1 by omega]; rfl
theorem tickE_wf {s : SS} (hw : Wf s) (g : Int) (hn : s.now < 4611686018427387904) : Wf (tickE s g) ∧ St s (tickE s g) := by
  have h : St s (tickE s g) := ⟨rfl, rfl, rfl, rfl, rfl, rfl, fun _ => ⟨rfl, rfl, rfl⟩, rfl, rfl⟩
  refine ⟨hw.st h (fun i hi => hw.ec i hi) (fun i hi => hw.tq i hi) ?_ ?_, h⟩
  · have := hw.nw; show 0 ≤ s.now + 1 ∧ s.now + 1 ≤ _; omega
  · have := hw.sw; show 0 ≤ (if g < 0 then s.sh + 1 else s.sh) ∧ (if g < 0 then s.sh + 1 else s.sh) ≤ s.now + 1
    split <;> omega
end Go.Proofs.Ytdaadmjppikebaa.SC

/- The credits of a period. -/
namespace Go.Proofs.Ytdaadmjppikebaa.SC
open Go.RowKit Go.Proofs.YtdaadmjppikebaaW.PrintWords Go.Proofs.YtdaadmjppikebaaW.PrintLast
set_option linter.unusedVariables false
set_option linter.unusedSimpArgs false

/-- What a period's credits leave. -/
structure GK (s s' : SS) : Prop where
  st : St s s'
  wf : Wf s'
  now : s'.now = s.now
  sh : s'.sh = s.sh
  ts : s'.ts = s.ts
  ch : s'.ch = s.ch
  gn : ∀ i, (s'.ent i).gn = (s.ent i).gn ∧ (s'.ent i).rn = (s.ent i).rn
theorem GK.refl {s : SS} (hw : Wf s) : GK s s := ⟨St.refl s, hw, rfl, rfl, rfl, rfl, fun _ => ⟨rfl, rfl⟩⟩
theorem GK.trans {s s' s2 : SS} (h : GK s s') (k : GK s' s2) : GK s s2 := ⟨h.st.trans k.st, k.wf, k.now.trans h.now, k.sh.trans h.sh, k.ts.trans h.ts, k.ch.trans h.ch, fun i => ⟨(k.gn i).1.trans (h.gn i).1, (k.gn i).2.trans (h.gn i).2⟩⟩
theorem sumGo_range (s : SS) (hw : Wf s) : ∀ (l : List Int) (n : Int), (∀ e ∈ l, 0 ≤ e ∧ e < s.es.length) → 0 ≤ n → n ≤ sumGo s l n ∧ sumGo s l n ≤ n + 1000 * l.length ∧ (∀ e ∈ l, (s.ent e.toNat).gn = false → 1 ≤ sumGo s l n) := by
  intro l
  induction l with
  | nil => intro n _ _; simp [sumGo]
  | cons e r ih =>
    intro n h hn
    have he := h e (List.mem_cons_self)
    have hwt := hw.ew e.toNat (by omega)
    simp only [sumGo, List.length_cons]
    have hn' : 0 ≤ (if (s.ent e.toNat).gn = true then n else n + (s.ent e.toNat).wt) := by split <;> omega
    obtain ⟨h1, h2, h3⟩ := ih _ (fun x hx => h x (List.mem_cons_of_mem _ hx)) hn'
    refine ⟨?_, ?_, fun x hx hg => ?_⟩
    · split at h1 <;> split <;> first | omega | simp_all
    · push_cast
      split at h2 <;> split <;> first | omega | (simp_all; done) | (simp_all; omega)
    · rcases List.mem_cons.1 hx with rfl | hx
      · rw [if_neg (by rw [hg]; decide)] at h1 ⊢
        omega
      · exact h3 x hx hg
theorem giveUp_ok {s : SS} (hw : Wf s) {i : Nat} (hi : i < s.es.length) {sum : Int} (h1 : 1 ≤ sum) (h2 : sum ≤ 64000) : -10128 ≤ (giveUp (ticksF s) (limitF s) sum (s.ent i)).cd ∧ (giveUp (ticksF s) (limitF s) sum (s.ent i)).cd ≤ 10128 ∧ 0 ≤ (giveUp (ticksF s) (limitF s) sum (s.ent i)).pt ∧ (giveUp (ticksF s) (limitF s) sum (s.ent i)).pt ≤ 64000 := by
  have hc := hw.ec i hi
  have hl := limitF_range hw
  have ht := ticksF_range hw.toS
  have hwt := hw.ew i hi
  have hm : 0 ≤ ticksF s * (s.ent i).wt := Int.mul_nonneg (by omega) (by omega)
  have hq : 0 ≤ ((s.ent i).pt + ticksF s * (s.ent i).wt) / sum := Int.ediv_nonneg (by omega) (by omega)
  have r1 := Int.emod_nonneg ((s.ent i).pt + ticksF s * (s.ent i).wt) (show sum ≠ 0 by omega)
  have r2 := Int.emod_lt_of_pos ((s.ent i).pt + ticksF s * (s.ent i).wt) (show 0 < sum by omega)
  unfold giveUp
  simp only
  omega
theorem GK.give {s : SS} (hw : Wf s) {i : Nat} (hi : i < s.es.length) {sum : Int} (h1 : 1 ≤ sum) (h2 : sum ≤ 64000) : GK s (s.modE i (giveUp (ticksF s) (limitF s) sum)) := by
  refine ⟨St.modE s i _ (fun _ => ⟨rfl, rfl, rfl⟩), hw.modE i hi _ (fun _ => ⟨rfl, rfl, rfl⟩) (giveUp_ok hw hi h1 h2), rfl, rfl, rfl, rfl, fun j => ?_⟩
  rw [modE_ent _ hi]
  by_cases e : i = j
  · subst e; rw [if_pos rfl]; exact ⟨rfl, rfl⟩
  · rw [if_neg e]; exact ⟨rfl, rfl⟩
theorem giveFrom_succ {n k : Nat} (hk : k < n) (s : SS) : giveFrom (n - k) k s = giveFrom (n - (k + 1)) (k + 1) (giveH s k) := by
  rw [show n - k = (n - (k + 1)) + 1 by omega]; rfl
theorem modE_modE (s : SS) (i : Nat) (f g : SE → SE) : (s.modE i f).modE i g = s.modE i (fun t => g (f t)) := by
  unfold SS.modE
  congr 1
  apply List.ext_getElem?
  intro j
  simp only [List.getElem?_modify]
  by_cases e : i = j
  · subst e; simp [Function.comp_def]
  · simp [e]
theorem modE_congr {s : SS} {i : Nat} {f g : SE → SE} (hi : i < s.es.length) (h : f (s.ent i) = g (s.ent i)) : s.modE i f = s.modE i g := by
  unfold SS.modE
  rw [modify_set _ _ _ _ (ent_some hi), modify_set _ _ _ _ (ent_some hi), h]
theorem C_mut {W W' : World} {S : Nat → Prop} {l : List Int} {A : Option Addr} {n : Nat} (h : Kd.C (Kd.int .i64) W A n l) (hm : Mut S W W') (hn : ∀ ad, A = some ad → ¬ S ad.block) : Kd.C (Kd.int .i64) W' A n l := by
  refine ⟨h.1, h.2.1, fun hp => ?_⟩
  obtain ⟨ad, e, hc⟩ := h.2.2 hp
  refine ⟨ad, e, fun j p hj => ?_⟩
  obtain ⟨cs, h1, h2, h3⟩ := hc j p hj
  exact ⟨cs, h1, h2, fun i u hi => cell_kept (h3 i u hi) hm.kept (by rw [add_block]; exact hn ad e)⟩
/-- The rest of a hart's entities: each its part. -/
theorem giveGo_gk (sum : Int) (h2 : sum ≤ 64000) : ∀ (l : List Int) (s : SS), Wf s → (∀ e ∈ l, 0 ≤ e ∧ e < s.es.length ∧ ((s.ent e.toNat).gn = false → 1 ≤ sum)) → GK s (giveGo sum l s) := by
  intro l
  induction l with
  | nil => intro s hw _; exact GK.refl hw
  | cons e r ih =>
    intro s hw h
    have he := h e (List.mem_cons_self)
    simp only [giveGo]
    by_cases hg : (s.ent e.toNat).gn = true
    · rw [if_pos hg]
      exact ih s hw (fun x hx => h x (List.mem_cons_of_mem _ hx))
    · rw [if_neg hg]
      have hgk := GK.give hw (i := e.toNat) (by omega) (he.2.2 (by simpa using hg)) h2
      exact hgk.trans (ih _ hgk.wf (fun x hx => by rw [hgk.st.el, (hgk.gn _).1]; exact h x (List.mem_cons_of_mem _ hx)))
theorem plainL_range {s : SS} {h : Int} : ∀ e ∈ plainL s h, 0 ≤ e ∧ e < s.es.length := fun e he => by
  obtain ⟨i, rfl, hi, _⟩ := plainTo_mem he; omega
theorem giveH_gk {s : SS} (hw : Wf s) (h : Int) : GK s (giveH s h) := by
  have hl := plainTo_len s h s.es.length
  have hem := hw.em
  obtain ⟨h1, h2, h3⟩ := sumGo_range s hw (plainL s h) 0 plainL_range (Int.le_refl 0)
  exact giveGo_gk _ (by unfold plainL at h2 ⊢; omega) _ s hw (fun e he => ⟨(plainL_range e he).1, (plainL_range e he).2, fun hg => h3 e he hg⟩)
theorem giveFrom_gk : ∀ (f h : Nat) (s : SS), Wf s → GK s (giveFrom f h s) := by
  intro f
  induction f with
  | zero => intro h s hw; exact GK.refl hw
  | succ f ih => intro h s hw; exact (giveH_gk hw h).trans (ih _ _ (giveH_gk hw h).wf)
theorem giveF_gk {s : SS} (hw : Wf s) : GK s (giveF s) := giveFrom_gk _ _ s hw
end Go.Proofs.Ytdaadmjppikebaa.SC

/- The walk of give. -/
namespace Go.Proofs.Ytdaadmjppikebaa.SC
open Go.RowKit Go.Proofs.YtdaadmjppikebaaW.PrintWords Go.Proofs.YtdaadmjppikebaaW.PrintLast
set_option linter.unusedVariables false
set_option linter.unusedSimpArgs false

theorem WfS.st {s s' : SS} (h : WfS s) (k : St s s') : WfS s' := ⟨by rw [k.P]; exact h.P1, by rw [k.P]; exact h.P2, by rw [k.gs]; exact h.gm, fun i hi => by rw [k.gst]; exact h.gw i (by rw [← k.gs]; exact hi), by rw [k.ticks]; exact h.tk⟩
set_option maxRecDepth 100000 in
set_option maxHeartbeats 4000000 in
theorem give_calls {W : World} {own : Nat → Prop} {L : Lay} {s : SS} (h : SR W own L s) (hw : Wf s) : Calls Try.prog 40 #[.pointer (some ⟨L.b, 0, none⟩)] W fun x w' => x = .returned (.tuple #[]) ∧ SR w' own L (giveF s) ∧ Mut own W w' := by
  have HW := Aside0.mk hw
  have HR := Aside0.mk h
  have c0 := h.fld 0 rfl
  have hH1 := hw.H1
  have hH8 := hw.H8
  clear h hw
  go_enter Try.func40, Try.ntmps40
  go_wp2
  go_loopw [14] (fun v14 w' => ∃ (k : Nat) (sk : SS), v14 = .int .i64 (k : Int) ∧ (k : Int) ≤ s.H ∧ Aside0 (giveFrom (s.H.toNat - k) k sk = giveF s) ∧ Aside0 (GK s sk) ∧ Aside0 (SR w' own L sk) ∧ Aside0 (Mut own W w')) (fun v14 _ => s.H.toNat - (intOf v14).toNat)
  case atStart => exact ⟨0, s, rfl, by omega, ⟨rfl⟩, ⟨GK.refl HW.out⟩, HR, ⟨Mut.refl _ _⟩⟩
  case round =>
    obtain ⟨k, sk, rfl, hk, HF, HGK, HSk, HMk⟩ := hrel
    by_cases hlt : (k : Int) < s.H
    · have HF1 := Aside0.mk ((giveFrom_succ (show k < s.H.toNat by omega) sk).symm.trans HF.out)
      clear c0 HF
      go_wp2_with (go_at_call 37; refine (plain_calls HSk.out HGK.out.wf (k : Int)).mono ?_; rintro e w1 ⟨v, rfl, ho, hb⟩; have hbase := Kd.R_base ho; obtain ⟨A1, q1, rfl, hq1, hC⟩ := Kd.R_reads ho; have HBS := Aside0.mk hbase; have HC1 := Aside0.mk hC; have HB1 := Aside0.mk hb; clear ho hb hC hbase)
      have HRG := Aside0.mk (plainL_range (s := sk) (h := (k : Int)))
      have HLE := Aside0.mk (show (plainL sk (k : Int)).length ≤ 64 from Nat.le_trans (plainTo_len sk k sk.es.length) HGK.out.wf.em)
      have HGI := Aside0.mk (show giveH sk (k : Int) = giveGo (sumGo sk (plainL sk (k : Int)) 0) (plainL sk (k : Int)) sk from rfl)
      have HS1 := Aside0.mk (HSk.out.below HB1.out)
      have HM1 := Aside0.mk (HMk.out.below HB1.out)
      have HNO := Aside0.mk (show ∀ ad, A1 = some ad → ¬ own ad.block from fun ad e ho => by subst e; have h1 := HBS.out ad.block rfl; have h2 := HSk.out.lt _ ho; omega)
      obtain ⟨l, hl⟩ : ∃ l, l = plainL sk (k : Int) := ⟨_, rfl⟩
      rw [← hl] at HRG HLE HGI HC1 hq1 ⊢
      have hll := HLE.out
      clear hl HBS HB1 HSk HMk
      go_loop [4, 22] (fun v4 v22 => ∃ (j : Nat) (n : Int), v22 = .int .i64 (j : Int) ∧ v4 = .int .i64 n ∧ j ≤ l.length ∧ Aside0 (sumGo sk (l.drop j) n = sumGo sk l 0) ∧ Aside0 (0 ≤ n ∧ n ≤ 1000 * (j : Int))) (fun v4 v22 => l.length - (intOf v22).toNat)
      case atStart => exact ⟨0, 0, rfl, rfl, by omega, ⟨rfl⟩, ⟨by omega⟩⟩
      case round =>
        obtain ⟨j, n, rfl, rfl, hj, HT, HN⟩ := hrel
        by_cases hjl : j < l.length
        · obtain ⟨ad, rfl, hcell⟩ := Kd.at_int HC1.out (j : Int) (by omega) (by omega)
          rw [Int.toNat_natCast] at hcell
          have hx := HRG.out _ (rd_mem hjl)
          have HTD := Aside0.mk (show sumGo sk (l.drop (j + 1)) (if (sk.ent (rd l j).toNat).gn = true then n else n + (sk.ent (rd l j).toNat).wt) = sumGo sk l 0 by have := HT.out; rw [drop_int hjl] at this; exact this)
          obtain ⟨i, hi⟩ := Int.eq_ofNat_of_zero_le hx.1
          rw [hi, Int.toNat_natCast] at HTD
          rw [hi] at hcell hx
          have hin : i < sk.es.length := by omega
          have c5 := HS1.out.fld 5 rfl
          have hcap := HS1.out.cap.2.1
          have hem := HGK.out.wf.em
          have hwt := HGK.out.wf.ew i hin
          have hw1 := hwt.1
          have hw2 := hwt.2
          have hn1 := HN.out.1
          have hn2 : n ≤ 64000 := by have := HN.out.2; omega
          have y6 : w1.cell? ⟨L.be, i * 7 + 6, none⟩ = some (.bool (sk.ent i).gn) := HS1.out.ent i 6 hin (by decide) rfl
          have y2 : w1.cell? ⟨L.be, i * 7 + 2, none⟩ = some (.int .i64 (sk.ent i).wt) := HS1.out.ent i 2 hin (by decide) rfl
          clear hi HT hwt
          cases hb : (sk.ent i).gn with
          | true =>
            rw [hb] at HTD y6
            have HTE := Aside0.mk (show sumGo sk (l.drop (j + 1)) n = sumGo sk l 0 by have := HTD.out; simpa using this)
            clear hb HTD
            go_wp2
            go_round
            case rel => exact ⟨j + 1, n, by go_num, rfl, by omega, HTE, ⟨by have := HN.out; push_cast; omega⟩⟩
            case measure => simp [intOf]; omega
          | false =>
            rw [hb] at HTD y6
            have HTE := Aside0.mk (show sumGo sk (l.drop (j + 1)) (n + (sk.ent i).wt) = sumGo sk l 0 by have := HTD.out; simpa using this)
            clear hb HTD
            go_wp2
            go_round
            case rel => exact ⟨j + 1, n + (sk.ent i).wt, by go_num, rfl, by omega, HTE, ⟨by have := HN.out; push_cast; omega⟩⟩
            case measure => simp [intOf]; omega
        · have HE := Aside0.mk (show n = sumGo sk l 0 by have := HT.out; rw [drop_end hjl] at this; exact this)
          have HGO := Aside0.mk (show giveH sk (k : Int) = giveGo n l sk by rw [HE.out]; exact HGI.out)
          have HPO := Aside0.mk (show ∀ e ∈ l, (sk.ent e.toNat).gn = false → 1 ≤ n by rw [HE.out]; exact (sumGo_range sk HGK.out.wf l 0 HRG.out (Int.le_refl 0)).2.2)
          have hn1 := HN.out.1
          have hn2 : n ≤ 64000 := by have := HN.out.2; omega
          clear HT HE HGI
          go_wp2
          go_loopw [48] (fun v48 w' => ∃ (m : Nat) (sj : SS), v48 = .int .i64 (m : Int) ∧ m ≤ l.length ∧ Aside0 (giveGo n (l.drop m) sj = giveH sk (k : Int)) ∧ Aside0 (GK sk sj) ∧ Aside0 (SR w' own L sj) ∧ Aside0 (Mut own w1 w')) (fun v48 _ => l.length - (intOf v48).toNat)
          case atStart => exact ⟨0, sk, rfl, by omega, ⟨HGO.out.symm⟩, ⟨GK.refl HGK.out.wf⟩, HS1, ⟨Mut.refl _ _⟩⟩
          case round =>
            obtain ⟨m, sj, rfl, hm, HT, HGJ, HSj, HMj⟩ := hrel
            clear HS1
            by_cases hml : m < l.length
            · obtain ⟨ad, rfl, hcell⟩ := Kd.at_int (C_mut HC1.out HMj.out HNO.out) (m : Int) (by omega) (by omega)
              rw [Int.toNat_natCast] at hcell
              have hx := HRG.out _ (rd_mem hml)
              have HPX := Aside0.mk (HPO.out _ (rd_mem hml))
              have HTD := Aside0.mk (show giveGo n (l.drop (m + 1)) (if (sj.ent (rd l m).toNat).gn = true then sj else sj.modE (rd l m).toNat (giveUp (ticksF sj) (limitF sj) n)) = giveH sk (k : Int) by have := HT.out; rw [drop_int hml] at this; exact this)
              obtain ⟨i, hi⟩ := Int.eq_ofNat_of_zero_le hx.1
              rw [hi, Int.toNat_natCast] at HTD HPX
              rw [hi] at hcell hx
              have hin : i < sj.es.length := by rw [HGJ.out.st.el]; omega
              have c5 := HSj.out.fld 5 rfl
              have hcap := HSj.out.cap.2.1
              have hem := HGJ.out.wf.em
              have y6 : wr.cell? ⟨L.be, i * 7 + 6, none⟩ = some (.bool (sj.ent i).gn) := HSj.out.ent i 6 hin (by decide) rfl
              have HPY := Aside0.mk (show (sj.ent i).gn = false → 1 ≤ n from fun hg => HPX.out (by rw [← (HGJ.out.gn i).1]; exact hg))
              clear hi HT HPX
              cases hb : (sj.ent i).gn with
              | true =>
                rw [hb] at HTD y6
                have HTE := Aside0.mk (show giveGo n (l.drop (m + 1)) sj = giveH sk (k : Int) by have := HTD.out; simpa using this)
                clear hb HTD HPY
                go_wp2
                go_roundw
                case rel => exact ⟨m + 1, sj, by go_num, by omega, HTE, HGJ, HSj, HMj⟩
                case measure => simp [intOf]; omega
              | false =>
                  rw [hb] at HTD y6
                  have HTE := Aside0.mk (show giveGo n (l.drop (m + 1)) (sj.modE i (giveUp (ticksF sj) (limitF sj) n)) = giveH sk (k : Int) by have := HTD.out; simpa using this)
                  have h1n : 1 ≤ n := HPY.out hb
                  have HGU := Aside0.mk (GK.give HGJ.out.wf hin h1n hn2)
                  have hec := HGJ.out.wf.ec i hin
                  have hew := HGJ.out.wf.ew i hin
                  have htk := ticksF_range HGJ.out.wf.toS
                  have hlm := limitF_range HGJ.out.wf
                  obtain ⟨pt, hpt⟩ : ∃ pt, pt = (sj.ent i).pt := ⟨_, rfl⟩
                  obtain ⟨wt, hwt⟩ : ∃ wt, wt = (sj.ent i).wt := ⟨_, rfl⟩
                  obtain ⟨cd, hcd⟩ : ∃ cd, cd = (sj.ent i).cd := ⟨_, rfl⟩
                  obtain ⟨T, hT⟩ : ∃ T, T = ticksF sj := ⟨_, rfl⟩
                  obtain ⟨lim, hlim⟩ : ∃ lim, lim = limitF sj := ⟨_, rfl⟩
                  obtain ⟨tw, htw⟩ : ∃ tw, tw = T * wt := ⟨_, rfl⟩
                  rw [← hpt, ← hcd] at hec
                  rw [← hwt] at hew
                  rw [← hT] at htk
                  rw [← hlim] at hlm
                  have htw0 : 0 ≤ T * wt := Int.mul_nonneg (by omega) (by omega)
                  have htw1 : T * wt ≤ 10000000 := Int.le_trans (Int.mul_le_mul htk.2 hew.2 (by omega) (by omega)) (by decide)
                  have ze4 : wr.drew.cell? ⟨L.be, i * 7 + 4, none⟩ = some (.int .i64 pt) := by rw [hpt]; exact (HSj.out.below (below_drew (Below.refl _ _))).ent i 4 hin (by decide) rfl
                  have ze2 : wr.drew.cell? ⟨L.be, i * 7 + 2, none⟩ = some (.int .i64 wt) := by rw [hwt]; exact (HSj.out.below (below_drew (Below.refl _ _))).ent i 2 hin (by decide) rfl
                  have HT := Aside0.mk hT.symm
                  have HTT := Aside0.mk hT.symm
                  have HWT := Aside0.mk hwt
                  have HPT := Aside0.mk hpt
                  have HCD := Aside0.mk hcd
                  have HLI := Aside0.mk hlim
                  have hc1 := hec.1
                  have hc2 := hec.2.1
                  have hc3 := hec.2.2.1
                  have hc4 := hec.2.2.2
                  have ht1 := htk.1
                  have ht2 := htk.2
                  have hw1 := hew.1
                  have hw2 := hew.2
                  have hl1 := hlm.1
                  have hl2 := hlm.2
                  clear hb HTD HPY hec hew htk hlm hT hwt hpt hcd hlim htw
                  go_upto_region 16 with (fail)
                  have em : IntKind.i64.wrap (T * wt) = T * wt := IntWalk.i64_in _ (by omega)
                  have ea : IntKind.i64.wrap (pt + T * wt) = pt + T * wt := IntWalk.i64_in _ (by omega)
                  clear hcell
                  refine start_ (n := 15) (S := fun w' => w'.cell? ⟨L.be, i * 7 + 4, none⟩ = some (.int .i64 pt) ∧ w'.cell? ⟨L.be, i * 7 + 2, none⟩ = some (.int .i64 wt)) (ds := [14]) (bl 15 0) (by kernel_rfl) rfl rfl ⟨ze4, ze2⟩ (fun hHeld => ?_)
                  refine pure_ (i := 0) (N := some 62) (v := ?_) (a' := ?_) (bl 15 1) rfl rfl (by kernel_rfl) (fun _ _ _ h => h) (Or.inl ⟨by rfl, ?_⟩) ?_ ?_
                  rotate_left
                  · intro w'
                    go_simp
                    with_reducible rfl
                  rotate_left
                  · simp only [Act.put, lsa, lsz, lsc, i64_w, i32_w]
                    rfl
                  refine pure_ (i := 1) (N := some 63) (v := ?_) (a' := ?_) (bl 15 3) rfl rfl (by kernel_rfl) (fun _ _ _ h => h) (Or.inl ⟨by rfl, ?_⟩) ?_ ?_
                  rotate_left
                  · intro w'
                    go_simp
                    with_reducible rfl
                  rotate_left
                  · simp only [Act.put, lsa, lsz, lsc, i64_w, i32_w]
                    rfl
                  refine pure_ (i := 2) (N := some 64) (v := ?_) (a' := ?_) (bl 15 7) rfl rfl (by kernel_rfl) (fun _ _ _ h => h) (Or.inl ⟨by rfl, ?_⟩) ?_ ?_
                  rotate_left
                  · intro w'
                    go_simp
                    with_reducible rfl
                  rotate_left
                  · simp only [Act.put, lsa, lsz, lsc, i64_w, i32_w]
                    rfl
                  refine pure_ (i := 4) (N := some 66) (v := ?_) (a' := ?_) (bl 15 23) rfl rfl (by kernel_rfl) (fun _ _ _ h => h) (Or.inl ⟨by rfl, ?_⟩) ?_ ?_
                  rotate_left
                  · intro w'
                    go_simp
                    with_reducible rfl
                  rotate_left
                  · simp only [Act.put, lsa, lsz, lsc, i64_w, i32_w]
                    rfl
                  refine pure_ (i := 6) (N := some 68) (v := ?_) (a' := ?_) (bl 15 87) rfl rfl (by kernel_rfl) (fun _ _ _ h => h) (Or.inl ⟨by rfl, ?_⟩) ?_ ?_
                  rotate_left
                  · intro w'
                    go_simp
                    with_reducible rfl
                  rotate_left
                  · simp only [Act.put, lsa, lsz, lsc, i64_w, i32_w]
                    rfl
                  refine pure_ (i := 7) (N := some 69) (v := ?_) (a' := ?_) (bl 15 215) rfl rfl (by kernel_rfl) (fun _ _ _ h => h) (Or.inl ⟨by rfl, ?_⟩) ?_ ?_
                  rotate_left
                  · intro w'
                    go_simp
                    with_reducible rfl
                  rotate_left
                  · simp only [Act.put, lsa, lsz, lsc, i64_w, i32_w]
                    rfl
                  refine pure_ (i := 8) (N := some 70) (v := ?_) (a' := ?_) (bl 15 471) rfl rfl (by kernel_rfl) (fun _ _ _ h => h) (Or.inl ⟨by rfl, ?_⟩) ?_ ?_
                  rotate_left
                  · intro w'
                    go_simp
                    with_reducible rfl
                  rotate_left
                  · simp only [Act.put, lsa, lsz, lsc, i64_w, i32_w]
                    rfl
                  refine take_ (i := 3) (N := some 65) (v := ?_) (a' := ?_) (bl 15 479) rfl rfl (by kernel_rfl) (fun _ _ _ h => h) (Or.inl ⟨by rfl, ?_⟩) hHeld ?_ ?_
                  rotate_left
                  · rintro w' ⟨s0, s1⟩
                    go_simp
                    with_reducible rfl
                  rotate_left
                  · simp only [Act.put, lsa, lsz, lsc, i64_w, i32_w]
                    rfl
                  refine take_ (i := 9) (N := some 71) (v := ?_) (a' := ?_) (bl 15 991) rfl rfl (by kernel_rfl) (fun _ _ _ h => h) (Or.inl ⟨by rfl, ?_⟩) hHeld ?_ ?_
                  rotate_left
                  · rintro w' ⟨s0, s1⟩
                    go_simp
                    with_reducible rfl
                  rotate_left
                  · simp only [Act.put, lsa, lsz, lsc, i64_w, i32_w]
                    rfl
                  refine one_ (i := 5) (N := some 67) (bl 15 1023) rfl rfl (by kernel_rfl) (by decide) (fun K hK => ?_)
                  refine goes_ Try.func61 (by kernel_rfl) rfl #[.pointer (some ⟨L.b, 0, none⟩)] (by rfl) rfl rfl (by simp only [List.map_toArray, List.map_cons, List.map_nil]; rfl) ?_
                  refine (ticks_calls (HSj.out.below (below_drew (Below.refl _ _))) HGJ.out.wf.toS).mono ?_
                  rintro e w5 ⟨rfl, hb5⟩
                  refine ⟨_, rfl, ?_⟩
                  have HB5 := Aside0.mk (below_then (below_drew (Below.refl _ _)) (Nat.le_refl _) hb5)
                  have z4 : w5.cell? ⟨L.be, i * 7 + 4, none⟩ = some (.int .i64 pt) := pw_cell_below hb5 ze4
                  have z2 : w5.cell? ⟨L.be, i * 7 + 2, none⟩ = some (.int .i64 wt) := pw_cell_below hb5 ze2
                  have zf : w5.frozen? ⟨L.be, i * 7 + 4, none⟩ = false := (HSj.out.below HB5.out).E.frozen _
                  rw [HT.out]
                  clear hb5
                  refine hK.out _ _ ⟨z4, z2⟩ (fun hHeld => ?_)
                  clear hK K
                  refine norm_ (a' := ?_) ?_ ?_
                  rotate_left
                  · show Act.put _ (some 67) _ = _
                    simp only [Act.put, lsa, lsz, lsc, i64_w, i32_w]
                    rfl
                  refine pure_ (i := 10) (N := some 72) (v := ?_) (a' := ?_) (bl 15 2047) rfl rfl (by kernel_rfl) (fun _ _ _ h => h) (Or.inl ⟨by rfl, ?_⟩) ?_ ?_
                  rotate_left
                  · intro w'
                    go_simp
                    with_reducible rfl
                  rotate_left
                  · simp only [Act.put, lsa, lsz, lsc, i64_w, i32_w]
                    rfl
                  refine pure_ (i := 11) (N := some 73) (v := ?_) (a' := ?_) (bl 15 4095) rfl rfl (by kernel_rfl) (fun _ _ _ h => h) (Or.inl ⟨by rfl, ?_⟩) ?_ ?_
                  rotate_left
                  · intro w'
                    go_simp
                    with_reducible rfl
                  rotate_left
                  · simp only [Act.put, lsa, lsz, lsc, i64_w, i32_w]
                    rfl
                  refine pure_ (i := 12) (N := some 74) (v := ?_) (a' := ?_) (bl 15 8191) rfl rfl (by kernel_rfl) (fun _ _ _ h => h) (Or.inl ⟨by rfl, ?_⟩) ?_ ?_
                  rotate_left
                  · intro w'
                    go_simp
                    with_reducible rfl
                  rotate_left
                  · simp only [Act.put, lsa, lsz, lsc, i64_w, i32_w]
                    rfl
                  refine pure_ (i := 13) (N := some 75) (v := ?_) (a' := ?_) (bl 15 16383) rfl rfl (by kernel_rfl) (fun _ _ _ h => h) (Or.inl ⟨by rfl, ?_⟩) ?_ ?_
                  rotate_left
                  · intro w'
                    go_simp
                    with_reducible rfl
                  rotate_left
                  · simp only [Act.put, lsa, lsz, lsc, i64_w, i32_w]
                    rfl
                  refine last_ (i := 14) (N := none) (bl 15 32767) rfl rfl (by kernel_rfl) (by decide) (fun K hK => ?_)
                  refine skip_ (w1 := ?_) (by rfl) rfl ?_ ?_
                  rotate_left
                  · go_simp
                    rfl
                  refine hK.out _ _ ?_
                  clear hK K
                  refine done_ (by kernel_rfl) ?_
                  obtain ⟨p1, hp1⟩ : ∃ p1, p1 = pt + T * wt := ⟨_, rfl⟩
                  rw [← hp1]
                  have hp10 : 0 ≤ p1 := by omega
                  have hp11 : p1 ≤ 10064000 := by omega
                  have HP1 := Aside0.mk hp1
                  have hs6 := (HSj.out.below HB5.out).putE i 4 hin (by decide) (.int .i64 p1) (fun x => { x with pt := p1 }) rfl ⟨rfl, rfl⟩
                  obtain ⟨w6, hw6⟩ : ∃ w6, w6 = w5.setCell ⟨L.be, i * 7 + 4, none⟩ (.int .i64 p1) := ⟨_, rfl⟩
                  have HM6 := Aside0.mk (show Mut own w1 w6 by rw [hw6]; exact (HMj.out.below HB5.out).setCell (.inl HSj.out.ob.2.2.1) _)
                  rw [← hw6] at hs6 ⊢
                  have HS6 := Aside0.mk hs6
                  have HW6 := Aside0.mk (HGJ.out.wf.toS.st (St.modE sj i (fun x => { x with pt := p1 }) (fun _ => ⟨rfl, rfl, rfl⟩)))
                  have HLM := Aside0.mk (show limitF (sj.modE i fun x => { x with pt := p1 }) = lim by rw [(St.modE sj i (fun x => { x with pt := p1 }) (fun _ => ⟨rfl, rfl, rfl⟩)).limit, HLI.out])
                  have hi6 : i < (sj.modE i fun x => { x with pt := p1 }).es.length := by rw [modE_len]; exact hin
                  have he6 : (sj.modE i fun x => { x with pt := p1 }).ent i = { sj.ent i with pt := p1 } := by rw [modE_ent _ hin, if_pos rfl]
                  have zg3 : w6.drew.cell? ⟨L.be, i * 7 + 3, none⟩ = some (.int .i64 cd) := (HS6.out.below (below_drew (Below.refl _ _))).ent i 3 hi6 (by decide) (by rw [he6, HCD.out]; rfl)
                  have zg4 : w6.drew.cell? ⟨L.be, i * 7 + 4, none⟩ = some (.int .i64 p1) := (HS6.out.below (below_drew (Below.refl _ _))).ent i 4 hi6 (by decide) (by rw [he6]; rfl)
                  clear hw6 hs6 hp1 em ea htw0 htw1 ze4 ze2 z4 z2 zf he6 HT y6 c5
                  go_upto_region 17 with (fail)
                  have hnz : ¬ n = 0 := by omega
                  have hq0 : 0 ≤ p1 / n := Int.ediv_nonneg hp10 (by omega)
                  have hq1 : p1 / n ≤ 10064000 := Int.le_trans (Int.ediv_le_self n hp10) hp11
                  have eq : IntKind.i64.wrap (p1.tdiv n) = p1 / n := IntWalk.i64_quo _ _ (by omega)
                  have ea : IntKind.i64.wrap (cd + p1 / n) = cd + p1 / n := IntWalk.i64_in _ (by omega)
                  refine start_ (n := 18) (S := fun w' => w'.cell? ⟨L.be, i * 7 + 3, none⟩ = some (.int .i64 cd) ∧ w'.cell? ⟨L.be, i * 7 + 4, none⟩ = some (.int .i64 p1)) (ds := [17]) (bl 18 0) (by kernel_rfl) rfl rfl ⟨zg3, zg4⟩ (fun hHeld => ?_)
                  refine pure_ (i := 0) (N := some 76) (v := ?_) (a' := ?_) (bl 18 1) rfl rfl (by kernel_rfl) (fun _ _ _ h => h) (Or.inl ⟨by rfl, ?_⟩) ?_ ?_
                  rotate_left
                  · intro w'
                    go_simp
                    with_reducible rfl
                  rotate_left
                  · simp only [Act.put, lsa, lsz, lsc, i64_w, i32_w]
                    rfl
                  refine pure_ (i := 1) (N := some 77) (v := ?_) (a' := ?_) (bl 18 3) rfl rfl (by kernel_rfl) (fun _ _ _ h => h) (Or.inl ⟨by rfl, ?_⟩) ?_ ?_
                  rotate_left
                  · intro w'
                    go_simp
                    with_reducible rfl
                  rotate_left
                  · simp only [Act.put, lsa, lsz, lsc, i64_w, i32_w]
                    rfl
                  refine pure_ (i := 2) (N := some 78) (v := ?_) (a' := ?_) (bl 18 7) rfl rfl (by kernel_rfl) (fun _ _ _ h => h) (Or.inl ⟨by rfl, ?_⟩) ?_ ?_
                  rotate_left
                  · intro w'
                    go_simp
                    with_reducible rfl
                  rotate_left
                  · simp only [Act.put, lsa, lsz, lsc, i64_w, i32_w]
                    rfl
                  refine pure_ (i := 3) (N := some 79) (v := ?_) (a' := ?_) (bl 18 15) rfl rfl (by kernel_rfl) (fun _ _ _ h => h) (Or.inl ⟨by rfl, ?_⟩) ?_ ?_
                  rotate_left
                  · intro w'
                    go_simp
                    with_reducible rfl
                  rotate_left
                  · simp only [Act.put, lsa, lsz, lsc, i64_w, i32_w]
                    rfl
                  refine pure_ (i := 5) (N := some 81) (v := ?_) (a' := ?_) (bl 18 47) rfl rfl (by kernel_rfl) (fun _ _ _ h => h) (Or.inl ⟨by rfl, ?_⟩) ?_ ?_
                  rotate_left
                  · intro w'
                    go_simp
                    with_reducible rfl
                  rotate_left
                  · simp only [Act.put, lsa, lsz, lsc, i64_w, i32_w]
                    rfl
                  refine pure_ (i := 6) (N := some 82) (v := ?_) (a' := ?_) (bl 18 111) rfl rfl (by kernel_rfl) (fun _ _ _ h => h) (Or.inl ⟨by rfl, ?_⟩) ?_ ?_
                  rotate_left
                  · intro w'
                    go_simp
                    with_reducible rfl
                  rotate_left
                  · simp only [Act.put, lsa, lsz, lsc, i64_w, i32_w]
                    rfl
                  refine pure_ (i := 7) (N := some 83) (v := ?_) (a' := ?_) (bl 18 239) rfl rfl (by kernel_rfl) (fun _ _ _ h => h) (Or.inl ⟨by rfl, ?_⟩) ?_ ?_
                  rotate_left
                  · intro w'
                    go_simp
                    with_reducible rfl
                  rotate_left
                  · simp only [Act.put, lsa, lsz, lsc, i64_w, i32_w]
                    rfl
                  refine pure_ (i := 9) (N := some 85) (v := ?_) (a' := ?_) (bl 18 751) rfl rfl (by kernel_rfl) (fun _ _ _ h => h) (Or.inl ⟨by rfl, ?_⟩) ?_ ?_
                  rotate_left
                  · intro w'
                    go_simp
                    with_reducible rfl
                  rotate_left
                  · simp only [Act.put, lsa, lsz, lsc, i64_w, i32_w]
                    rfl
                  refine pure_ (i := 12) (N := some 88) (v := ?_) (a' := ?_) (bl 18 4847) rfl rfl (by kernel_rfl) (fun _ _ _ h => h) (Or.inl ⟨by rfl, ?_⟩) ?_ ?_
                  rotate_left
                  · intro w'
                    go_simp
                    with_reducible rfl
                  rotate_left
                  · simp only [Act.put, lsa, lsz, lsc, i64_w, i32_w]
                    rfl
                  refine take_ (i := 4) (N := some 80) (v := ?_) (a' := ?_) (bl 18 4863) rfl rfl (by kernel_rfl) (fun _ _ _ h => h) (Or.inl ⟨by rfl, ?_⟩) hHeld ?_ ?_
                  rotate_left
                  · rintro w' ⟨s0, s1⟩
                    go_simp
                    with_reducible rfl
                  rotate_left
                  · simp only [Act.put, lsa, lsz, lsc, i64_w, i32_w]
                    rfl
                  refine take_ (i := 8) (N := some 84) (v := ?_) (a' := ?_) (bl 18 5119) rfl rfl (by kernel_rfl) (fun _ _ _ h => h) (Or.inl ⟨by rfl, ?_⟩) hHeld ?_ ?_
                  rotate_left
                  · rintro w' ⟨s0, s1⟩
                    go_simp
                    with_reducible rfl
                  rotate_left
                  · simp only [Act.put, lsa, lsz, lsc, i64_w, i32_w]
                    rfl
                  refine pure_ (i := 10) (N := some 86) (v := ?_) (a' := ?_) (bl 18 6143) rfl rfl (by kernel_rfl) (fun _ _ _ h => h) (Or.inl ⟨by rfl, ?_⟩) ?_ ?_
                  rotate_left
                  · intro w'
                    go_simp
                    with_reducible rfl
                  rotate_left
                  · simp only [Act.put, lsa, lsz, lsc, i64_w, i32_w]
                    rfl
                  refine pure_ (i := 11) (N := some 87) (v := ?_) (a' := ?_) (bl 18 8191) rfl rfl (by kernel_rfl) (fun _ _ _ h => h) (Or.inl ⟨by rfl, ?_⟩) ?_ ?_
                  rotate_left
                  · intro w'
                    go_simp
                    with_reducible rfl
                  rotate_left
                  · simp only [Act.put, lsa, lsz, lsc, i64_w, i32_w]
                    rfl
                  refine one_ (i := 13) (N := some 89) (bl 18 16383) rfl rfl (by kernel_rfl) (by decide) (fun K hK => ?_)
                  refine goes_ Try.func45 (by kernel_rfl) rfl #[.pointer (some ⟨L.b, 0, none⟩)] (by rfl) rfl rfl (by simp only [List.map_toArray, List.map_cons, List.map_nil]; rfl) ?_
                  refine (limit_calls (HS6.out.below (below_drew (Below.refl _ _))) HW6.out).mono ?_
                  rintro e w7 ⟨rfl, hb7⟩
                  refine ⟨_, rfl, ?_⟩
                  have HB7 := Aside0.mk (below_then (below_drew (Below.refl _ _)) (Nat.le_refl _) hb7)
                  have z3 : w7.cell? ⟨L.be, i * 7 + 3, none⟩ = some (.int .i64 cd) := pw_cell_below hb7 zg3
                  have z4 : w7.cell? ⟨L.be, i * 7 + 4, none⟩ = some (.int .i64 p1) := pw_cell_below hb7 zg4
                  have zf : w7.frozen? ⟨L.be, i * 7 + 3, none⟩ = false := (HS6.out.below HB7.out).E.frozen _
                  rw [HLM.out]
                  clear hb7
                  refine hK.out _ _ ⟨z3, z4⟩ (fun hHeld => ?_)
                  clear hK K
                  refine norm_ (a' := ?_) ?_ ?_
                  rotate_left
                  · show Act.put _ (some 89) _ = _
                    simp only [Act.put, lsa, lsz, lsc, i64_w, i32_w]
                    rfl
                  refine pure_ (i := 14) (N := some 90) (v := ?_) (a' := ?_) (bl 18 32767) rfl rfl (by kernel_rfl) (fun _ _ _ h => h) (Or.inl ⟨by rfl, ?_⟩) ?_ ?_
                  rotate_left
                  · intro w'
                    go_simp
                    with_reducible rfl
                  rotate_left
                  · simp only [Act.put, lsa, lsz, lsc, i64_w, i32_w]
                    rfl
                  refine pure_ (i := 15) (N := some 91) (v := ?_) (a' := ?_) (bl 18 65535) rfl rfl (by kernel_rfl) (fun _ _ _ h => h) (Or.inl ⟨by rfl, ?_⟩) ?_ ?_
                  rotate_left
                  · intro w'
                    go_simp
                    with_reducible rfl
                  rotate_left
                  · simp only [Act.put, lsa, lsz, lsc, i64_w, i32_w]
                    rfl
                  refine pure_ (i := 16) (N := some 92) (v := ?_) (a' := ?_) (bl 18 131071) rfl rfl (by kernel_rfl) (fun _ _ _ h => h) (Or.inl ⟨by rfl, ?_⟩) ?_ ?_
                  rotate_left
                  · intro w'
                    go_simp
                    with_reducible rfl
                  rotate_left
                  · simp only [Act.put, lsa, lsz, lsc, i64_w, i32_w]
                    rfl
                  refine last_ (i := 17) (N := none) (bl 18 262143) rfl rfl (by kernel_rfl) (by decide) (fun K hK => ?_)
                  refine skip_ (w1 := ?_) (by rfl) rfl ?_ ?_
                  rotate_left
                  · go_simp
                    rfl
                  refine hK.out _ _ ?_
                  clear hK K
                  refine done_ (by kernel_rfl) ?_
                  obtain ⟨c1, hc1e⟩ : ∃ c1, c1 = (if lim < cd + p1 / n then lim else cd + p1 / n) := ⟨_, rfl⟩
                  rw [← hc1e]
                  have HMN := Aside0.mk (show c1 = min (cd + p1 / n) lim by rw [hc1e]; split <;> omega)
                  have hs8 := (HS6.out.below (HB7.out.mono (Nat.le_refl _))).putE i 3 hi6 (by decide) (.int .i64 c1) (fun x => { x with cd := c1 }) rfl ⟨rfl, rfl⟩
                  obtain ⟨w8, hw8⟩ : ∃ w8, w8 = w7.setCell ⟨L.be, i * 7 + 3, none⟩ (.int .i64 c1) := ⟨_, rfl⟩
                  have HM8 := Aside0.mk (show Mut own w1 w8 by rw [hw8]; exact (HM6.out.below HB7.out).setCell (.inl HSj.out.ob.2.2.1) _)
                  rw [← hw8] at hs8 ⊢
                  have hi8 : i < ((sj.modE i fun x => { x with pt := p1 }).modE i fun x => { x with cd := c1 }).es.length := by rw [modE_len, modE_len]; exact hin
                  have he8 : ((sj.modE i fun x => { x with pt := p1 }).modE i fun x => { x with cd := c1 }).ent i = { sj.ent i with pt := p1, cd := c1 } := by rw [modE_ent _ hi6, if_pos rfl, modE_ent _ hin, if_pos rfl]
                  have g4 : w8.cell? ⟨L.be, i * 7 + 4, none⟩ = some (.int .i64 p1) := hs8.ent i 4 hi8 (by decide) (by rw [he8]; rfl)
                  have gf : w8.frozen? ⟨L.be, i * 7 + 4, none⟩ = false := hs8.E.frozen _
                  have hs9 := hs8.putE i 4 hi8 (by decide) (.int .i64 (p1 % n)) (fun x => { x with pt := p1 % n }) rfl ⟨rfl, rfl⟩
                  rw [modE_modE, modE_modE, modE_congr hin (g := giveUp (ticksF sj) (limitF sj) n) (by
                    unfold giveUp
                    rw [← HPT.out, ← HCD.out, ← HWT.out, ← HLI.out, HTT.out, ← HP1.out, HMN.out])] at hs9
                  have HS9 := Aside0.mk hs9
                  clear hw8 hs8 hs9 hc1e he8 hi8 zg3 zg4 z3 z4 zf HS6 HM6 HW6 HLM hq0 hq1 eq ea
                  go_wp2
                  go_roundw
                  case rel => exact ⟨m + 1, sj.modE i (giveUp (ticksF sj) (limitF sj) n), by go_num, by omega, HTE, ⟨HGJ.out.trans HGU.out⟩, HS9, ⟨HM8.out.setCell (.inl HSj.out.ob.2.2.1) _⟩⟩
                  case measure => simp [intOf]; omega
            · have HE := Aside0.mk (show sj = giveH sk (k : Int) by have := HT.out; rw [drop_end hml] at this; exact this)
              have HF2 := Aside0.mk (show giveFrom (s.H.toNat - (k + 1)) (k + 1) sj = giveF s by rw [HE.out]; exact HF1.out)
              clear HT
              go_wp2
              go_roundw
              case rel => exact ⟨k + 1, sj, by go_num, by omega, HF2, ⟨HGK.out.trans HGJ.out⟩, HSj, ⟨HM1.out.trans HMj.out (fun _ h => .inl h)⟩⟩
              case measure => simp [intOf]; omega
    · have HE := Aside0.mk (show sk = giveF s by have := HF.out; rw [show s.H.toNat - k = 0 by omega] at this; exact this)
      clear HF
      go_wp2
      go_end0
      exact ⟨rfl, by rw [← HE.out]; exact HSk.out, HMk.out⟩
end Go.Proofs.Ytdaadmjppikebaa.SC

/- Pick. -/
namespace Go.Proofs.Ytdaadmjppikebaa.SC
open Go.RowKit Go.Proofs.YtdaadmjppikebaaW.PrintWords
set_option linter.unusedVariables false
set_option linter.unusedSimpArgs false

theorem byCredit_calls {W : World} {own : Nat → Prop} {L : Lay} {s : SS} {rd : List Bool} {A : Option Addr} {c : Nat} (h : SR W own L s) (hw : Wf s) (hr : RD W rd A c) (hno : ∀ ad, A = some ad → ¬ own ad.block) (i : Nat) (hi : i < s.ts.length) :
    Calls Try.prog 39 #[.pointer (some ⟨L.b, 0, none⟩), .int .i64 (i : Int), .slice A rd.length c] W fun x w' => x = .returned (.int .i64 (byCreditF s i rd).1) ∧ Post W own L (byCreditF s i rd).2 w' := by
  cases hsm : (s.trn i).q.any (richF s rd) with
  | true =>
    by_cases hcu : (s.trn i).cu < 0
    · exact byCredit_none_true h hw hr hno i hi hcu hsm
    · cases h1 : readyF s rd (s.trn i).cu with
      | false => exact byCredit_off_a_true h hw hr hno i hi (by omega) h1 hsm
      | true =>
        cases h2 : decide ((s.trn i).us < s.S) with
        | false => exact byCredit_off_b_true h hw hr hno i hi (by omega) h1 h2 hsm
        | true =>
          cases h3 : richF s rd (s.trn i).cu with
          | true => exact byCredit_on_c_true h hw hr hno i hi (by omega) h1 h2 h3 hsm
          | false => exact byCredit_off_d_true h hw hr hno i hi (by omega) h1 h2 h3 hsm
  | false =>
    by_cases hcu : (s.trn i).cu < 0
    · exact byCredit_none_false h hw hr hno i hi hcu hsm
    · cases h1 : readyF s rd (s.trn i).cu with
      | false => exact byCredit_off_a_false h hw hr hno i hi (by omega) h1 hsm
      | true =>
        cases h2 : decide ((s.trn i).us < s.S) with
        | false => exact byCredit_off_b_false h hw hr hno i hi (by omega) h1 h2 hsm
        | true =>
          cases h3 : richF s rd (s.trn i).cu with
          | true => exact byCredit_on_c_false h hw hr hno i hi (by omega) h1 h2 h3 hsm
          | false => exact byCredit_on_d_false h hw hr hno i hi (by omega) h1 h2 h3 hsm
theorem Post.before {W w1 w' : World} {own : Nat → Prop} {L : Lay} {s' : SS} (hb : Below W.heap.size W w1) (h : Post w1 own L s' w') : Post W own L s' w' := by
  obtain ⟨o, q, h1, h2, h3, h4⟩ := h
  exact ⟨o, q, h1, (Mut.of_below hb own).trans h2 (fun _ h => .inl h), h3, fun k hk => (h4 k hk).elim .inl (fun h => .inr (Nat.le_trans hb.size h))⟩
set_option maxRecDepth 100000 in
set_option maxHeartbeats 800000 in
theorem pick_calls {W : World} {own : Nat → Prop} {L : Lay} {s : SS} {rd : List Bool} {A : Option Addr} {c : Nat} (h : SR W own L s) (hpv : L.pv = pickV L s) (hw : Wf s) (hr : RD W rd A c) (hno : ∀ ad, A = some ad → ¬ own ad.block) (hart : Int) :
    Calls Try.prog 17 #[.pointer (some ⟨L.b, 0, none⟩), .int .i64 hart, .slice A rd.length c] W fun x w' => x = .returned (.int .i64 (pickF s hart rd).1) ∧ Post W own L (pickF s hart rd).2 w' := by
  have HR := Aside0.mk h
  have HW := Aside0.mk hw
  have HD := Aside0.mk hr
  have HN := Aside0.mk hno
  have HI := Aside0.mk (within_calls hart 0 (s.H - 1) W)
  have HG := Aside0.mk (gang_calls h hw)
  have c0 := h.fld 0 rfl
  have hH1 := hw.H1
  have hH8 := hw.H8
  have htn := hw.tn
  clear h hw hr hno
  cases hb : withinB hart 0 (s.H - 1) with
  | false =>
    rw [hb] at HI
    have HF := Aside0.mk (show pickF s hart rd = (-1, s) by unfold pickF; rw [if_pos (by simp [withinB] at hb; by_cases h0 : 0 ≤ hart; exact .inr (by have := hb h0; omega); exact .inl (by omega))])
    clear hb
    go_enter Try.func17, Try.ntmps17
    go_wp2_with (go_at_call 41; refine HI.out.mono ?_; rintro e w' ⟨rfl, rfl⟩)
    go_ret
    refine ⟨ret_int (by rw [HF.out]), ?_⟩
    rw [HF.out]
    exact Post.same HR.out (Below.refl _ _)
  | true =>
    rw [hb] at HI
    have hin : 0 ≤ hart ∧ hart ≤ s.H - 1 := by simpa [withinB] using hb
    have hnin : ¬ (hart < 0 ∨ s.H ≤ hart) := by omega
    clear hb
    by_cases hg : 0 ≤ gangF s
    · have d1 : decide (0 ≤ gangF s) = true := decide_eq_true hg
      have HF := Aside0.mk (show pickF s hart rd = (ofGangF s (gangF s) hart rd, s) by unfold pickF; rw [if_neg hnin, if_pos hg])
      clear hg hnin hin
      go_enter Try.func17, Try.ntmps17
      go_wp2_with (first | (go_at_call 41; refine HI.out.mono ?_; rintro e w' ⟨rfl, rfl⟩) | (go_at_call 21; refine HG.out.mono ?_; rintro e w1 ⟨rfl, hb⟩; have HB := Aside0.mk hb; clear hb) | (go_at_call 42; refine (ofGang_calls (HR.out.below HB.out) HW.out (HD.out.below HB.out) (gangF s) hart).mono ?_; rintro e w2 ⟨rfl, hb⟩; have HB2 := Aside0.mk (HB.out.trans (hb.mono HB.out.size)); clear hb))
      go_ret
      refine ⟨ret_int (by rw [HF.out]), ?_⟩
      rw [HF.out]
      exact Post.same HR.out HB2.out
    · have d1 : decide (0 ≤ gangF s) = false := decide_eq_false hg
      cases hc : s.cr with
      | true =>
        obtain ⟨i, rfl⟩ := Int.eq_ofNat_of_zero_le hin.1
        have hi : i < s.ts.length := by omega
        have HF := Aside0.mk (show pickF s (i : Int) rd = byCreditF s i rd by unfold pickF; rw [if_neg hnin, if_neg hg, if_pos hc]; rfl)
        have HC := Aside0.mk (show (schC L s)[10]? = some (.func (.func 39) #[.pointer (some ⟨L.b, 0, none⟩)] #[]) by show some L.pv = _; rw [hpv]; unfold pickV; rw [hc]; rfl)
        clear hg hnin hin hc
        go_enter Try.func17, Try.ntmps17
        go_wp2_with (first | (go_at_call 41; refine HI.out.mono ?_; rintro e w' ⟨rfl, rfl⟩) | (go_at_call 21; refine HG.out.mono ?_; rintro e w1 ⟨rfl, hb⟩; have HB := Aside0.mk hb; have c10 := (HR.out.below hb).fld 10 HC.out; clear hb) | (go_at_call 39; refine (byCredit_calls (HR.out.below HB.out) HW.out (HD.out.below HB.out) HN.out i hi).mono ?_; rintro e w2 ⟨rfl, hp⟩; have HP := Aside0.mk hp; clear hp))
        go_ret
        rw [HF.out]
        exact ⟨rfl, Post.before HB.out HP.out⟩
      | false =>
        have HF := Aside0.mk (show pickF s hart rd = (byTurnF s hart rd, s) by unfold pickF; rw [if_neg hnin, if_neg hg, if_neg (by rw [hc]; decide)])
        have HC := Aside0.mk (show (schC L s)[10]? = some (.func (.func 38) #[.pointer (some ⟨L.b, 0, none⟩)] #[]) by show some L.pv = _; rw [hpv]; unfold pickV; rw [hc]; rfl)
        clear hg hnin hin hc
        go_enter Try.func17, Try.ntmps17
        go_wp2_with (first | (go_at_call 41; refine HI.out.mono ?_; rintro e w' ⟨rfl, rfl⟩) | (go_at_call 21; refine HG.out.mono ?_; rintro e w1 ⟨rfl, hb⟩; have HB := Aside0.mk hb; have c10 := (HR.out.below hb).fld 10 HC.out; clear hb) | (go_at_call 38; refine (byTurn_calls (HR.out.below HB.out) HW.out (HD.out.below HB.out) hart).mono ?_; rintro e w2 ⟨rfl, hb⟩; have HB2 := Aside0.mk (HB.out.trans (hb.mono HB.out.size)); clear hb))
        go_ret
        refine ⟨ret_int (by rw [HF.out]), ?_⟩
        rw [HF.out]
        exact Post.same HR.out HB2.out
theorem add_calls {W : World} {a : Addr} {n : Int} (h : W.cell? a = some (.int .u64 n)) (hf : W.frozen? a = false) (h0 : 0 ≤ n) (h1 : n ≤ 4611686018427387904) : Calls Try.prog 43 #[.pointer (some a), .int .u64 1] W fun e w' => e = .returned (.int .u64 (n + 1)) ∧ w' = W.setCell a (.int .u64 (n + 1)) := by
  have hl := run_call_add (P := Try.prog) Try.func62 (by kernel_rfl) (by kernel_rfl) (by kernel_rfl) .u64 (by kernel_rfl) (y := 1) (s := n + 1) h hf (by have hu : IntKind.u64.wrap (n + 1) = n + 1 := IntWalk.u64_in _ ⟨by omega, by omega⟩; simp [go_sem, hu])
  go_enter Try.func43, Try.ntmps43
  go_wp2
  go_ret
  exact ⟨rfl, rfl⟩
end Go.Proofs.Ytdaadmjppikebaa.SC
