/- Parts of the walk of package sched, merged. -/
/- SchedTurns, plain: what is picked where there are no gangs and no credit. -/
import Derived.Test.YtdaadmjppikebaaK9
import Derived.Test.YtdaadmjppikebaaK11
namespace Go.Proofs.Ytdaadmjppikebaa.SC
open Go.RowKit
open Go.Proofs.Ytdaadmjppikebaa.PV (S94 k94 S29 k29 rd_T94 rd_T29)
set_option linter.unusedVariables false
set_option linter.unusedSimpArgs false

theorem modE_gn (s : SS) (i : Nat) (f : SE → SE) (hf : ∀ x, (f x).gn = x.gn) (j : Nat) : ((s.modE i f).ent j).gn = (s.ent j).gn := by
  unfold SS.modE SS.ent
  simp only [List.getD_eq_getElem?_getD, List.getElem?_modify]
  cases h : s.es[j]? with
  | none => simp
  | some x =>
    simp only [Option.map_eq_map, Option.map_some, Option.getD_some]
    split
    · exact hf x
    · rfl
theorem ranF_gn (s : SS) (g : Int) (h : Nat) (e : Int) (j : Nat) : ((ranF s g h e).ent j).gn = (s.ent j).gn := by
  unfold ranF
  split
  · rfl
  · split
    · exact modE_gn s e.toNat (fun x => { x with rn := x.rn + 1, cd := max (x.cd - 1) (-limitF s) }) (fun _ => rfl) j
    · exact modE_gn s e.toNat (fun x => { x with rn := x.rn + 1 }) (fun _ => rfl) j
theorem tickH_gn {s : SS} (hw : Wf s) (g : Int) (h : Nat) (rd : List Bool) (j : Nat) : ((tickH s g h rd).ent j).gn = (s.ent j).gn := by
  unfold tickH
  rw [ranF_gn]
  have h1 := (pickF_pk hw h rd)
  have h2 := (chargeF_tk h1.wf g h (pickF s h rd).1).2.1
  unfold SS.ent
  rw [h2, h1.es]
theorem tickFrom_gn (g : Int) (rd : List Bool) : ∀ (f h : Nat) (s : SS) (k : Int), Wf s → g = gangF s → ((h + f : Nat) : Int) ≤ s.H → CntC s k → CntR s k → ∀ j, ((tickFrom g rd f h s).ent j).gn = (s.ent j).gn
  | 0, h, s, k, hw, _, _, hc, hr, j => rfl
  | f + 1, h, s, k, hw, hg, hh, hc, hr, j => by
    obtain ⟨h1, h2, h3⟩ := tickH_tk hw hg (h := h) (by omega) rd hc hr
    exact (tickFrom_gn g rd f (h + 1) (tickH s g h rd) (k + 1) h1.wf (by rw [h1.st.gang h1.now]; exact hg) (by rw [h1.st.H]; omega) h2 h3 j).trans (tickH_gn hw g h rd j)
theorem tickF_gn {s : SS} (rd : List Bool) (hw : Wf s) (hn : s.now < 4611686018427387904) (hc : CntC s 0) (hr : CntR s 0) (j : Nat) : ((tickF s rd).ent j).gn = (s.ent j).gn := by
  have hH1 := hw.H1
  have hH8 := hw.H8
  have g1 := tickFrom_gn (gangF s) rd s.H.toNat 0 s 0 hw rfl (by omega) hc hr j
  obtain ⟨h1, h2, h3⟩ := tickFrom_tk (gangF s) rd s.H.toNat 0 s 0 hw rfl (by omega) hc hr
  obtain ⟨e1, e2⟩ := tickE_wf h1.wf (gangF s) (by rw [h1.now]; exact hn)
  have g2 : ((tickE (tickFrom (gangF s) rd s.H.toNat 0 s) (gangF s)).ent j).gn = (s.ent j).gn := g1
  show ((if (tickE (tickFrom (gangF s) rd s.H.toNat 0 s) (gangF s)).now % (tickE (tickFrom (gangF s) rd s.H.toNat 0 s) (gangF s)).P = 0 ∧ (tickE (tickFrom (gangF s) rd s.H.toNat 0 s) (gangF s)).cr = true then giveF (tickE (tickFrom (gangF s) rd s.H.toNat 0 s) (gangF s)) else tickE (tickFrom (gangF s) rd s.H.toNat 0 s) (gangF s)).ent j).gn = _
  split
  · rw [((giveF_gk e1).gn j).1]; exact g2
  · exact g2
/-- Partitioned, no gangs, nobody gone. -/
structure TP (m n : Nat) (S : Int) (s : SS) : Prop where
  H : s.H = m
  S : s.S = S
  cr : s.cr = false
  en : s.es.length = n
  g : ∀ i, (s.gst i).g = false
  gn : ∀ i, (s.ent i).gn = false
  sh : s.sh = s.now
theorem no_gang : ∀ (l : List SG) (i : Nat) (a : Int), (∀ x ∈ l, x.g = false) → gangGo l i a = -1
  | [], _, _, _ => rfl
  | x :: r, i, a, h => by
    unfold gangGo
    rw [if_neg (by rw [h x List.mem_cons_self]; decide)]
    exact no_gang r (i + 1) a (fun y hy => h y (List.mem_cons_of_mem _ hy))
theorem TP.gang {m n : Nat} {S : Int} {s : SS} (h : TP m n S s) : gangF s = -1 := by
  unfold gangF
  refine no_gang _ _ _ (fun x hx => ?_)
  obtain ⟨i, hi, rfl⟩ := List.getElem_of_mem hx
  have := h.g i
  unfold SS.gst at this
  rw [List.getD_eq_getElem?_getD, List.getElem?_eq_getElem hi] at this
  exact this
theorem TP.tick {m n : Nat} {S : Int} {s : SS} (h : TP m n S s) (rd : List Bool) (hw : Wf s) (hn : s.now < 4611686018427387904) (hc : CntC s 0) (hr : CntR s 0) : TP m n S (tickF s rd) := by
  have ht := tickF_tf rd hw hn hc hr
  exact ⟨ht.st.H.trans h.H, ht.st.S.trans h.S, ht.st.cr.trans h.cr, ht.st.el.trans h.en, fun i => by rw [ht.st.gst]; exact h.g i, fun i => (tickF_gn rd hw hn hc hr i).trans (h.gn i), by rw [ht.sh, ht.now, h.gang, if_pos (by decide), h.sh]⟩
theorem TP.gng {m n : Nat} {S : Int} {s : SS} (h : TP m n S s) (i : Nat) : s.gng i = false := h.g _
theorem TP.plainP {m n : Nat} {S : Int} {s : SS} (h : TP m n S s) (a i : Nat) : plainP s (a : Int) i = decide (i % m = a) := by
  unfold SC.plainP homeOf
  rw [if_neg (by rw [h.gng]; decide), h.gng, h.H]
  simp only [Bool.not_false, Bool.and_true]
  by_cases e : i % m = a
  · have : (i : Int) % (m : Int) = (a : Int) := by omega
    simp [e, this]
  · have : ¬ (i : Int) % (m : Int) = (a : Int) := by omega
    simp [e, this]
theorem TP.skip {m n : Nat} {S : Int} {s : SS} (h : TP m n S s) (a k : Nat) : ∀ d : Nat, (∀ i, k ≤ i → i < k + d → i % m ≠ a) → plainTo s (a : Int) (k + d) = plainTo s (a : Int) k
  | 0, _ => rfl
  | d + 1, hi => by
    rw [← Nat.add_assoc, plainTo_succ, h.plainP, decide_eq_false (hi (k + d) (by omega) (by omega))]
    simp only [Bool.false_eq_true, if_false, List.append_nil]
    exact TP.skip h a k d (fun i h1 h2 => hi i h1 (by omega))
theorem TP.pick {m n : Nat} {S : Int} {s : SS} (h : TP m n S s) (a : Nat) (ha : a < m) (rd : List Bool) : pickF s (a : Int) rd = (byTurnF s (a : Int) rd, s) := by
  unfold pickF
  rw [if_neg (by rw [h.H]; omega), if_neg (by rw [h.gang]; omega), if_neg (by rw [h.cr]; decide)]
end Go.Proofs.Ytdaadmjppikebaa.SC

/- Remove, plain; behind it a guest is never picked again. -/
namespace Go.Proofs.Ytdaadmjppikebaa.SC
open Go.RowKit Go.Proofs.YtdaadmjppikebaaW.PrintWords Go.Proofs.YtdaadmjppikebaaW.PrintLast
open Go.Proofs.Ytdaadmjppikebaa.PV (S94 k94 S29 k29 rd_T94 rd_T29)
set_option linter.unusedVariables false
set_option linter.unusedSimpArgs false

theorem home_range {s : SS} (hw : Wf s) {i : Nat} (hi : i < s.es.length) : 0 ≤ homeOf s i ∧ homeOf s i < s.H := by
  have h1 := hw.H1
  have h2 := hw.eg i hi
  have h3 := hw.eh i hi
  unfold homeOf
  split
  · next h => exact ⟨h2.2.2.1, h3 h⟩
  · exact ⟨Int.emod_nonneg _ (by omega), Int.emod_lt_of_pos _ (by omega)⟩
/-- What a removal keeps. -/
structure RE (s s' : SS) : Prop where
  st : St s s'
  wf : Wf s'
  now : s'.now = s.now
  sh : s'.sh = s.sh
  ch : s'.ch = s.ch
  rn : ∀ j, (s'.ent j).rn = (s.ent j).rn
theorem RE.refl {s : SS} (hw : Wf s) : RE s s := ⟨St.refl s, hw, rfl, rfl, rfl, fun _ => rfl⟩
theorem RE.trans {s s' s2 : SS} (h : RE s s') (k : RE s' s2) : RE s s2 := ⟨h.st.trans k.st, k.wf, k.now.trans h.now, k.sh.trans h.sh, k.ch.trans h.ch, fun j => (k.rn j).trans (h.rn j)⟩
theorem RE.cntC {s s' : SS} (h : RE s s') (hc : CntC s 0) : CntC s' 0 := fun i hi => by
  rw [h.ch, h.now]; exact hc i (by rw [← h.ch]; exact hi)
theorem RE.cntR {s s' : SS} (h : RE s s') (hc : CntR s 0) : CntR s' 0 := fun i hi => by
  rw [h.rn, h.now]; exact hc i (by rw [← h.st.el]; exact hi)
/-- Whoever is picked can run. -/
theorem byCreditF_ready {s : SS} {i : Nat} (rd : List Bool) (h0 : 0 ≤ (byCreditF s i rd).1) : readyF s rd (byCreditF s i rd).1 = true := by
  have h2 : ∀ s' : SS, s'.es = s.es → ∀ sm, 0 ≤ (creditF2 s' i rd sm).1 → readyF s rd (creditF2 s' i rd sm).1 = true := fun s' he sm h => by
    have hr : ∀ e, readyF s rd e = readyF s' rd e := fun e => by unfold readyF SS.ent; rw [he]
    unfold creditF2 at h ⊢
    by_cases hf : findQ s' rd sm (s'.trn i).q = -1
    · rw [if_pos hf] at h
      have h' : (0 : Int) ≤ -1 := h
      omega
    · rw [if_neg hf]
      rw [hr]
      exact ((findQ_mem s' rd sm (s'.trn i).q).resolve_left hf).2
  unfold byCreditF at h0 ⊢
  by_cases hc : 0 ≤ (s.trn i).cu
  · rw [if_pos hc] at h0 ⊢
    by_cases hg : goesOn s i rd = true
    · rw [if_pos hg] at h0 ⊢
      unfold goesOn at hg
      simp only [Bool.and_eq_true] at hg
      exact hg.1.1
    · rw [if_neg hg] at h0 ⊢
      exact h2 (s.modT i backF) rfl (someF s i rd) h0
  · rw [if_neg hc] at h0 ⊢
    exact h2 s rfl (someF s i rd) h0
theorem pickF_ready {s : SS} (h : Int) (rd : List Bool) (h0 : 0 ≤ (pickF s h rd).1) : readyF s rd (pickF s h rd).1 = true := by
  unfold pickF at h0 ⊢
  by_cases c : h < 0 ∨ s.H ≤ h
  · rw [if_pos c] at h0; have h' : (0 : Int) ≤ -1 := h0; omega
  · rw [if_neg c] at h0 ⊢
    by_cases hg : 0 ≤ gangF s
    · rw [if_pos hg] at h0 ⊢
      have h0' : 0 ≤ ofGangF s (gangF s) h rd := h0
      show readyF s rd (ofGangF s (gangF s) h rd) = true
      rcases firstGo_range (ofGangP s (gangF s) h rd) s.es.length 0 with h1 | ⟨n, h1, _, _, h3⟩
      · unfold ofGangF at h0'; omega
      · unfold ofGangF
        rw [h1]
        unfold ofGangP at h3
        simp only [Bool.and_eq_true] at h3
        exact h3.2
    · rw [if_neg hg] at h0 ⊢
      by_cases hc : s.cr = true
      · rw [if_pos hc] at h0 ⊢
        exact byCreditF_ready rd h0
      · rw [if_neg hc] at h0 ⊢
        have h0' : 0 ≤ byTurnF s h rd := h0
        show readyF s rd (byTurnF s h rd) = true
        unfold byTurnF at h0' ⊢
        by_cases c2 : 0 ≤ whoseF s h ∧ readyF s rd (whoseF s h) = true
        · rw [if_pos c2]; exact c2.2
        · rw [if_neg c2] at h0'; omega
theorem ranF_rn (s : SS) (g : Int) (h : Nat) (e : Int) (j : Nat) (hj : 0 ≤ e → (j : Int) ≠ e) : ((ranF s g h e).ent j).rn = (s.ent j).rn := by
  have key : ∀ (f : SE → SE), 0 ≤ e → ((s.modE e.toNat f).ent j).rn = (s.ent j).rn := fun f he => by
    by_cases c : e.toNat < s.es.length
    · rw [modE_ent _ c, if_neg (by have := hj he; omega)]
    · rw [modE_out _ _ c]
  unfold ranF
  by_cases he : e < 0
  · rw [if_pos he]
  · rw [if_neg he]
    split
    · exact key _ (by omega)
    · exact key _ (by omega)
theorem tickH_rn {s : SS} (hw : Wf s) (g : Int) (h : Nat) (rd : List Bool) (j : Nat) (hj : (s.ent j).gn = true) : ((tickH s g h rd).ent j).rn = (s.ent j).rn := by
  unfold tickH
  have h1 := (pickF_pk hw h rd)
  have h2 := (chargeF_tk h1.wf g h (pickF s h rd).1).2.1
  rw [ranF_rn _ _ _ _ _ (fun he e => by
    have hr := pickF_ready (s := s) h rd he
    rw [← e] at hr
    unfold readyF at hr
    rw [Int.toNat_natCast, hj] at hr
    simp at hr)]
  unfold SS.ent
  rw [h2, h1.es]
theorem tickFrom_rn (g : Int) (rd : List Bool) : ∀ (f h : Nat) (s : SS) (k : Int), Wf s → g = gangF s → ((h + f : Nat) : Int) ≤ s.H → CntC s k → CntR s k → ∀ j, (s.ent j).gn = true → ((tickFrom g rd f h s).ent j).rn = (s.ent j).rn
  | 0, h, s, k, hw, _, _, hc, hr, j, _ => rfl
  | f + 1, h, s, k, hw, hg, hh, hc, hr, j, hj => by
    obtain ⟨h1, h2, h3⟩ := tickH_tk hw hg (h := h) (by omega) rd hc hr
    exact (tickFrom_rn g rd f (h + 1) (tickH s g h rd) (k + 1) h1.wf (by rw [h1.st.gang h1.now]; exact hg) (by rw [h1.st.H]; omega) h2 h3 j (by rw [tickH_gn hw]; exact hj)).trans (tickH_rn hw g h rd j hj)
theorem tickF_rn {s : SS} (rd : List Bool) (hw : Wf s) (hn : s.now < 4611686018427387904) (hc : CntC s 0) (hr : CntR s 0) (j : Nat) (hj : (s.ent j).gn = true) : ((tickF s rd).ent j).rn = (s.ent j).rn := by
  have hH1 := hw.H1
  have g1 := tickFrom_rn (gangF s) rd s.H.toNat 0 s 0 hw rfl (by omega) hc hr j hj
  obtain ⟨h1, h2, h3⟩ := tickFrom_tk (gangF s) rd s.H.toNat 0 s 0 hw rfl (by omega) hc hr
  obtain ⟨e1, e2⟩ := tickE_wf h1.wf (gangF s) (by rw [h1.now]; exact hn)
  have g2 : ((tickE (tickFrom (gangF s) rd s.H.toNat 0 s) (gangF s)).ent j).rn = (s.ent j).rn := g1
  show ((if (tickE (tickFrom (gangF s) rd s.H.toNat 0 s) (gangF s)).now % (tickE (tickFrom (gangF s) rd s.H.toNat 0 s) (gangF s)).P = 0 ∧ (tickE (tickFrom (gangF s) rd s.H.toNat 0 s) (gangF s)).cr = true then giveF (tickE (tickFrom (gangF s) rd s.H.toNat 0 s) (gangF s)) else tickE (tickFrom (gangF s) rd s.H.toNat 0 s) (gangF s)).ent j).rn = _
  split
  · rw [((giveF_gk e1).gn j).2]; exact g2
  · exact g2
/-- What holds behind the removal of the guest g: all that is its own is gone, and runs no more. -/
structure RmP (g : Nat) (was : List Int) (s : SS) (i : Int) : Prop where
  now : s.now = i
  l : s.es.length = was.length
  gn : ∀ j, j < s.es.length → (s.ent j).gu = (g : Int) → (s.ent j).gn = true ∧ (s.ent j).rn = was.getD j 0
theorem RmP.pick {g : Nat} {was : List Int} {s : SS} {i : Int} (hw : Wf s) (h : RmP g was s i) (a : Int) (rd : List Bool) (hl : rd.length = s.es.length) : RmP g was (pickF s a rd).2 i ∧ ((pickF s a rd).1 = -1 ∨ ∃ p : Nat, (pickF s a rd).1 = (p : Int) ∧ p < s.es.length ∧ (s.ent p).gu ≠ (g : Int) ∧ rd.getD p false = true) := by
  have hp := pickF_pk hw a rd
  refine ⟨⟨hp.now.trans h.now, by rw [hp.es]; exact h.l, fun j hj hg => ?_⟩, ?_⟩
  · unfold SS.ent at hg ⊢
    rw [hp.es] at hg hj ⊢
    exact h.gn j hj hg
  · rcases hp.rg with h1 | h1
    · exact .inl h1
    · refine .inr ⟨(pickF s a rd).1.toNat, by omega, by omega, fun hg => ?_, ?_⟩
      · have hr := pickF_ready (s := s) a rd h1.1
        unfold readyF at hr
        rw [(h.gn _ (by omega) hg).1] at hr
        simp at hr
      · have hr := pickF_ready (s := s) a rd h1.1
        unfold readyF at hr
        simp only [Bool.and_eq_true] at hr
        exact hr.1.2
theorem RmP.tick {W : World} {own : Nat → Prop} {b : Nat} {g : Nat} {was : List Int} {s : SS} {i : Int} (hx : SB W own b s) (h : RmP g was s i) (hi : i ≤ 4194304) (rd : List Bool) : RmP g was (tickF s rd) (i + 1) := by
  have hn := h.now
  have ht := tickF_tf rd hx.wf (by omega) hx.cntC hx.cntR
  refine ⟨by rw [ht.now, hn], by rw [ht.st.el]; exact h.l, fun j hj hg => ?_⟩
  rw [ht.st.el] at hj
  rw [(ht.st.en j).1] at hg
  obtain ⟨h1, h2⟩ := h.gn j hj hg
  exact ⟨by rw [tickF_gn rd hx.wf (by omega) hx.cntC hx.cntR]; exact h1, by rw [tickF_rn rd hx.wf (by omega) hx.cntC hx.cntR j h1]; exact h2⟩
end Go.Proofs.Ytdaadmjppikebaa.SC
