/- Parts of the walk of package sched, merged. -/
/- SchedTurns, plain: what is picked where there are no gangs and no credit. -/
import Derived.Test.YtdaadmjppikebaaK9
import Derived.Test.YtdaadmjppikebaaK11
namespace Go.Proofs.Ytdaadmjppikebaa.SC
open Go.RowKit
open Go.Proofs.Ytdaadmjppikebaa.PV (S94 k94 S29 k29 rd_T94 rd_T29)
set_option linter.unusedVariables false
set_option linter.unusedSimpArgs false

theorem modE_gn (s : SS) (i : Nat) (f : SE → SE) (hf : ∀ x, (f x).gn = x.gn) (j : Nat) : ((s.modE i f).ent j).gn = (s.ent j).gn := by
  unfold SS.modE SS.ent
  simp only [List.getD_eq_getElem?_getD, List.getElem?_modify]
  cases h : s.es[j]? with
  | none => simp
  | some x =>
    simp only [Option.map_eq_map, Option.map_some, Option.getD_some]
    split
    · exact hf x
    · rfl
theorem ranF_gn (s : SS) (g : Int) (h : Nat) (e : Int) (j : Nat) : ((ranF s g h e).ent j).gn = (s.ent j).gn := by
  unfold ranF
  split
  · rfl
  · split
    · exact modE_gn s e.toNat (fun x => { x with rn := x.rn + 1, cd := max (x.cd - 1) (-limitF s) }) (fun _ => rfl) j
    · exact modE_gn s e.toNat (fun x => { x with rn := x.rn + 1 }) (fun _ => rfl) j
theorem tickH_gn {s : SS} (hw : Wf s) (g : Int) (h : Nat) (rd : List Bool) (j : Nat) : ((tickH s g h rd).ent j).gn = (s.ent j).gn := by
  unfold tickH
  rw [ranF_gn]
  have h1 := (pickF_pk hw h rd)
  have h2 := (chargeF_tk h1.wf g h (pickF s h rd).1).2.1
  unfold SS.ent
  rw [h2, h1.es]
theorem tickFrom_gn (g : Int) (rd : List Bool) : ∀ (f h : Nat) (s : SS) (k : Int), Wf s → g = gangF s → ((h + f : Nat) : Int) ≤ s.H → CntC s k → CntR s k → ∀ j, ((tickFrom g rd f h s).ent j).gn = (s.ent j).gn
  | 0, h, s, k, hw, _, _, hc, hr, j => rfl
  | f + 1, h, s, k, hw, hg, hh, hc, hr, j => by
    obtain ⟨h1, h2, h3⟩ := tickH_tk hw hg (h := h) (by omega) rd hc hr
    exact (tickFrom_gn g rd f (h + 1) (tickH s g h rd) (k + 1) h1.wf (by rw [h1.st.gang h1.now]; exact hg) (by rw [h1.st.H]; omega) h2 h3 j).trans (tickH_gn hw g h rd j)
theorem tickF_gn {s : SS} (rd : List Bool) (hw : Wf s) (hn : s.now < 4611686018427387904) (hc : CntC s 0) (hr : CntR s 0) (j : Nat) : ((tickF s rd).ent j).gn = (s.ent j).gn := by
  have hH1 := hw.H1
  have hH8 := hw.H8
  have g1 := tickFrom_gn (gangF s) rd s.H.toNat 0 s 0 hw rfl (by omega) hc hr j
  obtain ⟨h1, h2, h3⟩ := tickFrom_tk (gangF s) rd s.H.toNat 0 s 0 hw rfl (by omega) hc hr
  obtain ⟨e1, e2⟩ := tickE_wf h1.wf (gangF s) (by rw [h1.now]; exact hn)
  have g2 : ((tickE (tickFrom (gangF s) rd s.H.toNat 0 s) (gangF s)).ent j).gn = (s.ent j).gn := g1
  show ((if (tickE (tickFrom (gangF s) rd s.H.toNat 0 s) (gangF s)).now % (tickE (tickFrom (gangF s) rd s.H.toNat 0 s) (gangF s)).P = 0 ∧ (tickE (tickFrom (gangF s) rd s.H.toNat 0 s) (gangF s)).cr = true then giveF (tickE (tickFrom (gangF s) rd s.H.toNat 0 s) (gangF s)) else tickE (tickFrom (gangF s) rd s.H.toNat 0 s) (gangF s)).ent j).gn = _
  split
  · rw [((giveF_gk e1).gn j).1]; exact g2
  · exact g2
/-- Partitioned, no gangs, nobody gone. -/
structure TP (m n : Nat) (S : Int) (s : SS) : Prop where
  H : s.H = m
  S : s.S = S
  cr : s.cr = false
  en : s.es.length = n
  g : ∀ i, (s.gst i).g = false
  gn : ∀ i, (s.ent i).gn = false
  sh : s.sh = s.now
theorem no_gang : ∀ (l : List SG) (i : Nat) (a : Int), (∀ x ∈ l, x.g = false) → gangGo l i a = -1
  | [], _, _, _ => rfl
  | x :: r, i, a, h => by
    unfold gangGo
    rw [if_neg (by rw [h x List.mem_cons_self]; decide)]
    exact no_gang r (i + 1) a (fun y hy => h y (List.mem_cons_of_mem _ hy))
theorem TP.gang {m n : Nat} {S : Int} {s : SS} (h : TP m n S s) : gangF s = -1 := by
  unfold gangF
  refine no_gang _ _ _ (fun x hx => ?_)
  obtain ⟨i, hi, rfl⟩ := List.getElem_of_mem hx
  have := h.g i
  unfold SS.gst at this
  rw [List.getD_eq_getElem?_getD, List.getElem?_eq_getElem hi] at this
  exact this
theorem TP.tick {m n : Nat} {S : Int} {s : SS} (h : TP m n S s) (rd : List Bool) (hw : Wf s) (hn : s.now < 4611686018427387904) (hc : CntC s 0) (hr : CntR s 0) : TP m n S (tickF s rd) := by
  have ht := tickF_tf rd hw hn hc hr
  exact ⟨ht.st.H.trans h.H, ht.st.S.trans h.S, ht.st.cr.trans h.cr, ht.st.el.trans h.en, fun i => by rw [ht.st.gst]; exact h.g i, fun i => (tickF_gn rd hw hn hc hr i).trans (h.gn i), by rw [ht.sh, ht.now, h.gang, if_pos (by decide), h.sh]⟩
theorem TP.gng {m n : Nat} {S : Int} {s : SS} (h : TP m n S s) (i : Nat) : s.gng i = false := h.g _
theorem TP.plainP {m n : Nat} {S : Int} {s : SS} (h : TP m n S s) (a i : Nat) : plainP s (a : Int) i = decide (i % m = a) := by
  unfold SC.plainP homeOf
  rw [if_neg (by rw [h.gng]; decide), h.gng, h.H]
  simp only [Bool.not_false, Bool.and_true]
  by_cases e : i % m = a
  · have : (i : Int) % (m : Int) = (a : Int) := by omega
    simp [e, this]
  · have : ¬ (i : Int) % (m : Int) = (a : Int) := by omega
    simp [e, this]
theorem TP.skip {m n : Nat} {S : Int} {s : SS} (h : TP m n S s) (a k : Nat) : ∀ d : Nat, (∀ i, k ≤ i → i < k + d → i % m ≠ a) → plainTo s (a : Int) (k + d) = plainTo s (a : Int) k
  | 0, _ => rfl
  | d + 1, hi => by
    rw [← Nat.add_assoc, plainTo_succ, h.plainP, decide_eq_false (hi (k + d) (by omega) (by omega))]
    simp only [Bool.false_eq_true, if_false, List.append_nil]
    exact TP.skip h a k d (fun i h1 h2 => hi i h1 (by omega))
theorem TP.pick {m n : Nat} {S : Int} {s : SS} (h : TP m n S s) (a : Nat) (ha : a < m) (rd : List Bool) : pickF s (a : Int) rd = (byTurnF s (a : Int) rd, s) := by
  unfold pickF
  rw [if_neg (by rw [h.H]; omega), if_neg (by rw [h.gang]; omega), if_neg (by rw [h.cr]; decide)]
end Go.Proofs.Ytdaadmjppikebaa.SC

/- Remove, plain; behind it a guest is never picked again. -/
namespace Go.Proofs.Ytdaadmjppikebaa.SC
open Go.RowKit Go.Proofs.YtdaadmjppikebaaW.PrintWords Go.Proofs.YtdaadmjppikebaaW.PrintLast
open Go.Proofs.Ytdaadmjppikebaa.PV (S94 k94 S29 k29 rd_T94 rd_T29)
set_option linter.unusedVariables false
set_option linter.unusedSimpArgs false

def goneF (x : SE) : SE := { x with gn := true }
def outC (i : Nat) (t : ST) : ST := { t with q := t.q.filter fun x => x != (i : Int), cu := if t.cu = (i : Int) then -1 else t.cu }
/-- One entity is taken away, if it is the guest's. -/
def removeE (s : SS) (g : Nat) (i : Nat) : SS :=
  if (s.ent i).gu = (g : Int) then (if s.gng i = true then s.modE i goneF else (s.modE i goneF).modT (homeOf s i).toNat (outC i)) else s
def removeTo (s : SS) (g : Nat) : Nat → SS
  | 0 => s
  | k + 1 => removeE (removeTo s g k) g k
theorem home_range {s : SS} (hw : Wf s) {i : Nat} (hi : i < s.es.length) : 0 ≤ homeOf s i ∧ homeOf s i < s.H := by
  have h1 := hw.H1
  have h2 := hw.eg i hi
  have h3 := hw.eh i hi
  unfold homeOf
  split
  · next h => exact ⟨h2.2.2.1, h3 h⟩
  · exact ⟨Int.emod_nonneg _ (by omega), Int.emod_lt_of_pos _ (by omega)⟩
/-- What a removal keeps. -/
structure RE (s s' : SS) : Prop where
  st : St s s'
  wf : Wf s'
  now : s'.now = s.now
  sh : s'.sh = s.sh
  ch : s'.ch = s.ch
  rn : ∀ j, (s'.ent j).rn = (s.ent j).rn
theorem RE.refl {s : SS} (hw : Wf s) : RE s s := ⟨St.refl s, hw, rfl, rfl, rfl, fun _ => rfl⟩
theorem RE.trans {s s' s2 : SS} (h : RE s s') (k : RE s' s2) : RE s s2 := ⟨h.st.trans k.st, k.wf, k.now.trans h.now, k.sh.trans h.sh, k.ch.trans h.ch, fun j => (k.rn j).trans (h.rn j)⟩
theorem removeE_re {s : SS} (hw : Wf s) (g i : Nat) (hi : i < s.es.length) : RE s (removeE s g i) ∧ ∀ j, ((removeE s g i).ent j).gn = if i = j ∧ (s.ent i).gu = (g : Int) then true else (s.ent j).gn := by
  have h1 : Wf (s.modE i goneF) := hw.modE i hi goneF (fun _ => ⟨rfl, rfl, rfl⟩) (hw.ec i hi)
  have st1 := St.modE s i goneF (fun _ => ⟨rfl, rfl, rfl⟩)
  have rn1 : ∀ j, ((s.modE i goneF).ent j).rn = (s.ent j).rn := fun j => by
    rw [modE_ent _ hi]
    by_cases c : i = j
    · subst c; rw [if_pos rfl]; rfl
    · rw [if_neg c]
  have gn1 : ∀ j, ((s.modE i goneF).ent j).gn = if i = j then true else (s.ent j).gn := fun j => by
    rw [modE_ent _ hi]
    by_cases c : i = j
    · subst c; rw [if_pos rfl, if_pos rfl]; rfl
    · rw [if_neg c, if_neg c]
  unfold removeE
  by_cases hg : (s.ent i).gu = (g : Int)
  · rw [if_pos hg]
    have e : ∀ j, (if i = j ∧ (s.ent i).gu = (g : Int) then true else (s.ent j).gn) = if i = j then true else (s.ent j).gn := fun j => by
      by_cases c : i = j
      · rw [if_pos c, if_pos ⟨c, hg⟩]
      · rw [if_neg c, if_neg (fun h => c h.1)]
    by_cases hq : s.gng i = true
    · rw [if_pos hq]
      exact ⟨⟨st1, h1, rfl, rfl, rfl, rn1⟩, fun j => by rw [e]; exact gn1 j⟩
    · rw [if_neg hq]
      have hr := home_range hw hi
      have htl : (homeOf s i).toNat < (s.modE i goneF).ts.length := by have := hw.tn; show _ < s.ts.length; omega
      obtain ⟨t1, t2, t3, t4, t5, t6, t7, t8⟩ := h1.tq _ htl
      have hq2 : TQ (s.modE i goneF) (outC i ((s.modE i goneF).trn (homeOf s i).toNat)) := by
        refine ⟨fun x hx => t1 x (List.mem_filter.1 hx).1, Nat.le_trans (List.length_filter_le _ _) t2, t3.filter _, ?_, ?_, t6, t7, ?_⟩
        · show -1 ≤ (if _ then (-1 : Int) else _); split <;> omega
        · show (if _ then (-1 : Int) else _) < _; split <;> omega
        · intro h0
          have h0' : 0 ≤ (if ((s.modE i goneF).trn (homeOf s i).toNat).cu = (i : Int) then (-1 : Int) else ((s.modE i goneF).trn (homeOf s i).toNat).cu) := h0
          show (if ((s.modE i goneF).trn (homeOf s i).toNat).cu = (i : Int) then (-1 : Int) else ((s.modE i goneF).trn (homeOf s i).toNat).cu) ∈ ((s.modE i goneF).trn (homeOf s i).toNat).q.filter fun x => x != (i : Int)
          by_cases c : ((s.modE i goneF).trn (homeOf s i).toNat).cu = (i : Int)
          · rw [if_pos c] at h0'; omega
          · rw [if_neg c] at h0' ⊢
            exact List.mem_filter.2 ⟨t8 h0', by simpa using c⟩
      exact ⟨⟨st1.trans (St.modT _ _ _), h1.modT _ htl _ hq2, rfl, rfl, rfl, rn1⟩, fun j => by rw [e]; exact gn1 j⟩
  · rw [if_neg hg]
    exact ⟨RE.refl hw, fun j => by rw [if_neg (fun h => hg h.2)]⟩
theorem removeTo_re {s : SS} (hw : Wf s) (g : Nat) : ∀ k, k ≤ s.es.length → RE s (removeTo s g k) ∧ ∀ j, ((removeTo s g k).ent j).gn = if j < k ∧ (s.ent j).gu = (g : Int) then true else (s.ent j).gn
  | 0, _ => ⟨RE.refl hw, fun j => by rw [if_neg (fun h => by omega)]; rfl⟩
  | k + 1, hk => by
    obtain ⟨h1, h2⟩ := removeTo_re hw g k (by omega)
    obtain ⟨h3, h4⟩ := removeE_re h1.wf g k (by rw [h1.st.el]; omega)
    refine ⟨h1.trans h3, fun j => ?_⟩
    show ((removeE (removeTo s g k) g k).ent j).gn = _
    rw [h4, (h1.st.en k).1, h2]
    by_cases c : k = j
    · subst c
      by_cases c2 : (s.ent k).gu = (g : Int)
      · rw [if_pos ⟨rfl, c2⟩, if_pos ⟨by omega, c2⟩]
      · rw [if_neg (fun h => c2 h.2), if_neg (fun h => c2 h.2), if_neg (fun h => c2 h.2)]
    · rw [if_neg (fun h => c h.1)]
      by_cases c2 : j < k ∧ (s.ent j).gu = (g : Int)
      · rw [if_pos c2, if_pos ⟨by omega, c2.2⟩]
      · rw [if_neg c2, if_neg (fun h => c2 ⟨by omega, h.2⟩)]
theorem RE.cntC {s s' : SS} (h : RE s s') (hc : CntC s 0) : CntC s' 0 := fun i hi => by
  rw [h.ch, h.now]; exact hc i (by rw [← h.ch]; exact hi)
theorem RE.cntR {s s' : SS} (h : RE s s') (hc : CntR s 0) : CntR s' 0 := fun i hi => by
  rw [h.rn, h.now]; exact hc i (by rw [← h.st.el]; exact hi)
/-- Whoever is picked can run. -/
theorem byCreditF_ready {s : SS} {i : Nat} (rd : List Bool) (h0 : 0 ≤ (byCreditF s i rd).1) : readyF s rd (byCreditF s i rd).1 = true := by
  have h2 : ∀ s' : SS, s'.es = s.es → ∀ sm, 0 ≤ (creditF2 s' i rd sm).1 → readyF s rd (creditF2 s' i rd sm).1 = true := fun s' he sm h => by
    have hr : ∀ e, readyF s rd e = readyF s' rd e := fun e => by unfold readyF SS.ent; rw [he]
    unfold creditF2 at h ⊢
    by_cases hf : findQ s' rd sm (s'.trn i).q = -1
    · rw [if_pos hf] at h
      have h' : (0 : Int) ≤ -1 := h
      omega
    · rw [if_neg hf]
      rw [hr]
      exact ((findQ_mem s' rd sm (s'.trn i).q).resolve_left hf).2
  unfold byCreditF at h0 ⊢
  by_cases hc : 0 ≤ (s.trn i).cu
  · rw [if_pos hc] at h0 ⊢
    by_cases hg : goesOn s i rd = true
    · rw [if_pos hg] at h0 ⊢
      unfold goesOn at hg
      simp only [Bool.and_eq_true] at hg
      exact hg.1.1
    · rw [if_neg hg] at h0 ⊢
      exact h2 (s.modT i backF) rfl (someF s i rd) h0
  · rw [if_neg hc] at h0 ⊢
    exact h2 s rfl (someF s i rd) h0
theorem pickF_ready {s : SS} (h : Int) (rd : List Bool) (h0 : 0 ≤ (pickF s h rd).1) : readyF s rd (pickF s h rd).1 = true := by
  unfold pickF at h0 ⊢
  by_cases c : h < 0 ∨ s.H ≤ h
  · rw [if_pos c] at h0; have h' : (0 : Int) ≤ -1 := h0; omega
  · rw [if_neg c] at h0 ⊢
    by_cases hg : 0 ≤ gangF s
    · rw [if_pos hg] at h0 ⊢
      have h0' : 0 ≤ ofGangF s (gangF s) h rd := h0
      show readyF s rd (ofGangF s (gangF s) h rd) = true
      rcases firstGo_range (ofGangP s (gangF s) h rd) s.es.length 0 with h1 | ⟨n, h1, _, _, h3⟩
      · unfold ofGangF at h0'; omega
      · unfold ofGangF
        rw [h1]
        unfold ofGangP at h3
        simp only [Bool.and_eq_true] at h3
        exact h3.2
    · rw [if_neg hg] at h0 ⊢
      by_cases hc : s.cr = true
      · rw [if_pos hc] at h0 ⊢
        exact byCreditF_ready rd h0
      · rw [if_neg hc] at h0 ⊢
        have h0' : 0 ≤ byTurnF s h rd := h0
        show readyF s rd (byTurnF s h rd) = true
        unfold byTurnF at h0' ⊢
        by_cases c2 : 0 ≤ whoseF s h ∧ readyF s rd (whoseF s h) = true
        · rw [if_pos c2]; exact c2.2
        · rw [if_neg c2] at h0'; omega
theorem ranF_rn (s : SS) (g : Int) (h : Nat) (e : Int) (j : Nat) (hj : 0 ≤ e → (j : Int) ≠ e) : ((ranF s g h e).ent j).rn = (s.ent j).rn := by
  have key : ∀ (f : SE → SE), 0 ≤ e → ((s.modE e.toNat f).ent j).rn = (s.ent j).rn := fun f he => by
    by_cases c : e.toNat < s.es.length
    · rw [modE_ent _ c, if_neg (by have := hj he; omega)]
    · rw [modE_out _ _ c]
  unfold ranF
  by_cases he : e < 0
  · rw [if_pos he]
  · rw [if_neg he]
    split
    · exact key _ (by omega)
    · exact key _ (by omega)
theorem tickH_rn {s : SS} (hw : Wf s) (g : Int) (h : Nat) (rd : List Bool) (j : Nat) (hj : (s.ent j).gn = true) : ((tickH s g h rd).ent j).rn = (s.ent j).rn := by
  unfold tickH
  have h1 := (pickF_pk hw h rd)
  have h2 := (chargeF_tk h1.wf g h (pickF s h rd).1).2.1
  rw [ranF_rn _ _ _ _ _ (fun he e => by
    have hr := pickF_ready (s := s) h rd he
    rw [← e] at hr
    unfold readyF at hr
    rw [Int.toNat_natCast, hj] at hr
    simp at hr)]
  unfold SS.ent
  rw [h2, h1.es]
theorem tickFrom_rn (g : Int) (rd : List Bool) : ∀ (f h : Nat) (s : SS) (k : Int), Wf s → g = gangF s → ((h + f : Nat) : Int) ≤ s.H → CntC s k → CntR s k → ∀ j, (s.ent j).gn = true → ((tickFrom g rd f h s).ent j).rn = (s.ent j).rn
  | 0, h, s, k, hw, _, _, hc, hr, j, _ => rfl
  | f + 1, h, s, k, hw, hg, hh, hc, hr, j, hj => by
    obtain ⟨h1, h2, h3⟩ := tickH_tk hw hg (h := h) (by omega) rd hc hr
    exact (tickFrom_rn g rd f (h + 1) (tickH s g h rd) (k + 1) h1.wf (by rw [h1.st.gang h1.now]; exact hg) (by rw [h1.st.H]; omega) h2 h3 j (by rw [tickH_gn hw]; exact hj)).trans (tickH_rn hw g h rd j hj)
theorem tickF_rn {s : SS} (rd : List Bool) (hw : Wf s) (hn : s.now < 4611686018427387904) (hc : CntC s 0) (hr : CntR s 0) (j : Nat) (hj : (s.ent j).gn = true) : ((tickF s rd).ent j).rn = (s.ent j).rn := by
  have hH1 := hw.H1
  have g1 := tickFrom_rn (gangF s) rd s.H.toNat 0 s 0 hw rfl (by omega) hc hr j hj
  obtain ⟨h1, h2, h3⟩ := tickFrom_tk (gangF s) rd s.H.toNat 0 s 0 hw rfl (by omega) hc hr
  obtain ⟨e1, e2⟩ := tickE_wf h1.wf (gangF s) (by rw [h1.now]; exact hn)
  have g2 : ((tickE (tickFrom (gangF s) rd s.H.toNat 0 s) (gangF s)).ent j).rn = (s.ent j).rn := g1
  show ((if (tickE (tickFrom (gangF s) rd s.H.toNat 0 s) (gangF s)).now % (tickE (tickFrom (gangF s) rd s.H.toNat 0 s) (gangF s)).P = 0 ∧ (tickE (tickFrom (gangF s) rd s.H.toNat 0 s) (gangF s)).cr = true then giveF (tickE (tickFrom (gangF s) rd s.H.toNat 0 s) (gangF s)) else tickE (tickFrom (gangF s) rd s.H.toNat 0 s) (gangF s)).ent j).rn = _
  split
  · rw [((giveF_gk e1).gn j).2]; exact g2
  · exact g2
/-- What holds behind the removal of the guest g: all that is its own is gone, and runs no more. -/
structure RmP (g : Nat) (was : List Int) (s : SS) (i : Int) : Prop where
  now : s.now = i
  l : s.es.length = was.length
  gn : ∀ j, j < s.es.length → (s.ent j).gu = (g : Int) → (s.ent j).gn = true ∧ (s.ent j).rn = was.getD j 0
theorem RmP.pick {g : Nat} {was : List Int} {s : SS} {i : Int} (hw : Wf s) (h : RmP g was s i) (a : Int) (rd : List Bool) (hl : rd.length = s.es.length) : RmP g was (pickF s a rd).2 i ∧ ((pickF s a rd).1 = -1 ∨ ∃ p : Nat, (pickF s a rd).1 = (p : Int) ∧ p < s.es.length ∧ (s.ent p).gu ≠ (g : Int) ∧ rd.getD p false = true) := by
  have hp := pickF_pk hw a rd
  refine ⟨⟨hp.now.trans h.now, by rw [hp.es]; exact h.l, fun j hj hg => ?_⟩, ?_⟩
  · unfold SS.ent at hg ⊢
    rw [hp.es] at hg hj ⊢
    exact h.gn j hj hg
  · rcases hp.rg with h1 | h1
    · exact .inl h1
    · refine .inr ⟨(pickF s a rd).1.toNat, by omega, by omega, fun hg => ?_, ?_⟩
      · have hr := pickF_ready (s := s) a rd h1.1
        unfold readyF at hr
        rw [(h.gn _ (by omega) hg).1] at hr
        simp at hr
      · have hr := pickF_ready (s := s) a rd h1.1
        unfold readyF at hr
        simp only [Bool.and_eq_true] at hr
        exact hr.1.2
theorem RmP.tick {W : World} {own : Nat → Prop} {b : Nat} {g : Nat} {was : List Int} {s : SS} {i : Int} (hx : SB W own b s) (h : RmP g was s i) (hi : i ≤ 4194304) (rd : List Bool) : RmP g was (tickF s rd) (i + 1) := by
  have hn := h.now
  have ht := tickF_tf rd hx.wf (by omega) hx.cntC hx.cntR
  refine ⟨by rw [ht.now, hn], by rw [ht.st.el]; exact h.l, fun j hj hg => ?_⟩
  rw [ht.st.el] at hj
  rw [(ht.st.en j).1] at hg
  obtain ⟨h1, h2⟩ := h.gn j hj hg
  exact ⟨by rw [tickF_gn rd hx.wf (by omega) hx.cntC hx.cntR]; exact h1, by rw [tickF_rn rd hx.wf (by omega) hx.cntC hx.cntR j h1]; exact h2⟩
end Go.Proofs.Ytdaadmjppikebaa.SC

/- Remove: the walk. -/
namespace Go.Proofs.Ytdaadmjppikebaa.SC
open Go.RowKit Go.Proofs.YtdaadmjppikebaaW.PrintWords Go.Proofs.YtdaadmjppikebaaW.PrintLast
open Go.Proofs.Ytdaadmjppikebaa.PV (S94 k94 S29 k29 rd_T94 rd_T29)
set_option linter.unusedVariables false
set_option linter.unusedSimpArgs false

set_option maxRecDepth 100000 in
set_option maxHeartbeats 3200000 in
theorem remove_walk {W : World} {own : Nat → Prop} {L : Lay} {s : SS} (h : SR W own L s) (hw : Wf s) (g : Nat) (hg : g < s.gs.length) :
    Calls Try.prog 30 #[.pointer (some ⟨L.b, 0, none⟩), .int .i64 (g : Int)] W fun x w' => x = .returned (.tuple #[]) ∧ ∃ qs, SR w' own { L with qs := qs } (removeTo s g s.es.length) ∧ Mut own W w' := by
  have HR := Aside0.mk h
  have HW := Aside0.mk hw
  have c5 := h.fld 5 rfl
  have hem := hw.em
  clear h hw
  go_enter Try.func30, Try.ntmps30
  go_wp2_with (fail)
  go_loopw [12] (fun v12 w' => ∃ (k : Nat) (qs : List Value), v12 = .int .i64 (k : Int) ∧ k ≤ s.es.length ∧ Aside0 (SR w' own { L with qs := qs } (removeTo s g k)) ∧ Aside0 (Mut own W w')) (fun v12 _ => s.es.length - (intOf v12).toNat)
  case atStart => exact ⟨0, L.qs, rfl, Nat.zero_le _, HR, ⟨Mut.refl _ _⟩⟩
  case round =>
    obtain ⟨k, qs, rfl, hk, HS1, HM1⟩ := hrel
    clear c5
    by_cases hlt : k < s.es.length
    · have hre := (removeTo_re HW.out g k hk).1
      have hT : removeTo s g (k + 1) = removeE (removeTo s g k) g k := rfl
      obtain ⟨sk, hsk⟩ : ∃ sk, sk = removeTo s g k := ⟨_, rfl⟩
      rw [← hsk] at hre hT HS1
      clear hsk
      have HT := Aside0.mk hT
      have HRE := Aside0.mk hre
      have hkl : k < sk.es.length := by rw [hre.st.el]; exact hlt
      have HEL := Aside0.mk hre.st.el
      have HGL := Aside0.mk (show sk.gs.length = s.gs.length by rw [hre.st.gs])
      have hgs : g < sk.gs.length := by rw [hre.st.gs]; exact hg
      have c5 : wr.cell? ⟨L.b, 5, none⟩ = some (.slice (some ⟨L.be, 0, none⟩) sk.es.length L.ce) := HS1.out.fld 5 rfl
      have y0 : wr.cell? ⟨L.be, k * 7, none⟩ = some (.int .i64 (sk.ent k).gu) := HS1.out.ent k 0 hkl (by decide) rfl
      have y6 : wr.cell? ⟨L.be, k * 7 + 6, none⟩ = some (.bool (sk.ent k).gn) := HS1.out.ent k 6 hkl (by decide) rfl
      have yf : wr.frozen? ⟨L.be, k * 7 + 6, none⟩ = false := HS1.out.E.frozen _
      have heg := hre.wf.eg k hkl
      by_cases hgu : (sk.ent k).gu = (g : Int)
      · rw [hgu] at y0
        have hs5 := HS1.out.putE k 6 hkl (by decide) (.bool true) goneF rfl ⟨rfl, rfl⟩
        have hw5 := hre.wf.modE k hkl goneF (fun _ => ⟨rfl, rfl, rfl⟩) (hre.wf.ec k hkl)
        have hgn5 : (sk.modE k goneF).gng k = sk.gng k := modE_gng goneF hkl rfl
        have hho : homeOf (sk.modE k goneF) k = homeOf sk k := modE_home goneF hkl ⟨rfl, rfl⟩
        have hhr := home_range hre.wf hkl
        have htn := hre.wf.tn
        obtain ⟨hh, hhe⟩ : ∃ hh : Nat, homeOf sk k = (hh : Int) := ⟨(homeOf sk k).toNat, by omega⟩
        have htl : hh < (sk.modE k goneF).ts.length := by show hh < sk.ts.length; omega
        have HRM := Aside0.mk (show removeTo s g (k + 1) = if sk.gng k = true then sk.modE k goneF else (sk.modE k goneF).modT hh (outC k) by rw [HT.out]; unfold removeE; rw [if_pos hgu, hhe, Int.toNat_natCast])
        have hel5 : (sk.modE k goneF).es.length = s.es.length := by rw [modE_len]; exact HEL.out
        have HGG := Aside0.mk (show (gstC ((sk.modE k goneF).gst g))[6]? = some (.bool (sk.gng k)) by
          show some (Value.bool ((sk.modE k goneF).gst g).g) = _
          have : sk.gng k = (sk.gst g).g := by unfold SS.gng; rw [hgu, Int.toNat_natCast]
          rw [this]; rfl)
        go_upto_region 6 with (fail)
        have HM5 := Aside0.mk (HM1.out.setCell (p := ⟨L.be, k * 7 + 6, none⟩) (.inl HR.out.ob.2.2.1) (.bool true))
        have HS5 := Aside0.mk hs5
        obtain ⟨w5, hw5e⟩ : ∃ w5, w5 = wr.setCell ⟨L.be, k * 7 + 6, none⟩ (.bool true) := ⟨_, rfl⟩
        rw [← hw5e] at HS5 HM5 ⊢
        obtain ⟨s5, hs5e⟩ : ∃ s5, s5 = sk.modE k goneF := ⟨_, rfl⟩
        have HHO := Aside0.mk (show homeOf s5 k = (hh : Int) by rw [hs5e, hho, hhe])
        rw [← hs5e] at HS5 HRM hw5 htl HGG hel5
        have hk5 : k < s5.es.length := by omega
        have hg5 : g < s5.gs.length := by rw [hs5e]; exact hgs
        have HLd := Aside0.mk (HS5.out.below (below_drew (Below.refl _ _)))
        have e6 : w5.drew.cell? ⟨L.b, 6, none⟩ = some (.slice (some ⟨L.bt, 0, none⟩) s5.ts.length s5.ts.length) := HLd.out.fld 6 rfl
        have e7 : w5.drew.cell? ⟨L.bh, k, none⟩ = some (.int .i64 (hh : Int)) := by have := HLd.out.hom k hk5; rwa [HHO.out] at this
        have HHC := Aside0.mk (homes_calls HLd.out)
        clear hw5e hs5e hs5 y0 y6 yf c5 hgn5 hho hhe hgu hT
        refine start_ (n := 11) (S := fun w' => w'.cell? ⟨L.b, 6, none⟩ = some (.slice (some ⟨L.bt, 0, none⟩) s5.ts.length s5.ts.length) ∧ w'.cell? ⟨L.bh, k, none⟩ = some (.int .i64 (hh : Int))) (ds := []) #[false, false, false, false, false, false, false, false, false, false, false] (by kernel_rfl) rfl rfl ⟨e6, e7⟩ (fun hHeld => ?_)
        refine pure_ (i := 0) (N := some 30) (v := ?_) (a' := ?_) #[true, false, false, false, false, false, false, false, false, false, false] rfl rfl (by kernel_rfl) (fun _ _ _ h => h) (Or.inl ⟨by rfl, ?_⟩) ?_ ?_
        rotate_left
        · intro w'
          go_simp
          with_reducible rfl
        rotate_left
        · simp only [Act.put, List.setIfInBounds_toArray, List.set_cons_zero, List.set_cons_succ, i64_w, i32_w]
          rfl
        refine pure_ (i := 1) (N := some 31) (v := ?_) (a' := ?_) #[true, true, false, false, false, false, false, false, false, false, false] rfl rfl (by kernel_rfl) (fun _ _ _ h => h) (Or.inl ⟨by rfl, ?_⟩) ?_ ?_
        rotate_left
        · intro w'
          go_simp
          with_reducible rfl
        rotate_left
        · simp only [Act.put, List.setIfInBounds_toArray, List.set_cons_zero, List.set_cons_succ, i64_w, i32_w]
          rfl
        refine pure_ (i := 2) (N := some 32) (v := ?_) (a' := ?_) #[true, true, true, false, false, false, false, false, false, false, false] rfl rfl (by kernel_rfl) (fun _ _ _ h => h) (Or.inl ⟨by rfl, ?_⟩) ?_ ?_
        rotate_left
        · intro w'
          go_simp
          with_reducible rfl
        rotate_left
        · simp only [Act.put, List.setIfInBounds_toArray, List.set_cons_zero, List.set_cons_succ, i64_w, i32_w]
          rfl
        refine pure_ (i := 4) (N := some 34) (v := ?_) (a' := ?_) #[true, true, true, false, true, false, false, false, false, false, false] rfl rfl (by kernel_rfl) (fun _ _ _ h => h) (Or.inl ⟨by rfl, ?_⟩) ?_ ?_
        rotate_left
        · intro w'
          go_simp
          with_reducible rfl
        rotate_left
        · simp only [Act.put, List.setIfInBounds_toArray, List.set_cons_zero, List.set_cons_succ, i64_w, i32_w]
          rfl
        refine pure_ (i := 6) (N := some 36) (v := ?_) (a' := ?_) #[true, true, true, false, true, false, true, false, false, false, false] rfl rfl (by kernel_rfl) (fun _ _ _ h => h) (Or.inl ⟨by rfl, ?_⟩) ?_ ?_
        rotate_left
        · intro w'
          go_simp
          with_reducible rfl
        rotate_left
        · simp only [Act.put, List.setIfInBounds_toArray, List.set_cons_zero, List.set_cons_succ, i64_w, i32_w]
          rfl
        refine take_ (i := 3) (N := some 33) (v := ?_) (a' := ?_) #[true, true, true, true, true, false, true, false, false, false, false] rfl rfl (by kernel_rfl) (fun _ _ _ h => h) (Or.inl ⟨by rfl, ?_⟩) hHeld ?_ ?_
        rotate_left
        · rintro w' ⟨s0, s1⟩
          go_simp
          with_reducible rfl
        rotate_left
        · simp only [Act.put, List.setIfInBounds_toArray, List.set_cons_zero, List.set_cons_succ, i64_w, i32_w]
          rfl
        refine one_ (i := 5) (N := some 35) #[true, true, true, true, true, true, true, false, false, false, false] rfl rfl (by kernel_rfl) (by decide) (fun K hK => ?_)
        refine goes_ Try.func48 (by kernel_rfl) rfl #[.pointer (some ⟨L.b, 0, none⟩)] (by rfl) rfl rfl (by simp only [List.map_toArray, List.map_cons, List.map_nil]; rfl) ?_
        with_reducible refine (HHC.out).mono ?_
        rintro e w6 ⟨rfl, hb6⟩
        refine ⟨_, rfl, ?_⟩
        have HB6 := Aside0.mk hb6
        have HS6 := Aside0.mk (HLd.out.below hb6)
        have g6 := pw_cell_below hb6 e6
        have g7 := pw_cell_below hb6 e7
        clear hb6
        refine hK.out _ _ ⟨g6, g7⟩ (fun hHeld => ?_)
        clear hK K
        refine norm_ (a' := ?_) ?_ ?_
        rotate_left
        · show Act.put _ (some 35) _ = _
          simp only [Act.put, List.setIfInBounds_toArray, List.set_cons_zero, List.set_cons_succ, i64_w, i32_w]
          rfl
        refine pure_ (i := 7) (N := some 37) (v := ?_) (a' := ?_) #[true, true, true, true, true, true, true, true, false, false, false] rfl rfl (by kernel_rfl) (fun _ _ _ h => h) (Or.inl ⟨by rfl, ?_⟩) ?_ ?_
        rotate_left
        · intro w'
          go_simp
          with_reducible rfl
        rotate_left
        · simp only [Act.put, List.setIfInBounds_toArray, List.set_cons_zero, List.set_cons_succ, i64_w, i32_w]
          rfl
        refine take_ (i := 8) (N := some 38) (v := ?_) (a' := ?_) #[true, true, true, true, true, true, true, true, true, false, false] rfl rfl (by kernel_rfl) (fun _ _ _ h => h) (Or.inl ⟨by rfl, ?_⟩) hHeld ?_ ?_
        rotate_left
        · rintro w' ⟨s0, s1⟩
          go_simp
          with_reducible rfl
        rotate_left
        · simp only [Act.put, List.setIfInBounds_toArray, List.set_cons_zero, List.set_cons_succ, i64_w, i32_w]
          rfl
        refine pure_ (i := 9) (N := some 39) (v := ?_) (a' := ?_) #[true, true, true, true, true, true, true, true, true, true, false] rfl rfl (by kernel_rfl) (fun _ _ _ h => h) (Or.inl ⟨by rfl, ?_⟩) ?_ ?_
        rotate_left
        · intro w'
          go_simp
          with_reducible rfl
        rotate_left
        · simp only [Act.put, List.setIfInBounds_toArray, List.set_cons_zero, List.set_cons_succ, i64_w, i32_w]
          rfl
        refine pure_ (i := 10) (N := some 6) (v := ?_) (a' := ?_) #[true, true, true, true, true, true, true, true, true, true, true] rfl rfl (by kernel_rfl) (fun _ _ _ h => h) (Or.inl ⟨by rfl, ?_⟩) ?_ ?_
        rotate_left
        · intro w'
          go_simp
          with_reducible rfl
        rotate_left
        · simp only [Act.put, List.setIfInBounds_toArray, List.set_cons_zero, List.set_cons_succ, i64_w, i32_w]
          rfl
        refine done_ (by kernel_rfl) ?_
        have HM6 := Aside0.mk (HM5.out.below (below_step (below_drew (Below.refl _ _)) HB6.out))
        have k4 : w6.cell? ⟨L.b, 4, none⟩ = some (.slice (some ⟨L.bg, 0, none⟩) s5.gs.length L.cg) := HS6.out.fld 4 rfl
        have kg : w6.cell? ⟨L.bg, g * 7 + 6, none⟩ = some (.bool (sk.gng k)) := HS6.out.gst g 6 hg5 (by decide) HGG.out
        obtain ⟨fg, hfg⟩ : ∃ fg, fg = sk.gng k := ⟨_, rfl⟩
        rw [← hfg] at kg HRM
        have hcg := HS6.out.cap.1
        clear hfg HGG
        cases fg with
        | true =>
          have HR1 := Aside0.mk (show removeTo s g (k + 1) = s5 by rw [HRM.out, if_pos rfl])
          go_wp2
          go_roundw
          case rel => exact ⟨k + 1, qs, by go_num, by omega, ⟨by rw [HR1.out]; exact HS6.out⟩, HM6⟩
          case measure => simp [intOf]; omega
        | false =>
          have HR1 := Aside0.mk (show removeTo s g (k + 1) = s5.modT hh (outC k) by rw [HRM.out, if_neg (by decide)])
          have HTQ := Aside0.mk (hw5.tq hh htl).2.1
          obtain ⟨cu, hcu⟩ : ∃ cu, cu = (s5.trn hh).cu := ⟨_, rfl⟩
          have HCU := Aside0.mk hcu
          clear hcu
          go_upto_region 9 with (go_at_call 49; refine (leave_calls HS6.out hh htl HTQ.out (k : Int)).mono ?_; rintro e w7 ⟨rfl, q7, hs7, hm7⟩; have HS7 := Aside0.mk hs7; have HM7 := Aside0.mk hm7; obtain ⟨q8, hq8⟩ := hs7.qs hh (by simpa using htl); have z1 : w7.cell? ⟨L.bt, hh * 3 + 1, none⟩ = some (.int .i64 cu) := hs7.trn hh 1 (by simpa using htl) (by decide) hq8 (by show some (Value.int .i64 _) = _; rw [modT_trn _ htl, if_pos rfl]; rw [← HCU.out]); have zf : w7.frozen? ⟨L.bt, hh * 3 + 1, none⟩ = false := hs7.T.frozen _; clear hs7 hm7)
          have HM8 := Aside0.mk (HM6.out.trans HM7.out (fun q hq => .inl hq))
          by_cases hc : cu = (k : Int)
          · have bc : (cu == (k : Int)) = true := by rw [hc]; simp
            have hs9 := HS7.out.putT hh 1 (by simpa using htl) (by decide) (.int .i64 (-1)) (fun t => { t with cu := -1 }) (fun _ => rfl) rfl
            rw [modT_modT, modT_congr htl (g := outC k) (by unfold outC; rw [← HCU.out, if_pos hc])] at hs9
            have HS9 := Aside0.mk hs9
            have HM9 := Aside0.mk (HM8.out.setCell (p := ⟨L.bt, hh * 3 + 1, none⟩) (.inl HR.out.ob.2.2.2.1) (.int .i64 (-1)))
            clear hs9 hc
            go_wp2
            go_roundw
            case rel => exact ⟨k + 1, _, by go_num, by omega, ⟨by rw [HR1.out]; exact HS9.out⟩, HM9⟩
            case measure => simp [intOf]; omega
          · have bc : (cu == (k : Int)) = false := by simpa using hc
            have HS9 := Aside0.mk (show SR w7 own { L with qs := qs.set hh q7 } (s5.modT hh (outC k)) by
              have := HS7.out
              rwa [modT_congr htl (g := outC k) (by unfold outC; rw [← HCU.out, if_neg hc, HCU.out])] at this)
            clear hc
            go_wp2
            go_roundw
            case rel => exact ⟨k + 1, _, by go_num, by omega, ⟨by rw [HR1.out]; exact HS9.out⟩, HM8⟩
            case measure => simp [intOf]; omega
      · have HRM := Aside0.mk (show removeTo s g (k + 1) = sk by rw [HT.out]; unfold removeE; rw [if_neg hgu])
        have bgu : ((sk.ent k).gu == (g : Int)) = false := by simpa using hgu
        obtain ⟨gu, hgue⟩ : ∃ gu, gu = (sk.ent k).gu := ⟨_, rfl⟩
        rw [← hgue] at y0 bgu
        clear hgu hgue y6 yf hT heg
        go_wp2
        go_roundw
        case rel => exact ⟨k + 1, qs, by go_num, by omega, ⟨by rw [HRM.out]; exact HS1.out⟩, HM1⟩
        case measure => simp [intOf]; omega
    · have hke : k = s.es.length := by omega
      subst hke
      go_wp2
      go_end0
      exact ⟨rfl, qs, HS1.out, HM1.out⟩
theorem SB.remove {W : World} {own : Nat → Prop} {b : Nat} {s : SS} (h : SB W own b s) (g : Nat) (hg : g < s.gs.length) :
    Calls Try.prog 30 #[.pointer (some ⟨b, 0, none⟩), .int .i64 (g : Int)] W fun x w' => x = .returned (.tuple #[]) ∧ SB w' own b (removeTo s g s.es.length) ∧ Mut own W w' := by
  obtain ⟨L, rfl, hx⟩ := h
  refine (remove_walk hx.r hx.w g hg).mono ?_
  rintro x w' ⟨rfl, qs, h1, h2⟩
  have hre := (removeTo_re hx.w g s.es.length (Nat.le_refl _)).1
  refine ⟨rfl, ⟨{ L with qs := qs }, rfl, ⟨h1, ?_, hre.wf, hre.cntC hx.c, hre.cntR hx.n⟩⟩, h2⟩
  show L.pv = pickV { L with qs := qs } (removeTo s g s.es.length)
  rw [hx.p]; unfold pickV; rw [hre.st.cr]
end Go.Proofs.Ytdaadmjppikebaa.SC
