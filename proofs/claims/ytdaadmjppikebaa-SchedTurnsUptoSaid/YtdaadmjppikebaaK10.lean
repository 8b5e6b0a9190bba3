import Derived.Test.YtdaadmjppikebaaK9
import Derived.Test.YtdaadmjppikebaaOpen
/- Parts of the walk of package sched, merged. -/
/- SchedTurns, plain: what is picked where there are no gangs and no credit. -/
namespace Go.Proofs.Ytdaadmjppikebaa.SC
open Go.RowKit
open Go.Proofs.Ytdaadmjppikebaa.PV (S94 k94 S29 k29 rd_T94 rd_T29)
set_option linter.unusedVariables false
set_option linter.unusedSimpArgs false

theorem modE_gn (s : SS) (i : Nat) (f : SE → SE) (hf : ∀ x, (f x).gn = x.gn) (j : Nat) : ((s.modE i f).ent j).gn = (s.ent j).gn := by
  unfold SS.modE SS.ent
  simp only [List.getD_eq_getElem?_getD, List.getElem?_modify]
  cases h : s.es[j]? with
  | none => simp
  | some x =>
    simp only [Option.map_eq_map, Option.map_some, Option.getD_some]
    split
    · exact hf x
    · rfl
theorem ranF_gn (s : SS) (g : Int) (h : Nat) (e : Int) (j : Nat) : ((ranF s g h e).ent j).gn = (s.ent j).gn := by
  unfold ranF
  split
  · rfl
  · split
    · exact modE_gn s e.toNat (fun x => { x with rn := x.rn + 1, cd := max (x.cd - 1) (-limitF s) }) (fun _ => rfl) j
    · exact modE_gn s e.toNat (fun x => { x with rn := x.rn + 1 }) (fun _ => rfl) j
theorem tickH_gn {s : SS} (hw : Wf s) (g : Int) (h : Nat) (rd : List Bool) (j : Nat) : ((tickH s g h rd).ent j).gn = (s.ent j).gn := by
  unfold tickH
  rw [ranF_gn]
  have h1 := (pickF_pk hw h rd)
  have h2 := (chargeF_tk h1.wf g h (pickF s h rd).1).2.1
  unfold SS.ent
  rw [h2, h1.es]
theorem tickFrom_gn (g : Int) (rd : List Bool) : ∀ (f h : Nat) (s : SS) (k : Int), Wf s → g = gangF s → ((h + f : Nat) : Int) ≤ s.H → CntC s k → CntR s k → ∀ j, ((tickFrom g rd f h s).ent j).gn = (s.ent j).gn
  | 0, h, s, k, hw, _, _, hc, hr, j => rfl
  | f + 1, h, s, k, hw, hg, hh, hc, hr, j => by
    obtain ⟨h1, h2, h3⟩ := tickH_tk hw hg (h := h) (by omega) rd hc hr
    exact (tickFrom_gn g rd f (h + 1) (tickH s g h rd) (k + 1) h1.wf (by rw [h1.st.gang h1.now]; exact hg) (by rw [h1.st.H]; omega) h2 h3 j).trans (tickH_gn hw g h rd j)
theorem tickF_gn {s : SS} (rd : List Bool) (hw : Wf s) (hn : s.now < 4611686018427387904) (hc : CntC s 0) (hr : CntR s 0) (j : Nat) : ((tickF s rd).ent j).gn = (s.ent j).gn := by
  have hH1 := hw.H1
  have hH8 := hw.H8
  have g1 := tickFrom_gn (gangF s) rd s.H.toNat 0 s 0 hw rfl (by omega) hc hr j
  obtain ⟨h1, h2, h3⟩ := tickFrom_tk (gangF s) rd s.H.toNat 0 s 0 hw rfl (by omega) hc hr
  obtain ⟨e1, e2⟩ := tickE_wf h1.wf (gangF s) (by rw [h1.now]; exact hn)
  have g2 : ((tickE (tickFrom (gangF s) rd s.H.toNat 0 s) (gangF s)).ent j).gn = (s.ent j).gn := g1
  show ((if (tickE (tickFrom (gangF s) rd s.H.toNat 0 s) (gangF s)).now % (tickE (tickFrom (gangF s) rd s.H.toNat 0 s) (gangF s)).P = 0 ∧ (tickE (tickFrom (gangF s) rd s.H.toNat 0 s) (gangF s)).cr = true then giveF (tickE (tickFrom (gangF s) rd s.H.toNat 0 s) (gangF s)) else tickE (tickFrom (gangF s) rd s.H.toNat 0 s) (gangF s)).ent j).gn = _
  split
  · rw [((giveF_gk e1).gn j).1]; exact g2
  · exact g2
/-- Partitioned, no gangs, nobody gone. -/
structure TP (m n : Nat) (S : Int) (s : SS) : Prop where
  H : s.H = m
  S : s.S = S
  cr : s.cr = false
  en : s.es.length = n
  g : ∀ i, (s.gst i).g = false
  gn : ∀ i, (s.ent i).gn = false
  sh : s.sh = s.now
theorem no_gang : ∀ (l : List SG) (i : Nat) (a : Int), (∀ x ∈ l, x.g = false) → gangGo l i a = -1
  | [], _, _, _ => rfl
  | x :: r, i, a, h => by
    unfold gangGo
    rw [if_neg (by rw [h x List.mem_cons_self]; decide)]
    exact no_gang r (i + 1) a (fun y hy => h y (List.mem_cons_of_mem _ hy))
theorem TP.gang {m n : Nat} {S : Int} {s : SS} (h : TP m n S s) : gangF s = -1 := by
  unfold gangF
  refine no_gang _ _ _ (fun x hx => ?_)
  obtain ⟨i, hi, rfl⟩ := List.getElem_of_mem hx
  have := h.g i
  unfold SS.gst at this
  rw [List.getD_eq_getElem?_getD, List.getElem?_eq_getElem hi] at this
  exact this
theorem TP.tick {m n : Nat} {S : Int} {s : SS} (h : TP m n S s) (rd : List Bool) (hw : Wf s) (hn : s.now < 4611686018427387904) (hc : CntC s 0) (hr : CntR s 0) : TP m n S (tickF s rd) := by
  have ht := tickF_tf rd hw hn hc hr
  exact ⟨ht.st.H.trans h.H, ht.st.S.trans h.S, ht.st.cr.trans h.cr, ht.st.el.trans h.en, fun i => by rw [ht.st.gst]; exact h.g i, fun i => (tickF_gn rd hw hn hc hr i).trans (h.gn i), by rw [ht.sh, ht.now, h.gang, if_pos (by decide), h.sh]⟩
theorem TP.gng {m n : Nat} {S : Int} {s : SS} (h : TP m n S s) (i : Nat) : s.gng i = false := h.g _
theorem TP.plainP {m n : Nat} {S : Int} {s : SS} (h : TP m n S s) (a i : Nat) : plainP s (a : Int) i = decide (i % m = a) := by
  unfold SC.plainP homeOf
  rw [if_neg (by rw [h.gng]; decide), h.gng, h.H]
  simp only [Bool.not_false, Bool.and_true]
  by_cases e : i % m = a
  · have : (i : Int) % (m : Int) = (a : Int) := by omega
    simp [e, this]
  · have : ¬ (i : Int) % (m : Int) = (a : Int) := by omega
    simp [e, this]
theorem TP.skip {m n : Nat} {S : Int} {s : SS} (h : TP m n S s) (a k : Nat) : ∀ d : Nat, (∀ i, k ≤ i → i < k + d → i % m ≠ a) → plainTo s (a : Int) (k + d) = plainTo s (a : Int) k
  | 0, _ => rfl
  | d + 1, hi => by
    rw [← Nat.add_assoc, plainTo_succ, h.plainP, decide_eq_false (hi (k + d) (by omega) (by omega))]
    simp only [Bool.false_eq_true, if_false, List.append_nil]
    exact TP.skip h a k d (fun i h1 h2 => hi i h1 (by omega))
/-- The entities of a hart, taken one by one. -/
theorem TP.plain0 {m n : Nat} {S : Int} {s : SS} (h : TP m n S s) (a k : Nat) (ha : a < m) (hk : k ≤ a) : plainTo s (a : Int) k = [] := by
  have := h.skip a 0 k (fun i _ hi => by rw [Nat.mod_eq_of_lt (by omega)]; omega)
  rw [Nat.zero_add] at this
  rw [this]; rfl
theorem TP.plain1 {m n : Nat} {S : Int} {s : SS} (h : TP m n S s) (a j k : Nat) (ha : a < m) (h1 : a + m * j < k) (h2 : k ≤ a + m * (j + 1)) : plainTo s (a : Int) k = plainTo s (a : Int) (a + m * j) ++ [((a + m * j : Nat) : Int)] := by
  have e : k = (a + m * j + 1) + (k - (a + m * j + 1)) := by omega
  rw [e, h.skip a (a + m * j + 1) (k - (a + m * j + 1)) (fun i hi1 hi2 => ?_), plainTo_succ, h.plainP]
  · rw [decide_eq_true (by rw [Nat.add_mul_mod_self_left, Nat.mod_eq_of_lt ha])]
    rfl
  · have e2 : i = (i - m * j) + m * j := by omega
    have hm : m * (j + 1) = m * j + m := Nat.mul_succ m j
    rw [e2, Nat.add_mul_mod_self_left]
    rcases Nat.lt_or_ge (i - m * j) m with q | q
    · rw [Nat.mod_eq_of_lt q]; omega
    · rw [Nat.mod_eq_sub_mod q, Nat.mod_eq_of_lt (by omega)]; omega
theorem TP.pick {m n : Nat} {S : Int} {s : SS} (h : TP m n S s) (a : Nat) (ha : a < m) (rd : List Bool) : pickF s (a : Int) rd = (byTurnF s (a : Int) rd, s) := by
  unfold pickF
  rw [if_neg (by rw [h.H]; omega), if_neg (by rw [h.gang]; omega), if_neg (by rw [h.cr]; decide)]
theorem TP.byTurn {m n : Nat} {S : Int} {s : SS} (h : TP m n S s) (a : Nat) (rd : List Bool) (l : List Int) (hl : plainL s (a : Int) = l) (t : Int) (ht : s.now = t) : byTurnF s (a : Int) rd = if l.length = 0 then -1 else (if (decide (l.getD (t / S % l.length).toNat 0 < rd.length) && rd.getD (l.getD (t / S % l.length).toNat 0).toNat false) = true ∧ 0 ≤ l.getD (t / S % l.length).toNat 0 then l.getD (t / S % l.length).toNat 0 else -1) := by
  subst hl
  subst ht
  unfold byTurnF whoseF
  by_cases h0 : (plainL s (a : Int)).length = 0
  · rw [if_pos h0, if_pos h0, if_neg (by omega)]
  · rw [if_neg h0, if_neg h0, h.S, h.sh]
    unfold readyF
    rw [h.gn]
    simp only [Bool.not_false, Bool.and_true]
    by_cases c1 : 0 ≤ (plainL s (a : Int)).getD (s.now / S % ((plainL s (a : Int)).length : Int)).toNat 0
    · by_cases c2 : (decide ((plainL s (a : Int)).getD (s.now / S % ((plainL s (a : Int)).length : Int)).toNat 0 < rd.length) && rd.getD ((plainL s (a : Int)).getD (s.now / S % ((plainL s (a : Int)).length : Int)).toNat 0).toNat false) = true
      · rw [if_pos ⟨c1, c2⟩, if_pos ⟨c2, c1⟩]
      · rw [if_neg (fun h => c2 h.2), if_neg (fun h => c2 h.1)]
    · rw [if_neg (fun h => c1 h.1), if_neg (fun h => c1 h.2)]
end Go.Proofs.Ytdaadmjppikebaa.SC

/- SchedTurns: its conf may be, and is without gangs. -/
namespace Go.Proofs.Ytdaadmjppikebaa.SC
open Go.RowKit
open Go.Proofs.Ytdaadmjppikebaa.PV (S94 k94 S29 k29 rd_T94 rd_T29)
set_option linter.unusedVariables false
set_option linter.unusedSimpArgs false

def TG (ys : List S29) : Prop := ∀ y ∈ ys, 1 ≤ y.f0 ∧ y.f0 ≤ 3 ∧ y.f1 = 1 ∧ y.f2 = false
theorem tg_ents : ∀ (ys : List S29) (i : Nat), TG ys → (entsL i (confL ys)).length ≤ 3 * ys.length
  | [], _, _ => by simp [confL, entsL]
  | y :: r, i, h => by
    have h1 := h y List.mem_cons_self
    have h2 := tg_ents r (i + 1) (fun z hz => h z (List.mem_cons_of_mem _ hz))
    show (entsTo i _ y.f0.toNat ++ entsL (i + 1) (confL r)).length ≤ _
    rw [List.length_append, entsTo_len, List.length_cons]
    omega
theorem tg_gang : ∀ (ys : List S29), TG ys → gSum (confL ys) = 0
  | [], _ => rfl
  | y :: r, h => by
    have h1 := h y List.mem_cons_self
    have h2 := tg_gang r (fun z hz => h z (List.mem_cons_of_mem _ hz))
    have h3 : gSum (confL (y :: r)) = (if y.f2 = true then y.f1 else 0) + gSum (confL r) := by simp [gSum, confL]
    rw [h3, h2, h1.2.2.2]; rfl
theorem turns_ok {m : Nat} {S : Int} {ys : List S29} (hm : 1 ≤ m ∧ m ≤ 4) (hS : 1 ≤ S ∧ S ≤ 5) (h1 : 1 ≤ ys.length) (h5 : ys.length ≤ 5) (hy : TG ys) : NOk m S 7 (confL ys) where
  m1 := hm.1
  m8 := by omega
  S1 := hS.1
  S2 := by omega
  P1 := by decide
  P2 := by decide
  g1 := by simpa [confL] using h1
  g8 := by simp [confL]; omega
  x := by
    intro x hx
    unfold confL at hx
    obtain ⟨y, hy1, rfl⟩ := List.mem_map.1 hx
    have := hy y hy1
    exact ⟨this.1, by show y.f0 ≤ 64; omega, by show 1 ≤ y.f1; omega, by show y.f1 ≤ 1000; omega, fun h => by rw [this.2.2.2] at h; cases h⟩
  e := by have := tg_ents ys 0 hy; omega
  t := by rw [ticks_sum, tg_gang ys hy]; decide
theorem turns_tp {m : Nat} {S : Int} {ys : List S29} (hy : TG ys) : TP m (entsL 0 (confL ys)).length S (newF m S 7 false (confL ys)) where
  H := rfl
  S := rfl
  cr := rfl
  en := rfl
  g := by
    intro i
    show ((guestsL (confL ys)).getD i g0).g = false
    rw [List.getD_eq_getElem?_getD]
    unfold guestsL confL
    rw [List.map_map, List.getElem?_map]
    cases h : ys[i]? with
    | none => rfl
    | some y => exact (hy y (List.mem_of_getElem? h)).2.2.2
  gn := by
    intro i
    rcases Nat.lt_or_ge i (entsL 0 (confL ys)).length with q | q
    · obtain ⟨j, x, k, h1, h2, h3⟩ := new_ent (m := m) (S := S) (P := 7) (cr := false) q
      show ((newS0 m S 7 false (confL ys)).ent i).gn = false
      rw [h3]
    · show ((entsL 0 (confL ys)).getD i e0).gn = false
      rw [List.getD_eq_getElem?_getD, List.getElem?_eq_none q]; rfl
  sh := rfl
/-- What holds while SchedTurns ticks. -/
structure TW (W0 W : World) (own : Nat → Prop) (b gb : Nat) (s : SS) (A : Option Addr) (c : Nat) (rd : List Bool) (H S : Int) (gv : Value) (m n : Nat) (t : Int) : Prop where
  X : SB W own b s
  L : RL W own A c rd
  P : TP m n S s
  N : s.now = t
  G : Blk W gb 27 [.int .i64 H, .int .i64 S, .int .i64 7, .bool false, gv]
  B : Below W0.heap.size W0 W
  O : ∀ k, own k → W0.heap.size ≤ k ∧ k ≠ gb
section
variable {W0 W w' : World} {own own' : Nat → Prop} {b gb : Nat} {s s' : SS} {A : Option Addr} {c : Nat} {rd : List Bool} {H S : Int} {gv : Value} {m n : Nat} {t t' : Int}
theorem TW.below (h : TW W0 W own b gb s A c rd H S gv m n t) (hb : Below W.heap.size W w') : TW W0 w' own b gb s A c rd H S gv m n t :=
  ⟨h.X.below hb, h.L.below hb, h.P, h.N, h.G.below hb, h.B.trans (hb.mono h.B.size), h.O⟩
theorem TW.then_ (h : TW W0 W own b gb s A c rd H S gv m n t) (hs : SB w' own' b s') (ht : Then W own w' own') (hp : TP m n S s') (hn : s'.now = t') : TW W0 w' own' b gb s' A c rd H S gv m n t' :=
  ⟨hs, h.L.then_ ht, hp, hn, h.G.mut ht.m (fun e => (h.O _ e).2 rfl), h.B.trans (ht.m.to_below h.B.size (fun k hk => (h.O k hk).1)), fun k hk => (ht.z k hk).elim (h.O k) (fun h2 => ⟨Nat.le_trans h.B.size h2, fun e => by have := h.G.lt; omega⟩)⟩
theorem TW.tick (h : TW W0 W own b gb s A c rd H S gv m n t) (ht : 0 ≤ t ∧ t ≤ 60) : Calls Try.prog 18 #[.pointer (some ⟨b, 0, none⟩), .slice A rd.length c] W fun x w' => x = .returned (.tuple #[]) ∧ ∃ own' s', TW W0 w' own' b gb s' A c rd H S gv m n (t + 1) := by
  have hn := h.N
  refine (h.X.tick (by omega) h.L).mono ?_
  rintro x w' ⟨rfl, own', hs, htn⟩
  have hp := h.P.tick rd h.X.wf (by omega) h.X.cntC h.X.cntR
  have htf := tickF_tf rd h.X.wf (by omega) h.X.cntC h.X.cntR
  exact ⟨rfl, own', _, h.then_ hs htn hp (by rw [htf.now, hn])⟩
theorem TW.pick (h : TW W0 W own b gb s A c rd H S gv m n t) (a : Nat) (ha : a < m) : Calls Try.prog 17 #[.pointer (some ⟨b, 0, none⟩), .int .i64 (a : Int), .slice A rd.length c] W fun x w' => x = .returned (.int .i64 (byTurnF s (a : Int) rd)) ∧ ∃ own', TW W0 w' own' b gb s A c rd H S gv m n t := by
  refine (h.X.pick h.L (a : Int)).mono ?_
  rintro x w' ⟨rfl, own', hs, htn⟩
  rw [h.P.pick a ha rd] at hs ⊢
  exact ⟨rfl, own', h.then_ hs htn h.P h.N⟩
end
end Go.Proofs.Ytdaadmjppikebaa.SC

/- SchedTurns. -/
namespace Go.Proofs.Ytdaadmjppikebaa.SC
open Go.RowKit Go.Proofs.YtdaadmjppikebaaW.PrintWords Go.Proofs.YtdaadmjppikebaaW.PrintLast
open Go.Proofs.Ytdaadmjppikebaa.PV (S94 k94 S29 k29 rd_T94 rd_T29)
set_option linter.unusedVariables false
set_option linter.unusedSimpArgs false

/-- The law's conf in the block g. -/
structure CB (W0 W : World) (g : Nat) (H S P : Int) (cr : Bool) (gv : Value) (ys : List S29) : Prop where
  b : Blk W g 27 [.int .i64 H, .int .i64 S, .int .i64 P, .bool cr, gv]
  r : Kd.R k29 29 W W0.heap.size (fun _ => True) gv ys
  B : Below W0.heap.size W0 W
  g : W0.heap.size ≤ g
theorem k29_ok {e b : Nat} {ok ok' : Nat → Prop} {W : World} {v : Value} {xs : List S29} (h : k29.R e W b ok v xs) (hok : ∀ k, v.ownBlock = some k → ok' k) : k29.R e W b ok' v xs := by
  obtain ⟨_, inner, ho, hr⟩ := h
  refine ⟨hok, inner, ho, hr.imp_ (fun p c hp => ?_)⟩
  have := PV.k29_openM hp
  subst this
  exact PV.k29_mkM _ _ _ p
theorem k29_mut {e b : Nat} {ok S : Nat → Prop} {W W' : World} {v : Value} {xs : List S29} (h : k29.R e W b ok v xs) (hm : Mut S W W') (hne : ∀ k, v.ownBlock = some k → ¬ S k) : k29.R e W' b ok v xs :=
  k29_ok (Kd.R_kept (k29_ok h (ok' := fun k => v.ownBlock = some k) (fun k hk => hk)) hm.kept hne) h.1
theorem CB.below {W0 W W' : World} {g : Nat} {H S P : Int} {cr : Bool} {gv : Value} {ys : List S29} (h : CB W0 W g H S P cr gv ys) (hb : Below W.heap.size W W') : CB W0 W' g H S P cr gv ys :=
  ⟨h.b.below hb, Kd.R_below h.r hb, h.B.trans (hb.mono h.B.size), h.g⟩
theorem CB.grow {W0 W W1 : World} {g : Nat} {H S P : Int} {cr : Bool} {gv v1 : Value} {ys ys1 : List S29} (h : CB W0 W g H S P cr gv ys) (hg : W.grownBy W1 gv.ownBlock) (ho : k29.R 29 W1 W0.heap.size (fun _ => True) v1 ys1) (hb : Below W0.heap.size W0 W1) : CB W0 (W1.setCell ⟨g, 4, none⟩ v1) g H S P cr v1 ys1 := by
  have hS1 : Blk W1 g 27 _ := h.b.mut (below_mut0 hg) (fun e => blk_own h.r h.b (by decide) _ e rfl)
  exact ⟨hS1.set 4 v1, k29_mut ho (set_mut _ _ _) (fun k hk e => blk_own ho hS1 (by decide) k hk e), hb.setCell h.g _, h.g⟩
theorem CB.put {W0 W W1 : World} {g : Nat} {H S P : Int} {cr : Bool} {gv v1 : Value} {ys ys1 : List S29} (h : CB W0 W g H S P cr gv ys) (hb : Below W.heap.size W W1) (ho : k29.R 29 W1 W.heap.size (fun _ => True) v1 ys1) : CB W0 (W1.setCell ⟨g, 4, none⟩ v1) g H S P cr v1 ys1 := by
  have h1 := h.below hb
  exact ⟨h1.b.set 4 v1, k29_mut (Kd.R_lower ho h.B.size) (set_mut _ _ _) (fun k hk e => blk_own ho h1.b (by decide) k hk e), h1.B.setCell h.g _, h.g⟩
theorem set5 {w5 : World} {gb t : Nat} {z : Array Value} (hz : z.size = 5) (h : w5.heap[gb]? = some (.cells z t (0, 0))) (v0 v1 v2 v3 v4 : Value) :
    Blk (((((w5.setCell ⟨gb, 0, none⟩ v0).setCell ⟨gb, 1, none⟩ v1).setCell ⟨gb, 2, none⟩ v2).setCell ⟨gb, 3, none⟩ v3).setCell ⟨gb, 4, none⟩ v4) gb t [v0, v1, v2, v3, v4] ∧
    Mut (fun k => k = gb) w5 (((((w5.setCell ⟨gb, 0, none⟩ v0).setCell ⟨gb, 1, none⟩ v1).setCell ⟨gb, 2, none⟩ v2).setCell ⟨gb, 3, none⟩ v3).setCell ⟨gb, 4, none⟩ v4) := by
  have hB : Blk w5 gb t z.toList := ⟨z, h, fun i v hv => by simpa using hv⟩
  obtain ⟨a0, a1, a2, a3, a4, e⟩ : ∃ a0 a1 a2 a3 a4, z.toList = [a0, a1, a2, a3, a4] := by
    have hl : z.toList.length = 5 := by simpa using hz
    match z.toList, hl with
    | [a0, a1, a2, a3, a4], _ => exact ⟨a0, a1, a2, a3, a4, rfl⟩
  rw [e] at hB
  exact ⟨((((hB.set 0 v0).set 1 v1).set 2 v2).set 3 v3).set 4 v4, ((((((Mut.refl _ w5).set1 0 v0).set1 1 v1).set1 2 v2).set1 3 v3).set1 4 v4)⟩
theorem cell_old {W : World} {ad : Addr} {l : List Int} {i : Nat} (h : Kd.C (Kd.int .i64) W (some ad) l.length l) (hi : i < l.length) : (ad.add i).block < W.heap.size := by
  obtain ⟨ad', e, hc⟩ := Kd.at_int h (i : Int) (by omega) (by omega)
  cases e
  rw [Int.toNat_natCast] at hc
  exact World.block_lt_of_cell? _ _ hc
theorem want_of {ls : List Int} {cs : List Bool} {q : Int} {n : Nat} {b : Int} (hl : ls.length ≠ 0)
    (hb : b = if ls.length = 0 then -1 else (if (decide (ls.getD (q % ls.length).toNat 0 < cs.length) && cs.getD (ls.getD (q % ls.length).toNat 0).toNat false) = true ∧ 0 ≤ ls.getD (q % ls.length).toNat 0 then ls.getD (q % ls.length).toNat 0 else -1))
    (hm : ∀ x ∈ ls, 0 ≤ x ∧ x < (n : Int)) (hn : cs.length = n) (h0 : 0 ≤ q % (ls.length : Int)) (h1 : q % (ls.length : Int) < (ls.length : Int)) :
    ∃ x : Nat, rd ls (q % (ls.length : Int)) = (x : Int) ∧ x < n ∧ b = if rdOf false cs (x : Int) = true then (x : Int) else -1 := by
  have hx : ls.getD (q % (ls.length : Int)).toNat 0 ∈ ls := by
    rw [List.getD_eq_getElem?_getD, List.getElem?_eq_getElem (by omega : (q % (ls.length : Int)).toNat < ls.length), Option.getD_some]
    exact List.getElem_mem _
  obtain ⟨h2, h3⟩ := hm _ hx
  rw [if_neg hl] at hb
  obtain ⟨x, hxx⟩ : ∃ x : Nat, ls.getD (q % (ls.length : Int)).toNat 0 = (x : Int) := ⟨(ls.getD (q % (ls.length : Int)).toNat 0).toNat, by omega⟩
  rw [hxx] at hb h3
  refine ⟨x, hxx, by omega, ?_⟩
  rw [hb]
  have e1 : decide ((x : Int) < (cs.length : Int)) = true := by simp; omega
  have e2 : rdOf false cs (x : Int) = cs.getD x false := by unfold rdOf; simp
  rw [e1, e2, Bool.true_and, Int.toNat_natCast]
  by_cases c : cs.getD x false = true
  · rw [if_pos ⟨c, by omega⟩, if_pos c]
  · rw [if_neg (fun h => c h.1), if_neg c]
set_option maxRecDepth 100000 in
set_option maxHeartbeats 3200000 in
theorem turns_calls {W : World} {harts slice ticks ready : Int} {A : Option Addr} {c : Nat} {l : List Int} (hC : Kd.C (Kd.int .i64) W A l.length l) (hc : l.length ≤ c) :
    Calls Try.prog 3 #[.int .i64 harts, .int .i64 slice, .slice A l.length c, .int .i64 ticks, .int .u64 ready] W fun x w' => x = .returned (.bool true) ∧ Below W.heap.size W w' := by
  obtain ⟨r1, hr1, h11, h12⟩ := mod_f harts 4 (by decide) (by decide)
  obtain ⟨r2, hr2, h21, h22⟩ := mod_f slice 5 (by decide) (by decide)
  obtain ⟨T, hT, hT1, hT2⟩ := mod_f ticks 60 (by decide) (by decide)
  have HC := Aside0.mk hC
  have N1 := Aside0.mk hr1
  have N2 := Aside0.mk hr2
  have NT := Aside0.mk hT
  clear hC hr1 hr2 hT
  go_enter Try.func3, Try.ntmps3
  go_upto_region 2 with (first | (go_at_call 12; with_reducible refine (mod_calls harts 4 r1 _ N1.out).mono ?_; rintro e w1 ⟨rfl, hb⟩; have HB1 := Aside0.mk hb; clear hb) | (go_at_call 12; with_reducible refine (mod_calls slice 5 r2 _ N2.out).mono ?_; rintro e w2 ⟨rfl, hb⟩; have HB2 := Aside0.mk (below_step HB1.out hb); clear hb) | ((with_reducible refine gate_dst (N := 11) rfl ?_); (try (refine gate_guard (by rfl) ?_; dsimp only)); refine box_event ?hg (N := 11) ?hd (cs := #[.int .i64 0, .int .i64 0, .int .i64 0, .bool false, .slice none 0 0]) (t := 27) ?hr ?_; (case hd => rfl); (case hg => rfl); (case hr => first | (go_simp; done) | (go_simp; rfl)); intro gb hg w5 hbox hb; have z0 : w5.cell? ⟨gb, 0, none⟩ = some (.int .i64 0) := (blk_cell hbox 0).trans rfl; have zf0 := blk_frozen hbox 0; have z1 : w5.cell? ⟨gb, 1, none⟩ = some (.int .i64 0) := (blk_cell hbox 1).trans rfl; have zf1 := blk_frozen hbox 1; have z2 : w5.cell? ⟨gb, 2, none⟩ = some (.int .i64 0) := (blk_cell hbox 2).trans rfl; have zf2 := blk_frozen hbox 2; have z3 : w5.cell? ⟨gb, 3, none⟩ = some (.bool false) := (blk_cell hbox 3).trans rfl; have zf3 := blk_frozen hbox 3; have z4 : w5.cell? ⟨gb, 4, none⟩ = some (.slice none 0 0) := (blk_cell hbox 4).trans rfl; have zf4 := blk_frozen hbox 4; have HBX := Aside0.mk hbox; have HGB := Aside0.mk hg; have HB5 := Aside0.mk (below_step HB2.out hb); clear hg hbox hb))
  have HS5 := Aside0.mk (set5 rfl HBX.out (.int .i64 (1 + r1)) (.int .i64 (1 + r2)) (.int .i64 7) (.bool false) (.slice none 0 0))
  obtain ⟨w6, hw6⟩ : ∃ w6, w6 = (((((w5.setCell ⟨gb, 0, none⟩ (.int .i64 (1 + r1))).setCell ⟨gb, 1, none⟩ (.int .i64 (1 + r2))).setCell ⟨gb, 2, none⟩ (.int .i64 7)).setCell ⟨gb, 3, none⟩ (.bool false)).setCell ⟨gb, 4, none⟩ (.slice none 0 0)) := ⟨_, rfl⟩
  rw [← hw6] at HS5 ⊢
  have HG0 := Aside0.mk (show W.heap.size ≤ gb by rw [HGB.out]; exact HB2.out.size)
  have HCB := Aside0.mk (show CB W w6 gb (1 + r1) (1 + r2) 7 false (.slice none 0 0) [] from ⟨HS5.out.1, Kd.R_nil _ _ _ _ _, HB5.out.trans (HS5.out.2.to_below HB5.out.size (fun k hk => by rw [hk]; exact HG0.out)), HG0.out⟩)
  clear hw6 z0 z1 z2 z3 z4 zf0 zf1 zf2 zf3 zf4 HS5 HBX HGB HB5 HB1 HB2
  go_upto_block 0 with (fail)
  go_cut [12] (fun v12 wc => ∃ (i : Nat) (gv : Value) (ys : List S29), v12 = .int .i64 (i : Int) ∧ ys.length ≤ 5 ∧ Aside0 (∀ y ∈ ys, 1 ≤ y.f0 ∧ y.f0 ≤ 3 ∧ y.f1 = 1 ∧ y.f2 = false) ∧ Aside0 (CB W wc gb (1 + r1) (1 + r2) 7 false gv ys))
  case first =>
   go_wp2_with (fail)
   go_loopw [12] (fun v12 w' => ∃ (i : Nat) (gv : Value) (ys : List S29), v12 = .int .i64 (i : Int) ∧ i ≤ 5 ∧ i ≤ l.length ∧ ys.length = i ∧ Aside0 (∀ y ∈ ys, 1 ≤ y.f0 ∧ y.f0 ≤ 3 ∧ y.f1 = 1 ∧ y.f2 = false) ∧ Aside0 (CB W w' gb (1 + r1) (1 + r2) 7 false gv ys)) (fun v12 _ => 5 - (intOf v12).toNat)
   case atStart => exact ⟨0, _, [], rfl, by omega, by omega, rfl, ⟨fun y hy => by simp at hy⟩, HCB⟩
   case round =>
     obtain ⟨i, gv, ys, rfl, hi5, hil, hyl, HY, HCBr⟩ := hrel
     clear HCB
     by_cases hlt : i < l.length ∧ i < 5
     · obtain ⟨hlt1, hlt2⟩ := hlt
       obtain ⟨ad, e0, hx⟩ := Kd.at_int (Kd.C_below HC.out HCBr.out.B) (i : Int) (by omega) (by omega)
       subst e0
       obtain ⟨x, hxx⟩ : ∃ x, x = rd l (i : Int) := ⟨_, rfl⟩
       rw [← hxx, Int.toNat_natCast] at hx
       obtain ⟨r3, hr3, h31, h32⟩ := mod_f x 3 (by decide) (by decide)
       have N3 := Aside0.mk hr3
       have HXN := Aside0.mk (show ∀ k, gv.ownBlock = some k → k ≠ (ad.add i).block from fun k hk e => by have h1 := Kd.R_base HCBr.out.r k hk; have h2 := cell_old HC.out hlt1; rw [e] at h1; omega)
       have HLx := Aside0.mk (World.block_lt_of_cell? _ _ hx)
       obtain ⟨w6, hw6⟩ : ∃ w6, w6 = wr := ⟨_, rfl⟩
       rw [← hw6] at HCBr hx HLx ⊢
       have HCd := Aside0.mk (HCBr.out.below (below_drew (Below.refl _ _)))
       have ze0 : w6.drew.cell? ⟨gb, 4, none⟩ = some gv := HCd.out.b.cell rfl
       have ze1 : w6.drew.cell? (ad.add i) = some (.int .i64 x) := pw_cell_below (below_drew (Below.refl _ _)) hx
       clear hw6 hr3 hxx
       go_upto_region 5 with (fail)
       refine start_ (n := 13) (S := fun w' => w'.cell? ⟨gb, 4, none⟩ = some gv ∧ w'.cell? (ad.add i) = some (.int .i64 x)) (ds := [12]) #[false, false, false, false, false, false, false, false, false, false, false, false, false] (by kernel_rfl) rfl rfl ⟨ze0, ze1⟩ (fun hHeld => ?_)
       refine pure_ (i := 0) (N := some 39) (v := ?_) (a' := ?_) #[true, false, false, false, false, false, false, false, false, false, false, false, false] rfl rfl (by kernel_rfl) (fun _ _ _ h => h) (Or.inl ⟨by rfl, ?_⟩) ?_ ?_
       rotate_left
       · intro w'
         go_simp
         with_reducible rfl
       rotate_left
       · simp only [Act.put, List.setIfInBounds_toArray, List.set_cons_zero, List.set_cons_succ, i64_w, i32_w]
         rfl
       refine pure_ (i := 2) (N := some 41) (v := ?_) (a' := ?_) #[true, false, true, false, false, false, false, false, false, false, false, false, false] rfl rfl (by kernel_rfl) (fun _ _ _ h => h) (Or.inl ⟨by rfl, ?_⟩) ?_ ?_
       rotate_left
       · intro w'
         go_simp
         with_reducible rfl
       rotate_left
       · simp only [Act.put, List.setIfInBounds_toArray, List.set_cons_zero, List.set_cons_succ, i64_w, i32_w]
         rfl
       refine pure_ (i := 3) (N := some 42) (v := ?_) (a' := ?_) #[true, false, true, true, false, false, false, false, false, false, false, false, false] rfl rfl (by kernel_rfl) (fun _ _ _ h => h) (Or.inl ⟨by rfl, ?_⟩) ?_ ?_
       rotate_left
       · intro w'
         go_simp
         with_reducible rfl
       rotate_left
       · simp only [Act.put, List.setIfInBounds_toArray, List.set_cons_zero, List.set_cons_succ, i64_w, i32_w]
         rfl
       refine pure_ (i := 4) (N := some 43) (v := ?_) (a' := ?_) #[true, false, true, true, true, false, false, false, false, false, false, false, false] rfl rfl (by kernel_rfl) (fun _ _ _ h => h) (Or.inl ⟨by rfl, ?_⟩) ?_ ?_
       rotate_left
       · intro w'
         go_simp
         with_reducible rfl
       rotate_left
       · simp only [Act.put, List.setIfInBounds_toArray, List.set_cons_zero, List.set_cons_succ, i64_w, i32_w]
         rfl
       refine take_ (i := 1) (N := some 40) (v := ?_) (a' := ?_) #[true, true, true, true, true, false, false, false, false, false, false, false, false] rfl rfl (by kernel_rfl) (fun _ _ _ h => h) (Or.inl ⟨by rfl, ?_⟩) hHeld ?_ ?_
       rotate_left
       · rintro w' ⟨s0, s1⟩
         go_simp
         with_reducible rfl
       rotate_left
       · simp only [Act.put, List.setIfInBounds_toArray, List.set_cons_zero, List.set_cons_succ, i64_w, i32_w]
         rfl
       refine take_ (i := 5) (N := some 44) (v := ?_) (a' := ?_) #[true, true, true, true, true, true, false, false, false, false, false, false, false] rfl rfl (by kernel_rfl) (fun _ _ _ h => h) (Or.inl ⟨by rfl, ?_⟩) hHeld ?_ ?_
       rotate_left
       · rintro w' ⟨s0, s1⟩
         go_simp
         with_reducible rfl
       rotate_left
       · simp only [Act.put, List.setIfInBounds_toArray, List.set_cons_zero, List.set_cons_succ, i64_w, i32_w]
         rfl
       refine one_ (i := 6) (N := some 45) #[true, true, true, true, true, true, true, false, false, false, false, false, false] rfl rfl (by kernel_rfl) (by decide) (fun K hK => ?_)
       refine goes_ Try.func12 (by kernel_rfl) rfl #[.int .i64 x, .int .i64 3] (by rfl) rfl rfl (by simp only [List.map_toArray, List.map_cons, List.map_nil]; rfl) ?_
       refine (mod_calls x 3 r3 _ N3.out).mono ?_
       rintro e w3 ⟨rfl, hb⟩
       refine ⟨_, rfl, ?_⟩
       have HC3 := Aside0.mk (HCd.out.below hb)
       have zc0 : w3.cell? ⟨gb, 4, none⟩ = some gv := HC3.out.b.cell rfl
       have zc1 : w3.cell? (ad.add i) = some (.int .i64 x) := pw_cell_below hb ze1
       clear hb
       refine hK.out _ _ ⟨zc0, zc1⟩ (fun hHeld => ?_)
       clear hK K
       refine norm_ (a' := ?_) ?_ ?_
       rotate_left
       · show Act.put _ (some 45) _ = _
         simp only [Act.put, List.setIfInBounds_toArray, List.set_cons_zero, List.set_cons_succ, i64_w, i32_w]
         rfl
       refine pure_ (i := 7) (N := some 46) (v := ?_) (a' := ?_) #[true, true, true, true, true, true, true, true, false, false, false, false, false] rfl rfl (by kernel_rfl) (fun _ _ _ h => h) (Or.inl ⟨by rfl, ?_⟩) ?_ ?_
       rotate_left
       · intro w'
         go_simp
         with_reducible rfl
       rotate_left
       · simp only [Act.put, List.setIfInBounds_toArray, List.set_cons_zero, List.set_cons_succ, i64_w, i32_w]
         rfl
       refine pure_ (i := 8) (N := some 47) (v := ?_) (a' := ?_) #[true, true, true, true, true, true, true, true, true, false, false, false, false] rfl rfl (by kernel_rfl) (fun _ _ _ h => h) (Or.inl ⟨by rfl, ?_⟩) ?_ ?_
       rotate_left
       · intro w'
         go_simp
         with_reducible rfl
       rotate_left
       · simp only [Act.put, List.setIfInBounds_toArray, List.set_cons_zero, List.set_cons_succ, i64_w, i32_w]
         rfl
       refine one_ (i := 9) (N := some 48) #[true, true, true, true, true, true, true, true, true, true, false, false, false] rfl rfl (by kernel_rfl) (by decide) (fun K hK => ?_)
       refine value_ (w1 := ?_) (v := ?_) (by rfl) rfl ?_ ?_
       rotate_left 2
       · go_simp
         constructor
         · rfl
         · rfl
       refine hK.out _ _ ⟨pw_cell_below (below_alloc (Below.refl _ _) _) zc0, pw_cell_below (below_alloc (Below.refl _ _) _) zc1⟩ (fun hHeld => ?_)
       clear hK K
       refine norm_ (a' := ?_) ?_ ?_
       rotate_left
       · show Act.put _ (some 48) _ = _
         simp only [Act.put, List.setIfInBounds_toArray, List.set_cons_zero, List.set_cons_succ, i64_w, i32_w]
         rfl
       refine one_ (i := 10) (N := some 49) #[true, true, true, true, true, true, true, true, true, true, true, false, false] rfl rfl (by kernel_rfl) (by decide) (fun K hK => ?_)
       rw [wrap64_id (x := 1 + r3) (by omega) (by omega)]
       refine Kd.R_append_step k29 (w0 := W) W.heap.size (by rfl) (.tmp 40) (.tmp 48) 25 29 (.agg #[(.int .i64 0), (.int .i64 0), (.bool false)]) 24 rfl Try.underlying25 info29 rfl (by decide) (by omega) gv ys (⟨1 + r3, 1, false⟩ : S29) [.int .i64 (1 + r3), .int .i64 1, .bool false] (fun _ => True) (fun _ => False) rfl rfl ?aP (fun _ hk => hk.elim) ?aF ?aO ?aB ?aS ?aL ?_
       (case aP => exact PV.k29_mkM _ _ _ (⟨1 + r3, 1, false⟩ : S29))
       (case aF => exact (fun _ _ => trivial))
       (case aO => exact HC3.out.r)
       (case aB => exact HC3.out.B)
       (case aS => exact HC3.out.B.size)
       (case aL => omega)
       intro v9 w9 ho hb9 hg9 hat9
       obtain ⟨A9, n9, q9, e9⟩ : ∃ (A9 : Option Addr) (n9 q9 : Nat), v9 = .slice A9 n9 q9 := (by obtain ⟨A, c, e⟩ := Kd.R_slice ho; exact ⟨_, _, _, e⟩)
       subst e9
       have HC9 := Aside0.mk (HC3.out.grow hg9 ho hb9)
       have HS9 := Aside0.mk (HC3.out.b.mut (below_mut0 hg9) (fun e => blk_own HC3.out.r HC3.out.b (by decide) _ e rfl))
       have zb9 : w9.cell? ⟨gb, 4, none⟩ = some gv := HS9.out.cell rfl
       have zf9 : w9.frozen? ⟨gb, 4, none⟩ = false := HS9.out.frozen _
       have zx9 : w9.cell? (ad.add i) = some (.int .i64 x) := cell_kept zc1 (below_mut0 hg9).kept (fun e => HXN.out _ e rfl)
       clear ho hb9 hg9 hat9
       refine hK.out _ _ ⟨zb9, zx9⟩ (fun hHeld => ?_)
       clear hK K
       refine norm_ (a' := ?_) ?_ ?_
       rotate_left
       · show Act.put _ (some 49) _ = _
         simp only [Act.put, List.setIfInBounds_toArray, List.set_cons_zero, List.set_cons_succ, i64_w, i32_w]
         rfl
       refine pure_ (i := 11) (N := some 50) (v := ?_) (a' := ?_) #[true, true, true, true, true, true, true, true, true, true, true, true, false] rfl rfl (by kernel_rfl) (fun _ _ _ h => h) (Or.inl ⟨by rfl, ?_⟩) ?_ ?_
       rotate_left
       · intro w'
         go_simp
         with_reducible rfl
       rotate_left
       · simp only [Act.put, List.setIfInBounds_toArray, List.set_cons_zero, List.set_cons_succ, i64_w, i32_w]
         rfl
       refine last_ (i := 12) (N := none) #[true, true, true, true, true, true, true, true, true, true, true, true, true] rfl rfl (by kernel_rfl) (by decide) (fun K hK => ?_)
       refine skip_ (w1 := ?_) (by rfl) rfl ?_ ?_
       rotate_left
       · go_simp
         rfl
       refine hK.out _ _ ?_
       clear hK K
       refine done_ (by kernel_rfl) ?_
       have HYn := Aside0.mk (show ∀ y ∈ ys ++ [(⟨1 + r3, 1, false⟩ : S29)], 1 ≤ y.f0 ∧ y.f0 ≤ 3 ∧ y.f1 = 1 ∧ y.f2 = false from fun y hy => by
         rcases List.mem_append.1 hy with h | h
         · exact HY.out y h
         · simp only [List.mem_cons, List.not_mem_nil, or_false] at h
           subst h
           exact ⟨by show 1 ≤ 1 + r3; omega, by show 1 + r3 ≤ 3; omega, rfl, rfl⟩)
       have hyn : (ys ++ [(⟨1 + r3, 1, false⟩ : S29)]).length = i + 1 := by simp [hyl]
       obtain ⟨yn, hynn⟩ : ∃ yn, yn = ys ++ [(⟨1 + r3, 1, false⟩ : S29)] := ⟨_, rfl⟩
       rw [← hynn] at HYn hyn HC9
       clear hynn hHeld ze0 ze1 zc0 zc1 zb9 zf9 zx9 hx HS9 HC3 HCd HCBr HXN HLx N3 HY
       go_wp2
       go_roundw
       case rel => exact ⟨i + 1, _, yn, by go_num, by omega, by omega, hyn, HYn, HC9⟩
       case measure => simp [intOf]; omega
     · by_cases hlt1 : i < l.length
       · have hlt2 : ¬ i < 5 := fun h => hlt ⟨hlt1, h⟩
         clear hlt
         go_wp2
         go_meet
         case rel => exact ⟨i, gv, ys, rfl, by omega, HY, HCBr⟩
       · clear hlt
         go_wp2
         go_meet
         case rel => exact ⟨i, gv, ys, rfl, by omega, HY, HCBr⟩
  case rest =>
    obtain ⟨i0, gv, ys, rfl, hy5, HY, HCB2⟩ := hcut
    clear HCB
    obtain ⟨Ag, cg, eg⟩ := Kd.R_slice HCB2.out.r
    subst eg
    have zc4 : wc.cell? ⟨gb, 4, none⟩ = some (.slice Ag ys.length cg) := HCB2.out.b.cell rfl
    have zcf4 : wc.frozen? ⟨gb, 4, none⟩ = false := HCB2.out.b.frozen _
    go_upto_if 54 with (fail)
    go_cut [54] (fun v54 wc => ∃ (b0 : Bool) (gv : Value) (ys : List S29), v54 = .bool b0 ∧ 1 ≤ ys.length ∧ ys.length ≤ 5 ∧ Aside0 (∀ y ∈ ys, 1 ≤ y.f0 ∧ y.f0 ≤ 3 ∧ y.f1 = 1 ∧ y.f2 = false) ∧ Aside0 (CB W wc gb (1 + r1) (1 + r2) 7 false gv ys))
    case first =>
      by_cases h0 : ys.length = 0
      · obtain ⟨y1, hy1⟩ : ∃ y1 : List S29, y1 = [⟨1, 1, false⟩] := ⟨_, rfl⟩
        have Ny1 := Aside0.mk hy1
        have HL1 := Aside0.mk (show y1.length = 1 by rw [hy1]; rfl)
        clear hy1
        go_wp2_with ((with_reducible refine gate_dst (N := 56) rfl ?_); refine Kd.R_lit k29 _ 29 ?hg7 (N := 56) ?hd7 (xs := ([(⟨1, 1, false⟩ : S29)] : List S29)) (inner := [.int .i64 1, .int .i64 1, .bool false]) (ok := fun _ => True) (okp := fun _ => True) ?hr7 ?hp7 (fun _ hk => hk) trivial (Below.refl _ _) (Nat.le_refl _) (by simp) ?_; (case hd7 => rfl); (case hg7 => rfl); (case hr7 => first | (go_simp; done) | (go_simp; rfl)); (case hp7 => exact (Reps.c3 (show Kd.M k29 _ _ _ (⟨1, 1, false⟩ : S29) [.int .i64 1, .int .i64 1, .bool false] from (PV.k29_mkM _ _ _ (⟨1, 1, false⟩ : S29))) (Reps.none _ _))); intro v7 w7 ho hb hg_ hnew_; clear hg_ hnew_; rw [← Ny1.out] at ho; obtain ⟨A7, c7, e7⟩ := Kd.R_slice ho; subst e7; have HC7 := Aside0.mk (CB.put HCB2.out hb ho); have zd4 : w7.cell? ⟨gb, 4, none⟩ = some (.slice Ag ys.length cg) := pw_cell_below hb zc4; have zdf4 : w7.frozen? ⟨gb, 4, none⟩ = false := (HCB2.out.b.below hb).frozen _; clear ho hb)
        go_meet
        case rel => exact ⟨_, .slice A7 y1.length c7, y1, rfl, by have := HL1.out; omega, by have := HL1.out; omega, ⟨fun y hy => by rw [Ny1.out] at hy; simp only [List.mem_cons, List.not_mem_nil, or_false] at hy; subst hy; exact ⟨by decide, by decide, rfl, rfl⟩⟩, HC7⟩
      · go_wp2
        go_meet
        case rel => exact ⟨_, .slice Ag ys.length cg, ys, rfl, by omega, hy5, HY, HCB2⟩
    case rest =>
      clear HY HCB2 zc4 zcf4 hy5
      obtain ⟨b0, gv, ys, rfl, hy1, hy5, HY, HCB2⟩ := hcut
      obtain ⟨Ag, cg, eg⟩ := Kd.R_slice HCB2.out.r
      subst eg
      obtain ⟨m, hm⟩ : ∃ m : Nat, 1 + r1 = (m : Int) := ⟨(1 + r1).toNat, by omega⟩
      have hok := turns_ok (m := m) (S := 1 + r2) (by omega) (by omega) hy1 hy5 HY.out
      have htp := turns_tp (m := m) (S := 1 + r2) HY.out
      have hcf := conf_f ys (by omega) (1 + r1) (1 + r2) 7 false
      have HHM := Aside0.mk hm
      clear hm
      have hrf := right_f (cr := false) hok
      rw [← HHM.out] at hrf
      obtain ⟨gl, hgl⟩ : ∃ gl, gl = confL ys := ⟨_, rfl⟩
      rw [← hgl] at hok htp hcf hrf
      have HOK := Aside0.mk hok
      have HTP := Aside0.mk htp
      have HCF := Aside0.mk hcf
      have HRF := Aside0.mk hrf
      clear hok htp hcf hrf hgl HY
      have d0 : wc.cell? ⟨gb, 0, none⟩ = some (.int .i64 (1 + r1)) := HCB2.out.b.cell rfl
      have d1 : wc.cell? ⟨gb, 1, none⟩ = some (.int .i64 (1 + r2)) := HCB2.out.b.cell rfl
      have d2 : wc.cell? ⟨gb, 2, none⟩ = some (.int .i64 7) := HCB2.out.b.cell rfl
      have d3 : wc.cell? ⟨gb, 3, none⟩ = some (.bool false) := HCB2.out.b.cell rfl
      have d4 : wc.cell? ⟨gb, 4, none⟩ = some (.slice Ag ys.length cg) := HCB2.out.b.cell rfl
      go_upto_region 13 with (first | (go_at_call 14; with_reducible refine (PV.citadellaw18_C_Conf.calls (ys.length + 1) (1 + r1) (1 + r2) 7 false _ _ ys (1 + r1) (1 + r2) 7 false gl _ (Kd.R_reads' HCB2.out.r).2.2 (Kd.R_reads' HCB2.out.r).2.1 HCF.out).mono ?_; rintro e w21 ⟨v2, rfl, hs2, hb2⟩; obtain ⟨A2, c2, e2, hl2, hC2⟩ := Kd.S_reads hs2; subst e2; have HC2 := Aside0.mk hC2; have HL2 := Aside0.mk hl2; have HCB3 := Aside0.mk (HCB2.out.below hb2); clear hs2 hl2 hC2 hb2) | (go_at_call 13; refine (new_sb (m := m) (k := 2 * gl.length + 2) HHM.out HRF.out HC2.out HL2.out HOK.out).mono ?_; rintro e w22 ⟨b, own, rfl, hsb, hown, hb3⟩; obtain ⟨s0, hs0⟩ : ∃ s0, s0 = newF m (1 + r2) 7 false gl := ⟨_, rfl⟩; rw [← hs0] at hsb; replace HTP : Aside0 (TP m (entsL 0 gl).length (1 + r2) s0) := (by rw [hs0]; exact HTP); have HSB := Aside0.mk hsb; have HN0 := Aside0.mk (show s0.now = 0 by rw [hs0]; exact (newF_ok HOK.out).2.2.2.2.1); have HCB4 := Aside0.mk (HCB3.out.below hb3); have HOW := Aside0.mk (show ∀ k, own k → W.heap.size ≤ k ∧ k ≠ gb from fun k hk => by have h1 := hown k hk; have h2 := HCB3.out.B.size; have h3 := HCB3.out.b.lt; omega); clear hsb hown hb3 hs0) | (go_at_call 15; refine HSB.out.entities.mono ?_; rintro e w23 ⟨rfl, rfl⟩; obtain ⟨n, hn⟩ : ∃ n, n = s0.es.length := ⟨_, rfl⟩; rw [← hn]; replace HTP : Aside0 (TP m n (1 + r2) s0) := (by rw [hn, HTP.out.en]; exact HTP); have HNE := Aside0.mk hn; have HN64 := Aside0.mk (show n ≤ 64 by rw [hn]; exact HSB.out.wf.em); clear hn) | (go_at_call 16; with_reducible refine (PV.citadellaw18_list.calls (n + 1) ready (n : Int) (bitsL ready n) _ (list_f ready n HN64.out)).mono ?_; rintro e w24 ⟨v5, rfl, hr5, hb5⟩; obtain ⟨rd, hrd⟩ : ∃ rd, rd = bitsL ready n := ⟨_, rfl⟩; rw [← hrd] at hr5; obtain ⟨Ar, cr5, er, hl5⟩ := RL.new HSB.out hr5; subst er; have HRL := Aside0.mk hl5; have HSB5 := Aside0.mk (HSB.out.below hb5); have HCB5 := Aside0.mk (HCB4.out.below hb5); have HRN := Aside0.mk (show rd.length = n by rw [hrd, bitsL_len]); clear hr5 hb5 hl5 hrd))
      have HTW := Aside0.mk (show TW W w24 own b gb s0 Ar cr5 rd (1 + r1) (1 + r2) (.slice Ag ys.length cg) m n ((0 : Nat) : Int) from ⟨HSB5.out, HRL.out, HTP.out, HN0.out, HCB5.out.b, HCB5.out.B, HOW.out⟩)
      clear d0 d1 d2 d3 d4 HCB2 HCB3 HCB4 HCB5 HSB HSB5 HRL HTP HN0 HOW HCF HRF HOK HC2 HL2 N1 N2
      go_wp2_with (fail)
      go_loopw [17] (fun v17 w' => ∃ (t : Nat) (own : Nat → Prop) (s : SS), v17 = .int .i64 (t : Int) ∧ (t : Int) ≤ T ∧ Aside0 (TW W w' own b gb s Ar cr5 rd (1 + r1) (1 + r2) (.slice Ag ys.length cg) m n (t : Int))) (fun v17 _ => 60 - (intOf v17).toNat)
      case atStart => exact ⟨0, own, s0, rfl, by omega, HTW⟩
      case round =>
        obtain ⟨t, own1, s1, rfl, htT, HTW1⟩ := hrel
        clear HTW
        by_cases hlt : (t : Int) < T
        · go_upto_region 16 with (go_at_call 12; with_reducible refine (mod_calls ticks 60 T _ NT.out).mono ?_; rintro e w31 ⟨rfl, hb⟩; have HTW2 := Aside0.mk (HTW1.out.below hb); clear hb)
          clear HTW1
          go_upto_block 4 with (fail)
          go_cut [18] (fun v18 wc => ∃ (own : Nat → Prop) (h0 : Nat), v18 = .int .i64 (h0 : Int) ∧ Aside0 (TW W wc own b gb s1 Ar cr5 rd (1 + r1) (1 + r2) (.slice Ag ys.length cg) m n (t : Int)))
          case first =>
            go_wp2_with (fail)
            go_loopw [18] (fun v18 w' => ∃ (h : Nat) (own : Nat → Prop), v18 = .int .i64 (h : Int) ∧ h ≤ m ∧ Aside0 (TW W w' own b gb s1 Ar cr5 rd (1 + r1) (1 + r2) (.slice Ag ys.length cg) m n (t : Int))) (fun v18 _ => m - (intOf v18).toNat)
            case atStart => exact ⟨0, own1, rfl, by omega, HTW2⟩
            case round =>
              obtain ⟨h, own2, rfl, hhm, HTW3⟩ := hrel
              clear HTW2
              have k0 : wr.cell? ⟨gb, 0, none⟩ = some (.int .i64 (1 + r1)) := HTW3.out.G.cell rfl
              by_cases hlt2 : (h : Int) < 1 + r1
              · obtain ⟨wl, hwl⟩ : ∃ wl, wl = wr := ⟨_, rfl⟩
                rw [← hwl] at HTW3 k0 ⊢
                clear hwl
                have hmm := HHM.out
                have hha : h < m := by omega
                clear hmm
                go_upto_block 6 with (fail)
                go_cut [19] (fun v19 wc => Aside0 (Kd.R (Kd.int .i64) 3 wc wl.heap.size (fun _ => True) v19 (plainL s1 (h : Int))) ∧ Aside0 (Below wl.heap.size wl wc))
                case first =>
                  go_wp2_with (fail)
                  go_loopw [19, 20] (fun v19 v20 w' => ∃ (j e : Nat), v20 = .int .i64 (e : Int) ∧ e ≤ n + 8 ∧ Aside0 (e = h + m * j) ∧ Aside0 (Kd.R (Kd.int .i64) 3 w' wl.heap.size (fun _ => True) v19 (plainTo s1 (h : Int) (min n e))) ∧ Aside0 (Below wl.heap.size wl w')) (fun _ v20 _ => n + 9 - (intOf v20).toNat)
                  case atStart => exact ⟨0, h, rfl, by omega, ⟨by simp⟩, ⟨by rw [HTW3.out.P.plain0 h _ hha (by omega)]; exact Kd.R_nil _ _ _ _ _⟩, ⟨Below.refl _ _⟩⟩
                  case round =>
                    obtain ⟨j, e, rfl, he8, HJ, HO, HBl⟩ := hrel
                    have k1 : wr.cell? ⟨gb, 0, none⟩ = some (.int .i64 (1 + r1)) := (HTW3.out.G.below HBl.out).cell rfl
                    have hn64 := HN64.out
                    clear k0
                    by_cases hlt3 : (e : Int) < (n : Int)
                    · have HPL := Aside0.mk (show plainTo s1 (h : Int) (min n (e + m)) = plainTo s1 (h : Int) (min n e) ++ [(e : Int)] by
                        have hj := HJ.out
                        rw [show min n e = h + m * j by omega, HTW3.out.P.plain1 h j (min n (e + m)) hha (by omega) (by rw [Nat.mul_succ]; omega), hj])
                      have HL := Aside0.mk (Nat.le_trans (plainTo_len s1 (h : Int) (min n e)) (show min n e ≤ 64 by omega))
                      go_wp2_with (first | ((with_reducible refine gate_builtin (b := .append) (xs := #[.tmp 95, .tmp 97]) rfl ?_); go_loud (at_builtin; refine Kd.R_append (Kd.int .i64) (w0 := wl) wl.heap.size rfl (.tmp 95) (.tmp 97) 22 3 (.int .i64 0) 8 rfl Try.underlying22 info3 rfl (by decide) (by omega) u19 (plainTo s1 (h : Int) (min n e)) ((e : Int)) [.int .i64 ((e : Int))] (fun _ => True) (fun _ => False) rfl rfl ?aP (fun _ hk => hk.elim) ?aF ?aO ?aB ?aS ?aL ?_; (case aP => exact rfl); (case aF => exact (fun _ _ => trivial)); (case aO => exact HO.out); (case aB => exact HBl.out); (case aS => exact (HBl.out).size); (case aL => have := HL.out; simp; omega); intro v41 w41 ho hbb hg hat; have HO2 := Aside0.mk ho; have HB2 := Aside0.mk hbb; have k2 : w41.cell? ⟨gb, 0, none⟩ = some (.int .i64 (1 + r1)) := (HTW3.out.G.below hbb).cell rfl; clear ho hbb hg hat)) | fail)
                      go_roundw
                      case rel => exact ⟨j + 1, e + m, by have := HHM.out; go_num, by have := HHM.out; omega, ⟨by rw [HJ.out, Nat.mul_succ]; omega⟩, ⟨by rw [HPL.out]; exact HO2.out⟩, HB2⟩
                      case measure => have := HHM.out; simp [intOf]; omega
                    · go_wp2_with (fail)
                      go_meet
                      case rel => exact ⟨⟨by have h1 := HO.out; rw [show min n e = n by omega] at h1; rw [show plainL s1 (h : Int) = plainTo s1 (h : Int) n by unfold plainL; rw [HTW3.out.P.en]]; exact h1⟩, HBl⟩
                case rest =>
                  obtain ⟨HLs, HBl⟩ := hcut
                  obtain ⟨ls, hls⟩ : ∃ ls, ls = plainL s1 (h : Int) := ⟨_, rfl⟩
                  rw [← hls] at HLs
                  obtain ⟨Al, cl, el⟩ := Kd.R_slice HLs.out
                  subst el
                  have HT4 := Aside0.mk (HTW3.out.below HBl.out)
                  have HBY := Aside0.mk (HTW3.out.P.byTurn h rd ls hls.symm (t : Int) HTW3.out.N)
                  have hln : ls.length ≤ 64 := by rw [hls]; exact Nat.le_trans (plainTo_len s1 (h : Int) s1.es.length) (HTW3.out.X.wf.em)
                  have HME := Aside0.mk (show ∀ x ∈ ls, 0 ≤ x ∧ x < (n : Int) from fun x hx => by rw [hls] at hx; obtain ⟨i, e, hi, _⟩ := plainTo_mem hx; rw [HTW3.out.P.en] at hi; omega)
                  have j1 : wc.cell? ⟨gb, 1, none⟩ = some (.int .i64 (1 + r2)) := HT4.out.G.cell rfl
                  clear hls k0 HTW3
                  by_cases h0 : ls.length = 0
                  · have HBT := Aside0.mk (show byTurnF s1 (h : Int) rd = -1 by rw [HBY.out, if_pos h0])
                    have h0' : ¬ 0 < ls.length := by omega
                    clear h0 HBY HME
                    go_wp2_with (go_at_call 17; refine (HT4.out.pick h hha).mono ?_; rintro e w50 ⟨rfl, own5, ht5⟩; have HTW5 := Aside0.mk ht5; rw [HBT.out]; clear ht5)
                    go_roundw
                    case rel => exact ⟨h + 1, own5, by go_num, by omega, HTW5⟩
                    case measure => have := HHM.out; simp [intOf]; omega
                  · have i1 : 0 ≤ (t : Int) / (1 + r2) % (ls.length : Int) := Int.emod_nonneg _ (by omega)
                    have i2 : (t : Int) / (1 + r2) % (ls.length : Int) < (ls.length : Int) := Int.emod_lt_of_pos _ (by omega)
                    have i3 : 0 ≤ (t : Int) / (1 + r2) := Int.ediv_nonneg (by omega) (by omega)
                    have i4 : (t : Int) / (1 + r2) ≤ 60 := by have := Int.ediv_le_self (1 + r2) (show 0 ≤ (t : Int) by omega); omega
                    obtain ⟨ad, rfl, hcell⟩ := Kd.at_int (Kd.R_reads' HLs.out).2.2 ((t : Int) / (1 + r2) % (ls.length : Int)) i1 i2
                    obtain ⟨x, hx, hxn, hbt⟩ := want_of (by omega) HBY.out HME.out HRN.out i1 i2
                    rw [hx] at hcell
                    have h1 : 0 < ls.length := by omega
                    obtain ⟨ac, eac, hcan⟩ := Kd.at_bool (Kd.R_reads' HT4.out.L.r).2.2 (x : Int) (by omega) (by have := HRN.out; omega)
                    subst eac
                    have hxr : x < rd.length := by have := HRN.out; omega
                    obtain ⟨bc, hbc⟩ : ∃ bc, bc = rdOf false rd (x : Int) := ⟨_, rfl⟩
                    rw [← hbc] at hcan hbt
                    rw [Int.toNat_natCast] at hcan
                    clear h0 HBY HME hx hbc
                    cases bc with
                    | true =>
                      have HBT := Aside0.mk (show byTurnF s1 (h : Int) rd = (x : Int) by rw [hbt]; rfl)
                      clear hbt
                      go_wp2_with (go_at_call 17; refine (HT4.out.pick h hha).mono ?_; rintro e w50 ⟨rfl, own5, ht5⟩; have HTW5 := Aside0.mk ht5; rw [HBT.out]; clear ht5)
                      go_roundw
                      case rel => exact ⟨h + 1, own5, by go_num, by omega, HTW5⟩
                      case measure => have := HHM.out; simp [intOf]; omega
                    | false =>
                      have HBT := Aside0.mk (show byTurnF s1 (h : Int) rd = -1 by rw [hbt]; rfl)
                      clear hbt
                      go_wp2_with (go_at_call 17; refine (HT4.out.pick h hha).mono ?_; rintro e w50 ⟨rfl, own5, ht5⟩; have HTW5 := Aside0.mk ht5; rw [HBT.out]; clear ht5)
                      go_roundw
                      case rel => exact ⟨h + 1, own5, by go_num, by omega, HTW5⟩
                      case measure => have := HHM.out; simp [intOf]; omega
              · go_wp2_with (fail)
                go_meet
                case rel => exact ⟨own2, h, rfl, HTW3⟩
          case rest =>
            clear HTW2
            obtain ⟨own2, h0, rfl, HTW3⟩ := hcut
            go_wp2_with (go_at_call 18; refine (HTW3.out.tick (by omega)).mono ?_; rintro e w33 ⟨rfl, own4, s4, ht4⟩; have HTW4 := Aside0.mk (show TW W w33 own4 b gb s4 Ar cr5 rd (1 + r1) (1 + r2) (.slice Ag ys.length cg) m n ((t + 1 : Nat) : Int) from by have := ht4; rwa [show ((t : Int) + 1) = ((t + 1 : Nat) : Int) by omega] at this); clear ht4)
            go_roundw
            case rel => exact ⟨t + 1, own4, s4, by go_num, by omega, HTW4⟩
            case measure => simp [intOf]; omega
        · go_wp2_with (first | (go_at_call 12; with_reducible refine (mod_calls ticks 60 T _ NT.out).mono ?_; rintro e w31 ⟨rfl, hb⟩; have HTW2 := Aside0.mk (HTW1.out.below hb); clear hb) | (go_at_call 19; refine (awake_calls _).mono ?_; rintro e w32 ⟨rfl, hb⟩; have HTW3 := Aside0.mk (below_step HTW2.out.B hb); clear hb))
          go_ret
          exact ⟨rfl, HTW3.out⟩
end Go.Proofs.Ytdaadmjppikebaa.SC

/- SchedTurns: whatever the arguments are that read as data, it gives true. -/
namespace Go.Proofs.Ytdaadmjppikebaa.SC
open Go.WideShapes Go.RowKit Go.Proofs.Ytdaadmjppikebaa.Opn Go.Proofs.YtdaadmjppikebaaW.PrintWords
set_option maxRecDepth 100000 in
theorem schedTurns_core (H : Type) (enc : TypeId × Value → H) (W : World) (base : Nat) (v0 v1 v2 v3 v4 : Value) (d0 d1 d2 d3 d4 : DataW H) (p0 p1 p2 p3 p4 : List MemPlace)
    (o0 : Value.okWide Try.prog W .any base 3 v0) (_ : DataW.Trod enc Try.prog W 0 (fun _ => true) true 3 v0 d0 p0)
    (o1 : Value.okWide Try.prog W .any base 3 v1) (_ : DataW.Trod enc Try.prog W 0 (fun _ => true) true 3 v1 d1 p1)
    (o2 : Value.okWide Try.prog W .any base 22 v2) (h2 : DataW.Trod enc Try.prog W 0 (fun _ => true) true 22 v2 d2 p2)
    (o3 : Value.okWide Try.prog W .any base 3 v3) (_ : DataW.Trod enc Try.prog W 0 (fun _ => true) true 3 v3 d3 p3)
    (o4 : Value.okWide Try.prog W .any base 23 v4) (_ : DataW.Trod enc Try.prog W 0 (fun _ => true) true 23 v4 d4 p4) (_ : Rows.uptoBulkAll [d0, d1, d2, d3, d4] ≤ 1048576) :
    Calls Try.prog 3 #[v0, v1, v2, v3, v4] W fun e W' => e = .returned (.bool true) ∧ Below W.heap.size W W' := by
  obtain ⟨n0, rfl⟩ := okWide_int Try.underlying3 o0
  obtain ⟨n1, rfl⟩ := okWide_int Try.underlying3 o1
  obtain ⟨n3, rfl⟩ := okWide_int Try.underlying3 o3
  obtain ⟨n4, rfl⟩ := okWide_int Try.underlying23 o4
  obtain ⟨a, len, cap, rfl⟩ := okWide_slice Try.underlying22 o2
  obtain ⟨m, hm⟩ := h2
  obtain ⟨A, c, xs, e, hl, hC, _⟩ := opens_row Try.underlying22 (opens_int Try.underlying3) rfl hm
  have e' : Value.slice a len cap = .slice A xs.length c := by simpa [Value.cells] using e
  rw [e']
  exact turns_calls hC hl
end Go.Proofs.Ytdaadmjppikebaa.SC
