/- Parts of the walk of package sched, merged. -/
/- SchedTurns, plain: what is picked where there are no gangs and no credit. -/
import Derived.Test.YtdaadmjppikebaaK9
namespace Go.Proofs.Ytdaadmjppikebaa.SC
open Go.RowKit
open Go.Proofs.Ytdaadmjppikebaa.PV (S94 k94 S29 k29 rd_T94 rd_T29)
set_option linter.unusedVariables false
set_option linter.unusedSimpArgs false

theorem modE_gn (s : SS) (i : Nat) (f : SE → SE) (hf : ∀ x, (f x).gn = x.gn) (j : Nat) : ((s.modE i f).ent j).gn = (s.ent j).gn := by
  unfold SS.modE SS.ent
  simp only [List.getD_eq_getElem?_getD, List.getElem?_modify]
  cases h : s.es[j]? with
  | none => simp
  | some x =>
    simp only [Option.map_eq_map, Option.map_some, Option.getD_some]
    split
    · exact hf x
    · rfl
theorem ranF_gn (s : SS) (g : Int) (h : Nat) (e : Int) (j : Nat) : ((ranF s g h e).ent j).gn = (s.ent j).gn := by
  unfold ranF
  split
  · rfl
  · split
    · exact modE_gn s e.toNat (fun x => { x with rn := x.rn + 1, cd := max (x.cd - 1) (-limitF s) }) (fun _ => rfl) j
    · exact modE_gn s e.toNat (fun x => { x with rn := x.rn + 1 }) (fun _ => rfl) j
theorem tickH_gn {s : SS} (hw : Wf s) (g : Int) (h : Nat) (rd : List Bool) (j : Nat) : ((tickH s g h rd).ent j).gn = (s.ent j).gn := by
  unfold tickH
  rw [ranF_gn]
  have h1 := (pickF_pk hw h rd)
  have h2 := (chargeF_tk h1.wf g h (pickF s h rd).1).2.1
  unfold SS.ent
  rw [h2, h1.es]
theorem tickFrom_gn (g : Int) (rd : List Bool) : ∀ (f h : Nat) (s : SS) (k : Int), Wf s → g = gangF s → ((h + f : Nat) : Int) ≤ s.H → CntC s k → CntR s k → ∀ j, ((tickFrom g rd f h s).ent j).gn = (s.ent j).gn
  | 0, h, s, k, hw, _, _, hc, hr, j => rfl
  | f + 1, h, s, k, hw, hg, hh, hc, hr, j => by
    obtain ⟨h1, h2, h3⟩ := tickH_tk hw hg (h := h) (by omega) rd hc hr
    exact (tickFrom_gn g rd f (h + 1) (tickH s g h rd) (k + 1) h1.wf (by rw [h1.st.gang h1.now]; exact hg) (by rw [h1.st.H]; omega) h2 h3 j).trans (tickH_gn hw g h rd j)
theorem tickF_gn {s : SS} (rd : List Bool) (hw : Wf s) (hn : s.now < 4611686018427387904) (hc : CntC s 0) (hr : CntR s 0) (j : Nat) : ((tickF s rd).ent j).gn = (s.ent j).gn := by
  have hH1 := hw.H1
  have hH8 := hw.H8
  have g1 := tickFrom_gn (gangF s) rd s.H.toNat 0 s 0 hw rfl (by omega) hc hr j
  obtain ⟨h1, h2, h3⟩ := tickFrom_tk (gangF s) rd s.H.toNat 0 s 0 hw rfl (by omega) hc hr
  obtain ⟨e1, e2⟩ := tickE_wf h1.wf (gangF s) (by rw [h1.now]; exact hn)
  have g2 : ((tickE (tickFrom (gangF s) rd s.H.toNat 0 s) (gangF s)).ent j).gn = (s.ent j).gn := g1
  show ((if (tickE (tickFrom (gangF s) rd s.H.toNat 0 s) (gangF s)).now % (tickE (tickFrom (gangF s) rd s.H.toNat 0 s) (gangF s)).P = 0 ∧ (tickE (tickFrom (gangF s) rd s.H.toNat 0 s) (gangF s)).cr = true then giveF (tickE (tickFrom (gangF s) rd s.H.toNat 0 s) (gangF s)) else tickE (tickFrom (gangF s) rd s.H.toNat 0 s) (gangF s)).ent j).gn = _
  split
  · rw [((giveF_gk e1).gn j).1]; exact g2
  · exact g2
/-- Partitioned, no gangs, nobody gone. -/
structure TP (m n : Nat) (S : Int) (s : SS) : Prop where
  H : s.H = m
  S : s.S = S
  cr : s.cr = false
  en : s.es.length = n
  g : ∀ i, (s.gst i).g = false
  gn : ∀ i, (s.ent i).gn = false
  sh : s.sh = s.now
theorem no_gang : ∀ (l : List SG) (i : Nat) (a : Int), (∀ x ∈ l, x.g = false) → gangGo l i a = -1
  | [], _, _, _ => rfl
  | x :: r, i, a, h => by
    unfold gangGo
    rw [if_neg (by rw [h x List.mem_cons_self]; decide)]
    exact no_gang r (i + 1) a (fun y hy => h y (List.mem_cons_of_mem _ hy))
theorem TP.gang {m n : Nat} {S : Int} {s : SS} (h : TP m n S s) : gangF s = -1 := by
  unfold gangF
  refine no_gang _ _ _ (fun x hx => ?_)
  obtain ⟨i, hi, rfl⟩ := List.getElem_of_mem hx
  have := h.g i
  unfold SS.gst at this
  rw [List.getD_eq_getElem?_getD, List.getElem?_eq_getElem hi] at this
  exact this
theorem TP.tick {m n : Nat} {S : Int} {s : SS} (h : TP m n S s) (rd : List Bool) (hw : Wf s) (hn : s.now < 4611686018427387904) (hc : CntC s 0) (hr : CntR s 0) : TP m n S (tickF s rd) := by
  have ht := tickF_tf rd hw hn hc hr
  exact ⟨ht.st.H.trans h.H, ht.st.S.trans h.S, ht.st.cr.trans h.cr, ht.st.el.trans h.en, fun i => by rw [ht.st.gst]; exact h.g i, fun i => (tickF_gn rd hw hn hc hr i).trans (h.gn i), by rw [ht.sh, ht.now, h.gang, if_pos (by decide), h.sh]⟩
theorem TP.gng {m n : Nat} {S : Int} {s : SS} (h : TP m n S s) (i : Nat) : s.gng i = false := h.g _
theorem TP.plainP {m n : Nat} {S : Int} {s : SS} (h : TP m n S s) (a i : Nat) : plainP s (a : Int) i = decide (i % m = a) := by
  unfold SC.plainP homeOf
  rw [if_neg (by rw [h.gng]; decide), h.gng, h.H]
  simp only [Bool.not_false, Bool.and_true]
  by_cases e : i % m = a
  · have : (i : Int) % (m : Int) = (a : Int) := by omega
    simp [e, this]
  · have : ¬ (i : Int) % (m : Int) = (a : Int) := by omega
    simp [e, this]
theorem TP.skip {m n : Nat} {S : Int} {s : SS} (h : TP m n S s) (a k : Nat) : ∀ d : Nat, (∀ i, k ≤ i → i < k + d → i % m ≠ a) → plainTo s (a : Int) (k + d) = plainTo s (a : Int) k
  | 0, _ => rfl
  | d + 1, hi => by
    rw [← Nat.add_assoc, plainTo_succ, h.plainP, decide_eq_false (hi (k + d) (by omega) (by omega))]
    simp only [Bool.false_eq_true, if_false, List.append_nil]
    exact TP.skip h a k d (fun i h1 h2 => hi i h1 (by omega))
theorem TP.pick {m n : Nat} {S : Int} {s : SS} (h : TP m n S s) (a : Nat) (ha : a < m) (rd : List Bool) : pickF s (a : Int) rd = (byTurnF s (a : Int) rd, s) := by
  unfold pickF
  rw [if_neg (by rw [h.H]; omega), if_neg (by rw [h.gang]; omega), if_neg (by rw [h.cr]; decide)]
end Go.Proofs.Ytdaadmjppikebaa.SC

/- What holds while a law plays with one scheduler: the scheduler, the law's conf in its block, what was before. -/
namespace Go.Proofs.Ytdaadmjppikebaa.SC
open Go.RowKit Go.Proofs.YtdaadmjppikebaaW.PrintWords Go.Proofs.YtdaadmjppikebaaW.PrintLast
open Go.Proofs.Ytdaadmjppikebaa.PV (S94 k94 S29 k29 rd_T94 rd_T29)
set_option linter.unusedVariables false
set_option linter.unusedSimpArgs false

/-- A law's call of a script. -/
structure S48 where
  f0 : Int
  f1 : Int
  f2 : Int
def z48 : S48 := ⟨(0 : Int), (0 : Int), (0 : Int)⟩
def k48 : Kd S48 := Kd.iso (Kd.pair (Kd.int .i64) (Kd.pair (Kd.int .i64) (Kd.int .u64))) (fun x : S48 => (x.f0, x.f1, x.f2))
theorem k48_open {w : World} {x : S48} {cs : List Value} (h : k48.K w x cs) : cs = [.int .i64 x.f0, .int .i64 x.f1, .int .u64 x.f2] := by
  obtain ⟨_, _, rfl, rfl, ⟨_, _, rfl, rfl, rfl⟩⟩ := h
  exact rfl
def rd_T48 (xs : List S48) (i : Int) : S48 := xs.getD i.toNat z48
theorem at_T48 {w : World} {A : Option Addr} {n : Nat} {xs : List S48} (h : Kd.C k48 w A n xs) (i : Int) (h0 : 0 ≤ i) (h1 : i < n) : ∃ ad , A = some ad ∧ w.cell? (ad.add (i.toNat * 3)) = some (.int .i64 (rd_T48 xs i).f0) ∧ w.cell? ⟨(ad.add (i.toNat * 3)).block, (ad.add (i.toNat * 3)).off + 1, none⟩ = some (.int .i64 (rd_T48 xs i).f1) ∧ w.cell? ⟨(ad.add (i.toNat * 3)).block, (ad.add (i.toNat * 3)).off + 2, none⟩ = some (.int .u64 (rd_T48 xs i).f2) := by
  obtain ⟨ad, c, e, _, hK, hc0⟩ := Kd.C_get h z48 i h0 h1
  have hc : ∀ j u, c[j]? = some u → w.cell? (ad.add (i.toNat * 3 + j)) = some u := hc0
  obtain rfl := k48_open hK
  exact ⟨ad, e, hc 0 _ rfl, by rw [← add_field _ _ 1 (by omega)]; exact hc 1 _ rfl, by rw [← add_field _ _ 2 (by omega)]; exact hc 2 _ rfl⟩
theorem k29_okk {e b : Nat} {ok ok' : Nat → Prop} {W : World} {v : Value} {xs : List S29} (h : k29.R e W b ok v xs) (hok : ∀ k, v.ownBlock = some k → ok' k) : k29.R e W b ok' v xs := by
  obtain ⟨_, inner, ho, hr⟩ := h
  refine ⟨hok, inner, ho, hr.imp_ (fun p c hp => ?_)⟩
  have := PV.k29_openM hp
  subst this
  exact PV.k29_mkM _ _ _ p
theorem k29_muts {e b : Nat} {ok S : Nat → Prop} {W W' : World} {v : Value} {xs : List S29} (h : k29.R e W b ok v xs) (hm : Mut S W W') (hne : ∀ k, v.ownBlock = some k → ¬ S k) : k29.R e W' b ok v xs :=
  k29_okk (Kd.R_kept (k29_okk h (ok' := fun k => v.ownBlock = some k) (fun k hk => hk)) hm.kept hne) h.1
theorem blkbox {W : World} {k t : Nat} {cs : Array Value} (h : W.heap[k]? = some (.cells cs t (0, 0))) : Blk W k t cs.toList := ⟨cs, h, fun i v hv => by simpa using hv⟩
theorem blk5 {W : World} {gb t : Nat} {a0 a1 a2 a3 a4 : Value} (h : Blk W gb t [a0, a1, a2, a3, a4]) (v0 v1 v2 v3 v4 : Value) :
    Blk (((((W.setCell ⟨gb, 0, none⟩ v0).setCell ⟨gb, 1, none⟩ v1).setCell ⟨gb, 2, none⟩ v2).setCell ⟨gb, 3, none⟩ v3).setCell ⟨gb, 4, none⟩ v4) gb t [v0, v1, v2, v3, v4] ∧
    Mut (fun k => k = gb) W (((((W.setCell ⟨gb, 0, none⟩ v0).setCell ⟨gb, 1, none⟩ v1).setCell ⟨gb, 2, none⟩ v2).setCell ⟨gb, 3, none⟩ v3).setCell ⟨gb, 4, none⟩ v4) :=
  ⟨((((h.set 0 v0).set 1 v1).set 2 v2).set 3 v3).set 4 v4, ((((((Mut.refl _ W).set1 0 v0).set1 1 v1).set1 2 v2).set1 3 v3).set1 4 v4)⟩
/-- The law's conf, in its block. -/
structure CC (W0 W : World) (gb : Nat) (m S P : Int) (cr : Bool) (Ag : Option Addr) (cg : Nat) (ys : List S29) : Prop where
  b : Blk W gb 27 [.int .i64 m, .int .i64 S, .int .i64 P, .bool cr, .slice Ag ys.length cg]
  r : Kd.R k29 29 W W0.heap.size (fun _ => True) (.slice Ag ys.length cg) ys
  B : Below W0.heap.size W0 W
  g : W0.heap.size ≤ gb
section
variable {W0 W w' : World} {own own' : Nat → Prop} {b gb hN : Nat} {s s' : SS} {m S P : Int} {cr : Bool} {Ag : Option Addr} {cg : Nat} {ys : List S29} {A : Option Addr} {c : Nat} {rd : List Bool}
theorem CC.below (h : CC W0 W gb m S P cr Ag cg ys) (hb : Below W.heap.size W w') : CC W0 w' gb m S P cr Ag cg ys := ⟨h.b.below hb, Kd.R_below h.r hb, h.B.trans (hb.mono h.B.size), h.g⟩
theorem CC.mut {X : Nat → Prop} (h : CC W0 W gb m S P cr Ag cg ys) (hm : Mut X W w') (hX : ∀ k, X k → W0.heap.size ≤ k ∧ k ≠ gb ∧ (Value.slice Ag ys.length cg).ownBlock ≠ some k) : CC W0 w' gb m S P cr Ag cg ys :=
  ⟨h.b.mut hm (fun e => (hX _ e).2.1 rfl), k29_muts h.r hm (fun k hk e => (hX k e).2.2 hk), h.B.trans (hm.to_below h.B.size (fun k hk => (hX k hk).1)), h.g⟩
theorem CC.of {a0 a1 a2 a3 a4 : Value} (h : Blk W gb 27 [a0, a1, a2, a3, a4]) (hg : W0.heap.size ≤ gb) (hB : Below W0.heap.size W0 W) (hr : Kd.R k29 29 W W0.heap.size (fun _ => True) (.slice Ag ys.length cg) ys) (hne : ∀ k, (Value.slice Ag ys.length cg).ownBlock = some k → k ≠ gb) :
    CC W0 (((((W.setCell ⟨gb, 0, none⟩ (.int .i64 m)).setCell ⟨gb, 1, none⟩ (.int .i64 S)).setCell ⟨gb, 2, none⟩ (.int .i64 P)).setCell ⟨gb, 3, none⟩ (.bool cr)).setCell ⟨gb, 4, none⟩ (.slice Ag ys.length cg)) gb m S P cr Ag cg ys :=
  ⟨(blk5 h _ _ _ _ _).1, k29_muts hr (blk5 h _ _ _ _ _).2 (fun k hk e => hne k hk e), hB.trans ((blk5 h _ _ _ _ _).2.to_below hB.size (fun k hk => by rw [hk]; exact hg)), hg⟩
theorem CC.credit (h : CC W0 W gb m S P cr Ag cg ys) (v : Bool) : CC W0 (W.setCell ⟨gb, 3, none⟩ (.bool v)) gb m S P v Ag cg ys :=
  ⟨h.b.set 3 (.bool v), k29_muts h.r (set_mut _ _ _) (fun k hk e => blk_own h.r h.b (by decide) k hk e), h.B.setCell h.g _, h.g⟩
theorem CC.hi (h : CC W0 W gb m S P cr Ag cg ys) : gb < W.heap.size ∧ ∀ k, (Value.slice Ag ys.length cg).ownBlock = some k → k < W.heap.size := ⟨h.b.lt, Kd.R_lt h.r⟩
/-- What holds while a law plays. -/
structure LW (W0 W : World) (own : Nat → Prop) (b gb hN : Nat) (s : SS) (m S P : Int) (cr : Bool) (Ag : Option Addr) (cg : Nat) (ys : List S29) : Prop where
  X : SB W own b s
  C : CC W0 W gb m S P cr Ag cg ys
  N : ∀ k, own k → hN ≤ k
  G : gb < hN
  h : ∀ k, (Value.slice Ag ys.length cg).ownBlock = some k → k < hN
  z : hN ≤ W.heap.size
  z0 : W0.heap.size ≤ hN
theorem LW.of (hc : CC W0 W gb m S P cr Ag cg ys) (hb : Below W.heap.size W w') (hs : SB w' own b s) (ho : ∀ k, own k → W.heap.size ≤ k) : LW W0 w' own b gb W.heap.size s m S P cr Ag cg ys :=
  ⟨hs, hc.below hb, ho, hc.hi.1, hc.hi.2, hb.size, hc.B.size⟩
theorem LW.below (h : LW W0 W own b gb hN s m S P cr Ag cg ys) (hb : Below W.heap.size W w') : LW W0 w' own b gb hN s m S P cr Ag cg ys :=
  ⟨h.X.below hb, h.C.below hb, h.N, h.G, h.h, Nat.le_trans h.z hb.size, h.z0⟩
theorem LW.B (h : LW W0 W own b gb hN s m S P cr Ag cg ys) : Below W0.heap.size W0 W := h.C.B
theorem LW.then_ (h : LW W0 W own b gb hN s m S P cr Ag cg ys) (hs : SB w' own' b s') (ht : Then W own w' own') : LW W0 w' own' b gb hN s' m S P cr Ag cg ys :=
  ⟨hs, h.C.mut ht.m (fun k hk => ⟨Nat.le_trans h.z0 (h.N k hk), fun e => by have := h.N k hk; have := h.G; omega, fun e => by have := h.N k hk; have := h.h k e; omega⟩),
   fun k hk => (ht.z k hk).elim (h.N k) (fun h2 => Nat.le_trans h.z h2), h.G, h.h, Nat.le_trans h.z ht.m.size, h.z0⟩
theorem LW.tick (h : LW W0 W own b gb hN s m S P cr Ag cg ys) (hn : s.now ≤ 288230376151711744) (hr : RL W own A c rd) :
    Calls Try.prog 18 #[.pointer (some ⟨b, 0, none⟩), .slice A rd.length c] W fun x w' => x = .returned (.tuple #[]) ∧ ∃ own', LW W0 w' own' b gb hN (tickF s rd) m S P cr Ag cg ys ∧ Then W own w' own' := by
  refine (h.X.tick hn hr).mono ?_
  rintro x w' ⟨rfl, own', h1, h2⟩
  exact ⟨rfl, own', h.then_ h1 h2, h2⟩
theorem LW.pick (h : LW W0 W own b gb hN s m S P cr Ag cg ys) (hr : RL W own A c rd) (hart : Int) :
    Calls Try.prog 17 #[.pointer (some ⟨b, 0, none⟩), .int .i64 hart, .slice A rd.length c] W fun x w' => x = .returned (.int .i64 (pickF s hart rd).1) ∧ ∃ own', LW W0 w' own' b gb hN (pickF s hart rd).2 m S P cr Ag cg ys ∧ Then W own w' own' := by
  refine (h.X.pick hr hart).mono ?_
  rintro x w' ⟨rfl, own', h1, h2⟩
  exact ⟨rfl, own', h.then_ h1 h2, h2⟩
theorem thereB_t {k : Nat} (h : k < s.es.length) : thereB s (k : Int) = true := by unfold thereB; simp; omega
theorem LW.guest (h : LW W0 W own b gb hN s m S P cr Ag cg ys) {k : Nat} (hk : k < s.es.length) :
    Calls Try.prog 22 #[.pointer (some ⟨b, 0, none⟩), .int .i64 (k : Int)] W fun x w' => x = .returned (.tuple #[.int .i64 (s.ent k).gu, .int .i64 (s.ent k).ix]) ∧ LW W0 w' own b gb hN s m S P cr Ag cg ys ∧ Below W.heap.size W w' := by
  refine (h.X.guest (k : Int)).mono ?_
  rintro x w' ⟨rfl, hb⟩
  rw [if_pos (thereB_t hk), Int.toNat_natCast]
  exact ⟨rfl, h.below hb, hb⟩
theorem LW.home (h : LW W0 W own b gb hN s m S P cr Ag cg ys) {k : Nat} (hk : k < s.es.length) :
    Calls Try.prog 24 #[.pointer (some ⟨b, 0, none⟩), .int .i64 (k : Int)] W fun x w' => x = .returned (.int .i64 (homeOf s k)) ∧ LW W0 w' own b gb hN s m S P cr Ag cg ys ∧ Below W.heap.size W w' := by
  refine (h.X.home (k : Int)).mono ?_
  rintro x w' ⟨rfl, hb⟩
  rw [if_pos (thereB_t hk), Int.toNat_natCast]
  exact ⟨rfl, h.below hb, hb⟩
theorem LW.gang (h : LW W0 W own b gb hN s m S P cr Ag cg ys) :
    Calls Try.prog 21 #[.pointer (some ⟨b, 0, none⟩)] W fun x w' => x = .returned (.int .i64 (gangF s)) ∧ LW W0 w' own b gb hN s m S P cr Ag cg ys ∧ Below W.heap.size W w' := by
  refine (h.X.gang).mono ?_
  rintro x w' ⟨rfl, hb⟩
  exact ⟨rfl, h.below hb, hb⟩
theorem LW.ran (h : LW W0 W own b gb hN s m S P cr Ag cg ys) {k : Nat} (hk : k < s.es.length) :
    Calls Try.prog 26 #[.pointer (some ⟨b, 0, none⟩), .int .i64 (k : Int)] W fun x w' => x = .returned (.int .u64 (s.ent k).rn) ∧ W = w' := by
  have := h.X.ran (k : Int)
  rwa [if_pos (thereB_t hk), Int.toNat_natCast] at this
theorem LW.charged (h : LW W0 W own b gb hN s m S P cr Ag cg ys) {g : Nat} (hg : g < s.gs.length) :
    Calls Try.prog 23 #[.pointer (some ⟨b, 0, none⟩), .int .i64 (g : Int)] W fun x w' => x = .returned (.int .u64 (s.ch.getD g 0)) ∧ W = w' := by
  have := h.X.charged (g : Int)
  rwa [if_pos (by unfold withinB; have := h.X.wf.cn; simp; omega), Int.toNat_natCast] at this
theorem RL.put (h : RL W own A c rd) {sb : Nat} (hne : ∀ k, (Value.slice A rd.length c).ownBlock = some k → k ≠ sb) (q : Nat) (v : Value) : RL (W.setCell ⟨sb, q, none⟩ v) own A c rd := by
  obtain ⟨h1, inner, ho, hr⟩ := h.r
  have h2 : Kd.R Kd.bool 4 W 0 (fun k => ¬ own k ∧ k ≠ sb) (.slice A rd.length c) rd := ⟨fun k hk => ⟨h1 k hk, hne k hk⟩, inner, ho, hr⟩
  have h3 := Kd.R_far h2 (p := ⟨sb, q, none⟩) (fun k hk => hk.2) v
  obtain ⟨h4, inner, ho, hr⟩ := h3
  exact ⟨⟨fun k hk => (h4 k hk).1, inner, ho, hr⟩⟩
/-- A law's own list of whole numbers, in a block of its own. -/
structure SL (W : World) (own : Nat → Prop) (hN sb : Nat) (sl : List Int) : Prop where
  b : Blk W sb 3 (sl.map (Value.int .i64))
  o : ¬ own sb
  g : hN ≤ sb
theorem SL.below {sb : Nat} {sl : List Int} (h : SL W own hN sb sl) (hb : Below W.heap.size W w') : SL w' own hN sb sl := ⟨h.b.below hb, h.o, h.g⟩
theorem SL.then_ {sb : Nat} {sl : List Int} (h : SL W own hN sb sl) (t : Then W own w' own') : SL w' own' hN sb sl :=
  ⟨h.b.mut t.m h.o, fun e => (t.z sb e).elim h.o (fun h2 => by have := h.b.lt; omega), h.g⟩
theorem SL.put {sb : Nat} {sl : List Int} (h : SL W own hN sb sl) (q : Nat) (v : Int) : SL (W.setCell ⟨sb, q, none⟩ (.int .i64 v)) own hN sb (sl.set q v) :=
  ⟨by have := h.b.set q (.int .i64 v); rwa [← List.map_set] at this, h.o, h.g⟩
theorem LW.put {sb : Nat} (h : LW W0 W own b gb hN s m S P cr Ag cg ys) (ho : ¬ own sb) (hg : hN ≤ sb) (q : Nat) (v : Value) : LW W0 (W.setCell ⟨sb, q, none⟩ v) own b gb hN s m S P cr Ag cg ys :=
  ⟨h.X.mut (set_mut _ _ _) (fun k hk e => ho (by have e2 : k = sb := e; rw [← e2]; exact hk)), h.C.mut (set_mut _ _ _) (fun k hk => by
    subst hk
    exact ⟨Nat.le_trans h.z0 hg, fun e => by have := h.G; omega, fun e => by have := h.h _ e; omega⟩), h.N, h.G, h.h, Nat.le_trans h.z (set_mut W ⟨sb, q, none⟩ v).size, h.z0⟩
theorem SL.cell {sb : Nat} {sl : List Int} (h : SL W own hN sb sl) {q : Nat} (hq : q < sl.length) : W.cell? ⟨sb, q, none⟩ = some (.int .i64 (sl.getD q 0)) :=
  h.b.cell (by rw [List.getElem?_map, List.getElem?_eq_getElem hq, List.getD_eq_getElem?_getD, List.getElem?_eq_getElem hq]; rfl)
end
end Go.Proofs.Ytdaadmjppikebaa.SC

/- Plain: whose entities a hart's queue holds; what is picked can run and is the hart's own; credits stay within their bounds. -/
namespace Go.Proofs.Ytdaadmjppikebaa.SC
open Go.RowKit
open Go.Proofs.Ytdaadmjppikebaa.PV (S94 k94 S29 k29 rd_T94 rd_T29)
set_option linter.unusedVariables false
set_option linter.unusedSimpArgs false

/-- Each hart's queue holds just the hart's plain entities. -/
def QI (s : SS) : Prop := ∀ h : Nat, h < s.ts.length → ∀ e : Int, e ∈ (s.trn h).q ↔ e ∈ plainL s h
theorem back_mem {t : ST} (hc : 0 ≤ t.cu → t.cu ∈ t.q) (h0 : 0 ≤ t.cu) (e : Int) : e ∈ (backF t).q ↔ e ∈ t.q := by
  show e ∈ (t.q.filter fun x => x != t.cu) ++ [t.cu] ↔ _
  rw [List.mem_append, List.mem_filter, List.mem_singleton]
  constructor
  · rintro (h | h)
    · exact h.1
    · rw [h]; exact hc h0
  · intro h
    by_cases c : e = t.cu
    · exact .inr c
    · exact .inl ⟨h, by simpa using c⟩
theorem findQ_mem (s : SS) (rd : List Bool) (sm : Bool) : ∀ l : List Int, findQ s rd sm l = -1 ∨ (findQ s rd sm l ∈ l ∧ readyF s rd (findQ s rd sm l) = true)
  | [] => .inl rfl
  | e :: r => by
    unfold findQ
    by_cases c : (richF s rd e || (!sm && readyF s rd e)) = true
    · rw [if_pos c]
      refine .inr ⟨List.mem_cons_self, ?_⟩
      unfold richF at c
      cases h : readyF s rd e with
      | true => rfl
      | false => rw [h] at c; simp at c
    · rw [if_neg c]
      rcases findQ_mem s rd sm r with h | h
      · exact .inl h
      · exact .inr ⟨List.mem_cons_of_mem _ h.1, h.2⟩
theorem findQ_none (s : SS) (rd : List Bool) (sm : Bool) : ∀ l : List Int, (∀ e ∈ l, 0 ≤ e) → findQ s rd sm l = -1 → ∀ e ∈ l, (richF s rd e || (!sm && readyF s rd e)) = false
  | [], _, _, e, he => by simp at he
  | x :: r, h0, h, e, he => by
    unfold findQ at h
    by_cases c : (richF s rd x || (!sm && readyF s rd x)) = true
    · rw [if_pos c] at h
      have := h0 x List.mem_cons_self
      omega
    · rw [if_neg c] at h
      rcases List.mem_cons.1 he with rfl | he
      · simpa using c
      · exact findQ_none s rd sm r (fun y hy => h0 y (List.mem_cons_of_mem _ hy)) h e he
theorem QI.of {s s' : SS} (h : QI s) (st : St s s') (hq : ∀ i, i < s.ts.length → ∀ e, e ∈ (s'.trn i).q ↔ e ∈ (s.trn i).q) : QI s' := by
  intro i hi e
  rw [st.plain]
  have hi' : i < s.ts.length := by rw [← st.tl]; exact hi
  exact (hq i hi' e).trans (h i hi' e)
/-- What holds of what a hart picks. -/
structure PP (s : SS) (h : Nat) (rd : List Bool) (p : Int × SS) : Prop where
  q : QI p.2
  mem : 0 ≤ p.1 → p.1 ∈ plainL s h ∧ readyF s rd p.1 = true
  none : p.1 < 0 → ∀ e ∈ plainL s h, readyF s rd e = false
theorem plainTo_in {s : SS} {h : Int} {k i : Nat} (hi : i < k) (h1 : homeOf s i = h) (h2 : s.gng i = false) : (i : Int) ∈ plainTo s h k := by
  unfold plainTo
  refine List.mem_map.2 ⟨i, List.mem_filter.2 ⟨List.mem_range.2 hi, ?_⟩, rfl⟩
  unfold plainP
  rw [h1, h2]; simp
/-- Credits are within their bounds, a gang's are 0. -/
def CI (s : SS) : Prop := ∀ i, i < s.es.length → -limitF s ≤ (s.ent i).cd ∧ (s.ent i).cd ≤ limitF s ∧ (s.gng i = true → (s.ent i).cd = 0)
theorem CI.of {s s' : SS} (h : CI s) (st : St s s') (hc : ∀ i, i < s.es.length → (s'.ent i).cd = (s.ent i).cd) : CI s' := by
  intro i hi
  rw [st.el] at hi
  rw [st.limit, hc i hi, st.gng]
  exact h i hi
theorem CI.modE {s : SS} (h : CI s) (i : Nat) (hi : i < s.es.length) (f : SE → SE) (hf : ∀ x, (f x).gu = x.gu ∧ (f x).ix = x.ix ∧ (f x).wt = x.wt) (hg : s.gng i = false) (hc : -limitF s ≤ (f (s.ent i)).cd ∧ (f (s.ent i)).cd ≤ limitF s) : CI (s.modE i f) := by
  have st := St.modE s i f hf
  intro j hj
  rw [st.el] at hj
  rw [st.limit, st.gng, modE_ent f hi]
  by_cases c : i = j
  · subst c
    rw [if_pos rfl]
    exact ⟨hc.1, hc.2, fun e => by rw [hg] at e; cases e⟩
  · rw [if_neg c]; exact h j hj
theorem CI.giveGo (sum : Int) (h1 : 1 ≤ sum) (h2 : sum ≤ 64000) : ∀ (l : List Int) (s : SS), Wf s → CI s → (∀ e ∈ l, 0 ≤ e ∧ e < s.es.length ∧ s.gng e.toNat = false) → CI (giveGo sum l s)
  | [], s, _, h, _ => h
  | e :: r, s, hw, h, hl => by
    have he := hl e List.mem_cons_self
    simp only [SC.giveGo]
    by_cases hg : (s.ent e.toNat).gn = true
    · rw [if_pos hg]; exact CI.giveGo sum h1 h2 r s hw h (fun x hx => hl x (List.mem_cons_of_mem _ hx))
    · rw [if_neg hg]
      have hgk := GK.give hw (i := e.toNat) (by omega) h1 h2
      have hi : e.toNat < s.es.length := by omega
      have hc := hw.ec e.toNat hi
      have hci := h e.toNat hi
      have ht := ticksF_range hw.toS
      have hwt := hw.ew e.toNat hi
      have hm : 0 ≤ ticksF s * (s.ent e.toNat).wt := Int.mul_nonneg (by omega) (by omega)
      have hq : 0 ≤ ((s.ent e.toNat).pt + ticksF s * (s.ent e.toNat).wt) / sum := Int.ediv_nonneg (by omega) (by omega)
      have hlim : 0 ≤ limitF s := by unfold limitF; omega
      refine CI.giveGo sum h1 h2 r _ hgk.wf (h.modE e.toNat hi _ (fun _ => ⟨rfl, rfl, rfl⟩) he.2.2 ?_) (fun x hx => by rw [hgk.st.el, hgk.st.gng]; exact hl x (List.mem_cons_of_mem _ hx))
      unfold giveUp
      simp only
      omega
theorem giveGo_none : ∀ (sum : Int) (l : List Int) (s : SS), (∀ e ∈ l, (s.ent e.toNat).gn = true) → giveGo sum l s = s
  | _, [], _, _ => rfl
  | sum, e :: r, s, h => by
    simp only [giveGo]
    rw [if_pos (h e List.mem_cons_self)]
    exact giveGo_none sum r s (fun x hx => h x (List.mem_cons_of_mem _ hx))
theorem CI.giveH {s : SS} (hw : Wf s) (h : CI s) (a : Int) : CI (giveH s a) := by
  have hl := plainTo_len s a s.es.length
  have hem := hw.em
  obtain ⟨h1, h2, h3⟩ := sumGo_range s hw (plainL s a) 0 plainL_range (Int.le_refl 0)
  unfold SC.giveH
  have hr : ∀ e ∈ plainL s a, 0 ≤ e ∧ e < s.es.length ∧ s.gng e.toNat = false := fun e he => by
    obtain ⟨i, rfl, hi, _, hg⟩ := plainTo_mem he
    rw [Int.toNat_natCast]
    exact ⟨by omega, by omega, hg⟩
  by_cases hall : ∀ e ∈ plainL s a, (s.ent e.toNat).gn = true
  · rw [giveGo_none _ _ _ hall]; exact h
  · have : ∃ e ∈ plainL s a, (s.ent e.toNat).gn = false := by
      apply Classical.byContradiction
      intro hn
      exact hall (fun e he => by
        cases hc : (s.ent e.toNat).gn with
        | true => rfl
        | false => exact absurd ⟨e, he, hc⟩ hn)
    obtain ⟨e, he, hc⟩ := this
    exact CI.giveGo _ (h3 e he hc) (by unfold plainL at h2 ⊢; omega) _ s hw h hr
theorem CI.giveFrom : ∀ (f h : Nat) (s : SS), Wf s → CI s → CI (giveFrom f h s)
  | 0, _, _, _, h => h
  | f + 1, k, s, hw, h => CI.giveFrom f (k + 1) _ (giveH_gk hw k).wf (h.giveH hw k)
/-- Both. -/
structure CQ (s : SS) : Prop where
  q : QI s
  c : CI s
theorem CQ.give {s : SS} (hw : Wf s) (h : CQ s) : CQ (giveF s) := by
  have hg := giveF_gk hw
  exact ⟨h.q.of hg.st (fun i hi e => by unfold SS.trn; rw [hg.ts]), h.c.giveFrom _ _ s hw⟩
theorem newS1_cq {m : Nat} {S P : Int} {cr : Bool} {gl : List S94} (hok : NOk m S P gl) : CQ (newS1 m S P cr gl) := by
  have hw := newS1_wf (cr := cr) hok
  refine ⟨fun h hh e => ?_, fun i hi => ?_⟩
  · have hh' : h < m := by simpa [newS1] using hh
    have e1 : ((newS1 m S P cr gl).trn h).q = plainL (newS0 m S P cr gl) h := by
      show (((List.range m).map fun h : Nat => (⟨plainL (newS0 m S P cr gl) h, -1, 0⟩ : ST)).getD h t0).q = _
      rw [List.getD_eq_getElem?_getD, List.getElem?_map, List.getElem?_range hh']
      rfl
    rw [e1]
    exact Iff.rfl
  · obtain ⟨j, x, k, h1, h2, h3⟩ := new_ent (m := m) (S := S) (P := P) (cr := cr) hi
    have e : ((newS1 m S P cr gl).ent i).cd = 0 := by
      show ((newS0 m S P cr gl).ent i).cd = 0
      rw [h3]
    have ht := hw.tk
    rw [e]
    unfold limitF
    exact ⟨by omega, by omega, fun _ => rfl⟩
end Go.Proofs.Ytdaadmjppikebaa.SC

/- Remove, plain; behind it a guest is never picked again. -/
namespace Go.Proofs.Ytdaadmjppikebaa.SC
open Go.RowKit Go.Proofs.YtdaadmjppikebaaW.PrintWords Go.Proofs.YtdaadmjppikebaaW.PrintLast
open Go.Proofs.Ytdaadmjppikebaa.PV (S94 k94 S29 k29 rd_T94 rd_T29)
set_option linter.unusedVariables false
set_option linter.unusedSimpArgs false

def goneF (x : SE) : SE := { x with gn := true }
def outC (i : Nat) (t : ST) : ST := { t with q := t.q.filter fun x => x != (i : Int), cu := if t.cu = (i : Int) then -1 else t.cu }
/-- One entity is taken away, if it is the guest's. -/
def removeE (s : SS) (g : Nat) (i : Nat) : SS :=
  if (s.ent i).gu = (g : Int) then (if s.gng i = true then s.modE i goneF else (s.modE i goneF).modT (homeOf s i).toNat (outC i)) else s
def removeTo (s : SS) (g : Nat) : Nat → SS
  | 0 => s
  | k + 1 => removeE (removeTo s g k) g k
theorem home_range {s : SS} (hw : Wf s) {i : Nat} (hi : i < s.es.length) : 0 ≤ homeOf s i ∧ homeOf s i < s.H := by
  have h1 := hw.H1
  have h2 := hw.eg i hi
  have h3 := hw.eh i hi
  unfold homeOf
  split
  · next h => exact ⟨h2.2.2.1, h3 h⟩
  · exact ⟨Int.emod_nonneg _ (by omega), Int.emod_lt_of_pos _ (by omega)⟩
/-- What a removal keeps. -/
structure RE (s s' : SS) : Prop where
  st : St s s'
  wf : Wf s'
  now : s'.now = s.now
  sh : s'.sh = s.sh
  ch : s'.ch = s.ch
  rn : ∀ j, (s'.ent j).rn = (s.ent j).rn
theorem RE.refl {s : SS} (hw : Wf s) : RE s s := ⟨St.refl s, hw, rfl, rfl, rfl, fun _ => rfl⟩
theorem RE.trans {s s' s2 : SS} (h : RE s s') (k : RE s' s2) : RE s s2 := ⟨h.st.trans k.st, k.wf, k.now.trans h.now, k.sh.trans h.sh, k.ch.trans h.ch, fun j => (k.rn j).trans (h.rn j)⟩
theorem removeE_re {s : SS} (hw : Wf s) (g i : Nat) (hi : i < s.es.length) : RE s (removeE s g i) ∧ ∀ j, ((removeE s g i).ent j).gn = if i = j ∧ (s.ent i).gu = (g : Int) then true else (s.ent j).gn := by
  have h1 : Wf (s.modE i goneF) := hw.modE i hi goneF (fun _ => ⟨rfl, rfl, rfl⟩) (hw.ec i hi)
  have st1 := St.modE s i goneF (fun _ => ⟨rfl, rfl, rfl⟩)
  have rn1 : ∀ j, ((s.modE i goneF).ent j).rn = (s.ent j).rn := fun j => by
    rw [modE_ent _ hi]
    by_cases c : i = j
    · subst c; rw [if_pos rfl]; rfl
    · rw [if_neg c]
  have gn1 : ∀ j, ((s.modE i goneF).ent j).gn = if i = j then true else (s.ent j).gn := fun j => by
    rw [modE_ent _ hi]
    by_cases c : i = j
    · subst c; rw [if_pos rfl, if_pos rfl]; rfl
    · rw [if_neg c, if_neg c]
  unfold removeE
  by_cases hg : (s.ent i).gu = (g : Int)
  · rw [if_pos hg]
    have e : ∀ j, (if i = j ∧ (s.ent i).gu = (g : Int) then true else (s.ent j).gn) = if i = j then true else (s.ent j).gn := fun j => by
      by_cases c : i = j
      · rw [if_pos c, if_pos ⟨c, hg⟩]
      · rw [if_neg c, if_neg (fun h => c h.1)]
    by_cases hq : s.gng i = true
    · rw [if_pos hq]
      exact ⟨⟨st1, h1, rfl, rfl, rfl, rn1⟩, fun j => by rw [e]; exact gn1 j⟩
    · rw [if_neg hq]
      have hr := home_range hw hi
      have htl : (homeOf s i).toNat < (s.modE i goneF).ts.length := by have := hw.tn; show _ < s.ts.length; omega
      obtain ⟨t1, t2, t3, t4, t5, t6, t7, t8⟩ := h1.tq _ htl
      have hq2 : TQ (s.modE i goneF) (outC i ((s.modE i goneF).trn (homeOf s i).toNat)) := by
        refine ⟨fun x hx => t1 x (List.mem_filter.1 hx).1, Nat.le_trans (List.length_filter_le _ _) t2, t3.filter _, ?_, ?_, t6, t7, ?_⟩
        · show -1 ≤ (if _ then (-1 : Int) else _); split <;> omega
        · show (if _ then (-1 : Int) else _) < _; split <;> omega
        · intro h0
          have h0' : 0 ≤ (if ((s.modE i goneF).trn (homeOf s i).toNat).cu = (i : Int) then (-1 : Int) else ((s.modE i goneF).trn (homeOf s i).toNat).cu) := h0
          show (if ((s.modE i goneF).trn (homeOf s i).toNat).cu = (i : Int) then (-1 : Int) else ((s.modE i goneF).trn (homeOf s i).toNat).cu) ∈ ((s.modE i goneF).trn (homeOf s i).toNat).q.filter fun x => x != (i : Int)
          by_cases c : ((s.modE i goneF).trn (homeOf s i).toNat).cu = (i : Int)
          · rw [if_pos c] at h0'; omega
          · rw [if_neg c] at h0' ⊢
            exact List.mem_filter.2 ⟨t8 h0', by simpa using c⟩
      exact ⟨⟨st1.trans (St.modT _ _ _), h1.modT _ htl _ hq2, rfl, rfl, rfl, rn1⟩, fun j => by rw [e]; exact gn1 j⟩
  · rw [if_neg hg]
    exact ⟨RE.refl hw, fun j => by rw [if_neg (fun h => hg h.2)]⟩
theorem removeTo_re {s : SS} (hw : Wf s) (g : Nat) : ∀ k, k ≤ s.es.length → RE s (removeTo s g k) ∧ ∀ j, ((removeTo s g k).ent j).gn = if j < k ∧ (s.ent j).gu = (g : Int) then true else (s.ent j).gn
  | 0, _ => ⟨RE.refl hw, fun j => by rw [if_neg (fun h => by omega)]; rfl⟩
  | k + 1, hk => by
    obtain ⟨h1, h2⟩ := removeTo_re hw g k (by omega)
    obtain ⟨h3, h4⟩ := removeE_re h1.wf g k (by rw [h1.st.el]; omega)
    refine ⟨h1.trans h3, fun j => ?_⟩
    show ((removeE (removeTo s g k) g k).ent j).gn = _
    rw [h4, (h1.st.en k).1, h2]
    by_cases c : k = j
    · subst c
      by_cases c2 : (s.ent k).gu = (g : Int)
      · rw [if_pos ⟨rfl, c2⟩, if_pos ⟨by omega, c2⟩]
      · rw [if_neg (fun h => c2 h.2), if_neg (fun h => c2 h.2), if_neg (fun h => c2 h.2)]
    · rw [if_neg (fun h => c h.1)]
      by_cases c2 : j < k ∧ (s.ent j).gu = (g : Int)
      · rw [if_pos c2, if_pos ⟨by omega, c2.2⟩]
      · rw [if_neg c2, if_neg (fun h => c2 ⟨by omega, h.2⟩)]
theorem RE.cntC {s s' : SS} (h : RE s s') (hc : CntC s 0) : CntC s' 0 := fun i hi => by
  rw [h.ch, h.now]; exact hc i (by rw [← h.ch]; exact hi)
theorem RE.cntR {s s' : SS} (h : RE s s') (hc : CntR s 0) : CntR s' 0 := fun i hi => by
  rw [h.rn, h.now]; exact hc i (by rw [← h.st.el]; exact hi)
/-- Whoever is picked can run. -/
theorem byCreditF_ready {s : SS} {i : Nat} (rd : List Bool) (h0 : 0 ≤ (byCreditF s i rd).1) : readyF s rd (byCreditF s i rd).1 = true := by
  have h2 : ∀ s' : SS, s'.es = s.es → ∀ sm, 0 ≤ (creditF2 s' i rd sm).1 → readyF s rd (creditF2 s' i rd sm).1 = true := fun s' he sm h => by
    have hr : ∀ e, readyF s rd e = readyF s' rd e := fun e => by unfold readyF SS.ent; rw [he]
    unfold creditF2 at h ⊢
    by_cases hf : findQ s' rd sm (s'.trn i).q = -1
    · rw [if_pos hf] at h
      have h' : (0 : Int) ≤ -1 := h
      omega
    · rw [if_neg hf]
      rw [hr]
      exact ((findQ_mem s' rd sm (s'.trn i).q).resolve_left hf).2
  unfold byCreditF at h0 ⊢
  by_cases hc : 0 ≤ (s.trn i).cu
  · rw [if_pos hc] at h0 ⊢
    by_cases hg : goesOn s i rd = true
    · rw [if_pos hg] at h0 ⊢
      unfold goesOn at hg
      simp only [Bool.and_eq_true] at hg
      exact hg.1.1
    · rw [if_neg hg] at h0 ⊢
      exact h2 (s.modT i backF) rfl (someF s i rd) h0
  · rw [if_neg hc] at h0 ⊢
    exact h2 s rfl (someF s i rd) h0
theorem pickF_ready {s : SS} (h : Int) (rd : List Bool) (h0 : 0 ≤ (pickF s h rd).1) : readyF s rd (pickF s h rd).1 = true := by
  unfold pickF at h0 ⊢
  by_cases c : h < 0 ∨ s.H ≤ h
  · rw [if_pos c] at h0; have h' : (0 : Int) ≤ -1 := h0; omega
  · rw [if_neg c] at h0 ⊢
    by_cases hg : 0 ≤ gangF s
    · rw [if_pos hg] at h0 ⊢
      have h0' : 0 ≤ ofGangF s (gangF s) h rd := h0
      show readyF s rd (ofGangF s (gangF s) h rd) = true
      rcases firstGo_range (ofGangP s (gangF s) h rd) s.es.length 0 with h1 | ⟨n, h1, _, _, h3⟩
      · unfold ofGangF at h0'; omega
      · unfold ofGangF
        rw [h1]
        unfold ofGangP at h3
        simp only [Bool.and_eq_true] at h3
        exact h3.2
    · rw [if_neg hg] at h0 ⊢
      by_cases hc : s.cr = true
      · rw [if_pos hc] at h0 ⊢
        exact byCreditF_ready rd h0
      · rw [if_neg hc] at h0 ⊢
        have h0' : 0 ≤ byTurnF s h rd := h0
        show readyF s rd (byTurnF s h rd) = true
        unfold byTurnF at h0' ⊢
        by_cases c2 : 0 ≤ whoseF s h ∧ readyF s rd (whoseF s h) = true
        · rw [if_pos c2]; exact c2.2
        · rw [if_neg c2] at h0'; omega
theorem ranF_rn (s : SS) (g : Int) (h : Nat) (e : Int) (j : Nat) (hj : 0 ≤ e → (j : Int) ≠ e) : ((ranF s g h e).ent j).rn = (s.ent j).rn := by
  have key : ∀ (f : SE → SE), 0 ≤ e → ((s.modE e.toNat f).ent j).rn = (s.ent j).rn := fun f he => by
    by_cases c : e.toNat < s.es.length
    · rw [modE_ent _ c, if_neg (by have := hj he; omega)]
    · rw [modE_out _ _ c]
  unfold ranF
  by_cases he : e < 0
  · rw [if_pos he]
  · rw [if_neg he]
    split
    · exact key _ (by omega)
    · exact key _ (by omega)
theorem tickH_rn {s : SS} (hw : Wf s) (g : Int) (h : Nat) (rd : List Bool) (j : Nat) (hj : (s.ent j).gn = true) : ((tickH s g h rd).ent j).rn = (s.ent j).rn := by
  unfold tickH
  have h1 := (pickF_pk hw h rd)
  have h2 := (chargeF_tk h1.wf g h (pickF s h rd).1).2.1
  rw [ranF_rn _ _ _ _ _ (fun he e => by
    have hr := pickF_ready (s := s) h rd he
    rw [← e] at hr
    unfold readyF at hr
    rw [Int.toNat_natCast, hj] at hr
    simp at hr)]
  unfold SS.ent
  rw [h2, h1.es]
theorem tickFrom_rn (g : Int) (rd : List Bool) : ∀ (f h : Nat) (s : SS) (k : Int), Wf s → g = gangF s → ((h + f : Nat) : Int) ≤ s.H → CntC s k → CntR s k → ∀ j, (s.ent j).gn = true → ((tickFrom g rd f h s).ent j).rn = (s.ent j).rn
  | 0, h, s, k, hw, _, _, hc, hr, j, _ => rfl
  | f + 1, h, s, k, hw, hg, hh, hc, hr, j, hj => by
    obtain ⟨h1, h2, h3⟩ := tickH_tk hw hg (h := h) (by omega) rd hc hr
    exact (tickFrom_rn g rd f (h + 1) (tickH s g h rd) (k + 1) h1.wf (by rw [h1.st.gang h1.now]; exact hg) (by rw [h1.st.H]; omega) h2 h3 j (by rw [tickH_gn hw]; exact hj)).trans (tickH_rn hw g h rd j hj)
theorem tickF_rn {s : SS} (rd : List Bool) (hw : Wf s) (hn : s.now < 4611686018427387904) (hc : CntC s 0) (hr : CntR s 0) (j : Nat) (hj : (s.ent j).gn = true) : ((tickF s rd).ent j).rn = (s.ent j).rn := by
  have hH1 := hw.H1
  have g1 := tickFrom_rn (gangF s) rd s.H.toNat 0 s 0 hw rfl (by omega) hc hr j hj
  obtain ⟨h1, h2, h3⟩ := tickFrom_tk (gangF s) rd s.H.toNat 0 s 0 hw rfl (by omega) hc hr
  obtain ⟨e1, e2⟩ := tickE_wf h1.wf (gangF s) (by rw [h1.now]; exact hn)
  have g2 : ((tickE (tickFrom (gangF s) rd s.H.toNat 0 s) (gangF s)).ent j).rn = (s.ent j).rn := g1
  show ((if (tickE (tickFrom (gangF s) rd s.H.toNat 0 s) (gangF s)).now % (tickE (tickFrom (gangF s) rd s.H.toNat 0 s) (gangF s)).P = 0 ∧ (tickE (tickFrom (gangF s) rd s.H.toNat 0 s) (gangF s)).cr = true then giveF (tickE (tickFrom (gangF s) rd s.H.toNat 0 s) (gangF s)) else tickE (tickFrom (gangF s) rd s.H.toNat 0 s) (gangF s)).ent j).rn = _
  split
  · rw [((giveF_gk e1).gn j).2]; exact g2
  · exact g2
/-- What holds behind the removal of the guest g: all that is its own is gone, and runs no more. -/
structure RmP (g : Nat) (was : List Int) (s : SS) (i : Int) : Prop where
  now : s.now = i
  l : s.es.length = was.length
  gn : ∀ j, j < s.es.length → (s.ent j).gu = (g : Int) → (s.ent j).gn = true ∧ (s.ent j).rn = was.getD j 0
theorem RmP.pick {g : Nat} {was : List Int} {s : SS} {i : Int} (hw : Wf s) (h : RmP g was s i) (a : Int) (rd : List Bool) (hl : rd.length = s.es.length) : RmP g was (pickF s a rd).2 i ∧ ((pickF s a rd).1 = -1 ∨ ∃ p : Nat, (pickF s a rd).1 = (p : Int) ∧ p < s.es.length ∧ (s.ent p).gu ≠ (g : Int) ∧ rd.getD p false = true) := by
  have hp := pickF_pk hw a rd
  refine ⟨⟨hp.now.trans h.now, by rw [hp.es]; exact h.l, fun j hj hg => ?_⟩, ?_⟩
  · unfold SS.ent at hg ⊢
    rw [hp.es] at hg hj ⊢
    exact h.gn j hj hg
  · rcases hp.rg with h1 | h1
    · exact .inl h1
    · refine .inr ⟨(pickF s a rd).1.toNat, by omega, by omega, fun hg => ?_, ?_⟩
      · have hr := pickF_ready (s := s) a rd h1.1
        unfold readyF at hr
        rw [(h.gn _ (by omega) hg).1] at hr
        simp at hr
      · have hr := pickF_ready (s := s) a rd h1.1
        unfold readyF at hr
        simp only [Bool.and_eq_true] at hr
        exact hr.1.2
theorem RmP.tick {W : World} {own : Nat → Prop} {b : Nat} {g : Nat} {was : List Int} {s : SS} {i : Int} (hx : SB W own b s) (h : RmP g was s i) (hi : i ≤ 4194304) (rd : List Bool) : RmP g was (tickF s rd) (i + 1) := by
  have hn := h.now
  have ht := tickF_tf rd hx.wf (by omega) hx.cntC hx.cntR
  refine ⟨by rw [ht.now, hn], by rw [ht.st.el]; exact h.l, fun j hj hg => ?_⟩
  rw [ht.st.el] at hj
  rw [(ht.st.en j).1] at hg
  obtain ⟨h1, h2⟩ := h.gn j hj hg
  exact ⟨by rw [tickF_gn rd hx.wf (by omega) hx.cntC hx.cntR]; exact h1, by rw [tickF_rn rd hx.wf (by omega) hx.cntC hx.cntR j h1]; exact h2⟩
end Go.Proofs.Ytdaadmjppikebaa.SC
