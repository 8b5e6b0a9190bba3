/- Parts of the walk of package sched, merged. -/
/- A scheduler in use: all that holds of it; Tick and Pick keep it. -/
import Derived.Test.YtdaadmjppikebaaK4
import Derived.Test.YtdaadmjppikebaaK5
import Derived.Test.YtdaadmjppikebaaK6
import Derived.Test.YtdaadmjppikebaaK8
import Derived.Test.YtdaadmjppikebaaPVx2
namespace Go.Proofs.Ytdaadmjppikebaa.SC
open Go.RowKit Go.Proofs.YtdaadmjppikebaaW.PrintWords
open Go.Proofs.Ytdaadmjppikebaa.PV (S94 k94)
set_option linter.unusedVariables false

theorem tickFrom_tk (g : Int) (rd : List Bool) : ∀ (f h : Nat) (s : SS) (k : Int), Wf s → g = gangF s → ((h + f : Nat) : Int) ≤ s.H → CntC s k → CntR s k → TK s (tickFrom g rd f h s) ∧ CntC (tickFrom g rd f h s) (k + f) ∧ CntR (tickFrom g rd f h s) (k + f)
  | 0, h, s, k, hw, _, _, hc, hr => ⟨⟨St.refl s, hw, rfl, rfl⟩, hc.mono (by omega), hr.mono (by omega)⟩
  | f + 1, h, s, k, hw, hg, hh, hc, hr => by
    obtain ⟨h1, h2, h3⟩ := tickH_tk hw hg (h := h) (by omega) rd hc hr
    obtain ⟨k1, k2, k3⟩ := tickFrom_tk g rd f (h + 1) (tickH s g h rd) (k + 1) h1.wf (by rw [h1.st.gang h1.now]; exact hg) (by rw [h1.st.H]; omega) h2 h3
    refine ⟨h1.trans k1, ?_, ?_⟩
    · have e : k + ((f + 1 : Nat) : Int) = k + 1 + (f : Int) := by omega
      rw [e]; exact k2
    · have e : k + ((f + 1 : Nat) : Int) = k + 1 + (f : Int) := by omega
      rw [e]; exact k3
/-- What a tick keeps. -/
structure TF (s s' : SS) : Prop where
  st : St s s'
  wf : Wf s'
  now : s'.now = s.now + 1
  sh : s'.sh = if gangF s < 0 then s.sh + 1 else s.sh
  c : CntC s' 0
  n : CntR s' 0
theorem tickF_tf {s : SS} (rd : List Bool) (hw : Wf s) (hn : s.now < 4611686018427387904) (hc : CntC s 0) (hr : CntR s 0) : TF s (tickF s rd) := by
  have hH1 := hw.H1
  have hH8 := hw.H8
  obtain ⟨h1, h2, h3⟩ := tickFrom_tk (gangF s) rd s.H.toNat 0 s 0 hw rfl (by omega) hc hr
  obtain ⟨u, hu⟩ : ∃ u, u = tickFrom (gangF s) rd s.H.toNat 0 s := ⟨_, rfl⟩
  obtain ⟨v, hv⟩ : ∃ v, v = tickE u (gangF s) := ⟨_, rfl⟩
  have htf : tickF s rd = if v.now % v.P = 0 ∧ v.cr = true then giveF v else v := by rw [hv, hu]; rfl
  rw [← hu] at h1 h2 h3
  obtain ⟨e1, e2⟩ := tickE_wf h1.wf (gangF s) (by rw [h1.now]; exact hn)
  rw [← hv] at e1 e2
  have vn : v.now = s.now + 1 := by rw [hv]; show u.now + 1 = _; rw [h1.now]
  have vs : v.sh = if gangF s < 0 then s.sh + 1 else s.sh := by rw [hv]; show (if gangF s < 0 then u.sh + 1 else u.sh) = _; rw [h1.sh]
  have vc : CntC v 0 := fun i hi => by
    have h := h2 i (by rw [hv] at hi; exact hi)
    rw [vn]
    have e : v.ch = u.ch := by rw [hv]; rfl
    rw [e]
    rw [h1.now] at h
    omega
  have vr : CntR v 0 := fun i hi => by
    have h := h3 i (by rw [hv] at hi; exact hi)
    rw [vn]
    have e : v.ent i = u.ent i := by rw [hv]; rfl
    rw [e]
    rw [h1.now] at h
    omega
  rw [htf]
  split
  · have hg := giveF_gk e1
    refine ⟨(h1.st.trans e2).trans hg.st, hg.wf, by rw [hg.now, vn], by rw [hg.sh, vs], fun i hi => ?_, fun i hi => ?_⟩
    · rw [hg.ch, hg.now]; exact vc i (by rw [← hg.ch]; exact hi)
    · rw [(hg.gn i).2, hg.now]; exact vr i (by rw [← hg.st.el]; exact hi)
  · exact ⟨h1.st.trans e2, e1, vn, vs, vc, vr⟩
/-- All that holds of a scheduler in use. -/
structure SX (W : World) (own : Nat → Prop) (L : Lay) (s : SS) : Prop where
  r : SR W own L s
  p : L.pv = pickV L s
  w : Wf s
  c : CntC s 0
  n : CntR s 0
section
variable {W W' : World} {own : Nat → Prop} {L : Lay} {s : SS} {rd : List Bool} {A : Option Addr} {c : Nat}
theorem SX.below (h : SX W own L s) (hb : Below W.heap.size W W') : SX W' own L s := ⟨h.r.below hb, h.p, h.w, h.c, h.n⟩
theorem SX.mut {S : Nat → Prop} (h : SX W own L s) (hm : Mut S W W') (hn : ∀ k, own k → ¬ S k) : SX W' own L s := ⟨h.r.mut hm hn, h.p, h.w, h.c, h.n⟩
/-- What a call of a scheduler leaves. -/
def After (W : World) (own : Nat → Prop) (b : Nat) (s' : SS) (w' : World) : Prop := ∃ own' L', L'.b = b ∧ SX w' own' L' s' ∧ Mut own W w' ∧ (∀ k, own k → own' k) ∧ ∀ k, own' k → own k ∨ W.heap.size ≤ k
theorem tick_calls (h : SX W own L s) (hn : s.now ≤ 288230376151711744) (hr : RD W rd A c) (hno : ∀ ad, A = some ad → ¬ own ad.block ∧ ad.block < W.heap.size) :
    Calls Try.prog 18 #[.pointer (some ⟨L.b, 0, none⟩), .slice A rd.length c] W fun x w' => x = .returned (.tuple #[]) ∧ After W own L.b (tickF s rd) w' := by
  have key : Calls Try.prog 18 #[.pointer (some ⟨L.b, 0, none⟩), .slice A rd.length c] W fun x w' => x = .returned (.tuple #[]) ∧ Post W own L (tickF s rd) w' := by
    rcases Int.lt_or_le (gangF s) 0 with hg | hg
    · cases hc : s.cr with
      | true => exact tick_free_true h.r h.p h.w hn h.c h.n hr hno hc hg
      | false => exact tick_free_false h.r h.p h.w hn h.c h.n hr hno hc hg
    · cases hc : s.cr with
      | true => exact tick_gang_true h.r h.p h.w hn h.c h.n hr hno hc hg
      | false => exact tick_gang_false h.r h.p h.w hn h.c h.n hr hno hc hg
  refine key.mono ?_
  rintro x w' ⟨rfl, own', qs', h1, h2, h3, h4⟩
  have ht := tickF_tf rd h.w (by omega) h.c h.n
  refine ⟨rfl, own', { L with qs := qs' }, rfl, ⟨h1, ?_, ht.wf, ht.c, ht.n⟩, h2, h3, h4⟩
  show L.pv = pickV { L with qs := qs' } (tickF s rd)
  rw [h.p]; unfold pickV; rw [ht.st.cr]
theorem picks_calls (h : SX W own L s) (hr : RD W rd A c) (hno : ∀ ad, A = some ad → ¬ own ad.block) (hart : Int) :
    Calls Try.prog 17 #[.pointer (some ⟨L.b, 0, none⟩), .int .i64 hart, .slice A rd.length c] W fun x w' => x = .returned (.int .i64 (pickF s hart rd).1) ∧ After W own L.b (pickF s hart rd).2 w' := by
  refine (pick_calls h.r h.p h.w hr hno hart).mono ?_
  rintro x w' ⟨rfl, own', qs', h1, h2, h3, h4⟩
  have ht := pickF_pk h.w hart rd
  refine ⟨rfl, own', { L with qs := qs' }, rfl, ⟨h1, ?_, ht.wf, ?_, ?_⟩, h2, h3, h4⟩
  · show L.pv = pickV { L with qs := qs' } (pickF s hart rd).2
    rw [h.p]; unfold pickV; rw [ht.st.cr]
  · intro i hi
    rw [ht.ch, ht.now]; exact h.c i (by rw [← ht.ch]; exact hi)
  · intro i hi
    have e : (pickF s hart rd).2.ent i = s.ent i := by unfold SS.ent; rw [ht.es]
    rw [e, ht.now]; exact h.n i (by rw [← ht.es]; exact hi)
end
end Go.Proofs.Ytdaadmjppikebaa.SC

/- What a law needs of a scheduler, by its pointer alone; lists of who can run. -/
namespace Go.Proofs.Ytdaadmjppikebaa.SC
open Go.RowKit Go.Proofs.YtdaadmjppikebaaW.PrintWords Go.Proofs.YtdaadmjppikebaaW.PrintLast
open Go.Proofs.Ytdaadmjppikebaa.PV (S94 k94)
set_option linter.unusedVariables false

/-- A scheduler in the block b. -/
def SB (W : World) (own : Nat → Prop) (b : Nat) (s : SS) : Prop := ∃ L, L.b = b ∧ SX W own L s
/-- A list of who can run, apart from a scheduler's blocks. -/
structure RL (W : World) (own : Nat → Prop) (A : Option Addr) (c : Nat) (rd : List Bool) : Prop where
  r : Kd.R Kd.bool 4 W 0 (fun k => ¬ own k) (.slice A rd.length c) rd
structure Then (W : World) (own : Nat → Prop) (w' : World) (own' : Nat → Prop) : Prop where
  m : Mut own W w'
  a : ∀ k, own k → own' k
  z : ∀ k, own' k → own k ∨ W.heap.size ≤ k
section
variable {W W' w' : World} {own own' : Nat → Prop} {b : Nat} {s : SS} {rd : List Bool} {A : Option Addr} {c : Nat}
theorem SB.below (h : SB W own b s) (hb : Below W.heap.size W W') : SB W' own b s := by obtain ⟨L, h1, h2⟩ := h; exact ⟨L, h1, h2.below hb⟩
theorem SB.lt (h : SB W own b s) : ∀ k, own k → k < W.heap.size := by obtain ⟨L, h1, h2⟩ := h; exact h2.r.lt
theorem SB.wf (h : SB W own b s) : Wf s := by obtain ⟨L, h1, h2⟩ := h; exact h2.w
theorem SB.cntC (h : SB W own b s) : CntC s 0 := by obtain ⟨L, h1, h2⟩ := h; exact h2.c
theorem SB.cntR (h : SB W own b s) : CntR s 0 := by obtain ⟨L, h1, h2⟩ := h; exact h2.n
theorem SB.mut {S : Nat → Prop} (h : SB W own b s) (hm : Mut S W W') (hn : ∀ k, own k → ¬ S k) : SB W' own b s := by obtain ⟨L, h1, h2⟩ := h; exact ⟨L, h1, h2.mut hm hn⟩
theorem RL.below (h : RL W own A c rd) (hb : Below W.heap.size W W') : RL W' own A c rd := ⟨Kd.R_below h.r hb⟩
theorem RL.toRD (h : RL W own A c rd) : RD W rd A c := ⟨(Kd.R_reads' h.r).2.2, (Kd.R_reads' h.r).2.1⟩
theorem RL.no (h : RL W own A c rd) : ∀ ad, A = some ad → ¬ own ad.block ∧ ad.block < W.heap.size := by
  intro ad e
  subst e
  exact ⟨h.r.1 ad.block rfl, Kd.R_lt h.r ad.block rfl⟩
theorem RL.then_ (h : RL W own A c rd) (t : Then W own w' own') : RL w' own' A c rd := by
  refine ⟨?_⟩
  have h1 := Kd.R_lt h.r
  have h2 := h.r.1
  have h3 : Kd.R Kd.bool 4 w' 0 (fun k => ¬ own k) (.slice A rd.length c) rd := Kd.R_kept h.r t.m.kept (fun k hk => hk)
  obtain ⟨_, inner, ho, hr⟩ := h3
  refine ⟨fun k hk h4 => ?_, inner, ho, hr⟩
  rcases t.z k h4 with h5 | h5
  · exact h2 k hk h5
  · have := h1 k hk; omega
/-- A list that was made behind a scheduler. -/
theorem RL.new (h : SB W own b s) {v : Value} (hr : Kd.R Kd.bool 4 w' W.heap.size (fun _ => True) v rd) : ∃ A c, v = .slice A rd.length c ∧ RL w' own A c rd := by
  obtain ⟨A, c, rfl⟩ := Kd.R_slice hr
  obtain ⟨h0, inner, ho, hrr⟩ := hr
  refine ⟨A, c, rfl, ⟨?_⟩⟩
  have hb := Kd.R_base (show Kd.R Kd.bool 4 w' W.heap.size (fun _ => True) (.slice A rd.length c) rd from ⟨h0, inner, ho, hrr⟩)
  have h2 : Kd.R Kd.bool 4 w' 0 (fun _ => True) (.slice A rd.length c) rd := Kd.R_lower ⟨h0, inner, ho, hrr⟩ (Nat.zero_le _)
  obtain ⟨_, inner2, ho2, hrr2⟩ := h2
  exact ⟨fun k hk hk2 => by have := hb k hk; have := h.lt k hk2; omega, inner2, ho2, hrr2⟩
theorem SB.tick (h : SB W own b s) (hn : s.now ≤ 288230376151711744) (hr : RL W own A c rd) :
    Calls Try.prog 18 #[.pointer (some ⟨b, 0, none⟩), .slice A rd.length c] W fun x w' => x = .returned (.tuple #[]) ∧ ∃ own', SB w' own' b (tickF s rd) ∧ Then W own w' own' := by
  obtain ⟨L, rfl, h⟩ := h
  refine (tick_calls h hn hr.toRD hr.no).mono ?_
  rintro x w' ⟨rfl, own', L', h1, h2, h3, h4, h5⟩
  exact ⟨rfl, own', ⟨L', h1, h2⟩, ⟨h3, h4, h5⟩⟩
theorem SB.pick (h : SB W own b s) (hr : RL W own A c rd) (hart : Int) :
    Calls Try.prog 17 #[.pointer (some ⟨b, 0, none⟩), .int .i64 hart, .slice A rd.length c] W fun x w' => x = .returned (.int .i64 (pickF s hart rd).1) ∧ ∃ own', SB w' own' b (pickF s hart rd).2 ∧ Then W own w' own' := by
  obtain ⟨L, rfl, h⟩ := h
  refine (picks_calls h hr.toRD (fun ad e => (hr.no ad e).1) hart).mono ?_
  rintro x w' ⟨rfl, own', L', h1, h2, h3, h4, h5⟩
  exact ⟨rfl, own', ⟨L', h1, h2⟩, ⟨h3, h4, h5⟩⟩
theorem SB.now (h : SB W own b s) : Calls Try.prog 27 #[.pointer (some ⟨b, 0, none⟩)] W fun e w' => e = .returned (.int .u64 s.now) ∧ W = w' := by
  obtain ⟨L, rfl, h⟩ := h; exact now_calls h.r
theorem SB.entities (h : SB W own b s) : Calls Try.prog 15 #[.pointer (some ⟨b, 0, none⟩)] W fun e w' => e = .returned (.int .i64 (s.es.length : Int)) ∧ W = w' := by
  obtain ⟨L, rfl, h⟩ := h; exact entities_calls h.r
theorem SB.charged (h : SB W own b s) (g : Int) : Calls Try.prog 23 #[.pointer (some ⟨b, 0, none⟩), .int .i64 g] W fun x w' => x = .returned (.int .u64 (if withinB g 0 ((s.ch.length : Int) - 1) = true then s.ch.getD g.toNat 0 else 0)) ∧ W = w' := by
  obtain ⟨L, rfl, h⟩ := h; exact charged_calls h.r (by rw [h.w.cn]; exact h.w.gm) g
theorem SB.ran (h : SB W own b s) (e : Int) : Calls Try.prog 26 #[.pointer (some ⟨b, 0, none⟩), .int .i64 e] W fun x w' => x = .returned (.int .u64 (if thereB s e = true then (s.ent e.toNat).rn else 0)) ∧ W = w' := by
  obtain ⟨L, rfl, h⟩ := h; exact ran_calls h.r e
theorem SB.credit (h : SB W own b s) (e : Int) : Calls Try.prog 29 #[.pointer (some ⟨b, 0, none⟩), .int .i64 e] W fun x w' => x = .returned (.int .i64 (if thereB s e = true then (s.ent e.toNat).cd else 0)) ∧ W = w' := by
  obtain ⟨L, rfl, h⟩ := h; exact credit_calls h.r e
theorem SB.gang (h : SB W own b s) : Calls Try.prog 21 #[.pointer (some ⟨b, 0, none⟩)] W fun x w' => x = .returned (.int .i64 (gangF s)) ∧ Below W.heap.size W w' := by
  obtain ⟨L, rfl, h⟩ := h; exact gang_calls h.r h.w
theorem SB.home (h : SB W own b s) (e : Int) : Calls Try.prog 24 #[.pointer (some ⟨b, 0, none⟩), .int .i64 e] W fun x w' => x = .returned (.int .i64 (if thereB s e = true then homeOf s e.toNat else -1)) ∧ Below W.heap.size W w' := by
  obtain ⟨L, rfl, h⟩ := h; exact home_calls h.r e
theorem SB.guest (h : SB W own b s) (e : Int) : Calls Try.prog 22 #[.pointer (some ⟨b, 0, none⟩), .int .i64 e] W fun x w' => x = .returned (.tuple (if thereB s e = true then #[.int .i64 (s.ent e.toNat).gu, .int .i64 (s.ent e.toNat).ix] else #[.int .i64 (-1), .int .i64 (-1)])) ∧ Below W.heap.size W w' := by
  obtain ⟨L, rfl, h⟩ := h; exact guest_calls h.r e
end
theorem newF_ok {m : Nat} {S P : Int} {cr : Bool} {gl : List S94} (hok : NOk m S P gl) : Wf (newF m S P cr gl) ∧ CntC (newF m S P cr gl) 0 ∧ CntR (newF m S P cr gl) 0 ∧ St (newS1 m S P cr gl) (newF m S P cr gl) ∧ (newF m S P cr gl).now = 0 ∧ (newF m S P cr gl).sh = 0 := by
  have hw := newS1_wf (cr := cr) hok
  have hc : CntC (newS1 m S P cr gl) 0 := fun i hi => by
    have e : (newS1 m S P cr gl).ch.getD i 0 = 0 := by
      show (List.replicate gl.length (0 : Int)).getD i 0 = 0
      rw [List.getD_eq_getElem?_getD, List.getElem?_replicate]; split <;> rfl
    rw [e]; show 0 ≤ (0 : Int) ∧ (0 : Int) ≤ 8 * 0 + 0; omega
  have hn : CntR (newS1 m S P cr gl) 0 := fun i hi => by
    obtain ⟨j, x, k, h1, h2, h3⟩ := new_ent (m := m) (S := S) (P := P) (cr := cr) hi
    have e : ((newS1 m S P cr gl).ent i).rn = 0 := by
      show ((newS0 m S P cr gl).ent i).rn = 0
      rw [h3]
    rw [e]; show 0 ≤ (0 : Int) ∧ (0 : Int) ≤ 8 * 0 + 0; omega
  unfold newF
  split
  · have hg := giveF_gk hw
    refine ⟨hg.wf, fun i hi => ?_, fun i hi => ?_, hg.st, hg.now, hg.sh⟩
    · rw [hg.ch, hg.now]; exact hc i (by rw [← hg.ch]; exact hi)
    · rw [(hg.gn i).2, hg.now]; exact hn i (by rw [← hg.st.el]; exact hi)
  · exact ⟨hw, hc, hn, St.refl _, rfl, rfl⟩
/-- New of a conf that may be. -/
theorem new_sb {W : World} {m : Nat} {H S P : Int} {cr : Bool} {gl : List S94} {A : Option Addr} {cp k : Nat} (hH : H = (m : Int)) (hR : PV.sched_Right.f k H S P cr gl = some true) (hC : Kd.C k94 W A gl.length gl) (hc : gl.length ≤ cp) (hok : NOk m S P gl) :
    Calls Try.prog 13 #[.agg #[.int .i64 H, .int .i64 S, .int .i64 P, .bool cr, .slice A gl.length cp]] W fun x w' => ∃ b own, x = .returned (.tuple #[.pointer (some ⟨b, 0, none⟩), .int .i64 0]) ∧ SB w' own b (newF m S P cr gl) ∧ (∀ k, own k → W.heap.size ≤ k) ∧ Below W.heap.size W w' := by
  subst hH
  refine (new_calls hR hC hc hok).mono ?_
  rintro x w' ⟨L, own, h1, h2, h3, h4, h5⟩
  obtain ⟨w1, w2, w3, _⟩ := newF_ok (cr := cr) hok
  exact ⟨L.b, own, h1, ⟨L, rfl, h2, h3, w1, w2, w3⟩, h4, h5⟩
end Go.Proofs.Ytdaadmjppikebaa.SC

/- awake: it answers true. -/
namespace Go.Proofs.Ytdaadmjppikebaa.SC
open Go.RowKit Go.Proofs.YtdaadmjppikebaaW.PrintWords Go.Proofs.YtdaadmjppikebaaW.PrintLast
open Go.Proofs.Ytdaadmjppikebaa.PV (S94 k94 S29 k29)
set_option linter.unusedVariables false
set_option linter.unusedSimpArgs false

def awG : List S94 := [⟨1, 0, 1, [], [], [], false⟩, ⟨1, 0, 1, [], [], [], false⟩]
def awS : SS := newF 1 2 10 false awG
theorem aw_conf : PV.citadellaw18_C_Conf.f 5 1 2 10 false [⟨1, 1, false⟩, ⟨1, 1, false⟩] = some (1, 2, 10, false, awG) := by kernel_rfl
theorem aw_right : PV.sched_Right.f 9 1 2 10 false awG = some true := by kernel_rfl
theorem aw_ok : NOk 1 2 10 awG where
  m1 := by decide
  m8 := by decide
  S1 := by decide
  S2 := by decide
  P1 := by decide
  P2 := by decide
  g1 := by decide
  g8 := by decide
  x := by
    intro x hx
    simp only [awG, List.mem_cons, List.not_mem_nil, or_false] at hx
    rcases hx with rfl | rfl <;> exact ⟨by decide, by decide, by decide, by decide, fun h => by cases h⟩
  e := by decide
  t := by decide
theorem aw_1 : (pickF awS 0 [true, true]).1 = 0 := by kernel_rfl
theorem aw_2 : (pickF awS 0 [true, true]).2 = awS := by kernel_rfl
theorem aw_3 : (pickF (tickF (tickF awS [true, true]) [true, true]) 0 [true, true]).1 = 1 := by kernel_rfl
theorem aw_4 : (pickF (tickF (tickF awS [true, true]) [true, true]) 0 [true, true]).2 = tickF (tickF awS [true, true]) [true, true] := by kernel_rfl
theorem aw_5 : (tickF (tickF awS [true, true]) [true, true]).now = 2 := by kernel_rfl
theorem aw_6 : (if withinB 0 0 (((tickF (tickF awS [true, true]) [true, true]).ch.length : Int) - 1) = true then (tickF (tickF awS [true, true]) [true, true]).ch.getD (0 : Int).toNat 0 else 0) = 2 := by kernel_rfl
theorem aw_n0 : awS.now = 0 := by kernel_rfl
theorem aw_n1 : (tickF awS [true, true]).now = 1 := by kernel_rfl
structure AW (W0 W : World) (own : Nat → Prop) (b : Nat) (s : SS) (A : Option Addr) (c : Nat) (rd : List Bool) : Prop where
  B : Below W0.heap.size W0 W
  S : SB W own b s
  O : ∀ k, own k → W0.heap.size ≤ k
  L : RL W own A c rd
theorem AW.then_ {W0 W w' : World} {own own' : Nat → Prop} {b : Nat} {s s' : SS} {A : Option Addr} {c : Nat} {rd : List Bool} (h : AW W0 W own b s A c rd) (hs : SB w' own' b s') (ht : Then W own w' own') : AW W0 w' own' b s' A c rd :=
  ⟨h.B.trans (ht.m.to_below h.B.size h.O), hs, fun k hk => (ht.z k hk).elim (h.O k) (fun h2 => Nat.le_trans h.B.size h2), h.L.then_ ht⟩
set_option maxRecDepth 100000 in
set_option maxHeartbeats 1600000 in
theorem awake_calls (W : World) : Calls Try.prog 19 #[] W fun x w' => x = .returned (.bool true) ∧ Below W.heap.size W w' := by
  obtain ⟨y1, hy1⟩ : ∃ y1 : List S29, y1 = [⟨1, 1, false⟩, ⟨1, 1, false⟩] := ⟨_, rfl⟩
  obtain ⟨y2, hy2⟩ : ∃ y2 : List Bool, y2 = [true, true] := ⟨_, rfl⟩
  have Ny1 := Aside0.mk hy1
  have Ny2 := Aside0.mk hy2
  clear hy1 hy2
  go_enter Try.func19, Try.ntmps19
  go_upto_region 2 with (first | ((with_reducible refine gate_dst (N := 8) rfl ?_); refine Kd.R_lit k29 _ 29 ?hg (N := 8) ?hd (xs := ([(⟨1, 1, false⟩ : S29), ⟨1, 1, false⟩] : List S29)) (inner := [.int .i64 1, .int .i64 1, .bool false, .int .i64 1, .int .i64 1, .bool false]) (ok := fun _ => True) (okp := fun _ => True) ?hr ?hp (fun _ hk => hk) trivial (Below.refl _ _) (Nat.le_refl _) (by simp) ?_; (case hd => rfl); (case hg => rfl); (case hr => first | (go_simp; done) | (go_simp; rfl)); (case hp => exact (Reps.c3 (show Kd.M k29 _ _ _ (⟨1, 1, false⟩ : S29) [.int .i64 1, .int .i64 1, .bool false] from (PV.k29_mkM _ _ _ (⟨1, 1, false⟩ : S29))) (Reps.c3 (show Kd.M k29 _ _ _ (⟨1, 1, false⟩ : S29) [.int .i64 1, .int .i64 1, .bool false] from (PV.k29_mkM _ _ _ (⟨1, 1, false⟩ : S29))) (Reps.none _ _)))); intro v1 w1 ho hb hg_ hnew_; clear hg_ hnew_; rw [← Ny1.out] at ho; obtain ⟨A1, c1, e1⟩ := Kd.R_slice ho; subst e1; have HO1 := Aside0.mk ho; have HB1 := Aside0.mk hb; clear ho hb) | (go_at_call 14; refine (PV.citadellaw18_C_Conf.calls 5 1 2 10 false _ _ y1 1 2 10 false awG _ (Kd.R_reads' HO1.out).2.2 (Kd.R_reads' HO1.out).2.1 (by rw [Ny1.out]; exact aw_conf)).mono ?_; rintro e w2 ⟨v2, rfl, hs2, hb2⟩; obtain ⟨A2, c2, e2, hl2, hC2⟩ := Kd.S_reads hs2; subst e2; have HC2 := Aside0.mk hC2; have HL2 := Aside0.mk hl2; have HB2 := Aside0.mk (below_step HB1.out hb2); clear hs2 hl2 hC2 hb2) | (go_at_call 13; refine (new_sb (m := 1) (k := 9) rfl aw_right HC2.out HL2.out aw_ok).mono ?_; rintro e w3 ⟨b, own, rfl, hsb, hown, hb3⟩; have HS0 := Aside0.mk (show SB w3 own b awS from hsb); have HB3 := Aside0.mk (below_step HB2.out hb3); have HO0 := Aside0.mk (show ∀ k, own k → W.heap.size ≤ k from fun k hk => Nat.le_trans HB2.out.size (hown k hk)); clear hsb hown hb3))
  clear HO1 HB1 HB2 HC2 HL2
  go_wp2_with (first | ((with_reducible refine gate_dst (N := 20) rfl ?_); refine Kd.R_lit Kd.bool _ 4 ?hg2 (N := 20) ?hd2 (xs := ([true, true] : List Bool)) (inner := [.bool true, .bool true]) (ok := fun _ => True) (okp := fun _ => True) ?hr2 ?hp2 (fun _ hk => hk) trivial (Below.refl _ _) (Nat.le_refl _) (by simp) ?_; (case hd2 => rfl); (case hg2 => rfl); (case hr2 => first | (go_simp; done) | (go_simp; rfl)); (case hp2 => exact (Reps.one (show Kd.M Kd.bool _ _ _ true [.bool true] from rfl) (Reps.one (show Kd.M Kd.bool _ _ _ true [.bool true] from rfl) (Reps.none _ _)))); intro v4 w4 ho hb hg_ hnew_; clear hg_ hnew_; rw [← Ny2.out] at ho; obtain ⟨A4, c4, e4, hl4⟩ := RL.new HS0.out ho; subst e4; have HW0 := Aside0.mk (show AW W w4 own b awS A4 c4 y2 from ⟨below_step HB3.out hb, HS0.out.below hb, HO0.out, hl4⟩); clear ho hb hl4 HS0 HB3 HO0) | (go_at_call 17; refine (HW3.out.S.pick HW3.out.L 0).mono ?_; rintro e w8 ⟨he, own4, hs, ht⟩; rw [Ny2.out, aw_3] at he; subst he; have HW4 := Aside0.mk (show AW W w8 own4 b (tickF (tickF awS [true, true]) [true, true]) A4 c4 y2 from HW3.out.then_ (by rw [Ny2.out, aw_4] at hs; exact hs) ht); clear hs ht HW3) | (go_at_call 17; refine (HW0.out.S.pick HW0.out.L 0).mono ?_; rintro e w5 ⟨he, own1, hs, ht⟩; rw [Ny2.out, aw_1] at he; subst he; have HW1 := Aside0.mk (show AW W w5 own1 b awS A4 c4 y2 from HW0.out.then_ (by rw [Ny2.out, aw_2] at hs; exact hs) ht); clear hs ht HW0) | (go_at_call 18; refine (HW2.out.S.tick (by rw [aw_n1]; decide) HW2.out.L).mono ?_; rintro e w7 ⟨rfl, own3, hs, ht⟩; have HW3 := Aside0.mk (show AW W w7 own3 b (tickF (tickF awS [true, true]) [true, true]) A4 c4 y2 from HW2.out.then_ (by rw [Ny2.out] at hs; exact hs) ht); clear hs ht HW2) | (go_at_call 18; refine (HW1.out.S.tick (by rw [aw_n0]; decide) HW1.out.L).mono ?_; rintro e w6 ⟨rfl, own2, hs, ht⟩; have HW2 := Aside0.mk (show AW W w6 own2 b (tickF awS [true, true]) A4 c4 y2 from HW1.out.then_ (by rw [Ny2.out] at hs; exact hs) ht); clear hs ht HW1) | (go_at_call 27; refine HW4.out.S.now.mono ?_; rintro e w9 ⟨he, rfl⟩; rw [aw_5] at he; subst he) | (go_at_call 23; refine (HW4.out.S.charged 0).mono ?_; rintro e w9 ⟨he, rfl⟩; rw [aw_6] at he; subst he))
  go_ret
  exact ⟨rfl, HW4.out.B⟩
end Go.Proofs.Ytdaadmjppikebaa.SC

/- Plain laws of the printed functions: mod, list, Conf, Right. -/
namespace Go.Proofs.Ytdaadmjppikebaa.SC
open Go.RowKit Go.Proofs.YtdaadmjppikebaaW.PrintWords Go.Proofs.YtdaadmjppikebaaW.PrintLast
open Go.Proofs.Ytdaadmjppikebaa.PV (S94 k94 S29 k29 rd_T94 rd_T29)
set_option linter.unusedVariables false
set_option linter.unusedSimpArgs false

theorem wrap64_id {x : Int} (h : -9223372036854775808 ≤ x) (h2 : x ≤ 9223372036854775807) : wrap64 x = x := by unfold wrap64; omega
def confL (ys : List S29) : List S94 := ys.map fun y => ⟨y.f0, 0, y.f1, [], [], [], y.f2⟩
def vSum (gl : List S94) : Int := (gl.map fun x => x.f0).sum
def gSum (gl : List S94) : Int := (gl.map fun x => if x.f6 = true then x.f2 else 0).sum
theorem ents_sum (gl : List S94) (h : ∀ x ∈ gl, 0 ≤ x.f0) : ∀ i, ((entsL i gl).length : Int) = vSum gl := by
  induction gl with
  | nil => intro i; rfl
  | cons x r ih =>
    intro i
    have h1 := h x List.mem_cons_self
    have h2 := ih (fun y hy => h y (List.mem_cons_of_mem _ hy)) (i + 1)
    have h3 : vSum (x :: r) = x.f0 + vSum r := by simp [vSum]
    rw [entsL, List.length_append, entsTo_len, h3, ← h2]
    omega
theorem ticks_sum (gl : List S94) : ∀ P, ticksGo (guestsL gl) P = P - gSum gl := by
  induction gl with
  | nil => intro P; simp [guestsL, ticksGo, gSum]
  | cons x r ih =>
    intro P
    have h3 : gSum (x :: r) = (if x.f6 = true then x.f2 else 0) + gSum r := by simp [gSum]
    rw [h3]
    show ticksGo (guestsL r) (if x.f6 = true then P - x.f2 else P) = _
    rw [ih]
    split <;> omega
/-- The list of who can run, of n bits. -/
def bitsL (v : Int) (n : Nat) : List Bool := (List.range n).map fun i : Nat => (Int.tmod (shr .u64 v (i : Int)) 2) == 1
theorem list_l0 (v : Int) (n : Nat) (hn : n ≤ 64) : ∀ (f j : Nat), j + f = n → PV.citadellaw18_list.l0 (f + 1) v (n : Int) (bitsL v j) (j : Int) = some (bitsL v n)
  | 0, j, h => by
    unfold PV.citadellaw18_list.l0
    rw [if_neg (by omega), show j = n by omega]
  | f + 1, j, h => by
    unfold PV.citadellaw18_list.l0
    have hw : IntKind.u64.wrap (j : Int) = (j : Int) := by rw [IntKind.wrap_u64]; omega
    rw [if_pos (by omega), if_pos (by omega), hw, if_pos (by omega), if_pos (by simp [bitsL]; omega), wrap64_id (by omega) (by omega)]
    have e : bitsL v j ++ [((Int.tmod (shr .u64 v (j : Int)) 2) == 1)] = bitsL v (j + 1) := by unfold bitsL; rw [List.range_succ, List.map_append]; rfl
    rw [e]
    exact list_l0 v n hn f (j + 1) (by omega)
theorem list_f (v : Int) (n : Nat) (hn : n ≤ 64) : PV.citadellaw18_list.f (n + 1) v (n : Int) = some (bitsL v n) := by
  unfold PV.citadellaw18_list.f
  exact list_l0 v n hn n 0 (by omega)
end Go.Proofs.Ytdaadmjppikebaa.SC
