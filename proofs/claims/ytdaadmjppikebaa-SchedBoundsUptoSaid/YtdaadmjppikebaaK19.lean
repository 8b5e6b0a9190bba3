import Derived.Test.YtdaadmjppikebaaK17
/- Parts of the walk of package sched, merged. -/
/- SchedBounds, plain, first part: what a tick leaves of a hart's entities and its turn, but for the hart's own. -/
namespace Go.Proofs.Ytdaadmjppikebaa.SC
open Go.RowKit
open Go.Proofs.Ytdaadmjppikebaa.PV (S94 k94 S29 k29 rd_T94 rd_T29)
set_option linter.unusedVariables false
set_option linter.unusedSimpArgs false

theorem modT_trn_ne (s : SS) {i j : Nat} (f : ST → ST) (hj : j ≠ i) : (s.modT i f).trn j = s.trn j := by
  unfold SS.modT SS.trn
  simp only [List.getD_eq_getElem?_getD, List.getElem?_modify]
  have : ¬ i = j := fun e => hj e.symm
  simp [this]
theorem creditF2_trn {s : SS} {i : Nat} (rd : List Bool) (sm : Bool) (j : Nat) (hj : j ≠ i) : (creditF2 s i rd sm).2.trn j = s.trn j := by
  unfold creditF2
  split
  · rfl
  · exact modT_trn_ne s _ hj
theorem pickF_trn (s : SS) (h : Nat) (rd : List Bool) (j : Nat) (hj : j ≠ h) : (pickF s (h : Int) rd).2.trn j = s.trn j := by
  unfold pickF
  split
  · rfl
  · split
    · rfl
    · split
      · rw [Int.toNat_natCast]
        unfold byCreditF
        split
        · split
          · rfl
          · rw [creditF2_trn _ _ _ hj, modT_trn_ne _ _ hj]
        · exact creditF2_trn _ _ _ hj
      · rfl
theorem ranF_trn (s : SS) (g : Int) (h : Nat) (e : Int) (j : Nat) (hj : j ≠ h ∨ 0 ≤ g) : (ranF s g h e).trn j = s.trn j := by
  unfold ranF
  split
  · rfl
  · split
    · next hc =>
      rcases hj with hj | hj
      · exact modT_trn_ne _ _ hj
      · omega
    · rfl
theorem tickH_trn {s : SS} (hw : Wf s) (g : Int) (h : Nat) (rd : List Bool) (j : Nat) (hj : j ≠ h) : (tickH s g h rd).trn j = s.trn j := by
  have hp := pickF_pk hw (h : Int) rd
  unfold tickH
  rw [ranF_trn _ _ _ _ _ (.inl hj)]
  have hc := (chargeF_tk hp.wf g h (pickF s h rd).1).2.2
  have e : (chargeF (pickF s h rd).2 g h (pickF s h rd).1).trn j = (pickF s h rd).2.trn j := by unfold SS.trn; rw [hc]
  rw [e, pickF_trn s h rd j hj]
theorem tickH_trn_gang {s : SS} (hw : Wf s) {g : Int} (hg : g = gangF s) (h0 : 0 ≤ g) (h : Nat) (hh : (h : Int) < s.H) (rd : List Bool) (j : Nat) : (tickH s g h rd).trn j = s.trn j := by
  have hp := pickF_pk hw (h : Int) rd
  have e1 : (pickF s (h : Int) rd).2 = s := by unfold pickF; rw [if_neg (by omega), if_pos (by omega)]
  unfold tickH
  rw [ranF_trn _ _ _ _ _ (.inr h0)]
  have hc := (chargeF_tk hp.wf g h (pickF s h rd).1).2.2
  have e : (chargeF (pickF s h rd).2 g h (pickF s h rd).1).trn j = (pickF s h rd).2.trn j := by unfold SS.trn; rw [hc]
  rw [e, e1]
/-- Of a hart, nothing is turned. -/
structure Sm (a : Nat) (s s' : SS) : Prop where
  e : ∀ e ∈ plainL s a, s'.ent e.toNat = s.ent e.toNat
  t : s'.trn a = s.trn a
theorem Sm.refl (a : Nat) (s : SS) : Sm a s s := ⟨fun _ _ => rfl, rfl⟩
theorem Sm.trans {a : Nat} {s s' s2 : SS} (st : St s s') (h : Sm a s s') (k : Sm a s' s2) : Sm a s s2 := ⟨fun e he => (k.e e (by rw [st.plain]; exact he)).trans (h.e e he), k.t.trans h.t⟩
/-- All that holds in the middle of a tick. -/
structure Md (s : SS) (k : Int) : Prop where
  w : Wf s
  c : CntC s k
  n : CntR s k
  q : CQ s
theorem tickH_sm {a : Nat} {s : SS} {k : Int} (hm : Md s k) {g : Int} (hg : g = gangF s) {h : Nat} (hh : (h : Int) < s.H) (rd : List Bool) (hne : h ≠ a ∨ 0 ≤ g) : Sm a s (tickH s g h rd) := by
  refine ⟨fun e he => ?_, ?_⟩
  · obtain ⟨i, rfl, hi, hho, hgn⟩ := plainTo_mem he
    rw [Int.toNat_natCast, tickH_ent hm.w, if_neg]
    intro hp
    rcases Int.lt_or_le g 0 with hg0 | hg0
    · have h2 := ((pickF_pp hm.w hm.q.q hh (by omega) rd).2.1 (by omega)).1
      rw [hp] at h2
      obtain ⟨i2, hi2, _, hho2, _⟩ := plainTo_mem h2
      have : i2 = i := by omega
      subst this
      rcases hne with hne | hne
      · exact hne (by omega)
      · omega
    · obtain ⟨gn, hgn2⟩ : ∃ gn : Nat, gangF s = (gn : Int) := ⟨(gangF s).toNat, by omega⟩
      rcases (pick_gang hm.w hh hgn2 rd).2 with h2 | ⟨p, h2, _, h3, _⟩
      · omega
      · have : p = i := by omega
        subst this
        have h4 := (gangF_g (s := s) (by omega)).2
        rw [hgn2, Int.toNat_natCast] at h4
        unfold SS.gng at hgn
        rw [h3, Int.toNat_natCast, h4] at hgn
        cases hgn
  · rcases Int.lt_or_le g 0 with hg0 | hg0
    · exact tickH_trn hm.w g h rd a (by rcases hne with h1 | h1 <;> omega)
    · exact tickH_trn_gang hm.w hg hg0 h hh rd a
theorem Md.tick {s : SS} {k : Int} (hm : Md s k) {g : Int} (hg : g = gangF s) {h : Nat} (hh : (h : Int) < s.H) (rd : List Bool) : Md (tickH s g h rd) (k + 1) ∧ TK s (tickH s g h rd) := by
  obtain ⟨h1, h2, h3⟩ := tickH_tk hm.w hg (h := h) hh rd hm.c hm.n
  exact ⟨⟨h1.wf, h2, h3, tickH_cq hm.w hg hh rd hm.q⟩, h1⟩
theorem tickFrom_sm {a : Nat} (rd : List Bool) : ∀ (f h : Nat) (s : SS) (k : Int), Md s k → ((h + f : Nat) : Int) ≤ s.H → (a < h ∨ h + f ≤ a ∨ 0 ≤ gangF s) → Sm a s (tickFrom (gangF s) rd f h s)
  | 0, h, s, k, _, _, _ => Sm.refl a s
  | f + 1, h, s, k, hm, hh, hne => by
    obtain ⟨h1, h2⟩ := hm.tick rfl (h := h) (by omega) rd
    have hg : gangF (tickH s (gangF s) h rd) = gangF s := h2.st.gang h2.now
    have := tickFrom_sm (a := a) rd f (h + 1) (tickH s (gangF s) h rd) (k + 1) h1 (by rw [h2.st.H]; omega) (by rw [hg]; omega)
    rw [hg] at this
    exact (tickH_sm hm rfl (by omega) rd (by omega)).trans h2.st this
/-- A tick in shared time, of one hart: the state ahead of the hart's turn, and what its turn leaves. -/
theorem tickFrom_at {a : Nat} (rd : List Bool) : ∀ (f h : Nat) (s : SS) (k : Int), Md s k → ((h + f : Nat) : Int) ≤ s.H → h ≤ a → a < h + f → ∃ (sa : SS) (k' : Int), Md sa k' ∧ TK s sa ∧ Sm a s sa ∧ Sm a (tickH sa (gangF s) a rd) (tickFrom (gangF s) rd f h s)
  | 0, h, s, k, _, _, h1, h2 => by omega
  | f + 1, h, s, k, hm, hh, hle, hlt => by
    obtain ⟨h1, h2⟩ := hm.tick rfl (h := h) (by omega) rd
    have hg : gangF (tickH s (gangF s) h rd) = gangF s := h2.st.gang h2.now
    by_cases c : h = a
    · subst c
      have := tickFrom_sm (a := h) rd f (h + 1) (tickH s (gangF s) h rd) (k + 1) h1 (by rw [h2.st.H]; omega) (by omega)
      rw [hg] at this
      exact ⟨s, k, hm, ⟨St.refl s, hm.w, rfl, rfl⟩, Sm.refl h s, this⟩
    · obtain ⟨sa, k', m1, m2, m3, m4⟩ := tickFrom_at (a := a) rd f (h + 1) (tickH s (gangF s) h rd) (k + 1) h1 (by rw [h2.st.H]; omega) (by omega) (by omega)
      rw [hg] at m4
      exact ⟨sa, k', m1, h2.trans m2, (tickH_sm hm rfl (by omega) rd (.inl c)).trans h2.st m3, m4⟩
/-- Who can run in the middle of a tick: as at its beginning. -/
theorem Sm.ready {a : Nat} {s sa : SS} (h : Sm a s sa) (rd : List Bool) {e : Int} (he : e ∈ plainL s a) : readyF sa rd e = readyF s rd e := by
  unfold readyF; rw [h.e e he]
end Go.Proofs.Ytdaadmjppikebaa.SC

/- SchedBounds, plain, second part: how long others can be ahead of one that has credit. -/
namespace Go.Proofs.Ytdaadmjppikebaa.SC
open Go.RowKit
open Go.Proofs.Ytdaadmjppikebaa.PV (S94 k94 S29 k29 rd_T94 rd_T29)
set_option linter.unusedVariables false
set_option linter.unusedSimpArgs false

theorem len_le_of : ∀ (q l : List Int), q.Nodup → l.Nodup → (∀ e ∈ q, e ∈ l) → q.length ≤ l.length
  | [], l, _, _, _ => by simp
  | e :: r, l, hq, hl, h => by
    rw [List.nodup_cons] at hq
    have he := h e List.mem_cons_self
    have h1 := List.length_erase_of_mem he
    have h2 : 0 < l.length := List.length_pos_of_mem he
    have := len_le_of r (l.erase e) hq.2 (hl.erase e) (fun x hx => (List.mem_erase_of_ne (show x ≠ e from fun c => hq.1 (by rw [← c]; exact hx))).2 (h x (List.mem_cons_of_mem _ hx)))
    rw [List.length_cons]
    omega
def before (x : Int) (l : List Int) : List Int := l.takeWhile (fun y => y != x)
theorem before_cons (x y : Int) (r : List Int) : before x (y :: r) = if y = x then [] else y :: before x r := by
  unfold before
  rw [List.takeWhile_cons]
  by_cases c : y = x
  · simp [c]
  · simp [c]
theorem before_lt {x : Int} : ∀ l : List Int, x ∈ l → (before x l).length < l.length
  | [], h => by simp at h
  | y :: r, h => by
    rw [before_cons]
    by_cases c : y = x
    · rw [if_pos c]; simp
    · rw [if_neg c, List.length_cons, List.length_cons]
      have := before_lt r ((List.mem_cons.1 h).resolve_left (fun e => c e.symm))
      omega
theorem before_sub {x : Int} : ∀ l : List Int, ∀ e ∈ before x l, e ∈ l ∧ e ≠ x
  | [], e, h => by simp [before] at h
  | y :: r, e, h => by
    rw [before_cons] at h
    by_cases c : y = x
    · rw [if_pos c] at h; simp at h
    · rw [if_neg c] at h
      rcases List.mem_cons.1 h with rfl | h
      · exact ⟨List.mem_cons_self, c⟩
      · have := before_sub r e h
        exact ⟨List.mem_cons_of_mem _ this.1, this.2⟩
theorem before_nodup {x : Int} : ∀ l : List Int, l.Nodup → (before x l).Nodup
  | [], _ => by simp [before]
  | y :: r, h => by
    rw [List.nodup_cons] at h
    rw [before_cons]
    by_cases c : y = x
    · rw [if_pos c]; simp
    · rw [if_neg c, List.nodup_cons]
      exact ⟨fun e => h.1 (before_sub r y e).1, before_nodup r h.2⟩
theorem before_app {x : Int} : ∀ (l r : List Int), x ∈ l → before x (l ++ r) = before x l
  | [], r, h => by simp at h
  | y :: t, r, h => by
    rw [List.cons_append, before_cons, before_cons]
    by_cases c : y = x
    · rw [if_pos c, if_pos c]
    · rw [if_neg c, if_neg c, before_app t r ((List.mem_cons.1 h).resolve_left (fun e => c e.symm))]
theorem before_filter {x c : Int} (hc : c ≠ x) : ∀ l : List Int, before x (l.filter fun y => y != c) = (before x l).filter fun y => y != c
  | [] => by simp [before]
  | y :: t => by
    rw [before_cons]
    by_cases h1 : y = c
    · have h2 : ¬ y = x := fun e => hc (h1 ▸ e)
      rw [if_neg h2, List.filter_cons, List.filter_cons]
      have e : (y != c) = false := by simp [h1]
      rw [e]
      simp only [Bool.false_eq_true, if_false]
      exact before_filter hc t
    · have e : (y != c) = true := by simpa using h1
      rw [List.filter_cons, e, if_pos rfl, before_cons]
      by_cases h2 : y = x
      · rw [if_pos h2, if_pos h2]; rfl
      · rw [if_neg h2, if_neg h2, List.filter_cons, e, if_pos rfl, before_filter hc t]
theorem filter_one {p : Int} : ∀ l : List Int, l.Nodup → p ∈ l → (l.filter fun y => y != p).length + 1 = l.length
  | [], _, h => by simp at h
  | y :: t, hn, h => by
    rw [List.nodup_cons] at hn
    rw [List.filter_cons]
    by_cases c : y = p
    · have e : (y != p) = false := by simp [c]
      rw [e]
      simp only [Bool.false_eq_true, if_false, List.length_cons]
      have : (t.filter fun z => z != p) = t := by
        rw [List.filter_eq_self]
        intro z hz
        have : z ≠ p := fun e2 => hn.1 (by rw [c, ← e2]; exact hz)
        simpa using this
      rw [this]
    · have e : (y != p) = true := by simpa using c
      rw [e, if_pos rfl, List.length_cons, List.length_cons, filter_one t hn.2 ((List.mem_cons.1 h).resolve_left (fun e2 => c e2.symm))]
theorem filter_none {p : Int} (l : List Int) (h : p ∉ l) : (l.filter fun y => y != p) = l := by
  rw [List.filter_eq_self]
  intro z hz
  have : z ≠ p := fun e => h (e ▸ hz)
  simpa using this
/-- The first who has credit stands ahead of any other who has. -/
theorem findQ_first (s : SS) (rd : List Bool) {x : Int} (hx : richF s rd x = true) : ∀ l : List Int, x ∈ l → findQ s rd true l ≠ x → findQ s rd true l ∈ before x l
  | [], h, _ => by simp at h
  | y :: t, h, hne => by
    unfold findQ at hne ⊢
    simp only [Bool.not_true, Bool.false_and, Bool.or_false] at hne ⊢
    by_cases c : richF s rd y = true
    · rw [if_pos c] at hne ⊢
      rw [before_cons, if_neg hne]
      exact List.mem_cons_self
    · rw [if_neg c] at hne ⊢
      have hyx : ¬ y = x := fun e => c (e ▸ hx)
      rw [before_cons, if_neg hyx]
      exact List.mem_cons_of_mem _ (findQ_first s rd hx t ((List.mem_cons.1 h).resolve_left (fun e => hyx e.symm)) hne)
def ahead (x : Int) (t : ST) : Nat := ((before x t.q).filter fun y => y != t.cu).length
/-- How many ticks of others can be ahead of x. -/
def pot (S n : Int) (x : Int) (t : ST) : Int := if t.cu = x then n * S else (ahead x t : Int) * S + (if 0 ≤ t.cu then S - t.us else 0)
theorem pot_nonneg {S n x : Int} {t : ST} (hS : 1 ≤ S) (hn : 0 ≤ n) (hu : t.us ≤ S) : 0 ≤ pot S n x t := by
  unfold pot
  have h1 := Int.mul_nonneg hn (show 0 ≤ S by omega)
  have h2 := Int.mul_nonneg (show 0 ≤ (ahead x t : Int) by omega) (show 0 ≤ S by omega)
  split
  · exact h1
  · split <;> omega
theorem pot_le {S n x : Int} {t : ST} (hS : 1 ≤ S) (hx : x ∈ t.q) (hn : (t.q.length : Int) ≤ n) (hu : 0 ≤ t.us) : pot S n x t ≤ n * S := by
  unfold pot
  split
  · exact Int.le_refl _
  · have h1 : (ahead x t : Int) + 1 ≤ n := by
      have h2 : ahead x t ≤ (before x t.q).length := List.length_filter_le _ _
      have h3 := before_lt t.q hx
      omega
    have h4 := Int.mul_le_mul_of_nonneg_right h1 (show 0 ≤ S by omega)
    rw [Int.add_mul, Int.one_mul] at h4
    split <;> omega
/-- A tick of another's brings one that has credit nearer to its turn. -/
theorem pot_step {s : SS} (hw : Wf s) (hq : QI s) {i : Nat} (hi : i < s.ts.length) (rd : List Bool) {x : Int} (hx : x ∈ plainL s i) (hr : richF s rd x = true) (h0 : 0 ≤ (byCreditF s i rd).1) (hne : (byCreditF s i rd).1 ≠ x) :
    pot s.S (plainL s i).length x { (byCreditF s i rd).2.trn i with us := ((byCreditF s i rd).2.trn i).us + 1 } + 1 ≤ pot s.S (plainL s i).length x (s.trn i) := by
  obtain ⟨t1, t2, t3, t4, t5, t6, t7, t8⟩ := hw.tq i hi
  have hS := hw.S1
  have hxq : x ∈ (s.trn i).q := (hq i hi x).2 hx
  have hql : (s.trn i).q.length ≤ (plainL s i).length := len_le_of _ _ t3 (plainL_nodup s i) (fun e he => (hq i hi e).1 he)
  have hsome : someF s i rd = true := by unfold someF; exact List.any_eq_true.2 ⟨x, hxq, hr⟩
  have hx0 := (t1 x hxq).1
  -- behind a new choice
  have key : ∀ (s' : SS), s'.es = s.es → s'.ts.length = s.ts.length → x ∈ (s'.trn i).q → (s'.trn i).q.Nodup → 0 ≤ (creditF2 s' i rd true).1 → (creditF2 s' i rd true).1 ≠ x →
      pot s.S (plainL s i).length x { (creditF2 s' i rd true).2.trn i with us := ((creditF2 s' i rd true).2.trn i).us + 1 } + 1 ≤ ((before x (s'.trn i).q).length : Int) * s.S := by
    intro s' he hl hx' hnd hp0 hpx
    have hr' : richF s' rd x = true := by unfold richF readyF SS.ent at hr ⊢; rw [he]; exact hr
    unfold creditF2 at hp0 hpx ⊢
    by_cases hf : findQ s' rd true (s'.trn i).q = -1
    · rw [if_pos hf] at hp0
      have h' : (0 : Int) ≤ -1 := hp0
      omega
    · rw [if_neg hf] at hp0 hpx ⊢
      have hmem := findQ_first s' rd hr' (s'.trn i).q hx' hpx
      simp only
      rw [modT_trn _ (by omega), if_pos rfl]
      have hp0' : 0 ≤ findQ s' rd true (s'.trn i).q := hp0
      have hpx' : findQ s' rd true (s'.trn i).q ≠ x := hpx
      unfold pot ahead
      simp only
      rw [if_neg hpx', if_pos hp0']
      have h1 := filter_one (p := findQ s' rd true (s'.trn i).q) (before x (s'.trn i).q) (before_nodup _ hnd) hmem
      have h2 : ((before x (s'.trn i).q).length : Int) = (((before x (s'.trn i).q).filter fun y => y != findQ s' rd true (s'.trn i).q).length : Int) + 1 := by omega
      rw [h2, Int.add_mul, Int.one_mul]
      omega
  unfold byCreditF at h0 hne ⊢
  rw [hsome] at h0 hne ⊢
  by_cases hc : 0 ≤ (s.trn i).cu
  · rw [if_pos hc] at h0 hne ⊢
    by_cases hg : goesOn s i rd = true
    · rw [if_pos hg] at hne ⊢
      have hcx : (s.trn i).cu ≠ x := hne
      show pot s.S (plainL s i).length x { s.trn i with us := (s.trn i).us + 1 } + 1 ≤ _
      unfold pot ahead
      simp only
      rw [if_neg hcx, if_pos hc, if_neg hcx, if_pos hc]
      omega
    · rw [if_neg hg] at h0 hne ⊢
      have hb : ((s.modT i backF).trn i).q = (backF (s.trn i)).q := by rw [modT_trn _ hi, if_pos rfl]
      have hxb : x ∈ ((s.modT i backF).trn i).q := by rw [hb]; exact (back_mem t8 hc x).2 hxq
      have hk := key (s.modT i backF) rfl (by simp) hxb (by rw [hb]; exact nodup_back t3 _) h0 hne
      refine Int.le_trans hk ?_
      rw [hb]
      by_cases hcx : (s.trn i).cu = x
      · unfold pot
        rw [if_pos hcx]
        refine Int.mul_le_mul_of_nonneg_right ?_ (by omega)
        have h1 := before_lt (backF (s.trn i)).q (by rw [← hb]; exact hxb)
        have h2 := back_len hw hi hc
        have h3 : (backF (s.trn i)).q.length = (s.trn i).q.length := by
          show ((s.trn i).q.filter (fun y => y != (s.trn i).cu) ++ [(s.trn i).cu]).length = _
          rw [List.length_append, List.length_singleton]
          exact filter_one _ t3 (t8 hc)
        omega
      · have hxf : x ∈ (s.trn i).q.filter (fun y => y != (s.trn i).cu) := List.mem_filter.2 ⟨hxq, by have : x ≠ (s.trn i).cu := fun e => hcx e.symm
                                                                                                     simpa using this⟩
        have e1 : before x (backF (s.trn i)).q = (before x (s.trn i).q).filter (fun y => y != (s.trn i).cu) := by
          show before x ((s.trn i).q.filter (fun y => y != (s.trn i).cu) ++ [(s.trn i).cu]) = _
          rw [before_app _ _ hxf, before_filter hcx]
        unfold pot ahead
        rw [if_neg hcx, if_pos hc, e1]
        omega
  · rw [if_neg hc] at h0 hne ⊢
    have hk := key s rfl rfl hxq t3 h0 hne
    refine Int.le_trans hk ?_
    have hcx : (s.trn i).cu ≠ x := by omega
    unfold pot ahead
    rw [if_neg hcx, if_neg hc, filter_none _ (fun e => hc (t1 _ (before_sub _ _ e).1).1)]
    omega
end Go.Proofs.Ytdaadmjppikebaa.SC

/- SchedBounds, plain, third part: what holds tick by tick; what a tick makes of one entity. -/
namespace Go.Proofs.Ytdaadmjppikebaa.SC
open Go.RowKit
open Go.Proofs.Ytdaadmjppikebaa.PV (S94 k94 S29 k29 rd_T94 rd_T29)
set_option linter.unusedVariables false
set_option linter.unusedSimpArgs false

def sumW (s : SS) (a : Nat) : Int := sumE (fun e => (s.ent e.toNat).wt) (plainL s a)
theorem sumW_st {s s' : SS} (st : St s s') (a : Nat) : sumW s' a = sumW s a := by
  unfold sumW
  rw [st.plain]
  exact sumE_congr _ (fun e _ => (st.en e.toNat).2.2)
theorem giveH_ent_other {s : SS} (hw : Wf s) {a : Nat} (h : Nat) (hne : h ≠ a) : ∀ e ∈ plainL s a, (giveH s h).ent e.toNat = s.ent e.toNat := fun e he => by
  obtain ⟨i, rfl, hi, hho, hgn⟩ := plainTo_mem he
  rw [Int.toNat_natCast]
  unfold giveH
  refine giveGo_out _ _ _ _ (fun x hx => (plainL_range x hx).1) (fun c => ?_)
  obtain ⟨i2, hi2, _, hho2, _⟩ := plainTo_mem c
  have : i2 = i := by omega
  subst this
  omega
theorem giveH_ent_this {s : SS} (hw : Wf s) (hg : ∀ k, (s.ent k).gn = false) (a : Nat) : ∀ e ∈ plainL s a, (giveH s a).ent e.toNat = giveUp (ticksF s) (limitF s) (sumW s a) (s.ent e.toNat) := fun e he => by
  have hsum : sumGo s (plainL s a) 0 = sumW s a := by rw [sumGo_all s _ _ (fun e _ => hg _), Int.zero_add]; rfl
  obtain ⟨i, hi, _⟩ := plainTo_mem he
  unfold giveH
  rw [hsum, hi, Int.toNat_natCast]
  exact giveGo_in _ _ s i (plainL_nodup s a) plainL_range (fun x _ => hg _) (by rw [← hi]; exact he)
theorem giveFrom_ent_past {a : Nat} : ∀ (f h : Nat) (s : SS), Wf s → a < h → ∀ e ∈ plainL s a, (giveFrom f h s).ent e.toNat = s.ent e.toNat
  | 0, _, _, _, _, e, _ => rfl
  | f + 1, h, s, hw, hlt, e, he => by
    have hg := giveH_gk hw (h : Int)
    show (giveFrom f (h + 1) (giveH s h)).ent e.toNat = _
    rw [giveFrom_ent_past (a := a) f (h + 1) (giveH s h) hg.wf (by omega) e (by rw [hg.st.plain]; exact he), giveH_ent_other hw h (by omega) e he]
theorem giveFrom_ent {a : Nat} : ∀ (f h : Nat) (s : SS), Wf s → (∀ k, (s.ent k).gn = false) → h ≤ a → a < h + f → ∀ e ∈ plainL s a, (giveFrom f h s).ent e.toNat = giveUp (ticksF s) (limitF s) (sumW s a) (s.ent e.toNat)
  | 0, _, _, _, _, h1, h2, e, _ => by omega
  | f + 1, h, s, hw, hgn, hle, hlt, e, he => by
    have hg := giveH_gk hw (h : Int)
    have hgn' : ∀ k, ((giveH s h).ent k).gn = false := fun k => (hg.gn k).1.trans (hgn k)
    show (giveFrom f (h + 1) (giveH s h)).ent e.toNat = _
    have he' : e ∈ plainL (giveH s h) a := by rw [hg.st.plain]; exact he
    by_cases c : h = a
    · subst c
      rw [giveFrom_ent_past (a := h) f (h + 1) _ hg.wf (by omega) e he', giveH_ent_this hw hgn h e he]
    · rw [giveFrom_ent f (h + 1) _ hg.wf hgn' (by omega) (by omega) e he', giveH_ent_other hw h c e he, hg.st.ticks, hg.st.limit, sumW_st hg.st]
theorem tickFrom_pt (g : Int) (rd : List Bool) : ∀ (f h : Nat) (s : SS) (k : Int), Md s k → g = gangF s → ((h + f : Nat) : Int) ≤ s.H → ∀ j, ((tickFrom g rd f h s).ent j).pt = (s.ent j).pt
  | 0, h, s, k, _, _, _, j => rfl
  | f + 1, h, s, k, hm, hg, hh, j => by
    obtain ⟨h1, h2⟩ := hm.tick hg (h := h) (by omega) rd
    refine (tickFrom_pt g rd f (h + 1) (tickH s g h rd) (k + 1) h1 (by rw [h2.st.gang h2.now]; exact hg) (by rw [h2.st.H]; omega) j).trans ?_
    rw [tickH_ent hm.w]
    split
    · unfold ranE; split <;> rfl
    · rfl
/-- What holds in every state of SchedBounds: p whole periods and y ticks were ticked. -/
structure BZ (a : Nat) (q w P : Int) (p y : Int) (s : SS) : Prop where
  now : s.now = P * p + y
  yr : 0 ≤ y ∧ y < P
  hP : s.P = P
  H : (a : Int) < s.H
  tk : ticksF s = q
  qP : q ≤ P
  p0 : 0 ≤ p
  sh : s.sh = q * p + max 0 (y - (P - q))
  cq : CQ s
  gn : ∀ k, (s.ent k).gn = false
  pt : s.cr = true → ∀ e ∈ plainL s a, 0 ≤ (s.ent e.toNat).pt ∧ (s.ent e.toNat).pt < w
  sw : sumW s a = w
/-- The state ahead of a period's credits. -/
def midF (s : SS) (rd : List Bool) : SS := tickE (tickFrom (gangF s) rd s.H.toNat 0 s) (gangF s)
theorem tickF_mid (s : SS) (rd : List Bool) : tickF s rd = if (midF s rd).now % (midF s rd).P = 0 ∧ (midF s rd).cr = true then giveF (midF s rd) else midF s rd := rfl
section
variable {a : Nat} {q w P p y : Int} {s : SS}
theorem BZ.mod (h : BZ a q w P p y s) : s.now % s.P = y := by
  rw [h.now, h.hP, Int.add_comm, Int.add_mul_emod_self_left]
  exact Int.emod_eq_of_lt h.yr.1 h.yr.2
theorem BZ.gang (h : BZ a q w P p y s) (hw : Wf s) : gangF s < 0 ↔ P - q ≤ y := by
  have := gangF_neg hw
  rwa [h.tk, h.mod, h.hP] at this
theorem mid_ok (hw : Wf s) (hn : s.now < 4611686018427387904) (hc : CntC s 0) (hr : CntR s 0) (hq : CQ s) (rd : List Bool) : Wf (midF s rd) ∧ St s (midF s rd) ∧ (midF s rd).now = s.now + 1 ∧ (midF s rd).sh = (if gangF s < 0 then s.sh + 1 else s.sh) ∧ CQ (midF s rd) ∧ (∀ k, ((midF s rd).ent k).gn = (s.ent k).gn) ∧ (∀ k, ((midF s rd).ent k).pt = (s.ent k).pt) := by
  have hH1 := hw.H1
  obtain ⟨h1, h2, h3⟩ := tickFrom_tk (gangF s) rd s.H.toNat 0 s 0 hw rfl (by omega) hc hr
  obtain ⟨e1, e2⟩ := tickE_wf h1.wf (gangF s) (by rw [h1.now]; exact hn)
  have k1 := tickFrom_cq (gangF s) rd s.H.toNat 0 s 0 hw rfl (by omega) hc hr hq
  have g1 := tickFrom_gn (gangF s) rd s.H.toNat 0 s 0 hw rfl (by omega) hc hr
  have p1 := tickFrom_pt (gangF s) rd s.H.toNat 0 s 0 ⟨hw, hc, hr, hq⟩ rfl (by omega)
  refine ⟨e1, h1.st.trans e2, ?_, ?_, ⟨k1.q, k1.c⟩, g1, p1⟩
  · show (tickFrom (gangF s) rd s.H.toNat 0 s).now + 1 = _; rw [h1.now]
  · show (if gangF s < 0 then (tickFrom (gangF s) rd s.H.toNat 0 s).sh + 1 else (tickFrom (gangF s) rd s.H.toNat 0 s).sh) = _; rw [h1.sh]
theorem BZ.end_iff (h : BZ a q w P p y s) (hw : Wf s) (hn : s.now < 4611686018427387904) (hc : CntC s 0) (hr : CntR s 0) (rd : List Bool) : ((midF s rd).now % (midF s rd).P = 0 ↔ y + 1 = P) := by
  obtain ⟨m1, m2, m3, _⟩ := mid_ok hw hn hc hr h.cq rd
  have hy := h.yr
  have e3 : P * (p + 1) = P * p + P := by rw [Int.mul_add, Int.mul_one]
  rw [m3, m2.P, h.hP, h.now]
  by_cases c : y + 1 = P
  · rw [show P * p + y + 1 = P * (p + 1) by omega, Int.mul_emod_right]
    exact ⟨fun _ => c, fun _ => rfl⟩
  · rw [show P * p + y + 1 = (y + 1) + P * p by omega, Int.add_mul_emod_self_left, Int.emod_eq_of_lt (by omega) (by omega)]
    constructor <;> intro _ <;> omega
theorem BZ.tick (h : BZ a q w P p y s) (hw : Wf s) (hn : s.now < 4611686018427387904) (hc : CntC s 0) (hr : CntR s 0) (hw1 : 1 ≤ (plainL s a).length → 1 ≤ w) (rd : List Bool) :
    BZ a q w P (if y + 1 = P then p + 1 else p) (if y + 1 = P then 0 else y + 1) (tickF s rd) := by
  obtain ⟨m1, m2, m3, m4, m5, m6, m7⟩ := mid_ok hw hn hc hr h.cq rd
  have hend := h.end_iff hw hn hc hr rd
  have hgang := h.gang hw
  have hy := h.yr
  have hsh := h.sh
  have hnow := h.now
  have hqP := h.qP
  have hp0 := h.p0
  have hH := h.H
  have htk := ticksF_range hw.toS
  rw [h.tk] at htk
  have e3 : P * (p + 1) = P * p + P := by rw [Int.mul_add, Int.mul_one]
  have e4 : q * (p + 1) = q * p + q := by rw [Int.mul_add, Int.mul_one]
  have ht := tickF_tf rd hw hn hc hr
  have hcq := tickF_cq rd hw hn hc hr h.cq
  have hgn : ∀ k, ((tickF s rd).ent k).gn = false := fun k => (tickF_gn rd hw hn hc hr k).trans (h.gn k)
  have hpt : (tickF s rd).cr = true → ∀ e ∈ plainL (tickF s rd) a, 0 ≤ ((tickF s rd).ent e.toNat).pt ∧ ((tickF s rd).ent e.toNat).pt < w := fun hcr e he => by
    rw [ht.st.plain] at he
    have hcr' : s.cr = true := by rw [← ht.st.cr]; exact hcr
    have h0 := h.pt hcr' e he
    have hl : 1 ≤ (plainL s a).length := List.length_pos_of_mem he
    rw [tickF_mid]
    split
    · have he2 : e ∈ plainL (midF s rd) a := by rw [m2.plain]; exact he
      have := giveFrom_ent (a := a) (midF s rd).H.toNat 0 (midF s rd) m1 (fun k => (m6 k).trans (h.gn k)) (Nat.zero_le _) (by rw [m2.H]; omega) e he2
      show 0 ≤ ((giveFrom (midF s rd).H.toNat 0 (midF s rd)).ent e.toNat).pt ∧ ((giveFrom (midF s rd).H.toNat 0 (midF s rd)).ent e.toNat).pt < w
      rw [this, sumW_st m2, h.sw]
      have hw0 := hw1 hl
      exact ⟨Int.emod_nonneg _ (show w ≠ 0 by omega), Int.emod_lt_of_pos _ (show 0 < w by omega)⟩
    · rw [m7]; exact h0
  by_cases c : y + 1 = P
  · rw [if_pos c, if_pos c]
    refine ⟨by rw [ht.now, hnow, e3]; omega, by omega, ht.st.P.trans h.hP, by rw [ht.st.H]; exact hH, by rw [ht.st.ticks]; exact h.tk, hqP, by omega, ?_, hcq, hgn, hpt, by rw [sumW_st ht.st]; exact h.sw⟩
    rw [ht.sh, if_pos (hgang.2 (by omega)), hsh, e4]
    omega
  · rw [if_neg c, if_neg c]
    refine ⟨by rw [ht.now, hnow]; omega, by omega, ht.st.P.trans h.hP, by rw [ht.st.H]; exact hH, by rw [ht.st.ticks]; exact h.tk, hqP, hp0, ?_, hcq, hgn, hpt, by rw [sumW_st ht.st]; exact h.sw⟩
    rw [ht.sh, hsh]
    by_cases cg : gangF s < 0
    · rw [if_pos cg]
      have := hgang.1 cg
      omega
    · rw [if_neg cg]
      have : ¬ (P - q ≤ y) := fun c2 => cg (hgang.2 c2)
      omega
theorem tickH_trn_self (hw : Wf s) {g : Int} (hg : g < 0) (rd : List Bool) (hcr : s.cr = true) (ha : a < s.ts.length) (hp : 0 ≤ (pickF s a rd).1) : (tickH s g a rd).trn a = { (pickF s a rd).2.trn a with us := ((pickF s a rd).2.trn a).us + 1 } := by
  have hpk := pickF_pk hw (a : Int) rd
  have hc := chargeF_tk hpk.wf g a (pickF s a rd).1
  unfold tickH ranF
  rw [if_neg (by omega), if_pos ⟨by rw [hc.1.st.cr, hpk.st.cr]; exact hcr, hg⟩]
  have hl : a < ((chargeF (pickF s (a : Int) rd).2 g a (pickF s (a : Int) rd).1).modE (pickF s (a : Int) rd).1.toNat fun x => { x with rn := x.rn + 1, cd := max (x.cd - 1) (-limitF (chargeF (pickF s (a : Int) rd).2 g a (pickF s (a : Int) rd).1)) }).ts.length := by
    show a < (chargeF (pickF s (a : Int) rd).2 g a (pickF s (a : Int) rd).1).ts.length
    rw [hc.2.2, hpk.st.tl]; exact ha
  rw [modT_trn _ hl, if_pos rfl]
  have e : ∀ f : SE → SE, ((chargeF (pickF s (a : Int) rd).2 g a (pickF s (a : Int) rd).1).modE (pickF s (a : Int) rd).1.toNat f).trn a = (pickF s (a : Int) rd).2.trn a := fun f => by
    show (chargeF (pickF s (a : Int) rd).2 g a (pickF s (a : Int) rd).1).trn a = _
    unfold SS.trn; rw [hc.2.2]
  rw [e]
/-- What a tick makes of an entity that can run: it runs, or (ahead of the credits) it is as it was, and if it has credit it comes nearer. -/
theorem mid_x (h : BZ a q w P p y s) (hw : Wf s) (hn : s.now < 4611686018427387904) (hc : CntC s 0) (hr : CntR s 0) (rd : List Bool) {x : Nat} (hx : (x : Int) ∈ plainL s a) (hrd : readyF s rd x = true) :
    ((midF s rd).ent x).rn = (s.ent x).rn + 1 ∨ ((midF s rd).ent x = s.ent x ∧ (s.cr = true → 1 ≤ (s.ent x).cd → pot s.S (plainL s a).length x ((midF s rd).trn a) + (midF s rd).sh ≤ pot s.S (plainL s a).length x (s.trn a) + s.sh) ∧ (s.cr = false → gangF s < 0 → whoseF s a ≠ x)) := by
  have hH1 := hw.H1
  have hH := h.H
  obtain ⟨m1, m2, m3, m4, _⟩ := mid_ok hw hn hc hr h.cq rd
  have hmd : Md s 0 := ⟨hw, hc, hr, h.cq⟩
  rw [m4]
  by_cases hg : gangF s < 0
  · obtain ⟨sa, k', d1, d2, d3, d4⟩ := tickFrom_at (a := a) rd s.H.toNat 0 s 0 hmd (by omega) (Nat.zero_le _) (by omega)
    have hga : gangF sa = gangF s := d2.st.gang d2.now
    have hxa : (x : Int) ∈ plainL sa a := by rw [d2.st.plain]; exact hx
    have hha : (a : Int) < sa.H := by rw [d2.st.H]; exact hH
    obtain ⟨t1, t2⟩ := d1.tick hga.symm (h := a) hha rd
    have e1 : (midF s rd).ent x = (tickH sa (gangF s) a rd).ent x := d4.e (x : Int) (by rw [t2.st.plain]; exact hxa)
    have e2 : (midF s rd).trn a = (tickH sa (gangF s) a rd).trn a := d4.t
    have e3 : sa.ent x = s.ent x := d3.e (x : Int) hx
    have e4 : sa.trn a = s.trn a := d3.t
    have hrda : readyF sa rd x = true := by rw [d3.ready rd hx]; exact hrd
    rw [e1, tickH_ent d1.w, e3]
    by_cases hp : (pickF sa (a : Int) rd).1 = (x : Int)
    · left
      rw [if_pos hp]
      unfold ranE; split <;> rfl
    · right
      rw [if_neg hp]
      refine ⟨rfl, fun hcr hcd => ?_, fun hcr _ hwh => ?_⟩
      · have hcra : sa.cr = true := d2.st.cr.trans hcr
        have hpp := pickF_pp d1.w d1.q.q hha (by omega) rd
        have hpos : 0 ≤ (pickF sa (a : Int) rd).1 := by
          rcases Int.lt_or_le (pickF sa (a : Int) rd).1 0 with c | c
          · have := hpp.2.2 hcra c x hxa
            rw [hrda] at this; cases this
          · exact c
        have hal : a < sa.ts.length := by have := d1.w.tn; omega
        rw [e2, tickH_trn_self d1.w hg rd hcra hal hpos, if_pos hg, ← e4]
        have eb : pickF sa (a : Int) rd = byCreditF sa a rd := by unfold pickF; rw [if_neg (by omega), if_neg (by omega), if_pos hcra, Int.toNat_natCast]
        rw [eb] at hpos hp ⊢
        have := pot_step d1.w d1.q.q hal rd hxa (by unfold richF; rw [hrda, Int.toNat_natCast, e3]; simp; omega) hpos hp
        rw [d2.st.S, d2.st.plain] at this
        omega
      · apply hp
        have hwa : whoseF sa a = x := by rw [d2.st.whose d2.sh]; exact hwh
        unfold pickF
        rw [if_neg (by omega), if_neg (by omega), if_neg (by rw [d2.st.cr, hcr]; decide)]
        show byTurnF sa a rd = (x : Int)
        unfold byTurnF
        rw [hwa, if_pos ⟨by omega, hrda⟩]
  · have hs := tickFrom_sm (a := a) rd s.H.toNat 0 s 0 hmd (by omega) (.inr (.inr (by omega)))
    right
    have e1 : (midF s rd).ent x = s.ent x := hs.e (x : Int) hx
    have e2 : (midF s rd).trn a = s.trn a := hs.t
    rw [e1, e2, if_neg hg]
    exact ⟨rfl, fun _ _ => Int.le_refl _, fun _ hg2 => absurd hg2 hg⟩
end
end Go.Proofs.Ytdaadmjppikebaa.SC

/- SchedBounds, plain, last part: one that can run throughout is given its turn in time. -/
namespace Go.Proofs.Ytdaadmjppikebaa.SC
open Go.RowKit
open Go.Proofs.Ytdaadmjppikebaa.PV (S94 k94 S29 k29 rd_T94 rd_T29)
set_option linter.unusedVariables false
set_option linter.unusedSimpArgs false

/-- By credit: x gathers credit, or it has some and others are ahead of it. -/
def Ph (a x : Nat) (q w S n wt p0 A p : Int) (s : SS) : Prop :=
  ((s.ent x).cd ≤ 0 ∧ -(w * (q + 128)) + (p - p0) * (q * wt) ≤ w * (s.ent x).cd + (s.ent x).pt) ∨ (1 ≤ (s.ent x).cd ∧ pot S n x (s.trn a) + s.sh ≤ n * S + q * (p0 + A + 2))
/-- What holds while x waits. -/
structure BI (a x : Nat) (q w P S n wt was p0 A px sh0 : Int) (p y : Int) (s : SS) : Prop where
  z : BZ a q w P p y s
  rn : (s.ent x).rn = was
  hS : s.S = S
  hn : ((plainL s a).length : Int) = n
  mem : (x : Int) ∈ plainL s a
  hwt : (s.ent x).wt = wt
  cr : s.cr = true → Ph a x q w S n wt p0 A p s
  pa : s.cr = false → ∀ σ, sh0 ≤ σ → σ < s.sh → σ / S % n ≠ px
  px : 0 ≤ px ∧ px < n ∧ (plainL s a).getD px.toNat 0 = x
section
variable {a x : Nat} {q w P S n wt was p0 A px sh0 p y : Int} {s : SS}
/-- While x has no credit, not many periods are over. -/
theorem ph1_le (hw : 1 ≤ w) (hqw : 1 ≤ q * wt) (hA : A = (q + 130) * w / (q * wt)) (h1 : (s.ent x).cd ≤ 0) (h2 : (s.ent x).pt < w) (h3 : -(w * (q + 128)) + (p - p0) * (q * wt) ≤ w * (s.ent x).cd + (s.ent x).pt) : p - p0 ≤ A := by
  have h4 : w * (s.ent x).cd ≤ 0 := by
    have := Int.mul_le_mul_of_nonneg_left h1 (show 0 ≤ w by omega)
    rwa [Int.mul_zero] at this
  have h5 : (q + 130) * w = w * (q + 128) + 2 * w := by rw [Int.add_mul, Int.mul_add, Int.mul_comm q w]; omega
  rw [hA]
  exact Int.le_ediv_of_mul_le (by omega) (by omega)
theorem BI.tick (h : BI a x q w P S n wt was p0 A px sh0 p y s) (hw : Wf s) (hn : s.now < 4611686018427387904) (hc : CntC s 0) (hr : CntR s 0) (hw1 : 1 ≤ w) (hqw : 1 ≤ q * wt) (hA : A = (q + 130) * w / (q * wt)) (rd : List Bool) (hrd : readyF s rd x = true) :
    ((tickF s rd).ent x).rn = was + 1 ∨ BI a x q w P S n wt was p0 A px sh0 (if y + 1 = P then p + 1 else p) (if y + 1 = P then 0 else y + 1) (tickF s rd) := by
  obtain ⟨m1, m2, m3, m4, m5, m6, m7⟩ := mid_ok hw hn hc hr h.z.cq rd
  have hend := h.z.end_iff hw hn hc hr rd
  have ht := tickF_tf rd hw hn hc hr
  have hz := h.z.tick hw hn hc hr (fun _ => hw1) rd
  have hrn : ((tickF s rd).ent x).rn = ((midF s rd).ent x).rn := by
    rw [tickF_mid]
    split
    · exact ((giveF_gk m1).gn x).2
    · rfl
  rcases mid_x h.z hw hn hc hr rd h.mem hrd with hx | ⟨hx1, hx2, hx3⟩
  · left; rw [hrn, hx, h.rn]
  · right
    refine ⟨hz, by rw [hrn, hx1]; exact h.rn, ht.st.S.trans h.hS, by rw [ht.st.plain]; exact h.hn, by rw [ht.st.plain]; exact h.mem, by rw [(ht.st.en x).2.2]; exact h.hwt, fun hcr => ?_, fun hcr σ h1 h2 => ?_, by rw [ht.st.plain]; exact h.px⟩
    · have hcs : s.cr = true := by rw [← ht.st.cr]; exact hcr
      have hph := h.cr hcs
      have hpt := h.z.pt hcs (x : Int) h.mem
      have hpt2 : 0 ≤ (s.ent x).pt ∧ (s.ent x).pt < w := hpt
      have hmn : 1 ≤ (s.ent x).cd → pot S n x ((midF s rd).trn a) + (midF s rd).sh ≤ pot S n x (s.trn a) + s.sh := by
        have := hx2 hcs
        rwa [h.hS, h.hn] at this
      by_cases c : y + 1 = P
      · have htf : tickF s rd = giveF (midF s rd) := by rw [tickF_mid, if_pos ⟨hend.2 c, m2.cr.trans hcs⟩]
        have hg := giveF_gk m1
        have hxm : (x : Int) ∈ plainL (midF s rd) a := by rw [m2.plain]; exact h.mem
        have hH := h.z.H
        have hent : (giveF (midF s rd)).ent x = giveUp (ticksF (midF s rd)) (limitF (midF s rd)) (sumW (midF s rd) a) ((midF s rd).ent x) := giveFrom_ent (a := a) (midF s rd).H.toNat 0 (midF s rd) m1 (fun k => (m6 k).trans (h.z.gn k)) (Nat.zero_le _) (by rw [m2.H]; omega) (x : Int) hxm
        rw [sumW_st m2, h.z.sw, m2.ticks, h.z.tk, m2.limit, hx1] at hent
        have hlim : limitF s = q + 128 := by unfold limitF; rw [h.z.tk]
        have htk := ticksF_range hw.toS
        rw [h.z.tk] at htk
        have htrn : (giveF (midF s rd)).trn a = (midF s rd).trn a := by unfold SS.trn; rw [hg.ts]
        have hdm := Int.mul_ediv_add_emod ((s.ent x).pt + q * (s.ent x).wt) w
        have hpart : 0 ≤ ((s.ent x).pt + q * (s.ent x).wt) / w := Int.ediv_nonneg (by rw [h.hwt]; omega) (by omega)
        rw [h.hwt] at hdm hpart
        have hcd : ((tickF s rd).ent x).cd = min ((s.ent x).cd + ((s.ent x).pt + q * wt) / w) (q + 128) := by rw [htf, hent, hlim, ← h.hwt]; rfl
        have hpt' : ((tickF s rd).ent x).pt = ((s.ent x).pt + q * wt) % w := by rw [htf, hent, ← h.hwt]; rfl
        have hsh : (tickF s rd).sh = (midF s rd).sh := by rw [htf, hg.sh]
        rw [if_pos c]
        unfold Ph
        rw [hcd, hpt', htf, htrn, hg.sh]
        rcases hph with ⟨h1, h2⟩ | ⟨h1, h2⟩
        · by_cases c2 : min ((s.ent x).cd + ((s.ent x).pt + q * wt) / w) (q + 128) ≤ 0
          · left
            refine ⟨c2, ?_⟩
            have e1 : min ((s.ent x).cd + ((s.ent x).pt + q * wt) / w) (q + 128) = (s.ent x).cd + ((s.ent x).pt + q * wt) / w := by omega
            rw [e1]
            have e2 : w * ((s.ent x).cd + ((s.ent x).pt + q * wt) / w) = w * (s.ent x).cd + w * (((s.ent x).pt + q * wt) / w) := Int.mul_add _ _ _
            have e3 : (p + 1 - p0) * (q * wt) = (p - p0) * (q * wt) + q * wt := by rw [show p + 1 - p0 = (p - p0) + 1 by omega, Int.add_mul, Int.one_mul]
            rw [e2, e3]
            omega
          · right
            refine ⟨by omega, ?_⟩
            have h3 := ph1_le hw1 hqw hA h1 hpt2.2 h2
            have hal : a < (midF s rd).ts.length := by have := m1.tn; rw [m2.H] at this; omega
            obtain ⟨_, _, t3, _, _, t6, t7, _⟩ := m1.tq a hal
            have hxq : (x : Int) ∈ ((midF s rd).trn a).q := (m5.q a hal x).2 hxm
            have hlq : ((((midF s rd).trn a).q.length : Nat) : Int) ≤ n := by
              have := len_le_of _ _ t3 (plainL_nodup (midF s rd) a) (fun e he => (m5.q a hal e).1 he)
              rw [m2.plain] at this
              have := h.hn
              omega
            have h4 := pot_le (S := S) (by rw [← h.hS]; exact hw.S1) hxq hlq t6
            have h5 := hz.sh
            rw [if_pos c, if_pos c, hsh] at h5
            have h6 := h.z.qP
            have h7 : q * (p + 1) ≤ q * (p0 + A + 2) := Int.mul_le_mul_of_nonneg_left (by omega) (by omega)
            omega
        · right
          have := hmn h1
          exact ⟨by omega, by omega⟩
      · have htf : tickF s rd = midF s rd := by rw [tickF_mid, if_neg (fun hh => c (hend.1 hh.1))]
        rw [if_neg c, htf]
        unfold Ph
        rw [hx1]
        rcases hph with h1 | ⟨h1, h2⟩
        · exact .inl h1
        · have := hmn h1
          exact .inr ⟨h1, by omega⟩
    · have hcs : s.cr = false := by rw [← ht.st.cr]; exact hcr
      rw [ht.sh] at h2
      by_cases hg : gangF s < 0
      · rw [if_pos hg] at h2
        by_cases c : σ < s.sh
        · exact h.pa hcs σ h1 c
        · have hσ : σ = s.sh := by omega
          have hwx := hx3 hcs hg
          intro he
          apply hwx
          unfold whoseF
          have hl := h.px
          rw [← h.hn] at hl he
          rw [if_neg (by omega), h.hS, ← hσ, he]
          exact hl.2.2
      · rw [if_neg hg] at h2
        exact h.pa hcs σ h1 h2
/-- Whoever waited so long can't be. -/
theorem BI.end_cr (h : BI a x q w P S n wt was p0 A px sh0 p y s) (hw : Wf s) (hcr : s.cr = true) (hw1 : 1 ≤ w) (hqw : 1 ≤ q * wt) (hA : A = (q + 130) * w / (q * wt)) (hp : p = p0 + (4 + A + n * S / q)) : False := by
  have htk := ticksF_range hw.toS
  rw [h.z.tk] at htk
  have hS1 := hw.S1
  rw [h.hS] at hS1
  have hn0 : 0 ≤ n := by have := h.hn; omega
  have hnS : 0 ≤ n * S := Int.mul_nonneg hn0 (by omega)
  have hB0 : 0 ≤ n * S / q := Int.ediv_nonneg hnS (by omega)
  have hB := Int.mul_ediv_add_emod (n * S) q
  have hB2 := Int.emod_lt_of_pos (n * S) (show 0 < q by omega)
  rcases h.cr hcr with ⟨h1, h2⟩ | ⟨h1, h2⟩
  · have hpt := (h.z.pt hcr (x : Int) h.mem).2
    have := ph1_le hw1 hqw hA h1 hpt h2
    omega
  · have hal : a < s.ts.length := by have := hw.tn; have := h.z.H; omega
    have hus := (hw.tq a hal).2.2.2.2.2.2.1
    rw [h.hS] at hus
    have h3 := pot_nonneg (x := (x : Int)) hS1 hn0 hus
    have h4 := h.z.sh
    have h5 : q * p = q * (p0 + A + 2) + (q * 2 + q * (n * S / q)) := by rw [← Int.mul_add, ← Int.mul_add]; congr 1; omega
    omega
theorem turn_comes {S n px sh0 : Int} (hS : 1 ≤ S) (hn : 0 ≤ px ∧ px < n) (h0 : 0 ≤ sh0) : ∃ σ, sh0 ≤ σ ∧ σ < sh0 + n * S ∧ σ / S % n = px := by
  -- the first whole slice from sh0 on
  obtain ⟨j0, hj0⟩ : ∃ j0, j0 = (sh0 + (S - 1)) / S := ⟨_, rfl⟩
  have h1 := Int.mul_ediv_add_emod (sh0 + (S - 1)) S
  have h2 := Int.emod_nonneg (sh0 + (S - 1)) (show S ≠ 0 by omega)
  have h3 := Int.emod_lt_of_pos (sh0 + (S - 1)) (show 0 < S by omega)
  rw [← hj0] at h1
  have hj : 0 ≤ j0 := by rw [hj0]; exact Int.ediv_nonneg (by omega) (by omega)
  obtain ⟨d, hd⟩ : ∃ d, d = (px - j0) % n := ⟨_, rfl⟩
  have d1 : 0 ≤ d := by rw [hd]; exact Int.emod_nonneg _ (by omega)
  have d2 : d < n := by rw [hd]; exact Int.emod_lt_of_pos _ (by omega)
  have d3 : (j0 + d) % n = px := by
    rw [hd, Int.add_emod, Int.emod_emod_of_dvd _ (Int.dvd_refl n), ← Int.add_emod, show j0 + (px - j0) = px by omega]
    exact Int.emod_eq_of_lt hn.1 hn.2
  refine ⟨S * (j0 + d), ?_, ?_, ?_⟩
  · have : S * (j0 + d) = S * j0 + S * d := Int.mul_add _ _ _
    have := Int.mul_nonneg (show 0 ≤ S by omega) d1
    omega
  · have e1 : S * (j0 + d) = S * j0 + S * d := Int.mul_add _ _ _
    have e2 : S * (d + 1) ≤ S * n := Int.mul_le_mul_of_nonneg_left (by omega) (by omega)
    rw [Int.mul_add, Int.mul_one] at e2
    have e3 : n * S = S * n := Int.mul_comm _ _
    omega
  · rw [Int.mul_ediv_cancel_left _ (show S ≠ 0 by omega)]
    exact d3
theorem BI.end_pa (h : BI a x q w P S n wt was p0 A px sh0 p y s) (hw : Wf s) (hcr : s.cr = false) (h0 : 0 ≤ sh0) (hs0 : sh0 ≤ q * (p0 + 1)) (hp : p = p0 + (2 + n * S / q)) : False := by
  have htk := ticksF_range hw.toS
  rw [h.z.tk] at htk
  have hS1 := hw.S1
  rw [h.hS] at hS1
  have hB := Int.mul_ediv_add_emod (n * S) q
  have hB2 := Int.emod_lt_of_pos (n * S) (show 0 < q by omega)
  obtain ⟨σ, h1, h2, h3⟩ := turn_comes hS1 ⟨h.px.1, h.px.2.1⟩ h0
  have h4 := h.z.sh
  have h5 : q * p = q * (p0 + 1) + (q + q * (n * S / q)) := by
    have : q + q * (n * S / q) = q * (1 + n * S / q) := by rw [Int.mul_add, Int.mul_one]
    rw [this, ← Int.mul_add]; congr 1; omega
  exact h.pa hcr σ h1 (by omega) h3
/-- At the beginning. -/
theorem BI.start (hz : BZ a q w P p y s) (hw : Wf s) (hx : (x : Int) ∈ plainL s a) (hw1 : 1 ≤ w) (hA : 0 ≤ A) : ∃ px, BI a x q w P s.S (plainL s a).length (s.ent x).wt (s.ent x).rn p A px s.sh p y s := by
  obtain ⟨j, hj, he⟩ := List.getElem_of_mem hx
  obtain ⟨i, hie, hi, _, hgn⟩ := plainTo_mem hx
  have hix : i = x := by omega
  subst hix
  have htk := ticksF_range hw.toS
  rw [hz.tk] at htk
  have hyr := hz.yr
  refine ⟨(j : Int), hz, rfl, rfl, rfl, hx, rfl, fun hcr => ?_, fun _ σ h1 h2 => by omega, by omega, by omega, by rw [Int.toNat_natCast, List.getD_eq_getElem?_getD, List.getElem?_eq_getElem hj, he]; rfl⟩
  unfold Ph
  have hci := hz.cq.c i hi
  have hlim : limitF s = q + 128 := by unfold limitF; rw [hz.tk]
  rw [hlim] at hci
  have hpt : 0 ≤ (s.ent i).pt := (hz.pt hcr (i : Int) hx).1
  by_cases c : (s.ent i).cd ≤ 0
  · left
    refine ⟨c, ?_⟩
    have := Int.mul_le_mul_of_nonneg_left hci.1 (show 0 ≤ w by omega)
    rw [Int.mul_neg] at this
    rw [show p - p = (0 : Int) by omega, Int.zero_mul]
    omega
  · right
    refine ⟨by omega, ?_⟩
    have hal : a < s.ts.length := by have := hw.tn; have := hz.H; omega
    obtain ⟨_, _, t3, _, _, t6, t7, _⟩ := hw.tq a hal
    have hxq := (hz.cq.q a hal i).2 hx
    have hlq := len_le_of _ _ t3 (plainL_nodup s a) (fun e he => (hz.cq.q a hal e).1 he)
    have h4 := pot_le (S := s.S) (x := (i : Int)) (n := ((plainL s a).length : Int)) hw.S1 hxq (by omega) t6
    have h5 := hz.sh
    have h7 : q * (p + 1) ≤ q * (p + A + 2) := Int.mul_le_mul_of_nonneg_left (by omega) (by omega)
    rw [Int.mul_add q p 1, Int.mul_one] at h7
    have h8 := hz.qP
    omega
theorem BZ.sh_le (hz : BZ a q w P p y s) (hw : Wf s) : s.sh ≤ q * (p + 1) := by
  have h5 := hz.sh
  have hyr := hz.yr
  have htk := ticksF_range hw.toS
  rw [hz.tk] at htk
  rw [Int.mul_add, Int.mul_one]
  omega
end
end Go.Proofs.Ytdaadmjppikebaa.SC
