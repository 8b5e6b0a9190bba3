import Derived.Test.YtdaadmjppikebaaK10
/- Parts of the walk of package sched, merged. -/
/- SchedGangs, plain: whose slot it is, how often in a period; what a gang is charged. -/
namespace Go.Proofs.Ytdaadmjppikebaa.SC
open Go.RowKit
open Go.Proofs.Ytdaadmjppikebaa.PV (S94 k94 S29 k29 rd_T94 rd_T29)
set_option linter.unusedVariables false
set_option linter.unusedSimpArgs false

/-- What gangs ahead of the q-th guest take of a period. -/
def offG : List SG → Nat → Int
  | [], _ => 0
  | _ :: _, 0 => 0
  | x :: r, q + 1 => (if x.g = true then x.w else 0) + offG r q
theorem offG_nonneg : ∀ (l : List SG) (q : Nat), (∀ x ∈ l, 0 ≤ x.w) → 0 ≤ offG l q
  | [], _, _ => by simp [offG]
  | _ :: _, 0, _ => by simp [offG]
  | x :: r, q + 1, h => by
    have := offG_nonneg r q (fun y hy => h y (List.mem_cons_of_mem _ hy))
    have := h x List.mem_cons_self
    unfold offG
    split <;> omega
theorem offG_le : ∀ (l : List SG) (q : Nat) (P : Int), (∀ x ∈ l, 0 ≤ x.w) → q < l.length → (l.getD q g0).g = true → offG l q + (l.getD q g0).w ≤ P - ticksGo l P
  | [], q, P, _, h, _ => by simp at h
  | x :: r, 0, P, h, _, hg => by
    have hx : x.g = true := hg
    have hw := h x List.mem_cons_self
    have h2 : ∀ (l : List SG) (P : Int), (∀ x ∈ l, 0 ≤ x.w) → ticksGo l P ≤ P := by
      intro l
      induction l with
      | nil => intro P _; exact Int.le_refl _
      | cons y t ih =>
        intro P hl
        have := hl y List.mem_cons_self
        have := ih (if y.g = true then P - y.w else P) (fun z hz => hl z (List.mem_cons_of_mem _ hz))
        show ticksGo t (if y.g = true then P - y.w else P) ≤ P
        by_cases c : y.g = true
        · rw [if_pos c] at this ⊢; omega
        · rw [if_neg c] at this ⊢; omega
    have := h2 r (P - x.w) (fun y hy => h y (List.mem_cons_of_mem _ hy))
    show (0 : Int) + x.w ≤ P - ticksGo r (if x.g = true then P - x.w else P)
    rw [if_pos hx]
    omega
  | x :: r, q + 1, P, h, hq, hg => by
    have ih := fun P => offG_le r q P (fun y hy => h y (List.mem_cons_of_mem _ hy)) (by simpa using hq) (by simpa using hg)
    have hw := h x List.mem_cons_self
    show (if x.g = true then x.w else 0) + offG r q + ((x :: r).getD (q + 1) g0).w ≤ P - ticksGo r (if x.g = true then P - x.w else P)
    rw [List.getD_cons_succ]
    by_cases hx : x.g = true
    · rw [if_pos hx, if_pos hx]
      have := ih (P - x.w)
      omega
    · rw [if_neg hx, if_neg hx]
      have := ih P
      omega
theorem gangGo_iff : ∀ (l : List SG) (i : Nat) (a : Int) (q : Nat), (∀ x ∈ l, 0 ≤ x.w) → 0 ≤ a → q < l.length → (l.getD q g0).g = true → (gangGo l i a = ((i + q : Nat) : Int) ↔ offG l q ≤ a ∧ a < offG l q + (l.getD q g0).w)
  | [], i, a, q, _, _, h, _ => by simp at h
  | x :: r, i, a, 0, h, ha, _, hg => by
    have hx : x.g = true := hg
    show (if x.g = true then (if a < x.w then (i : Int) else gangGo r (i + 1) (a - x.w)) else gangGo r (i + 1) a) = _ ↔ (0 : Int) ≤ a ∧ a < 0 + x.w
    rw [if_pos hx]
    by_cases c : a < x.w
    · rw [if_pos c]; constructor <;> intro _ <;> omega
    · rw [if_neg c]
      rcases gangGo_lt' r (i + 1) (a - x.w) with h1 | h1
      · constructor <;> intro _ <;> omega
      · constructor <;> intro _ <;> omega
  | x :: r, i, a, q + 1, h, ha, hq, hg => by
    have hr := fun y hy => h y (List.mem_cons_of_mem x hy)
    have hw := h x List.mem_cons_self
    have ho := offG_nonneg r q hr
    show (if x.g = true then (if a < x.w then (i : Int) else gangGo r (i + 1) (a - x.w)) else gangGo r (i + 1) a) = _ ↔ (if x.g = true then x.w else 0) + offG r q ≤ a ∧ a < (if x.g = true then x.w else 0) + offG r q + ((x :: r).getD (q + 1) g0).w
    rw [List.getD_cons_succ]
    have hg' : (r.getD q g0).g = true := by simpa using hg
    have hq' : q < r.length := by simpa using hq
    by_cases hx : x.g = true
    · rw [if_pos hx, if_pos hx]
      by_cases c : a < x.w
      · rw [if_pos c]; constructor <;> intro _ <;> omega
      · rw [if_neg c]
        have ih := gangGo_iff r (i + 1) (a - x.w) q hr (by omega) hq' hg'
        rw [show i + (q + 1) = i + 1 + q by omega, ih]
        constructor <;> intro _ <;> omega
    · rw [if_neg hx, if_neg hx]
      have ih := gangGo_iff r (i + 1) a q hr ha hq' hg'
      rw [show i + (q + 1) = i + 1 + q by omega, ih]
      constructor <;> intro _ <;> omega
/-- How many of the first i ticks were a gang's. -/
def gcnt (gs : List SG) (P : Nat) (q : Nat) : Nat → Int
  | 0 => 0
  | i + 1 => gcnt gs P q i + if gangGo gs 0 ((i % P : Nat) : Int) = (q : Int) then 1 else 0
theorem gcnt_range (gs : List SG) (P q : Nat) : ∀ i : Nat, 0 ≤ gcnt gs P q i ∧ gcnt gs P q i ≤ i
  | 0 => by simp [gcnt]
  | i + 1 => by
    have := gcnt_range gs P q i
    unfold gcnt
    split <;> omega
theorem gcnt_in {gs : List SG} {P : Nat} {q : Nat} (h : ∀ x ∈ gs, 0 ≤ x.w) (hq : q < gs.length) (hg : (gs.getD q g0).g = true) : ∀ j : Nat, j ≤ P → gcnt gs P q j = max 0 (min ((j : Int) - offG gs q) (gs.getD q g0).w)
  | 0, _ => by
    have := offG_nonneg gs q h
    have hw : 0 ≤ (gs.getD q g0).w := by
      rw [List.getD_eq_getElem?_getD, List.getElem?_eq_getElem hq]; exact h _ (List.getElem_mem hq)
    show (0 : Int) = _
    omega
  | j + 1, hj => by
    have ih := gcnt_in (P := P) h hq hg j (by omega)
    have hi := gangGo_iff gs 0 (j : Int) q h (by omega) hq hg
    rw [Nat.zero_add] at hi
    have hw : 0 ≤ (gs.getD q g0).w := by
      rw [List.getD_eq_getElem?_getD, List.getElem?_eq_getElem hq]; exact h _ (List.getElem_mem hq)
    have ho := offG_nonneg gs q h
    unfold gcnt
    rw [ih, Nat.mod_eq_of_lt (show j < P by omega)]
    by_cases c : gangGo gs 0 (j : Int) = (q : Int)
    · rw [if_pos c]
      have := hi.1 c
      omega
    · rw [if_neg c]
      have : ¬ (offG gs q ≤ (j : Int) ∧ (j : Int) < offG gs q + (gs.getD q g0).w) := fun hh => c (hi.2 hh)
      omega
theorem gcnt_add {gs : List SG} {P : Nat} {q : Nat} (k : Nat) : ∀ j : Nat, gcnt gs P q (P * k + j) = gcnt gs P q (P * k) + gcnt gs P q j
  | 0 => by simp [gcnt]
  | j + 1 => by
    have ih := gcnt_add (gs := gs) (P := P) (q := q) k j
    show gcnt gs P q (P * k + j) + (if gangGo gs 0 (((P * k + j) % P : Nat) : Int) = (q : Int) then 1 else 0) = gcnt gs P q (P * k) + (gcnt gs P q j + if gangGo gs 0 ((j % P : Nat) : Int) = (q : Int) then 1 else 0)
    rw [ih, Nat.mul_add_mod]
    omega
theorem gcnt_full {gs : List SG} {P : Nat} {q : Nat} (h : ∀ x ∈ gs, 0 ≤ x.w) (hq : q < gs.length) (hg : (gs.getD q g0).g = true) (ht : 1 ≤ ticksGo gs (P : Int)) : ∀ k : Nat, gcnt gs P q (P * k) = (gs.getD q g0).w * k
  | 0 => by simp [gcnt]
  | k + 1 => by
    have h1 := gcnt_in h hq hg P (Nat.le_refl _)
    have h2 := offG_le gs q (P : Int) h hq hg
    have h3 := offG_nonneg gs q h
    have hw : 0 ≤ (gs.getD q g0).w := by
      rw [List.getD_eq_getElem?_getD, List.getElem?_eq_getElem hq]; exact h _ (List.getElem_mem hq)
    have h4 : gcnt gs P q P = (gs.getD q g0).w := by rw [h1]; omega
    rw [Nat.mul_succ, gcnt_add, gcnt_full h hq hg ht k, h4, Int.natCast_add, Int.mul_add]
    simp
/-- A gang's charge in its slot: one for every hart. -/
theorem tickH_ch {s : SS} (hw : Wf s) {g : Nat} (hg : (g : Int) = gangF s) (h : Nat) (rd : List Bool) : (tickH s (g : Int) h rd).ch.getD g 0 = s.ch.getD g 0 + 1 := by
  have hp := pickF_pk hw (h : Int) rd
  unfold tickH
  rw [(ranF_ch _ _ _ _).1]
  unfold chargeF
  rw [if_pos (by omega), Int.toNat_natCast, modC_getD _ _ _ (by rw [hp.ch, hw.cn]; have := gangF_range s; omega), if_pos rfl, hp.ch]
theorem tickFrom_ch (g : Nat) (rd : List Bool) : ∀ (f h : Nat) (s : SS) (k : Int), Wf s → (g : Int) = gangF s → ((h + f : Nat) : Int) ≤ s.H → CntC s k → CntR s k → (tickFrom (g : Int) rd f h s).ch.getD g 0 = s.ch.getD g 0 + f
  | 0, h, s, k, hw, _, _, hc, hr => by simp [tickFrom]
  | f + 1, h, s, k, hw, hg, hh, hc, hr => by
    obtain ⟨h1, h2, h3⟩ := tickH_tk hw hg (h := h) (by omega) rd hc hr
    show (tickFrom (g : Int) rd f (h + 1) (tickH s g h rd)).ch.getD g 0 = _
    rw [tickFrom_ch g rd f (h + 1) (tickH s g h rd) (k + 1) h1.wf (by rw [h1.st.gang h1.now]; exact hg) (by rw [h1.st.H]; omega) h2 h3, tickH_ch hw hg]
    omega
theorem tickF_ch {s : SS} (rd : List Bool) (hw : Wf s) (hn : s.now < 4611686018427387904) (hc : CntC s 0) (hr : CntR s 0) {g : Nat} (hg : gangF s = (g : Int)) : (tickF s rd).ch.getD g 0 = s.ch.getD g 0 + s.H := by
  have hH1 := hw.H1
  obtain ⟨h1, h2, h3⟩ := tickFrom_tk (gangF s) rd s.H.toNat 0 s 0 hw rfl (by omega) hc hr
  have k1 := tickFrom_ch g rd s.H.toNat 0 s 0 hw hg.symm (by omega) hc hr
  rw [← hg] at k1
  obtain ⟨e1, e2⟩ := tickE_wf h1.wf (gangF s) (by rw [h1.now]; exact hn)
  have k2 : (tickE (tickFrom (gangF s) rd s.H.toNat 0 s) (gangF s)).ch.getD g 0 = s.ch.getD g 0 + s.H := by
    show (tickFrom (gangF s) rd s.H.toNat 0 s).ch.getD g 0 = _
    rw [k1]; omega
  show (if (tickE (tickFrom (gangF s) rd s.H.toNat 0 s) (gangF s)).now % (tickE (tickFrom (gangF s) rd s.H.toNat 0 s) (gangF s)).P = 0 ∧ (tickE (tickFrom (gangF s) rd s.H.toNat 0 s) (gangF s)).cr = true then giveF (tickE (tickFrom (gangF s) rd s.H.toNat 0 s) (gangF s)) else tickE (tickFrom (gangF s) rd s.H.toNat 0 s) (gangF s)).ch.getD g 0 = _
  split
  · rw [(giveF_gk e1).ch]; exact k2
  · exact k2
/-- What a hart picks in a gang's slot. -/
theorem pick_gang {s : SS} (hw : Wf s) {h : Nat} (hh : (h : Int) < s.H) {g : Nat} (hg : gangF s = (g : Int)) (rd : List Bool) :
    (pickF s (h : Int) rd).2 = s ∧ ((pickF s (h : Int) rd).1 = -1 ∨ ∃ p : Nat, (pickF s (h : Int) rd).1 = (p : Int) ∧ p < s.es.length ∧ (s.ent p).gu = (g : Int) ∧ (s.ent p).ix = (h : Int) ∧ p < rd.length ∧ rd.getD p false = true) := by
  have e : pickF s (h : Int) rd = (ofGangF s g h rd, s) := by unfold pickF; rw [if_neg (by omega), if_pos (by omega), hg]
  rw [e]
  refine ⟨rfl, ?_⟩
  rcases firstGo_range (ofGangP s g h rd) s.es.length 0 with h1 | ⟨n, h1, _, h2, h3⟩
  · exact .inl h1
  · refine .inr ⟨n, h1, by omega, ?_⟩
    unfold ofGangP readyF at h3
    simp only [Bool.and_eq_true, beq_iff_eq, decide_eq_true_eq, Int.toNat_natCast] at h3
    exact ⟨h3.1.1, h3.1.2, by have := h3.2.1.1; omega, h3.2.1.2⟩
/-- What SchedGangs has counted. -/
structure GaP (m : Nat) (S : Int) (P : Nat) (cr : Bool) (ys : List S29) (s : SS) (sl : List Int) (i : Nat) : Prop where
  now : s.now = i
  n : NP m S P cr ys s
  l : sl.length = ys.length
  c : ∀ q : Nat, q < ys.length → sl.getD q 0 = gcnt s.gs P q i
theorem gangF_at {m : Nat} {S : Int} {P : Nat} {cr : Bool} {ys : List S29} {s : SS} {sl : List Int} {i : Nat} (h : GaP m S P cr ys s sl i) : gangF s = gangGo s.gs 0 ((i % P : Nat) : Int) := by
  unfold gangF
  rw [h.now, h.n.P]
  rfl
theorem GaP.tick {W : World} {own : Nat → Prop} {b m : Nat} {S : Int} {P : Nat} {cr : Bool} {ys : List S29} {s : SS} {sl sl' : List Int} {i : Nat} (hx : SB W own b s) (h : GaP m S P cr ys s sl i) (hi : i ≤ 1048576) (rd : List Bool) (hl : sl'.length = sl.length) (hs : ∀ q : Nat, q < ys.length → sl'.getD q 0 = sl.getD q 0 + if gangF s = (q : Int) then 1 else 0) : GaP m S P cr ys (tickF s rd) sl' (i + 1) := by
  have hn := h.now
  have ht := tickF_tf rd hx.wf (by omega) hx.cntC hx.cntR
  refine ⟨by rw [ht.now, hn]; rfl, h.n.st ht.st, hl.trans h.l, fun q hq => ?_⟩
  rw [hs q hq, h.c q hq, ht.st.gs, gangF_at h]
  rfl
end Go.Proofs.Ytdaadmjppikebaa.SC
