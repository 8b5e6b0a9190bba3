/- Parts of the walk of package sched, merged. -/
/- SchedFair, plain, first part: sums over a hart's entities; who is picked by credit; what a tick turns of a hart. -/
import Derived.Test.YtdaadmjppikebaaK11
import Derived.Test.YtdaadmjppikebaaK15
namespace Go.Proofs.Ytdaadmjppikebaa.SC
open Go.RowKit
open Go.Proofs.Ytdaadmjppikebaa.PV (S94 k94 S29 k29 rd_T94 rd_T29)
set_option linter.unusedVariables false
set_option linter.unusedSimpArgs false

/-- A sum over entities. -/
def sumE (F : Int → Int) (l : List Int) : Int := (l.map F).sum
theorem sumE_cons (F : Int → Int) (e : Int) (l : List Int) : sumE F (e :: l) = F e + sumE F l := by simp [sumE]
theorem sumE_congr {F G : Int → Int} : ∀ l : List Int, (∀ e ∈ l, F e = G e) → sumE F l = sumE G l
  | [], _ => rfl
  | e :: r, h => by rw [sumE_cons, sumE_cons, h e List.mem_cons_self, sumE_congr r (fun x hx => h x (List.mem_cons_of_mem _ hx))]
theorem sumE_one {F G : Int → Int} {p : Int} : ∀ l : List Int, l.Nodup → p ∈ l → (∀ e ∈ l, e ≠ p → F e = G e) → sumE F l = sumE G l + (F p - G p)
  | [], _, h, _ => by simp at h
  | e :: r, hn, hp, h => by
    rw [List.nodup_cons] at hn
    rw [sumE_cons, sumE_cons]
    rcases List.mem_cons.1 hp with rfl | hp'
    · rw [sumE_congr r (fun x hx => h x (List.mem_cons_of_mem _ hx) (fun e => hn.1 (e ▸ hx)))]
      omega
    · have hne : e ≠ p := fun e2 => hn.1 (e2 ▸ hp')
      rw [h e List.mem_cons_self hne, sumE_one r hn.2 hp' (fun x hx => h x (List.mem_cons_of_mem _ hx))]
      omega
theorem sumE_le {F G : Int → Int} : ∀ l : List Int, (∀ e ∈ l, F e ≤ G e) → sumE F l ≤ sumE G l
  | [], _ => Int.le_refl _
  | e :: r, h => by
    have := h e List.mem_cons_self
    have := sumE_le r (fun x hx => h x (List.mem_cons_of_mem _ hx))
    rw [sumE_cons, sumE_cons]
    omega
theorem sumE_add (F G : Int → Int) : ∀ l : List Int, sumE (fun e => F e + G e) l = sumE F l + sumE G l
  | [] => rfl
  | e :: r => by rw [sumE_cons, sumE_cons, sumE_cons, sumE_add F G r]; omega
theorem sumE_mul (c : Int) (F : Int → Int) : ∀ l : List Int, sumE (fun e => c * F e) l = c * sumE F l
  | [] => by simp [sumE]
  | e :: r => by rw [sumE_cons, sumE_cons, sumE_mul c F r, Int.mul_add]
theorem sumE_const (c : Int) : ∀ l : List Int, sumE (fun _ => c) l = c * l.length
  | [] => by simp [sumE]
  | e :: r => by rw [sumE_cons, sumE_const c r, List.length_cons, Int.natCast_add, Int.mul_add]; simp; omega
theorem sumE_mem {F : Int → Int} : ∀ l : List Int, (∀ e ∈ l, 0 ≤ F e) → ∀ p ∈ l, F p ≤ sumE F l
  | [], _, p, hp => by simp at hp
  | e :: r, h, p, hp => by
    have h0 : 0 ≤ sumE F r := by
      have := sumE_le (F := fun _ => 0) (G := F) r (fun x hx => h x (List.mem_cons_of_mem _ hx))
      rw [sumE_const] at this
      omega
    have he := h e List.mem_cons_self
    rw [sumE_cons]
    rcases List.mem_cons.1 hp with rfl | hp'
    · omega
    · have := sumE_mem r (fun x hx => h x (List.mem_cons_of_mem _ hx)) p hp'
      omega
theorem plainL_nodup (s : SS) (h : Int) : (plainL s h).Nodup := by
  unfold plainL plainTo List.Nodup
  rw [List.pairwise_map]
  refine List.Pairwise.imp (fun {a b} hab e => hab (by omega)) (List.Pairwise.filter _ List.nodup_range)
/-- Whoever is picked by credit has credit, or nobody who can run has. -/
theorem findQ_rich (s : SS) (rd : List Bool) (sm : Bool) : ∀ l : List Int, findQ s rd sm l ≠ -1 → richF s rd (findQ s rd sm l) = true ∨ sm = false
  | [], h => absurd rfl h
  | e :: r, h => by
    unfold findQ at h ⊢
    by_cases c : (richF s rd e || (!sm && readyF s rd e)) = true
    · rw [if_pos c]
      rw [Bool.or_eq_true] at c
      rcases c with c | c
      · exact .inl c
      · rw [Bool.and_eq_true] at c; exact .inr (by simpa using c.1)
    · rw [if_neg c] at h ⊢
      exact findQ_rich s rd sm r h
theorem byCredit_rich {s : SS} (hw : Wf s) (hq : QI s) {i : Nat} (hi : i < s.ts.length) (rd : List Bool) (h0 : 0 ≤ (byCreditF s i rd).1) :
    0 < (s.ent (byCreditF s i rd).1.toNat).cd ∨ ∀ e ∈ plainL s i, readyF s rd e = true → (s.ent e.toNat).cd ≤ 0 := by
  have hsome : someF s i rd = false → ∀ e ∈ plainL s i, readyF s rd e = true → (s.ent e.toNat).cd ≤ 0 := fun hs e he hr => by
    have h1 := (hq i hi e).2 he
    unfold someF at hs
    rw [List.any_eq_false] at hs
    have h2 := hs e h1
    unfold richF at h2
    rw [hr] at h2
    simp at h2
    omega
  have hrich : ∀ e, richF s rd e = true → 0 < (s.ent e.toNat).cd := fun e h => by
    unfold richF at h
    simp only [Bool.and_eq_true, decide_eq_true_eq] at h
    exact h.2
  have h2 : ∀ s' : SS, s'.es = s.es → 0 ≤ (creditF2 s' i rd (someF s i rd)).1 → 0 < (s.ent (creditF2 s' i rd (someF s i rd)).1.toNat).cd ∨ ∀ e ∈ plainL s i, readyF s rd e = true → (s.ent e.toNat).cd ≤ 0 := fun s' he h => by
    have hr : ∀ e, richF s' rd e = richF s rd e := fun e => by unfold richF readyF SS.ent; rw [he]
    unfold creditF2 at h ⊢
    by_cases hf : findQ s' rd (someF s i rd) (s'.trn i).q = -1
    · rw [if_pos hf] at h
      have h' : (0 : Int) ≤ -1 := h
      omega
    · rw [if_neg hf]
      rcases findQ_rich s' rd (someF s i rd) _ hf with h3 | h3
      · exact .inl (hrich _ (by rw [← hr]; exact h3))
      · exact .inr (hsome h3)
  unfold byCreditF at h0 ⊢
  by_cases hc : 0 ≤ (s.trn i).cu
  · rw [if_pos hc] at h0 ⊢
    by_cases hg : goesOn s i rd = true
    · rw [if_pos hg]
      unfold goesOn at hg
      simp only [Bool.and_eq_true, Bool.or_eq_true, Bool.not_eq_true'] at hg
      rcases hg.2 with h3 | h3
      · exact .inl (hrich _ h3)
      · exact .inr (hsome h3)
    · rw [if_neg hg] at h0 ⊢
      exact h2 (s.modT i backF) rfl h0
  · rw [if_neg hc] at h0 ⊢
    exact h2 s rfl h0
/-- Gangs' slots are the beginning of a period. -/
theorem gangGo_neg : ∀ (l : List SG) (i : Nat) (a P : Int), (∀ x ∈ l, 0 ≤ x.w) → 0 ≤ a → (gangGo l i a < 0 ↔ P - ticksGo l P ≤ a)
  | [], i, a, P, _, ha => by simp [gangGo, ticksGo]; exact ha
  | x :: r, i, a, P, h, ha => by
    have hr := fun y hy => h y (List.mem_cons_of_mem x hy)
    have hw := h x List.mem_cons_self
    have hle : ∀ (l : List SG) (P : Int), (∀ x ∈ l, 0 ≤ x.w) → ticksGo l P ≤ P := by
      intro l
      induction l with
      | nil => intro P _; exact Int.le_refl _
      | cons y t ih =>
        intro P hl
        have := hl y List.mem_cons_self
        have := ih (if y.g = true then P - y.w else P) (fun z hz => hl z (List.mem_cons_of_mem _ hz))
        show ticksGo t (if y.g = true then P - y.w else P) ≤ P
        by_cases c : y.g = true
        · rw [if_pos c] at this ⊢; omega
        · rw [if_neg c] at this ⊢; omega
    show (if x.g = true then (if a < x.w then (i : Int) else gangGo r (i + 1) (a - x.w)) else gangGo r (i + 1) a) < 0 ↔ P - ticksGo r (if x.g = true then P - x.w else P) ≤ a
    by_cases hx : x.g = true
    · rw [if_pos hx, if_pos hx]
      have h2 := hle r (P - x.w) hr
      by_cases c : a < x.w
      · rw [if_pos c]; constructor <;> intro _ <;> omega
      · rw [if_neg c]
        have ih := gangGo_neg r (i + 1) (a - x.w) (P - x.w) hr (by omega)
        rw [ih]
        constructor <;> intro _ <;> omega
    · rw [if_neg hx, if_neg hx]
      exact gangGo_neg r (i + 1) a P hr ha
theorem gangF_neg {s : SS} (hw : Wf s) : gangF s < 0 ↔ s.P - ticksF s ≤ s.now % s.P := by
  have h1 := hw.P1
  refine gangGo_neg s.gs 0 (s.now % s.P) s.P (fun x hx => ?_) (Int.emod_nonneg _ (by omega))
  obtain ⟨j, hj, rfl⟩ := List.getElem_of_mem hx
  have := hw.gw j hj
  unfold SS.gst at this
  rw [List.getD_eq_getElem?_getD, List.getElem?_eq_getElem hj, Option.getD_some] at this
  omega
end Go.Proofs.Ytdaadmjppikebaa.SC

/- SchedFair, plain, second part: what all ticks of a period keep of a hart's entities. -/
namespace Go.Proofs.Ytdaadmjppikebaa.SC
open Go.RowKit
open Go.Proofs.Ytdaadmjppikebaa.PV (S94 k94 S29 k29 rd_T94 rd_T29)
set_option linter.unusedVariables false
set_option linter.unusedSimpArgs false

def ranE (b : Bool) (lim : Int) (x : SE) : SE := if b = true then { x with rn := x.rn + 1, cd := max (x.cd - 1) (-lim) } else { x with rn := x.rn + 1 }
/-- What a hart's tick makes of an entity. -/
theorem tickH_ent {s : SS} (hw : Wf s) (g : Int) (h : Nat) (rd : List Bool) (k : Nat) :
    (tickH s g h rd).ent k = if (pickF s h rd).1 = (k : Int) then ranE (s.cr && decide (g < 0)) (limitF s) (s.ent k) else s.ent k := by
  have hp := pickF_pk hw (h : Int) rd
  have hc := chargeF_tk hp.wf g h (pickF s h rd).1
  have hent : ∀ i, (chargeF (pickF s h rd).2 g h (pickF s h rd).1).ent i = s.ent i := fun i => by unfold SS.ent; rw [hc.2.1, hp.es]
  have hlim : limitF (chargeF (pickF s h rd).2 g h (pickF s h rd).1) = limitF s := (hp.st.trans hc.1.st).limit
  have hcr : (chargeF (pickF s h rd).2 g h (pickF s h rd).1).cr = s.cr := (hp.st.trans hc.1.st).cr
  have hel : (chargeF (pickF s h rd).2 g h (pickF s h rd).1).es.length = s.es.length := by rw [hc.2.1, hp.es]
  unfold tickH ranF
  by_cases he : (pickF s h rd).1 < 0
  · rw [if_pos he, if_neg (by omega), hent]
  · rw [if_neg he]
    have hr := hp.rg
    have hlt : (pickF s h rd).1.toNat < (chargeF (pickF s h rd).2 g h (pickF s h rd).1).es.length := by rw [hel]; omega
    have key : ∀ f : SE → SE, ((chargeF (pickF s h rd).2 g h (pickF s h rd).1).modE (pickF s h rd).1.toNat f).ent k = if (pickF s h rd).1 = (k : Int) then f (s.ent k) else s.ent k := fun f => by
      rw [modE_ent _ hlt]
      by_cases c : (pickF s h rd).1.toNat = k
      · rw [if_pos c, if_pos (by omega), hent, c]
      · rw [if_neg c, if_neg (by omega), hent]
    rw [hcr, hlim]
    by_cases hg : s.cr = true ∧ g < 0
    · rw [if_pos hg]
      have e : (s.cr && decide (g < 0)) = true := by rw [hg.1, decide_eq_true hg.2]; rfl
      rw [e]
      exact key _
    · rw [if_neg hg]
      have e : (s.cr && decide (g < 0)) = false := by
        cases hcs : s.cr with
        | false => rfl
        | true => rw [decide_eq_false (fun h2 => hg ⟨hcs, h2⟩)]; rfl
      rw [e]
      exact key _
/-- Of a hart: j periods' credits were given, t ticks were run. -/
structure FJ (a : Nat) (q w j t : Int) (s : SS) : Prop where
  A : ∀ e ∈ plainL s a, w * ((s.ent e.toNat).cd + (s.ent e.toNat).rn) + (s.ent e.toNat).pt = j * q * (s.ent e.toNat).wt ∧ 0 ≤ (s.ent e.toNat).pt ∧ (s.ent e.toNat).pt < w
  B : sumE (fun e => (s.ent e.toNat).rn) (plainL s a) = t
  D : sumE (fun e => max (-(s.ent e.toNat).cd) 0) (plainL s a) ≤ (plainL s a).length
  C : CQ s
  G : ∀ k, (s.ent k).gn = false
  W : sumE (fun e => (s.ent e.toNat).wt) (plainL s a) = w
section
variable {a : Nat} {q w j t : Int} {s s' : SS}
theorem FJ.keep (h : FJ a q w j t s) (st : St s s') (hc : CQ s') (hg : ∀ k, (s'.ent k).gn = false) (he : ∀ e ∈ plainL s a, s'.ent e.toNat = s.ent e.toNat) : FJ a q w j t s' := by
  refine ⟨fun e hm => ?_, ?_, ?_, hc, hg, ?_⟩
  · rw [st.plain] at hm; rw [he e hm]; exact h.A e hm
  · rw [st.plain, sumE_congr _ (fun e hm => by rw [he e hm])]; exact h.B
  · rw [st.plain, sumE_congr _ (fun e hm => by rw [he e hm])]; exact h.D
  · rw [st.plain, sumE_congr _ (fun e hm => by rw [he e hm])]; exact h.W
/-- The sum of credits. -/
theorem FJ.sum (h : FJ a q w j t s) : w * sumE (fun e => (s.ent e.toNat).cd) (plainL s a) + sumE (fun e => (s.ent e.toNat).pt) (plainL s a) = w * (j * q - t) := by
  have h1 : sumE (fun e => w * ((s.ent e.toNat).cd + (s.ent e.toNat).rn) + (s.ent e.toNat).pt) (plainL s a) = sumE (fun e => j * q * (s.ent e.toNat).wt) (plainL s a) := sumE_congr _ (fun e hm => (h.A e hm).1)
  rw [sumE_add, sumE_mul, sumE_add, sumE_mul, h.B, h.W] at h1
  have e1 : w * (sumE (fun e => (s.ent e.toNat).cd) (plainL s a) + t) = w * sumE (fun e => (s.ent e.toNat).cd) (plainL s a) + w * t := Int.mul_add _ _ _
  have e2 : w * (j * q - t) = w * (j * q) - w * t := Int.mul_sub _ _ _
  have e3 : w * (j * q) = j * q * w := Int.mul_comm _ _
  omega
theorem FJ.parts (h : FJ a q w j t s) : 0 ≤ sumE (fun e => (s.ent e.toNat).pt) (plainL s a) ∧ sumE (fun e => (s.ent e.toNat).pt) (plainL s a) ≤ w * (plainL s a).length := by
  have h1 := sumE_le (F := fun _ => 0) (G := fun e => (s.ent e.toNat).pt) (plainL s a) (fun e hm => (h.A e hm).2.1)
  have h2 := sumE_le (F := fun e => (s.ent e.toNat).pt) (G := fun _ => w) (plainL s a) (fun e hm => by have := (h.A e hm).2.2; omega)
  rw [sumE_const] at h1 h2
  omega
theorem FJ.low (h : FJ a q w j t s) {e : Int} (he : e ∈ plainL s a) : -((plainL s a).length : Int) ≤ (s.ent e.toNat).cd := by
  have h1 := sumE_mem (F := fun e => max (-(s.ent e.toNat).cd) 0) (plainL s a) (fun e _ => by show (0 : Int) ≤ max _ 0; omega) e he
  have h2 := h.D
  have h3 : -(s.ent e.toNat).cd ≤ max (-(s.ent e.toNat).cd) 0 := by omega
  have h4 : max (-(s.ent e.toNat).cd) 0 ≤ sumE (fun e => max (-(s.ent e.toNat).cd) 0) (plainL s a) := h1
  omega
/-- Where all that was given was run, nobody has much. -/
theorem FJ.high (h : FJ a q w j t s) (hw : 1 ≤ w) (ht : j * q ≤ t) {e : Int} (he : e ∈ plainL s a) : (s.ent e.toNat).cd ≤ (plainL s a).length := by
  have h1 := h.sum
  have h2 := h.parts
  have h3 : sumE (fun e => (s.ent e.toNat).cd) (plainL s a) ≤ 0 := by
    have e1 : w * (j * q - t) ≤ 0 := by
      have := Int.mul_le_mul_of_nonneg_left (show j * q - t ≤ 0 by omega) (show 0 ≤ w by omega)
      rwa [Int.mul_zero] at this
    have e2 : w * sumE (fun e => (s.ent e.toNat).cd) (plainL s a) ≤ 0 := by omega
    rcases Int.lt_or_le 0 (sumE (fun e => (s.ent e.toNat).cd) (plainL s a)) with c | c
    · have := Int.mul_pos (show 0 < w by omega) c
      omega
    · exact c
  have h4 : sumE (fun e => max (s.ent e.toNat).cd 0) (plainL s a) = sumE (fun e => (s.ent e.toNat).cd) (plainL s a) + sumE (fun e => max (-(s.ent e.toNat).cd) 0) (plainL s a) := by
    rw [← sumE_add]
    exact sumE_congr _ (fun e _ => by omega)
  have h5 := sumE_mem (F := fun e => max (s.ent e.toNat).cd 0) (plainL s a) (fun e _ => by show (0 : Int) ≤ max _ 0; omega) e he
  have h6 : max (s.ent e.toNat).cd 0 ≤ sumE (fun e => max (s.ent e.toNat).cd 0) (plainL s a) := h5
  have h7 := h.D
  omega
theorem tickH_other (hw : Wf s) {g : Int} (hg : g = gangF s) {h : Nat} (hh : (h : Int) < s.H) (rd : List Bool) (hne : h ≠ a ∨ 0 ≤ g) {k : Int} (hcc : CntC s k) (hrr : CntR s k) (hf : FJ a q w j t s) : FJ a q w j t (tickH s g h rd) := by
  obtain ⟨h1, _, _⟩ := tickH_tk hw hg (h := h) hh rd hcc hrr
  refine hf.keep h1.st (tickH_cq hw hg hh rd hf.C) (fun k => (tickH_gn hw g h rd k).trans (hf.G k)) (fun e he => ?_)
  obtain ⟨i, rfl, hi, hho, hgn⟩ := plainTo_mem he
  rw [Int.toNat_natCast, tickH_ent hw, if_neg]
  intro hp
  rcases Int.lt_or_le g 0 with hg0 | hg0
  · have h2 := ((pickF_pp hw hf.C.q hh (by omega) rd).2.1 (by omega)).1
    rw [hp] at h2
    obtain ⟨i2, hi2, _, hho2, _⟩ := plainTo_mem h2
    have : i2 = i := by omega
    subst this
    rcases hne with hne | hne
    · exact hne (by omega)
    · omega
  · obtain ⟨gn, hgn2⟩ : ∃ gn : Nat, gangF s = (gn : Int) := ⟨(gangF s).toNat, by omega⟩
    rcases (pick_gang hw hh hgn2 rd).2 with h2 | ⟨p, h2, _, h3, _⟩
    · omega
    · have : p = i := by omega
      subst this
      have h4 := (gangF_g (s := s) (by omega)).2
      rw [hgn2, Int.toNat_natCast] at h4
      unfold SS.gng at hgn
      rw [h3, Int.toNat_natCast, h4] at hgn
      cases hgn
theorem tickH_this (hw : Wf s) (hg : gangF s < 0) (ha : (a : Int) < s.H) (hcr : s.cr = true) (hL : 1 ≤ (plainL s a).length) (hw1 : 1 ≤ w) (rd : List Bool) (hrd : ∀ e ∈ plainL s a, readyF s rd e = true) (htj : t + 1 ≤ j * q) {k : Int} (hcc : CntC s k) (hrr : CntR s k) (hf : FJ a q w j t s) : FJ a q w j (t + 1) (tickH s (gangF s) a rd) := by
  obtain ⟨h1, _, _⟩ := tickH_tk hw rfl (h := a) ha rd hcc hrr
  have hpp := pickF_pp hw hf.C.q ha hg rd
  have hpos : 0 ≤ (pickF s (a : Int) rd).1 := by
    rcases Int.lt_or_le (pickF s (a : Int) rd).1 0 with c | c
    · have hn := hpp.2.2 hcr c
      obtain ⟨e, he⟩ : ∃ e, e ∈ plainL s a := List.exists_mem_of_length_pos (by omega)
      have := hn e he
      rw [hrd e he] at this
      cases this
    · exact c
  have hmem := (hpp.2.1 hpos).1
  have hrich : 0 < (s.ent (pickF s (a : Int) rd).1.toNat).cd ∨ ∀ e ∈ plainL s a, readyF s rd e = true → (s.ent e.toNat).cd ≤ 0 := by
    have e : pickF s (a : Int) rd = byCreditF s a rd := by unfold pickF; rw [if_neg (by omega), if_neg (by omega), if_pos hcr, Int.toNat_natCast]
    rw [e] at hpos ⊢
    exact byCredit_rich hw hf.C.q (by have := hw.tn; omega) rd hpos
  obtain ⟨p, hp⟩ : ∃ p, p = (pickF s (a : Int) rd).1 := ⟨_, rfl⟩
  rw [← hp] at hpos hmem hrich
  have hlow := hf.low hmem
  have hlen : (plainL s a).length ≤ 64 := Nat.le_trans (plainTo_len s (a : Int) s.es.length) hw.em
  have hlim := limitF_range hw
  have hent : ∀ e ∈ plainL s a, (tickH s (gangF s) a rd).ent e.toNat = if e = p then { s.ent e.toNat with rn := (s.ent e.toNat).rn + 1, cd := (s.ent e.toNat).cd - 1 } else s.ent e.toNat := fun e he => by
    obtain ⟨i, rfl, hi, _⟩ := plainTo_mem he
    rw [Int.toNat_natCast, tickH_ent hw, ← hp]
    by_cases c : p = (i : Int)
    · rw [if_pos c, if_pos c.symm, hcr, decide_eq_true hg]
      have hl2 := hf.low he
      rw [Int.toNat_natCast] at hl2
      have hmx : max ((s.ent i).cd - 1) (-limitF s) = (s.ent i).cd - 1 := by omega
      unfold ranE
      rw [show (true && true) = true from rfl, if_pos rfl, hmx]
    · rw [if_neg c, if_neg (fun h => c h.symm)]
  have hnd := plainL_nodup s (a : Int)
  refine ⟨fun e hm => ?_, ?_, ?_, tickH_cq hw rfl ha rd hf.C, fun k => (tickH_gn hw (gangF s) a rd k).trans (hf.G k), ?_⟩
  · rw [h1.st.plain] at hm
    rw [hent e hm]
    have := hf.A e hm
    by_cases c : e = p
    · rw [if_pos c]
      show w * ((s.ent e.toNat).cd - 1 + ((s.ent e.toNat).rn + 1)) + (s.ent e.toNat).pt = j * q * (s.ent e.toNat).wt ∧ _
      rw [show (s.ent e.toNat).cd - 1 + ((s.ent e.toNat).rn + 1) = (s.ent e.toNat).cd + (s.ent e.toNat).rn by omega]
      exact this
    · rw [if_neg c]; exact this
  · rw [h1.st.plain, sumE_one (G := fun e => (s.ent e.toNat).rn) (p := p) _ hnd hmem (fun e he hne => by rw [hent e he, if_neg hne]), hf.B, hent p hmem, if_pos rfl]
    show t + ((s.ent p.toNat).rn + 1 - (s.ent p.toNat).rn) = t + 1
    omega
  · rw [h1.st.plain]
    have e1 := sumE_one (F := fun e => max (-((tickH s (gangF s) a rd).ent e.toNat).cd) 0) (G := fun e => max (-(s.ent e.toNat).cd) 0) (p := p) _ hnd hmem (fun e he hne => by rw [hent e he, if_neg hne])
    rw [hent p hmem, if_pos rfl] at e1
    rw [e1]
    have hD := hf.D
    show sumE (fun e => max (-(s.ent e.toNat).cd) 0) (plainL s a) + (max (-((s.ent p.toNat).cd - 1)) 0 - max (-(s.ent p.toNat).cd) 0) ≤ _
    rcases hrich with hr | hr
    · omega
    · have hall : ∀ e ∈ plainL s a, (s.ent e.toNat).cd ≤ 0 := fun e he => hr e he (hrd e he)
      have hpc := hall p hmem
      have e2 : sumE (fun e => max (-(s.ent e.toNat).cd) 0) (plainL s a) = sumE (fun e => (-1) * (s.ent e.toNat).cd) (plainL s a) := sumE_congr _ (fun e he => by have := hall e he; omega)
      rw [e2, sumE_mul]
      have e3 := hf.sum
      have e4 := hf.parts
      have e5 : w * (-1 * sumE (fun e => (s.ent e.toNat).cd) (plainL s a) + 1) ≤ w * (plainL s a).length := by
        have e6 : w * (-1 * sumE (fun e => (s.ent e.toNat).cd) (plainL s a) + 1) = w - w * sumE (fun e => (s.ent e.toNat).cd) (plainL s a) := by
          rw [Int.mul_add, Int.mul_one, ← Int.mul_assoc, Int.mul_neg, Int.mul_one, Int.neg_mul]; omega
        have e7 : w ≤ w * (j * q - t) := by
          have := Int.mul_le_mul_of_nonneg_left (show 1 ≤ j * q - t by omega) (show 0 ≤ w by omega)
          rwa [Int.mul_one] at this
        omega
      have e8 : -1 * sumE (fun e => (s.ent e.toNat).cd) (plainL s a) + 1 ≤ (plainL s a).length := Int.le_of_mul_le_mul_left e5 (by omega)
      omega
  · rw [h1.st.plain, sumE_congr _ (fun e he => show ((tickH s (gangF s) a rd).ent e.toNat).wt = (s.ent e.toNat).wt from (h1.st.en e.toNat).2.2)]
    exact hf.W
/-- The harts behind it. -/
theorem tickFrom_past (rd : List Bool) : ∀ (f h : Nat) (s : SS) (k : Int), Wf s → a < h → ((h + f : Nat) : Int) ≤ s.H → CntC s k → CntR s k → FJ a q w j t s → FJ a q w j t (tickFrom (gangF s) rd f h s)
  | 0, h, s, k, _, _, _, _, _, hf => hf
  | f + 1, h, s, k, hw, hlt, hh, hcc, hrr, hf => by
    obtain ⟨g1, g2, g3⟩ := tickH_tk hw rfl (h := h) (by omega) rd hcc hrr
    have hg : gangF (tickH s (gangF s) h rd) = gangF s := g1.st.gang g1.now
    have := tickFrom_past rd f (h + 1) (tickH s (gangF s) h rd) (k + 1) g1.wf (by omega) (by rw [g1.st.H]; omega) g2 g3 (tickH_other hw rfl (by omega) rd (.inl (by omega)) hcc hrr hf)
    rw [hg] at this
    exact this
theorem tickFrom_gang (rd : List Bool) : ∀ (f h : Nat) (s : SS) (k : Int), Wf s → 0 ≤ gangF s → ((h + f : Nat) : Int) ≤ s.H → CntC s k → CntR s k → FJ a q w j t s → FJ a q w j t (tickFrom (gangF s) rd f h s)
  | 0, h, s, k, _, _, _, _, _, hf => hf
  | f + 1, h, s, k, hw, hlt, hh, hcc, hrr, hf => by
    obtain ⟨g1, g2, g3⟩ := tickH_tk hw rfl (h := h) (by omega) rd hcc hrr
    have hg : gangF (tickH s (gangF s) h rd) = gangF s := g1.st.gang g1.now
    have := tickFrom_gang rd f (h + 1) (tickH s (gangF s) h rd) (k + 1) g1.wf (by rw [hg]; exact hlt) (by rw [g1.st.H]; omega) g2 g3 (tickH_other hw rfl (by omega) rd (.inr hlt) hcc hrr hf)
    rw [hg] at this
    exact this
theorem tickFrom_free (rd : List Bool) : ∀ (f h : Nat) (s : SS) (k : Int), Wf s → gangF s < 0 → h ≤ a → a < h + f → ((h + f : Nat) : Int) ≤ s.H → CntC s k → CntR s k → s.cr = true → 1 ≤ (plainL s a).length → 1 ≤ w → (∀ e ∈ plainL s a, e < (rd.length : Int) ∧ rd.getD e.toNat false = true) → t + 1 ≤ j * q → FJ a q w j t s →
    FJ a q w j (t + 1) (tickFrom (gangF s) rd f h s)
  | 0, h, s, k, _, _, h1, h2, _, _, _, _, _, _, _, _, _ => by omega
  | f + 1, h, s, k, hw, hgn, hle, hlt, hh, hcc, hrr, hcr, hL, hw1, hrd, htj, hf => by
    obtain ⟨h1, h2, h3⟩ := tickH_tk hw rfl (h := h) (by omega) rd hcc hrr
    have hg : gangF (tickH s (gangF s) h rd) = gangF s := h1.st.gang h1.now
    show FJ a q w j (t + 1) (tickFrom (gangF s) rd f (h + 1) (tickH s (gangF s) h rd))
    by_cases c : h = a
    · subst c
      have hrd2 : ∀ e ∈ plainL s h, readyF s rd e = true := fun e he => by
        have := hrd e he
        unfold readyF
        rw [decide_eq_true this.1, this.2, hf.G]; rfl
      have := tickFrom_past rd f (h + 1) (tickH s (gangF s) h rd) (k + 1) h1.wf (by omega) (by rw [h1.st.H]; omega) h2 h3 (tickH_this hw hgn (by omega) hcr hL hw1 rd hrd2 htj hcc hrr hf)
      rw [hg] at this
      exact this
    · have := tickFrom_free rd f (h + 1) (tickH s (gangF s) h rd) (k + 1) h1.wf (by rw [hg]; exact hgn) (by omega) (by omega) (by rw [h1.st.H]; omega) h2 h3 (h1.st.cr.trans hcr) (by rw [h1.st.plain]; exact hL) hw1 (by rw [h1.st.plain]; exact hrd) htj (tickH_other hw rfl (by omega) rd (.inl c) hcc hrr hf)
      rw [hg] at this
      exact this
end
end Go.Proofs.Ytdaadmjppikebaa.SC

/- SchedFair, plain, third part: a period's credits; what holds tick by tick. -/
namespace Go.Proofs.Ytdaadmjppikebaa.SC
open Go.RowKit
open Go.Proofs.Ytdaadmjppikebaa.PV (S94 k94 S29 k29 rd_T94 rd_T29)
set_option linter.unusedVariables false
set_option linter.unusedSimpArgs false

theorem sumGo_all (s : SS) : ∀ (l : List Int) (n : Int), (∀ e ∈ l, (s.ent e.toNat).gn = false) → sumGo s l n = n + sumE (fun e => (s.ent e.toNat).wt) l
  | [], n, _ => by simp [sumGo, sumE]
  | e :: r, n, h => by
    simp only [sumGo]
    rw [h e List.mem_cons_self, if_neg (by decide), sumGo_all s r _ (fun x hx => h x (List.mem_cons_of_mem _ hx)), sumE_cons]
    omega
theorem giveGo_out (sum : Int) : ∀ (l : List Int) (s : SS) (k : Nat), (∀ e ∈ l, 0 ≤ e) → (k : Int) ∉ l → (giveGo sum l s).ent k = s.ent k
  | [], s, k, _, _ => rfl
  | e :: r, s, k, h, hk => by
    have h0 := h e List.mem_cons_self
    have hne : e ≠ (k : Int) := fun c => hk (c ▸ List.mem_cons_self)
    simp only [giveGo]
    rw [giveGo_out sum r _ k (fun x hx => h x (List.mem_cons_of_mem _ hx)) (fun c => hk (List.mem_cons_of_mem _ c))]
    split
    · rfl
    · by_cases c : e.toNat < s.es.length
      · rw [modE_ent _ c, if_neg (by omega)]
      · rw [modE_out _ _ c]
theorem giveGo_in (sum : Int) : ∀ (l : List Int) (s : SS) (k : Nat), l.Nodup → (∀ e ∈ l, 0 ≤ e ∧ e < s.es.length) → (∀ e ∈ l, (s.ent e.toNat).gn = false) → (k : Int) ∈ l → (giveGo sum l s).ent k = giveUp (ticksF s) (limitF s) sum (s.ent k)
  | [], s, k, _, _, _, hk => by simp at hk
  | e :: r, s, k, hn, hr, hg, hk => by
    rw [List.nodup_cons] at hn
    have he := hr e List.mem_cons_self
    have hi : e.toNat < s.es.length := by omega
    have st := St.modE s e.toNat (giveUp (ticksF s) (limitF s) sum) (fun _ => ⟨rfl, rfl, rfl⟩)
    simp only [giveGo]
    rw [hg e List.mem_cons_self, if_neg (by decide)]
    rcases List.mem_cons.1 hk with hk | hk
    · rw [giveGo_out sum r _ k (fun x hx => (hr x (List.mem_cons_of_mem _ hx)).1) (by rw [hk]; exact hn.1), modE_ent _ hi, if_pos (by omega)]
      rw [show e.toNat = k by omega]
    · have hne : e ≠ (k : Int) := fun c => hn.1 (c ▸ hk)
      rw [giveGo_in sum r _ k hn.2 (fun x hx => by rw [st.el]; exact hr x (List.mem_cons_of_mem _ hx)) (fun x hx => by
        have hx2 := hr x (List.mem_cons_of_mem _ hx)
        rw [modE_ent _ hi, if_neg (fun c => hn.1 (by have : e = x := by omega
                                                     rw [this]; exact hx))]
        exact hg x (List.mem_cons_of_mem _ hx)) hk, st.ticks, st.limit, modE_ent _ hi, if_neg (by omega)]
section
variable {a : Nat} {q w j t : Int} {s s' : SS}
theorem giveH_other (hw : Wf s) (hf : FJ a q w j t s) (h : Nat) (hne : h ≠ a) : FJ a q w j t (giveH s h) := by
  have hg := giveH_gk hw (h : Int)
  refine hf.keep hg.st ⟨hf.C.q.of hg.st (fun i hi e => by unfold SS.trn; rw [hg.ts]), hf.C.c.giveH hw h⟩ (fun k => (hg.gn k).1.trans (hf.G k)) (fun e he => ?_)
  obtain ⟨i, rfl, hi, hho, hgn⟩ := plainTo_mem he
  rw [Int.toNat_natCast]
  unfold giveH
  refine giveGo_out _ _ _ _ (fun x hx => (plainL_range x hx).1) (fun c => ?_)
  obtain ⟨i2, hi2, _, hho2, _⟩ := plainTo_mem c
  have : i2 = i := by omega
  subst this
  omega
theorem giveH_this (hw : Wf s) (hq : ticksF s = q) (hw1 : 1 ≤ w) (hf : FJ a q w j t s) (hhi : ∀ e ∈ plainL s a, (s.ent e.toNat).cd ≤ 64) : FJ a q w (j + 1) t (giveH s a) := by
  have hg := giveH_gk hw (a : Int)
  have hsum : sumGo s (plainL s a) 0 = w := by rw [sumGo_all s _ _ (fun e _ => hf.G _), hf.W, Int.zero_add]
  have htk := ticksF_range hw.toS
  have hent : ∀ e ∈ plainL s a, (giveH s a).ent e.toNat = giveUp q (limitF s) w (s.ent e.toNat) := fun e he => by
    obtain ⟨i, hi, _⟩ := plainTo_mem he
    unfold giveH
    rw [hsum, ← hq, hi, Int.toNat_natCast]
    exact giveGo_in w _ s i (plainL_nodup s a) plainL_range (fun x _ => hf.G _) (by rw [← hi]; exact he)
  have hwt : ∀ e ∈ plainL s a, 0 ≤ (s.ent e.toNat).wt ∧ (s.ent e.toNat).wt ≤ w := fun e he => by
    have h1 : ∀ x ∈ plainL s a, 0 ≤ (s.ent x.toNat).wt := fun x hx => by
      have := plainL_range x hx
      have := hw.ew x.toNat (by omega)
      omega
    have h2 := sumE_mem (F := fun e => (s.ent e.toNat).wt) (plainL s a) h1 e he
    rw [hf.W] at h2
    exact ⟨h1 e he, h2⟩
  have hnew : ∀ e ∈ plainL s a, giveUp q (limitF s) w (s.ent e.toNat) = { s.ent e.toNat with cd := (s.ent e.toNat).cd + ((s.ent e.toNat).pt + q * (s.ent e.toNat).wt) / w, pt := ((s.ent e.toNat).pt + q * (s.ent e.toNat).wt) % w } ∧ 0 ≤ ((s.ent e.toNat).pt + q * (s.ent e.toNat).wt) / w := fun e he => by
    have h1 := hf.A e he
    have h2 := hwt e he
    have h3 := hhi e he
    have h4 : q * (s.ent e.toNat).wt ≤ q * w := Int.mul_le_mul_of_nonneg_left h2.2 (by omega)
    have h5 : 0 ≤ q * (s.ent e.toNat).wt := Int.mul_nonneg (by omega) h2.1
    have h6 : ((s.ent e.toNat).pt + q * (s.ent e.toNat).wt) / w < q + 1 := by
      refine Int.ediv_lt_of_lt_mul (by omega) ?_
      rw [Int.add_mul, Int.one_mul]
      omega
    have h7 : limitF s = q + 128 := by unfold limitF; rw [hq]
    unfold giveUp
    refine ⟨?_, Int.ediv_nonneg (by omega) (by omega)⟩
    congr 1
    omega
  refine ⟨fun e he => ?_, ?_, ?_, ⟨hf.C.q.of hg.st (fun i hi e => by unfold SS.trn; rw [hg.ts]), hf.C.c.giveH hw a⟩, fun k => (hg.gn k).1.trans (hf.G k), ?_⟩
  · rw [hg.st.plain] at he
    rw [hent e he, (hnew e he).1]
    have h1 := hf.A e he
    show w * ((s.ent e.toNat).cd + ((s.ent e.toNat).pt + q * (s.ent e.toNat).wt) / w + (s.ent e.toNat).rn) + ((s.ent e.toNat).pt + q * (s.ent e.toNat).wt) % w = (j + 1) * q * (s.ent e.toNat).wt ∧ 0 ≤ ((s.ent e.toNat).pt + q * (s.ent e.toNat).wt) % w ∧ ((s.ent e.toNat).pt + q * (s.ent e.toNat).wt) % w < w
    refine ⟨?_, Int.emod_nonneg _ (by omega), Int.emod_lt_of_pos _ (by omega)⟩
    have h2 := Int.mul_ediv_add_emod ((s.ent e.toNat).pt + q * (s.ent e.toNat).wt) w
    have e1 : w * ((s.ent e.toNat).cd + ((s.ent e.toNat).pt + q * (s.ent e.toNat).wt) / w + (s.ent e.toNat).rn) = w * ((s.ent e.toNat).cd + (s.ent e.toNat).rn) + w * (((s.ent e.toNat).pt + q * (s.ent e.toNat).wt) / w) := by rw [← Int.mul_add]; congr 1; omega
    have e2 : (j + 1) * q * (s.ent e.toNat).wt = j * q * (s.ent e.toNat).wt + q * (s.ent e.toNat).wt := by rw [Int.add_mul, Int.add_mul, Int.one_mul]
    rw [e1, e2]
    omega
  · rw [hg.st.plain, sumE_congr _ (fun e he => show ((giveH s a).ent e.toNat).rn = (s.ent e.toNat).rn from (hg.gn e.toNat).2)]
    exact hf.B
  · rw [hg.st.plain]
    refine Int.le_trans (sumE_le _ (fun e he => ?_)) hf.D
    rw [hent e he, (hnew e he).1]
    have := (hnew e he).2
    show max (-((s.ent e.toNat).cd + ((s.ent e.toNat).pt + q * (s.ent e.toNat).wt) / w)) 0 ≤ max (-(s.ent e.toNat).cd) 0
    omega
  · rw [hg.st.plain, sumE_congr _ (fun e he => show ((giveH s a).ent e.toNat).wt = (s.ent e.toNat).wt from (hg.st.en e.toNat).2.2)]
    exact hf.W
theorem giveFrom_past : ∀ (f h : Nat) (s : SS), Wf s → a < h → FJ a q w j t s → FJ a q w j t (giveFrom f h s)
  | 0, _, _, _, _, hf => hf
  | f + 1, h, s, hw, hlt, hf => giveFrom_past f (h + 1) (giveH s h) (giveH_gk hw h).wf (by omega) (giveH_other hw hf h (by omega))
theorem giveFrom_this : ∀ (f h : Nat) (s : SS), Wf s → h ≤ a → a < h + f → ticksF s = q → 1 ≤ w → FJ a q w j t s → (∀ e ∈ plainL s a, (s.ent e.toNat).cd ≤ 64) → FJ a q w (j + 1) t (giveFrom f h s)
  | 0, _, _, _, h1, h2, _, _, _, _ => by omega
  | f + 1, h, s, hw, hle, hlt, hq, hw1, hf, hhi => by
    have hg := giveH_gk hw (h : Int)
    show FJ a q w (j + 1) t (giveFrom f (h + 1) (giveH s h))
    by_cases c : h = a
    · subst c
      exact giveFrom_past f (h + 1) _ hg.wf (by omega) (giveH_this hw hq hw1 hf hhi)
    · have hf2 := giveH_other hw hf h c
      refine giveFrom_this f (h + 1) _ hg.wf (by omega) (by omega) (by rw [hg.st.ticks]; exact hq) hw1 hf2 (fun e he => ?_)
      rw [hg.st.plain] at he
      obtain ⟨i, hie, hi, hho, hgn⟩ := plainTo_mem he
      have hent : (giveH s h).ent e.toNat = s.ent e.toNat := by
        rw [hie, Int.toNat_natCast]
        unfold giveH
        refine giveGo_out _ _ _ _ (fun x hx => (plainL_range x hx).1) (fun c2 => ?_)
        obtain ⟨i2, hi2, _, hho2, _⟩ := plainTo_mem c2
        have : i2 = i := by omega
        subst this
        omega
      rw [hent]; exact hhi e he
end
/-- What holds behind i ticks of SchedFair: p whole periods and x ticks. -/
structure FI (a : Nat) (q w P : Int) (p x : Int) (s : SS) : Prop where
  now : s.now = P * p + x
  xr : 0 ≤ x ∧ x < P
  hP : s.P = P
  H : (a : Int) < s.H
  cr : s.cr = true
  tk : ticksF s = q
  p0 : 0 ≤ p
  sh : s.sh = q * p + max 0 (x - (P - q))
  F : 1 ≤ (plainL s a).length → FJ a q w (p + 1) s.sh s
  E : 1 ≤ (plainL s a).length → x = 0 → ∀ e ∈ plainL s a, -(((plainL s a).length + 1) * w) ≤ w * (s.ent e.toNat).rn - p * q * (s.ent e.toNat).wt ∧ w * (s.ent e.toNat).rn - p * q * (s.ent e.toNat).wt ≤ ((plainL s a).length + 1) * w
theorem FJ.fair {a : Nat} {q w j t : Int} {s : SS} (hw : 1 ≤ w) (hf : FJ a q w j t s) (ht : j * q ≤ t) {e : Int} (he : e ∈ plainL s a) : -(((plainL s a).length + 1) * w) ≤ w * (s.ent e.toNat).rn - j * q * (s.ent e.toNat).wt ∧ w * (s.ent e.toNat).rn - j * q * (s.ent e.toNat).wt ≤ ((plainL s a).length + 1) * w := by
  have h1 := hf.A e he
  have h2 := hf.low he
  have h3 := hf.high hw ht he
  rw [Int.mul_add] at h1
  have h4 : w * (s.ent e.toNat).cd ≤ w * (plainL s a).length := Int.mul_le_mul_of_nonneg_left h3 (by omega)
  have h5 : w * (-((plainL s a).length : Int)) ≤ w * (s.ent e.toNat).cd := Int.mul_le_mul_of_nonneg_left h2 (by omega)
  rw [Int.mul_neg] at h5
  have h6 : (((plainL s a).length : Int) + 1) * w = w * (plainL s a).length + w := by rw [Int.add_mul, Int.one_mul, Int.mul_comm]
  rw [h6]
  omega
theorem FI.tick {a : Nat} {q w P p x : Int} {s : SS} (h : FI a q w P p x s) (hw : Wf s) (hn : s.now < 4611686018427387904) (hc : CntC s 0) (hr : CntR s 0) (hw1 : 1 ≤ (plainL s a).length → 1 ≤ w) (rd : List Bool) (hrd : ∀ e ∈ plainL s a, e < (rd.length : Int) ∧ rd.getD e.toNat false = true) :
    FI a q w P (if x + 1 = P then p + 1 else p) (if x + 1 = P then 0 else x + 1) (tickF s rd) := by
  have hH1 := hw.H1
  have htk := ticksF_range hw.toS
  rw [h.tk] at htk
  have hqP : q ≤ P := by
    have h1 := gangF_neg hw
    have h2 := ticksGo_range s.gs s.P (fun g hg => by
      obtain ⟨i, hi, rfl⟩ := List.getElem_of_mem hg
      have := hw.gw i hi
      unfold SS.gst at this
      rw [List.getD_eq_getElem?_getD, List.getElem?_eq_getElem hi, Option.getD_some] at this
      omega)
    have h3 := h.tk
    have h4 := h.hP
    unfold ticksF at h3
    omega
  have hmod : s.now % s.P = x := by
    rw [h.now, h.hP, Int.add_comm, Int.add_mul_emod_self_left]
    exact Int.emod_eq_of_lt h.xr.1 h.xr.2
  have hgf := gangF_neg hw
  rw [h.tk, hmod, h.hP] at hgf
  obtain ⟨h1, h2, h3⟩ := tickFrom_tk (gangF s) rd s.H.toNat 0 s 0 hw rfl (by omega) hc hr
  obtain ⟨e1, e2⟩ := tickE_wf h1.wf (gangF s) (by rw [h1.now]; exact hn)
  have ht := tickF_tf rd hw hn hc hr
  have hpl := fun (e : Int) => (show plainL (tickF s rd) a = plainL s a from ht.st.plain a)
  -- behind the harts
  have hF1 : 1 ≤ (plainL s a).length → FJ a q w (p + 1) (if gangF s < 0 then s.sh + 1 else s.sh) (tickFrom (gangF s) rd s.H.toNat 0 s) := fun hl => by
    by_cases c : gangF s < 0
    · rw [if_pos c]
      refine tickFrom_free rd s.H.toNat 0 s 0 hw c (Nat.zero_le _) (by have := h.H; omega) (by omega) hc hr h.cr hl (hw1 hl) hrd ?_ (h.F hl)
      rw [h.sh, Int.add_mul, Int.one_mul, Int.mul_comm p q]
      have := hgf.1 c
      have := h.xr
      omega
    · rw [if_neg c]
      exact tickFrom_gang rd s.H.toNat 0 s 0 hw (by omega) (by omega) hc hr (h.F hl)
  obtain ⟨v, hv⟩ : ∃ v, v = tickE (tickFrom (gangF s) rd s.H.toNat 0 s) (gangF s) := ⟨_, rfl⟩
  have htf : tickF s rd = if v.now % v.P = 0 ∧ v.cr = true then giveF v else v := by rw [hv]; rfl
  rw [← hv] at e1 e2
  have hst : St s v := h1.st.trans e2
  have vn : v.now = s.now + 1 := by rw [hv]; show (tickFrom (gangF s) rd s.H.toNat 0 s).now + 1 = _; rw [h1.now]
  have vs : v.sh = if gangF s < 0 then s.sh + 1 else s.sh := by rw [hv]; show (if gangF s < 0 then (tickFrom (gangF s) rd s.H.toNat 0 s).sh + 1 else (tickFrom (gangF s) rd s.H.toNat 0 s).sh) = _; rw [h1.sh]
  have hF2 : 1 ≤ (plainL s a).length → FJ a q w (p + 1) v.sh v := fun hl => by
    rw [vs, hv]
    have := hF1 hl
    exact this.keep ⟨rfl, rfl, rfl, rfl, rfl, rfl, fun _ => ⟨rfl, rfl, rfl⟩, rfl, rfl⟩ ⟨this.C.q, this.C.c⟩ this.G (fun _ _ => rfl)
  have hvP : v.P = P := hst.P.trans h.hP
  have hvc : v.cr = true := hst.cr.trans h.cr
  have hxr := h.xr
  have hsh := h.sh
  have hnow := h.now
  have hH := h.H
  have hp0 := h.p0
  have e3 : P * (p + 1) = P * p + P := by rw [Int.mul_add, Int.mul_one]
  have e4 : q * (p + 1) = q * p + q := by rw [Int.mul_add, Int.mul_one]
  by_cases hx : x + 1 = P
  · have hgn : gangF s < 0 := hgf.2 (by omega)
    rw [if_pos hgn] at vs
    have hz : v.now % v.P = 0 := by
      rw [vn, hnow, hvP, show P * p + x + 1 = P * (p + 1) by omega]
      exact Int.mul_emod_right _ _
    rw [if_pos ⟨hz, hvc⟩] at htf
    have hg := giveF_gk e1
    rw [if_pos hx, if_pos hx, htf]
    have hvsh : v.sh = q * p + q := by omega
    have hqp : (p + 1) * q = q * p + q := by rw [Int.mul_comm, e4]
    refine ⟨by rw [hg.now, vn, hnow, e3]; omega, by omega, hg.st.P.trans hvP, by rw [hg.st.H, hst.H]; exact hH, hg.st.cr.trans hvc, by rw [hg.st.ticks, hst.ticks]; exact h.tk, by omega, by rw [hg.sh, hvsh, e4]; omega, fun hl => ?_, fun hl _ e he => ?_⟩
    · rw [hg.st.plain, hst.plain] at hl
      have hf := hF2 hl
      rw [hg.sh]
      refine giveFrom_this v.H.toNat 0 v e1 (Nat.zero_le _) (by rw [hst.H]; omega) (by rw [hst.ticks]; exact h.tk) (hw1 hl) hf (fun e he => ?_)
      have h5 := hf.high (hw1 hl) (by omega) he
      have h6 : (plainL v a).length ≤ 64 := Nat.le_trans (plainTo_len v (a : Int) v.es.length) e1.em
      omega
    · rw [hg.st.plain, hst.plain] at hl
      rw [hg.st.plain] at he
      have hf := hF2 hl
      have h5 := hf.fair (hw1 hl) (by omega) he
      rw [hg.st.plain, (hg.gn e.toNat).2, (hg.st.en e.toNat).2.2]
      exact h5
  · have hz : ¬ (v.now % v.P = 0 ∧ v.cr = true) := fun c => by
      have c1 := c.1
      rw [vn, hnow, hvP, show P * p + x + 1 = (x + 1) + P * p by omega, Int.add_mul_emod_self_left, Int.emod_eq_of_lt (by omega) (by omega)] at c1
      omega
    rw [if_neg hz] at htf
    rw [if_neg hx, if_neg hx, htf]
    refine ⟨by rw [vn, hnow]; omega, by omega, hvP, by rw [hst.H]; exact hH, hvc, by rw [hst.ticks]; exact h.tk, hp0, ?_, fun hl => hF2 (by rw [hst.plain] at hl; exact hl), fun _ h0 => by omega⟩
    rw [vs, hsh]
    by_cases c : gangF s < 0
    · rw [if_pos c]
      have := hgf.1 c
      omega
    · rw [if_neg c]
      have : ¬ (P - q ≤ x) := fun c2 => c (hgf.2 c2)
      omega
end Go.Proofs.Ytdaadmjppikebaa.SC

/- SchedFair: what the walk needs: the list of a hart, the list of who can run with bits put into it, weights. -/
namespace Go.Proofs.Ytdaadmjppikebaa.SC
open Go.RowKit Go.Proofs.YtdaadmjppikebaaW.PrintWords Go.Proofs.YtdaadmjppikebaaW.PrintLast
open Go.Proofs.Ytdaadmjppikebaa.PV (S94 k94 S29 k29 rd_T94 rd_T29)
set_option linter.unusedVariables false
set_option linter.unusedSimpArgs false

/-- A list of whole numbers, apart from a scheduler's blocks. -/
structure IL (W : World) (own : Nat → Prop) (A : Option Addr) (c : Nat) (l : List Int) : Prop where
  r : Kd.R (Kd.int .i64) 3 W 0 (fun k => ¬ own k) (.slice A l.length c) l
section
variable {W0 W w' : World} {own own' : Nat → Prop} {A : Option Addr} {c : Nat} {l : List Int} {rd : List Bool}
theorem IL.of {b : Nat} {s : SS} (h : SB W own b s) (hr : Kd.R (Kd.int .i64) 3 w' W.heap.size (fun _ => True) (.slice A l.length c) l) : IL w' own A c l := by
  obtain ⟨h0, inner, ho, hrr⟩ := hr
  have hb := Kd.R_base (show Kd.R (Kd.int .i64) 3 w' W.heap.size (fun _ => True) (.slice A l.length c) l from ⟨h0, inner, ho, hrr⟩)
  have h2 : Kd.R (Kd.int .i64) 3 w' 0 (fun _ => True) (.slice A l.length c) l := Kd.R_lower ⟨h0, inner, ho, hrr⟩ (Nat.zero_le _)
  obtain ⟨_, inner2, ho2, hrr2⟩ := h2
  exact ⟨fun k hk hk2 => by have := hb k hk; have := h.lt k hk2; omega, inner2, ho2, hrr2⟩
theorem IL.below (h : IL W own A c l) (hb : Below W.heap.size W w') : IL w' own A c l := ⟨Kd.R_below h.r hb⟩
theorem IL.lt (h : IL W own A c l) : ∀ k, (Value.slice A l.length c).ownBlock = some k → k < W.heap.size := Kd.R_lt h.r
theorem IL.then_ (h : IL W own A c l) (t : Then W own w' own') : IL w' own' A c l := by
  refine ⟨?_⟩
  have h1 := Kd.R_lt h.r
  have h2 := h.r.1
  have h3 : Kd.R (Kd.int .i64) 3 w' 0 (fun k => ¬ own k) (.slice A l.length c) l := Kd.R_kept h.r t.m.kept (fun k hk => hk)
  obtain ⟨_, inner, ho, hr⟩ := h3
  refine ⟨fun k hk h4 => ?_, inner, ho, hr⟩
  rcases t.z k h4 with h5 | h5
  · exact h2 k hk h5
  · have := h1 k hk; omega
theorem IL.put (h : IL W own A c l) {sb : Nat} (hne : ∀ k, (Value.slice A l.length c).ownBlock = some k → k ≠ sb) (q : Nat) (v : Value) : IL (W.setCell ⟨sb, q, none⟩ v) own A c l := by
  obtain ⟨h1, inner, ho, hr⟩ := h.r
  have h2 : Kd.R (Kd.int .i64) 3 W 0 (fun k => ¬ own k ∧ k ≠ sb) (.slice A l.length c) l := ⟨fun k hk => ⟨h1 k hk, hne k hk⟩, inner, ho, hr⟩
  have h3 := Kd.R_far h2 (p := ⟨sb, q, none⟩) (fun k hk => hk.2) v
  obtain ⟨h4, inner, ho, hr⟩ := h3
  exact ⟨⟨fun k hk => (h4 k hk).1, inner, ho, hr⟩⟩
theorem IL.cell (h : IL W own A c l) {k : Nat} (hk : k < l.length) : ∃ ad, A = some ad ∧ W.cell? (ad.add k) = some (.int .i64 (Go.Proofs.YtdaadmjppikebaaW.PrintWords.rd l k)) := by
  obtain ⟨ad, e, hc⟩ := Kd.at_int (Kd.R_reads' h.r).2.2 (k : Int) (by omega) (by omega)
  rw [Int.toNat_natCast] at hc
  exact ⟨ad, e, hc⟩
theorem RL.at0 (h : RL W own A c rd) (hl : 1 ≤ rd.length) : ∃ g, A = some ⟨g, 0, none⟩ := by
  obtain ⟨_, inner, ⟨_, ho⟩, _⟩ := h.r
  rcases ho with ⟨hv, hn⟩ | ⟨g, cap, cur, hv, _⟩
  · omega
  · exact ⟨g, by injection hv⟩
theorem RL.put1 {g : Nat} (h : RL W own (some ⟨g, 0, none⟩) c rd) (k : Nat) (v : Bool) : RL (W.setCell ⟨g, k, none⟩ (.bool v)) own (some ⟨g, 0, none⟩) c (rd.set k v) := by
  have := Kd.R_putn (enc := Value.bool) (h1 := fun _ => rfl) h.r (k : Int) v
  rw [Int.toNat_natCast] at this
  refine ⟨?_⟩
  rw [List.length_set]
  exact this
theorem RL.cell0 {g : Nat} (h : RL W own (some ⟨g, 0, none⟩) c rd) {k : Nat} (hk : k < rd.length) : (∃ v, W.cell? ⟨g, k, none⟩ = some (.bool v)) ∧ W.frozen? ⟨g, k, none⟩ = false := by
  have := Kd.R_cell (enc := Value.bool) (h1 := fun _ => rfl) false h.r (k : Int) (by omega) (by omega)
  rw [Int.toNat_natCast] at this
  exact ⟨⟨_, this.1⟩, this.2⟩
end
theorem ticksGo_gS' : ∀ (gs : List SG) (ys : List S29) (P : Int), gs.length = ys.length → (∀ q : Nat, (gs.getD q g0).g = (rd_T29 ys (q : Int)).f2) → (∀ q : Nat, (gs.getD q g0).w = (rd_T29 ys (q : Int)).f1) → ticksGo gs P = P - gS ys
  | [], [], P, _, _, _ => by simp [ticksGo, gS]
  | [], _ :: _, _, h, _, _ => by simp at h
  | _ :: _, [], _, h, _, _ => by simp at h
  | x :: r, y :: ys, P, h, hg, hw => by
    have g0' : x.g = y.f2 := hg 0
    have w0' : x.w = y.f1 := hw 0
    have ih := ticksGo_gS' r ys (if x.g = true then P - x.w else P) (by simpa using h) (fun q => by have := hg (q + 1); unfold rd_T29 at this ⊢; rw [Int.toNat_natCast] at this ⊢; simpa using this) (fun q => by have := hw (q + 1); unfold rd_T29 at this ⊢; rw [Int.toNat_natCast] at this ⊢; simpa using this)
    show ticksGo r (if x.g = true then P - x.w else P) = _
    rw [ih, g0', w0']
    have e : gS (y :: ys) = (if y.f2 = true then y.f1 else 0) + gS ys := by simp [gS]
    rw [e]
    split <;> omega
theorem NP.ticks' {m : Nat} {S P : Int} {cr : Bool} {ys : List S29} {s : SS} (h : NP m S P cr ys s) : ticksF s = P - gS ys := by
  unfold ticksF
  rw [h.P]
  exact ticksGo_gS' s.gs ys P h.gl h.gg h.gw
/-- An entity's weight is its guest's. -/
theorem newF_wt {m : Nat} {S P : Int} {cr : Bool} {gl : List S94} (hok : NOk m S P gl) : ∀ i, i < (newF m S P cr gl).es.length → ((newF m S P cr gl).ent i).wt = ((newF m S P cr gl).gst ((newF m S P cr gl).ent i).gu.toNat).w := by
  obtain ⟨_, _, _, hst, _, _⟩ := newF_ok (cr := cr) hok
  intro i hi
  rw [hst.el] at hi
  rw [(hst.en i).2.2, (hst.en i).1, hst.gst]
  obtain ⟨j, x, k, h1, h2, h3⟩ := new_ent (m := m) (S := S) (P := P) (cr := cr) (gl := gl) (i := i) hi
  have e1 : (newS1 m S P cr gl).ent i = ⟨(j : Int), (k : Int), x.f2, 0, 0, 0, false⟩ := h3
  rw [e1]
  show x.f2 = ((guestsL gl).getD ((j : Int)).toNat g0).w
  unfold guestsL
  rw [Int.toNat_natCast, List.getD_eq_getElem?_getD, List.getElem?_map, h1]
  rfl
theorem wSum_sumE {s : SS} (h : ∀ i, i < s.es.length → (s.ent i).wt = (s.gst (s.ent i).gu.toNat).w) (a : Int) : wSum s (plainL s a) = sumE (fun e => (s.ent e.toNat).wt) (plainL s a) := by
  have : ∀ l : List Int, (∀ e ∈ l, 0 ≤ e ∧ e < s.es.length) → wSum s l = sumE (fun e => (s.ent e.toNat).wt) l := by
    intro l
    induction l with
    | nil => intro _; rfl
    | cons e r ih =>
      intro hl
      have he := hl e List.mem_cons_self
      have e1 : wSum s (e :: r) = (s.gst (s.ent e.toNat).gu.toNat).w + wSum s r := by simp [wSum]
      rw [e1, sumE_cons, ih (fun x hx => hl x (List.mem_cons_of_mem _ hx)), h e.toNat (by omega)]
  exact this _ plainL_range
/-- The bits of a hart's entities, put one by one. -/
structure PutL (ls : List Int) (k n : Nat) (rd : List Bool) : Prop where
  l : rd.length = n
  b : ∀ j, j < k → rd.getD (Go.Proofs.YtdaadmjppikebaaW.PrintWords.rd ls j).toNat false = true
theorem PutL.put {ls : List Int} {k n : Nat} {rd : List Bool} (h : PutL ls k n rd) (hl : (Go.Proofs.YtdaadmjppikebaaW.PrintWords.rd ls k).toNat < n) : PutL ls (k + 1) n (rd.set (Go.Proofs.YtdaadmjppikebaaW.PrintWords.rd ls k).toNat true) := by
  refine ⟨by rw [List.length_set]; exact h.l, fun j hj => ?_⟩
  rw [List.getD_eq_getElem?_getD, List.getElem?_set]
  by_cases c : (Go.Proofs.YtdaadmjppikebaaW.PrintWords.rd ls k).toNat = (Go.Proofs.YtdaadmjppikebaaW.PrintWords.rd ls j).toNat
  · rw [if_pos c, if_pos (by rw [h.l]; exact hl)]; rfl
  · rw [if_neg c, ← List.getD_eq_getElem?_getD]
    exact h.b j (by
      rcases Nat.lt_or_ge j k with c2 | c2
      · exact c2
      · have : j = k := by omega
        subst this
        exact absurd rfl c)
theorem PutL.all {ls : List Int} {n : Nat} {rd : List Bool} (h : PutL ls ls.length n rd) (hr : ∀ e ∈ ls, 0 ≤ e ∧ e < (n : Int)) : ∀ e ∈ ls, e < (rd.length : Int) ∧ rd.getD e.toNat false = true := by
  intro e he
  obtain ⟨j, hj, rfl⟩ := List.getElem_of_mem he
  have h1 := h.b j hj
  have e1 : Go.Proofs.YtdaadmjppikebaaW.PrintWords.rd ls j = ls[j] := by
    show ls.getD _ 0 = _
    rw [Int.toNat_natCast, List.getD_eq_getElem?_getD, List.getElem?_eq_getElem hj]; rfl
  rw [e1] at h1
  exact ⟨by rw [h.l]; exact (hr _ he).2, h1⟩
end Go.Proofs.Ytdaadmjppikebaa.SC
