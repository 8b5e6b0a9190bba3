/- Parts of the walk of package sched, merged. -/
/- Plain law of right: what it gives is a conf that may be. -/
import Derived.Test.YtdaadmjppikebaaK9
import Derived.Test.YtdaadmjppikebaaPVx3
namespace Go.Proofs.Ytdaadmjppikebaa.SC
open Go.RowKit Go.Proofs.YtdaadmjppikebaaW.PrintWords Go.Proofs.YtdaadmjppikebaaW.PrintLast
open Go.Proofs.Ytdaadmjppikebaa.PV (S94 k94 S29 k29 rd_T94 rd_T29)
set_option linter.unusedVariables false
set_option linter.unusedSimpArgs false

def gS (ys : List S29) : Int := (ys.map fun y => if y.f2 = true then y.f1 else 0).sum
theorem gS_snoc (ys : List S29) (y : S29) : gS (ys ++ [y]) = gS ys + (if y.f2 = true then y.f1 else 0) := by simp [gS]
structure RG0 (m : Nat) (P : Int) (ys : List S29) : Prop where
  y : ∀ y ∈ ys, 1 ≤ y.f0 ∧ y.f0 ≤ 3 ∧ 1 ≤ y.f1 ∧ y.f1 ≤ 9 ∧ (y.f2 = true → y.f0 ≤ m)
  g : 0 ≤ gS ys ∧ gS ys < P
structure RG (m : Nat) (P : Int) (ys : List S29) : Prop extends RG0 m P ys where
  l1 : 1 ≤ ys.length
  l6 : ys.length ≤ 6
theorem RG0.snoc {m : Nat} {P : Int} {ys : List S29} (h : RG0 m P ys) {a b : Int} {c : Bool} (ha : 1 ≤ a ∧ a ≤ 3) (hb : 1 ≤ b ∧ b ≤ 9) (hc : c = true → a ≤ m ∧ gS ys + b < P) : RG0 m P (ys ++ [⟨a, b, c⟩]) where
  y := by
    intro y hy
    rcases List.mem_append.1 hy with h1 | h1
    · exact h.y y h1
    · simp only [List.mem_cons, List.not_mem_nil, or_false] at h1
      subst h1
      exact ⟨ha.1, ha.2, hb.1, hb.2, fun e => (hc e).1⟩
  g := by
    rw [gS_snoc]
    have := h.g
    cases c with
    | true => have := hc rfl; simp only [if_true]; omega
    | false => simp only [Bool.false_eq_true, if_false]; omega
theorem right_end {m : Nat} {P : Int} {ys : List S29} (hP : 1 ≤ P) (hm : 1 ≤ m) (h : RG0 m P ys) (h6 : ys.length ≤ 6) (k : Nat) (x4 x5 a0 a1 a2 S : Int) (a3 : Bool) (l : List S29) :
    ∃ zs, PV.citadellaw18_right.j1 (k + 1) x4 x5 false a0 a1 a2 a3 l (m : Int) S P a3 ys = some ((m : Int), S, P, a3, zs) ∧ RG m P zs := by
  unfold PV.citadellaw18_right.j1
  rw [if_neg (by decide)]
  by_cases h0 : (ys.length : Int) = 0
  · rw [if_pos h0]
    refine ⟨_, rfl, ⟨⟨?_, ?_⟩, by decide, by decide⟩⟩
    · intro y hy
      simp only [List.mem_cons, List.not_mem_nil, or_false] at hy
      subst hy
      exact ⟨by decide, by decide, by decide, by decide, fun e => by cases e⟩
    · show 0 ≤ gS [(⟨1, 1, false⟩ : S29)] ∧ _
      simp [gS]; omega
  · rw [if_neg h0]
    exact ⟨_, rfl, ⟨h, by omega, h6⟩⟩
theorem le1 {t : Int} (h : 0 ≤ t) : 1 ≤ 1 + t := by omega
theorem le3 {t n : Int} (h : t < n) : 1 + t ≤ n := by omega
theorem right_j2 (k : Nat) (x4 x5 : Int) (p q : Bool) (a0 a1 a2 : Int) (a3 : Bool) (l : List S29) (m S P : Int) (c : Bool) (ys : List S29) (u v : Int) (hl : ys.length < 100) (hpq : p = false → q = false) :
    PV.citadellaw18_right.j2 (k + 1) x4 x5 p a0 a1 a2 a3 l m S P c ys u v q = PV.citadellaw18_right.l0 k x4 (wrap64 (x5 + 1)) a0 a1 a2 a3 l m S P c (ys ++ [(⟨u, v, false⟩ : S29)]) := by
  unfold PV.citadellaw18_right.j2
  cases p with
  | true => rw [if_pos rfl, if_pos (by omega)]
  | false => rw [hpq rfl, if_neg (by decide), if_neg (by decide), if_pos (by omega)]
theorem right_j2g (k : Nat) (x4 x5 : Int) (a0 a1 a2 : Int) (a3 : Bool) (l : List S29) (m S P : Int) (c : Bool) (ys : List S29) (u v : Int) (hl : ys.length < 100) :
    PV.citadellaw18_right.j2 (k + 1) x4 x5 false a0 a1 a2 a3 l m S P c ys u v true = PV.citadellaw18_right.l0 k (wrap64 (x4 + v)) (wrap64 (x5 + 1)) a0 a1 a2 a3 l m S P c (ys ++ [(⟨u, v, true⟩ : S29)]) := by
  unfold PV.citadellaw18_right.j2
  rw [if_neg (by decide), if_pos rfl, if_pos (by omega)]
theorem right_loop {m : Nat} {S P : Int} (a0 a1 a2 : Int) (a3 : Bool) (l : List S29) (hP : 1 ≤ P ∧ P ≤ 40) (hm : 1 ≤ m ∧ m ≤ 8) (n : Nat) : ∀ (i : Nat) (ys : List S29), i + n = 6 → ys.length = i → RG0 m P ys →
    ∃ zs, PV.citadellaw18_right.l0 (3 * n + 2) (gS ys) (i : Int) a0 a1 a2 a3 l (m : Int) S P a3 ys = some ((m : Int), S, P, a3, zs) ∧ RG m P zs := by
  induction n with
  | zero =>
    intro i ys hi hl h
    unfold PV.citadellaw18_right.l0
    rw [decide_eq_false (by omega : ¬ (i : Int) < 6)]
    split
    · exact right_end hP.1 hm.1 h (by omega) _ _ _ _ _ _ _ _ _
    · exact right_end hP.1 hm.1 h (by omega) _ _ _ _ _ _ _ _ _
  | succ n ih =>
    intro i ys hi hl h
    rw [show 3 * (n + 1) + 2 = (3 * n + 2 + 1 + 1) + 1 by omega]
    generalize 3 * n + 2 = q at ih ⊢
    have hl6 : ys.length < 100 := by omega
    have hl7 : ys.length ≤ 6 := by omega
    have hi5 : (i : Int) < 6 := by omega
    have hi0 : 0 ≤ (i : Int) := by omega
    have hin : i + 1 + n = 6 := by omega
    have w1 : wrap64 ((i : Int) + 1) = ((i + 1 : Nat) : Int) := wrap64_id (x := ((i + 1 : Nat) : Int)) (by omega) (by omega)
    have hg := h.g
    have hgb : ∀ t : Int, 0 ≤ t → t < 9 → wrap64 (gS ys + (1 + t)) = gS ys + (1 + t) := fun t h1 h2 => wrap64_id (by omega) (by omega)
    have htb : ∀ t : Int, 0 ≤ t → t < 9 → wrap64 (1 + t) = 1 + t := fun t h1 h2 => wrap64_id (by omega) (by omega)
    unfold PV.citadellaw18_right.l0
    split
    · next hil =>
      rw [decide_eq_true hi5]
      unfold PV.citadellaw18_right.j1
      rw [if_pos rfl, if_pos hi0, if_pos hil]
      obtain ⟨t1, e1, u1, u2⟩ := mod_f ((rd_T29 l (i : Int)).f0) 3 (by decide) (by decide)
      obtain ⟨t2, e2, u3, u4⟩ := mod_f ((rd_T29 l (i : Int)).f1) 9 (by decide) (by decide)
      rw [e1, e2, Option.bind_some, Option.bind_some, htb t1 u1 (Int.lt_of_lt_of_le u2 (by decide)), htb t2 u3 u4, hgb t2 u3 u4]
      clear e1 e2
      have F : RG0 m P (ys ++ [⟨1 + t1, 1 + t2, false⟩]) := h.snoc ⟨le1 u1, le3 u2⟩ ⟨le1 u3, le3 u4⟩ (fun e => by cases e)
      have eF : gS (ys ++ [(⟨1 + t1, 1 + t2, false⟩ : S29)]) = gS ys := by rw [gS_snoc]; simp
      have goF := ih (i + 1) _ hin (by simp [hl]) F
      rw [eF] at goF
      cases c : (rd_T29 l (i : Int)).f2 with
      | false =>
        rw [if_neg (by decide), right_j2 _ _ _ _ _ _ _ _ _ _ _ _ _ _ _ _ _ hl6 (fun _ => rfl), w1]
        exact goF
      | true =>
        rw [if_pos rfl]
        by_cases c1 : 1 + t1 > (m : Int)
        · rw [if_pos c1, right_j2 _ _ _ _ _ _ _ _ _ _ _ _ _ _ _ _ _ hl6 (fun e => by cases e), w1]; exact goF
        · rw [if_neg c1]
          by_cases c2 : gS ys + (1 + t2) ≥ P
          · rw [decide_eq_true c2, right_j2 _ _ _ _ _ _ _ _ _ _ _ _ _ _ _ _ _ hl6 (fun e => by cases e), w1]; exact goF
          · rw [decide_eq_false c2, right_j2g _ _ _ _ _ _ _ _ _ _ _ _ _ _ _ hl6, w1, hgb t2 u3 u4]
            have T : RG0 m P (ys ++ [⟨1 + t1, 1 + t2, true⟩]) := h.snoc ⟨le1 u1, le3 u2⟩ ⟨le1 u3, le3 u4⟩ (fun _ => ⟨Int.not_lt.1 c1, Int.not_le.1 c2⟩)
            have eT : gS (ys ++ [(⟨1 + t1, 1 + t2, true⟩ : S29)]) = gS ys + (1 + t2) := by rw [gS_snoc]; simp
            have goT := ih (i + 1) _ hin (by simp [hl]) T
            rw [eT] at goT
            exact goT
    · exact right_end hP.1 hm.1 h hl7 _ _ _ _ _ _ _ _ _
/-- right gives a conf that may be. -/
theorem right_plain (a0 a1 a2 : Int) (a3 : Bool) (l : List S29) : ∃ (m : Nat) (S P : Int) (ys : List S29), PV.citadellaw18_right.f 20 a0 a1 a2 a3 l = some ((m : Int), S, P, a3, ys) ∧ (1 ≤ m ∧ m ≤ 8) ∧ (1 ≤ S ∧ S ≤ 12) ∧ (1 ≤ P ∧ P ≤ 40) ∧ RG m P ys := by
  obtain ⟨t1, e1, u1, u2⟩ := mod_f a0 8 (by decide) (by decide)
  obtain ⟨t2, e2, u3, u4⟩ := mod_f a1 12 (by decide) (by decide)
  obtain ⟨t3, e3, u5, u6⟩ := mod_f a2 40 (by decide) (by decide)
  unfold PV.citadellaw18_right.f
  rw [e1, e2, e3, Option.bind_some, Option.bind_some, Option.bind_some, wrap64_id (x := 1 + t1) (by omega) (by omega), wrap64_id (x := 1 + t2) (by omega) (by omega), wrap64_id (x := 1 + t3) (by omega) (by omega)]
  obtain ⟨m, hm⟩ : ∃ m : Nat, 1 + t1 = (m : Int) := ⟨(1 + t1).toNat, by omega⟩
  rw [hm]
  obtain ⟨zs, e, hz⟩ := right_loop (m := m) (S := 1 + t2) (P := 1 + t3) a0 a1 a2 a3 l (by omega) (by omega) 6 0 [] (by omega) rfl ⟨fun y hy => by simp at hy, by simp [gS]; omega⟩
  exact ⟨m, _, _, zs, e, by omega, by omega, by omega, hz⟩
theorem rg_ents : ∀ (ys : List S29) (i : Nat), (∀ y ∈ ys, y.f0 ≤ 3) → (entsL i (confL ys)).length ≤ 3 * ys.length
  | [], _, _ => by simp [confL, entsL]
  | y :: r, i, h => by
    have h1 := h y List.mem_cons_self
    have h2 := rg_ents r (i + 1) (fun z hz => h z (List.mem_cons_of_mem _ hz))
    show (entsTo i _ y.f0.toNat ++ entsL (i + 1) (confL r)).length ≤ _
    rw [List.length_append, entsTo_len, List.length_cons]
    omega
theorem rg_gang (ys : List S29) : gSum (confL ys) = gS ys := by simp [gSum, gS, confL, Function.comp_def]
theorem RG.ok {m : Nat} {S P : Int} {ys : List S29} (h : RG m P ys) (hm : 1 ≤ m ∧ m ≤ 8) (hS : 1 ≤ S ∧ S ≤ 12) (hP : 1 ≤ P ∧ P ≤ 40) : NOk m S P (confL ys) where
  m1 := hm.1
  m8 := by omega
  S1 := hS.1
  S2 := by omega
  P1 := hP.1
  P2 := by omega
  g1 := by have := h.l1; simpa [confL] using this
  g8 := by have := h.l6; simp [confL]; omega
  x := by
    intro x hx
    unfold confL at hx
    obtain ⟨y, hy1, rfl⟩ := List.mem_map.1 hx
    have := h.y y hy1
    exact ⟨this.1, by show y.f0 ≤ 64; omega, this.2.2.1, by show y.f1 ≤ 1000; omega, this.2.2.2.2⟩
  e := by have := rg_ents ys 0 (fun y hy => (h.y y hy).2.1); have := h.l6; omega
  t := by have := h.g; rw [ticks_sum, rg_gang]; omega
end Go.Proofs.Ytdaadmjppikebaa.SC

/- What holds while a law plays with one scheduler: the scheduler, the law's conf in its block, what was before. -/
namespace Go.Proofs.Ytdaadmjppikebaa.SC
open Go.RowKit Go.Proofs.YtdaadmjppikebaaW.PrintWords Go.Proofs.YtdaadmjppikebaaW.PrintLast
open Go.Proofs.Ytdaadmjppikebaa.PV (S94 k94 S29 k29 rd_T94 rd_T29)
set_option linter.unusedVariables false
set_option linter.unusedSimpArgs false

/-- A law's call of a script. -/
structure S48 where
  f0 : Int
  f1 : Int
  f2 : Int
theorem k29_okk {e b : Nat} {ok ok' : Nat → Prop} {W : World} {v : Value} {xs : List S29} (h : k29.R e W b ok v xs) (hok : ∀ k, v.ownBlock = some k → ok' k) : k29.R e W b ok' v xs := by
  obtain ⟨_, inner, ho, hr⟩ := h
  refine ⟨hok, inner, ho, hr.imp_ (fun p c hp => ?_)⟩
  have := PV.k29_openM hp
  subst this
  exact PV.k29_mkM _ _ _ p
theorem k29_muts {e b : Nat} {ok S : Nat → Prop} {W W' : World} {v : Value} {xs : List S29} (h : k29.R e W b ok v xs) (hm : Mut S W W') (hne : ∀ k, v.ownBlock = some k → ¬ S k) : k29.R e W' b ok v xs :=
  k29_okk (Kd.R_kept (k29_okk h (ok' := fun k => v.ownBlock = some k) (fun k hk => hk)) hm.kept hne) h.1
theorem blkbox {W : World} {k t : Nat} {cs : Array Value} (h : W.heap[k]? = some (.cells cs t (0, 0))) : Blk W k t cs.toList := ⟨cs, h, fun i v hv => by simpa using hv⟩
theorem blk5 {W : World} {gb t : Nat} {a0 a1 a2 a3 a4 : Value} (h : Blk W gb t [a0, a1, a2, a3, a4]) (v0 v1 v2 v3 v4 : Value) :
    Blk (((((W.setCell ⟨gb, 0, none⟩ v0).setCell ⟨gb, 1, none⟩ v1).setCell ⟨gb, 2, none⟩ v2).setCell ⟨gb, 3, none⟩ v3).setCell ⟨gb, 4, none⟩ v4) gb t [v0, v1, v2, v3, v4] ∧
    Mut (fun k => k = gb) W (((((W.setCell ⟨gb, 0, none⟩ v0).setCell ⟨gb, 1, none⟩ v1).setCell ⟨gb, 2, none⟩ v2).setCell ⟨gb, 3, none⟩ v3).setCell ⟨gb, 4, none⟩ v4) :=
  ⟨((((h.set 0 v0).set 1 v1).set 2 v2).set 3 v3).set 4 v4, ((((((Mut.refl _ W).set1 0 v0).set1 1 v1).set1 2 v2).set1 3 v3).set1 4 v4)⟩
/-- The law's conf, in its block. -/
structure CC (W0 W : World) (gb : Nat) (m S P : Int) (cr : Bool) (Ag : Option Addr) (cg : Nat) (ys : List S29) : Prop where
  b : Blk W gb 27 [.int .i64 m, .int .i64 S, .int .i64 P, .bool cr, .slice Ag ys.length cg]
  r : Kd.R k29 29 W W0.heap.size (fun _ => True) (.slice Ag ys.length cg) ys
  B : Below W0.heap.size W0 W
  g : W0.heap.size ≤ gb
section
variable {W0 W w' : World} {own own' : Nat → Prop} {b gb hN : Nat} {s s' : SS} {m S P : Int} {cr : Bool} {Ag : Option Addr} {cg : Nat} {ys : List S29} {A : Option Addr} {c : Nat} {rd : List Bool}
theorem CC.below (h : CC W0 W gb m S P cr Ag cg ys) (hb : Below W.heap.size W w') : CC W0 w' gb m S P cr Ag cg ys := ⟨h.b.below hb, Kd.R_below h.r hb, h.B.trans (hb.mono h.B.size), h.g⟩
theorem CC.mut {X : Nat → Prop} (h : CC W0 W gb m S P cr Ag cg ys) (hm : Mut X W w') (hX : ∀ k, X k → W0.heap.size ≤ k ∧ k ≠ gb ∧ (Value.slice Ag ys.length cg).ownBlock ≠ some k) : CC W0 w' gb m S P cr Ag cg ys :=
  ⟨h.b.mut hm (fun e => (hX _ e).2.1 rfl), k29_muts h.r hm (fun k hk e => (hX k e).2.2 hk), h.B.trans (hm.to_below h.B.size (fun k hk => (hX k hk).1)), h.g⟩
theorem CC.of {a0 a1 a2 a3 a4 : Value} (h : Blk W gb 27 [a0, a1, a2, a3, a4]) (hg : W0.heap.size ≤ gb) (hB : Below W0.heap.size W0 W) (hr : Kd.R k29 29 W W0.heap.size (fun _ => True) (.slice Ag ys.length cg) ys) (hne : ∀ k, (Value.slice Ag ys.length cg).ownBlock = some k → k ≠ gb) :
    CC W0 (((((W.setCell ⟨gb, 0, none⟩ (.int .i64 m)).setCell ⟨gb, 1, none⟩ (.int .i64 S)).setCell ⟨gb, 2, none⟩ (.int .i64 P)).setCell ⟨gb, 3, none⟩ (.bool cr)).setCell ⟨gb, 4, none⟩ (.slice Ag ys.length cg)) gb m S P cr Ag cg ys :=
  ⟨(blk5 h _ _ _ _ _).1, k29_muts hr (blk5 h _ _ _ _ _).2 (fun k hk e => hne k hk e), hB.trans ((blk5 h _ _ _ _ _).2.to_below hB.size (fun k hk => by rw [hk]; exact hg)), hg⟩
theorem CC.hi (h : CC W0 W gb m S P cr Ag cg ys) : gb < W.heap.size ∧ ∀ k, (Value.slice Ag ys.length cg).ownBlock = some k → k < W.heap.size := ⟨h.b.lt, Kd.R_lt h.r⟩
/-- What holds while a law plays. -/
structure LW (W0 W : World) (own : Nat → Prop) (b gb hN : Nat) (s : SS) (m S P : Int) (cr : Bool) (Ag : Option Addr) (cg : Nat) (ys : List S29) : Prop where
  X : SB W own b s
  C : CC W0 W gb m S P cr Ag cg ys
  N : ∀ k, own k → hN ≤ k
  G : gb < hN
  h : ∀ k, (Value.slice Ag ys.length cg).ownBlock = some k → k < hN
  z : hN ≤ W.heap.size
  z0 : W0.heap.size ≤ hN
theorem LW.of (hc : CC W0 W gb m S P cr Ag cg ys) (hb : Below W.heap.size W w') (hs : SB w' own b s) (ho : ∀ k, own k → W.heap.size ≤ k) : LW W0 w' own b gb W.heap.size s m S P cr Ag cg ys :=
  ⟨hs, hc.below hb, ho, hc.hi.1, hc.hi.2, hb.size, hc.B.size⟩
theorem LW.below (h : LW W0 W own b gb hN s m S P cr Ag cg ys) (hb : Below W.heap.size W w') : LW W0 w' own b gb hN s m S P cr Ag cg ys :=
  ⟨h.X.below hb, h.C.below hb, h.N, h.G, h.h, Nat.le_trans h.z hb.size, h.z0⟩
theorem LW.B (h : LW W0 W own b gb hN s m S P cr Ag cg ys) : Below W0.heap.size W0 W := h.C.B
theorem LW.then_ (h : LW W0 W own b gb hN s m S P cr Ag cg ys) (hs : SB w' own' b s') (ht : Then W own w' own') : LW W0 w' own' b gb hN s' m S P cr Ag cg ys :=
  ⟨hs, h.C.mut ht.m (fun k hk => ⟨Nat.le_trans h.z0 (h.N k hk), fun e => by have := h.N k hk; have := h.G; omega, fun e => by have := h.N k hk; have := h.h k e; omega⟩),
   fun k hk => (ht.z k hk).elim (h.N k) (fun h2 => Nat.le_trans h.z h2), h.G, h.h, Nat.le_trans h.z ht.m.size, h.z0⟩
theorem LW.tick (h : LW W0 W own b gb hN s m S P cr Ag cg ys) (hn : s.now ≤ 288230376151711744) (hr : RL W own A c rd) :
    Calls Try.prog 18 #[.pointer (some ⟨b, 0, none⟩), .slice A rd.length c] W fun x w' => x = .returned (.tuple #[]) ∧ ∃ own', LW W0 w' own' b gb hN (tickF s rd) m S P cr Ag cg ys ∧ Then W own w' own' := by
  refine (h.X.tick hn hr).mono ?_
  rintro x w' ⟨rfl, own', h1, h2⟩
  exact ⟨rfl, own', h.then_ h1 h2, h2⟩
theorem LW.pick (h : LW W0 W own b gb hN s m S P cr Ag cg ys) (hr : RL W own A c rd) (hart : Int) :
    Calls Try.prog 17 #[.pointer (some ⟨b, 0, none⟩), .int .i64 hart, .slice A rd.length c] W fun x w' => x = .returned (.int .i64 (pickF s hart rd).1) ∧ ∃ own', LW W0 w' own' b gb hN (pickF s hart rd).2 m S P cr Ag cg ys ∧ Then W own w' own' := by
  refine (h.X.pick hr hart).mono ?_
  rintro x w' ⟨rfl, own', h1, h2⟩
  exact ⟨rfl, own', h.then_ h1 h2, h2⟩
theorem LW.list (h : LW W0 W own b gb hN s m S P cr Ag cg ys) (v : Int) (n : Nat) (hn : n = s.es.length) :
    Calls Try.prog 16 #[.int .u64 v, .int .i64 (n : Int)] W fun e w' => ∃ A c, e = .returned (.slice A (bitsL v n).length c) ∧ RL w' own A c (bitsL v n) ∧ LW W0 w' own b gb hN s m S P cr Ag cg ys ∧ Below W.heap.size W w' := by
  refine (PV.citadellaw18_list.calls (n + 1) v (n : Int) (bitsL v n) _ (list_f v n (by rw [hn]; exact h.X.wf.em))).mono ?_
  rintro e w' ⟨v5, rfl, hr5, hb5⟩
  obtain ⟨A, c, e, hl⟩ := RL.new h.X hr5
  subst e
  exact ⟨A, c, rfl, hl, h.below hb5, hb5⟩
theorem thereB_t {k : Nat} (h : k < s.es.length) : thereB s (k : Int) = true := by unfold thereB; simp; omega
theorem LW.guest (h : LW W0 W own b gb hN s m S P cr Ag cg ys) {k : Nat} (hk : k < s.es.length) :
    Calls Try.prog 22 #[.pointer (some ⟨b, 0, none⟩), .int .i64 (k : Int)] W fun x w' => x = .returned (.tuple #[.int .i64 (s.ent k).gu, .int .i64 (s.ent k).ix]) ∧ LW W0 w' own b gb hN s m S P cr Ag cg ys ∧ Below W.heap.size W w' := by
  refine (h.X.guest (k : Int)).mono ?_
  rintro x w' ⟨rfl, hb⟩
  rw [if_pos (thereB_t hk), Int.toNat_natCast]
  exact ⟨rfl, h.below hb, hb⟩
theorem LW.home (h : LW W0 W own b gb hN s m S P cr Ag cg ys) {k : Nat} (hk : k < s.es.length) :
    Calls Try.prog 24 #[.pointer (some ⟨b, 0, none⟩), .int .i64 (k : Int)] W fun x w' => x = .returned (.int .i64 (homeOf s k)) ∧ LW W0 w' own b gb hN s m S P cr Ag cg ys ∧ Below W.heap.size W w' := by
  refine (h.X.home (k : Int)).mono ?_
  rintro x w' ⟨rfl, hb⟩
  rw [if_pos (thereB_t hk), Int.toNat_natCast]
  exact ⟨rfl, h.below hb, hb⟩
theorem LW.gang (h : LW W0 W own b gb hN s m S P cr Ag cg ys) :
    Calls Try.prog 21 #[.pointer (some ⟨b, 0, none⟩)] W fun x w' => x = .returned (.int .i64 (gangF s)) ∧ LW W0 w' own b gb hN s m S P cr Ag cg ys ∧ Below W.heap.size W w' := by
  refine (h.X.gang).mono ?_
  rintro x w' ⟨rfl, hb⟩
  exact ⟨rfl, h.below hb, hb⟩
theorem LW.ran (h : LW W0 W own b gb hN s m S P cr Ag cg ys) {k : Nat} (hk : k < s.es.length) :
    Calls Try.prog 26 #[.pointer (some ⟨b, 0, none⟩), .int .i64 (k : Int)] W fun x w' => x = .returned (.int .u64 (s.ent k).rn) ∧ W = w' := by
  have := h.X.ran (k : Int)
  rwa [if_pos (thereB_t hk), Int.toNat_natCast] at this
theorem LW.charged (h : LW W0 W own b gb hN s m S P cr Ag cg ys) {g : Nat} (hg : g < s.gs.length) :
    Calls Try.prog 23 #[.pointer (some ⟨b, 0, none⟩), .int .i64 (g : Int)] W fun x w' => x = .returned (.int .u64 (s.ch.getD g 0)) ∧ W = w' := by
  have := h.X.charged (g : Int)
  rwa [if_pos (by unfold withinB; have := h.X.wf.cn; simp; omega), Int.toNat_natCast] at this
theorem LW.lists (h : LW W0 W own b gb hN s m S P cr Ag cg ys) (v : Int) (n : Nat) (hn : n = s.es.length) :
    Calls Try.prog 16 #[.int .u64 v, .int .i64 (n : Int)] W fun e w' => ∃ A c, e = .returned (.slice A (bitsL v n).length c) ∧ RL w' own A c (bitsL v n) ∧ LW W0 w' own b gb hN s m S P cr Ag cg ys ∧ Below W.heap.size W w' ∧ ∀ k, (Value.slice A (bitsL v n).length c).ownBlock = some k → W.heap.size ≤ k := by
  refine (PV.citadellaw18_list.calls (n + 1) v (n : Int) (bitsL v n) _ (list_f v n (by rw [hn]; exact h.X.wf.em))).mono ?_
  rintro e w' ⟨v5, rfl, hr5, hb5⟩
  obtain ⟨A, c, e, hl⟩ := RL.new h.X hr5
  subst e
  exact ⟨A, c, rfl, hl, h.below hb5, hb5, Kd.R_base hr5⟩
theorem RL.put (h : RL W own A c rd) {sb : Nat} (hne : ∀ k, (Value.slice A rd.length c).ownBlock = some k → k ≠ sb) (q : Nat) (v : Value) : RL (W.setCell ⟨sb, q, none⟩ v) own A c rd := by
  obtain ⟨h1, inner, ho, hr⟩ := h.r
  have h2 : Kd.R Kd.bool 4 W 0 (fun k => ¬ own k ∧ k ≠ sb) (.slice A rd.length c) rd := ⟨fun k hk => ⟨h1 k hk, hne k hk⟩, inner, ho, hr⟩
  have h3 := Kd.R_far h2 (p := ⟨sb, q, none⟩) (fun k hk => hk.2) v
  obtain ⟨h4, inner, ho, hr⟩ := h3
  exact ⟨⟨fun k hk => (h4 k hk).1, inner, ho, hr⟩⟩
/-- A law's own list of whole numbers, in a block of its own. -/
structure SL (W : World) (own : Nat → Prop) (hN sb : Nat) (sl : List Int) : Prop where
  b : Blk W sb 3 (sl.map (Value.int .i64))
  o : ¬ own sb
  g : hN ≤ sb
theorem SL.below {sb : Nat} {sl : List Int} (h : SL W own hN sb sl) (hb : Below W.heap.size W w') : SL w' own hN sb sl := ⟨h.b.below hb, h.o, h.g⟩
theorem SL.then_ {sb : Nat} {sl : List Int} (h : SL W own hN sb sl) (t : Then W own w' own') : SL w' own' hN sb sl :=
  ⟨h.b.mut t.m h.o, fun e => (t.z sb e).elim h.o (fun h2 => by have := h.b.lt; omega), h.g⟩
theorem SL.put {sb : Nat} {sl : List Int} (h : SL W own hN sb sl) (q : Nat) (v : Int) : SL (W.setCell ⟨sb, q, none⟩ (.int .i64 v)) own hN sb (sl.set q v) :=
  ⟨by have := h.b.set q (.int .i64 v); rwa [← List.map_set] at this, h.o, h.g⟩
theorem LW.put {sb : Nat} (h : LW W0 W own b gb hN s m S P cr Ag cg ys) (ho : ¬ own sb) (hg : hN ≤ sb) (q : Nat) (v : Value) : LW W0 (W.setCell ⟨sb, q, none⟩ v) own b gb hN s m S P cr Ag cg ys :=
  ⟨h.X.mut (set_mut _ _ _) (fun k hk e => ho (by have e2 : k = sb := e; rw [← e2]; exact hk)), h.C.mut (set_mut _ _ _) (fun k hk => by
    subst hk
    exact ⟨Nat.le_trans h.z0 hg, fun e => by have := h.G; omega, fun e => by have := h.h _ e; omega⟩), h.N, h.G, h.h, Nat.le_trans h.z (set_mut W ⟨sb, q, none⟩ v).size, h.z0⟩
theorem SL.cell {sb : Nat} {sl : List Int} (h : SL W own hN sb sl) {q : Nat} (hq : q < sl.length) : W.cell? ⟨sb, q, none⟩ = some (.int .i64 (sl.getD q 0)) :=
  h.b.cell (by rw [List.getElem?_map, List.getElem?_eq_getElem hq, List.getD_eq_getElem?_getD, List.getElem?_eq_getElem hq]; rfl)
end
end Go.Proofs.Ytdaadmjppikebaa.SC

/- SchedSums, plain: what was run and what was charged. -/
namespace Go.Proofs.Ytdaadmjppikebaa.SC
open Go.RowKit
open Go.Proofs.Ytdaadmjppikebaa.PV (S94 k94 S29 k29 rd_T94 rd_T29)
set_option linter.unusedVariables false
set_option linter.unusedSimpArgs false

/-- What a conf says of a scheduler, for ever. -/
structure NP (m : Nat) (S P : Int) (cr : Bool) (ys : List S29) (s : SS) : Prop where
  H : s.H = m
  S : s.S = S
  P : s.P = P
  cr : s.cr = cr
  gl : s.gs.length = ys.length
  gg : ∀ q : Nat, (s.gst q).g = (rd_T29 ys (q : Int)).f2
  gw : ∀ q : Nat, (s.gst q).w = (rd_T29 ys (q : Int)).f1
theorem NP.st {m : Nat} {S P : Int} {cr : Bool} {ys : List S29} {s s' : SS} (h : NP m S P cr ys s) (t : St s s') : NP m S P cr ys s' :=
  ⟨t.H.trans h.H, t.S.trans h.S, t.P.trans h.P, t.cr.trans h.cr, by rw [t.gs]; exact h.gl, fun q => by rw [t.gst]; exact h.gg q, fun q => by rw [t.gst]; exact h.gw q⟩
theorem np_new {m : Nat} {S P : Int} {cr : Bool} {ys : List S29} (hok : NOk m S P (confL ys)) : NP m S P cr ys (newF m S P cr (confL ys)) := by
  obtain ⟨_, _, _, h, _, _⟩ := newF_ok (cr := cr) hok
  have e : ∀ q : Nat, (newS1 m S P cr (confL ys)).gst q = (⟨(rd_T29 ys (q : Int)).f0, (rd_T29 ys (q : Int)).f1, (rd_T29 ys (q : Int)).f2⟩ : SG) := fun q => by
    show (guestsL (confL ys)).getD q g0 = _
    unfold guestsL confL rd_T29
    rw [Int.toNat_natCast, List.map_map, List.getD_eq_getElem?_getD, List.getD_eq_getElem?_getD, List.getElem?_map]
    cases ys[q]? with
    | none => rfl
    | some y => rfl
  refine NP.st ⟨rfl, rfl, rfl, rfl, ?_, fun q => by rw [e], fun q => by rw [e]⟩ h
  show (guestsL (confL ys)).length = _
  simp [guestsL, confL]
def sumL (l : List SE) (g : Int) : Int := (l.map fun x => if x.gu = g then x.rn else 0).sum
theorem sumL_cons (x : SE) (l : List SE) (g : Int) : sumL (x :: l) g = (if x.gu = g then x.rn else 0) + sumL l g := by simp [sumL]
theorem sumL_modify (g : Int) (f : SE → SE) (hf : ∀ x, (f x).gu = x.gu ∧ (f x).rn = x.rn + 1) : ∀ (l : List SE) (i : Nat), i < l.length → sumL (l.modify i f) g = sumL l g + if (l.getD i e0).gu = g then 1 else 0
  | [], i, h => by simp at h
  | x :: r, 0, _ => by
    rw [List.modify_zero_cons, sumL_cons, sumL_cons, (hf x).1, (hf x).2]
    show _ = _ + if x.gu = g then 1 else 0
    split <;> omega
  | x :: r, i + 1, h => by
    rw [List.modify_succ_cons, sumL_cons, sumL_cons, sumL_modify g f hf r i (by simpa using h)]
    show _ = _ + if (r.getD i e0).gu = g then 1 else 0
    omega
theorem sumL_congr {l l' : List SE} (g : Int) (hl : l'.length = l.length) (h : ∀ i, i < l.length → (l'.getD i e0).gu = (l.getD i e0).gu ∧ (l'.getD i e0).rn = (l.getD i e0).rn) : sumL l' g = sumL l g := by
  unfold sumL
  congr 1
  apply List.ext_getElem
  · simp [hl]
  · intro i h1 h2
    simp only [List.length_map] at h1 h2
    have := h i h2
    rw [List.getD_eq_getElem?_getD, List.getD_eq_getElem?_getD, List.getElem?_eq_getElem h1, List.getElem?_eq_getElem h2] at this
    simp only [Option.getD_some] at this
    simp only [List.getElem_map]
    rw [this.1, this.2]
/-- What guests were charged, and what was run. -/
structure SumI (s : SS) : Prop where
  le : ∀ q : Nat, q < s.gs.length → sumL s.es q ≤ s.ch.getD q 0
  eq : s.cr = true → ∀ q : Nat, q < s.gs.length → (s.gst q).g = false → sumL s.es q = s.ch.getD q 0
theorem SumI.step {s s' : SS} (h : SumI s) (hgs : s'.gs = s.gs) (hcr : s'.cr = s.cr) (hd : ∀ q : Nat, q < s.gs.length → ∃ d, sumL s'.es q = sumL s.es q + d ∧ d ≤ s'.ch.getD q 0 - s.ch.getD q 0 ∧ (s.cr = true → (s.gst q).g = false → d = s'.ch.getD q 0 - s.ch.getD q 0)) : SumI s' where
  le := fun q hq => by
    rw [hgs] at hq
    obtain ⟨d, h1, h2, _⟩ := hd q hq
    have := h.le q hq
    omega
  eq := fun hc q hq hg => by
    rw [hgs] at hq
    rw [hcr] at hc
    have hg' : (s.gst q).g = false := by unfold SS.gst at hg ⊢; rw [hgs] at hg; exact hg
    obtain ⟨d, h1, _, h3⟩ := hd q hq
    have := h.eq hc q hq hg'
    have := h3 hc hg'
    omega
theorem gangGo_g : ∀ (l : List SG) (i : Nat) (a : Int), 0 ≤ gangGo l i a → i ≤ (gangGo l i a).toNat ∧ (gangGo l i a).toNat < i + l.length ∧ (l.getD ((gangGo l i a).toNat - i) g0).g = true
  | [], i, a, h => by simp [gangGo] at h
  | x :: r, i, a, h => by
    unfold gangGo at h ⊢
    by_cases hx : x.g = true
    · rw [if_pos hx] at h ⊢
      by_cases hw : a < x.w
      · rw [if_pos hw] at h ⊢
        rw [Int.toNat_natCast, Nat.sub_self]
        exact ⟨Nat.le_refl _, by simp, hx⟩
      · rw [if_neg hw] at h ⊢
        obtain ⟨h1, h2, h3⟩ := gangGo_g r (i + 1) (a - x.w) h
        refine ⟨by omega, by simp; omega, ?_⟩
        rw [show (gangGo r (i + 1) (a - x.w)).toNat - i = (gangGo r (i + 1) (a - x.w)).toNat - (i + 1) + 1 by omega, List.getD_cons_succ]
        exact h3
    · rw [if_neg hx] at h ⊢
      obtain ⟨h1, h2, h3⟩ := gangGo_g r (i + 1) a h
      refine ⟨by omega, by simp; omega, ?_⟩
      rw [show (gangGo r (i + 1) a).toNat - i = (gangGo r (i + 1) a).toNat - (i + 1) + 1 by omega, List.getD_cons_succ]
      exact h3
theorem gangF_g {s : SS} (h : 0 ≤ gangF s) : (gangF s).toNat < s.gs.length ∧ (s.gst (gangF s).toNat).g = true := by
  obtain ⟨_, h2, h3⟩ := gangGo_g s.gs 0 (s.now % s.P) h
  rw [Nat.zero_add] at h2
  rw [Nat.sub_zero] at h3
  exact ⟨h2, h3⟩
theorem modC_getD (s : SS) (i j : Nat) (hi : i < s.ch.length) : (s.modC i (· + 1)).ch.getD j 0 = s.ch.getD j 0 + if i = j then 1 else 0 := by
  rw [modC_get s i j _ hi]
  by_cases e : i = j
  · subst e; simp
  · simp [e]
theorem ranF_sum (s : SS) (g : Int) (h : Nat) (e : Int) (he : 0 ≤ e) (hl : e < s.es.length) (q : Int) : sumL (ranF s g h e).es q = sumL s.es q + if (s.ent e.toNat).gu = q then 1 else 0 := by
  unfold ranF
  rw [if_neg (by omega)]
  split
  · exact sumL_modify q (fun x => { x with rn := x.rn + 1, cd := max (x.cd - 1) (-limitF s) }) (fun _ => ⟨rfl, rfl⟩) s.es e.toNat (by omega)
  · exact sumL_modify q (fun x => { x with rn := x.rn + 1 }) (fun _ => ⟨rfl, rfl⟩) s.es e.toNat (by omega)
theorem ranF_ch (s : SS) (g : Int) (h : Nat) (e : Int) : (ranF s g h e).ch = s.ch ∧ (ranF s g h e).gs = s.gs ∧ (ranF s g h e).cr = s.cr := by
  unfold ranF
  split
  · exact ⟨rfl, rfl, rfl⟩
  · split <;> exact ⟨rfl, rfl, rfl⟩
theorem tickH_sum {s : SS} (hw : Wf s) {g : Int} (hg : g = gangF s) {h : Nat} (hh : (h : Int) < s.H) (rd : List Bool) (hI : SumI s) : SumI (tickH s g h rd) := by
  have hp := pickF_pk hw (h : Int) rd
  have hpe := hp.rg
  have hgang : 0 ≤ g → pickF s h rd = (ofGangF s g h rd, s) := fun h0 => by
    unfold pickF; rw [if_neg (by omega), if_pos (by rw [← hg]; exact h0), ← hg]
  obtain ⟨e, he⟩ : ∃ e, e = (pickF s h rd).1 := ⟨_, rfl⟩
  obtain ⟨s1, hs1⟩ : ∃ s1, s1 = (pickF s h rd).2 := ⟨_, rfl⟩
  have ht : tickH s g h rd = ranF (chargeF s1 g h e) g h e := by rw [he, hs1]; rfl
  rw [← he, ← hs1] at hp
  rw [← he] at hpe
  have hc := chargeF_tk hp.wf g h e
  obtain ⟨r1, r2, r3⟩ := ranF_ch (chargeF s1 g h e) g h e
  have hent : ∀ i, s1.ent i = s.ent i := fun i => by unfold SS.ent; rw [hp.es]
  have hgu := fun i hi => hw.eg i hi
  have hcn := hw.cn
  rw [ht]
  refine hI.step (r2.trans (hc.1.st.gs.trans hp.st.gs)) (r3.trans (hc.1.st.cr.trans hp.st.cr)) (fun q hq => ?_)
  rw [r1]
  have hcl : s1.ch.length = s.gs.length := by rw [hp.ch]; exact hcn
  rcases Int.lt_or_le e 0 with hneg | hpos
  · have hran : ranF (chargeF s1 g h e) g h e = chargeF s1 g h e := by unfold ranF; rw [if_pos hneg]
    refine ⟨0, by rw [hran, hc.2.1, hp.es, Int.add_zero], ?_, ?_⟩
    · unfold chargeF
      split
      · next h0 => rw [modC_getD _ _ _ (by rw [hcl]; have := gangF_range s; omega), hp.ch]; split <;> omega
      · split
        · omega
        · split
          · next h1 =>
            rcases whoseF_range s1 h with hm | ⟨i, hi, hi2, _, _⟩
            · omega
            · have := hgu i (by rw [← hp.es]; exact hi2)
              rw [hi, Int.toNat_natCast, hent, modC_getD _ _ _ (by rw [hcl]; omega), hp.ch]; split <;> omega
          · rw [hp.ch]; omega
    · intro hcr hqg
      unfold chargeF
      split
      · next h0 =>
        have hgg := gangF_g (s := s) (by omega)
        rw [modC_getD _ _ _ (by rw [hcl]; have := gangF_range s; omega), hp.ch, if_neg]
        · omega
        · intro e2; subst e2; rw [hg, hgg.2] at hqg; cases hqg
      · split
        · omega
        · split
          · next h1 => rw [hp.st.cr, hcr] at h1; exact absurd h1.1 (by decide)
          · rw [hp.ch]; omega
  · have hel : e < s.es.length := by omega
    have hge := hgu e.toNat (by omega)
    have hs := ranF_sum (chargeF s1 g h e) g h e hpos (by rw [hc.2.1, hp.es]; exact hel) q
    have hent2 : (chargeF s1 g h e).ent e.toNat = s.ent e.toNat := by unfold SS.ent; rw [hc.2.1, hp.es]
    rw [hent2, hc.2.1, hp.es] at hs
    refine ⟨_, hs, ?_⟩
    have key : (chargeF s1 g h e).ch.getD q 0 = s.ch.getD q 0 + if (s.ent e.toNat).gu = (q : Int) then 1 else 0 := by
      unfold chargeF
      split
      · next h0 =>
        have hpk := hgang h0
        have e1 : e = ofGangF s g h rd := by rw [he, hpk]
        have hgu2 : (s.ent e.toNat).gu = g := by
          rcases firstGo_range (ofGangP s g h rd) s.es.length 0 with hm | ⟨n, hn, _, _, hn2⟩
          · unfold ofGangF at e1; omega
          · have e2 : e = (n : Int) := by rw [e1]; exact hn
            rw [e2, Int.toNat_natCast]
            unfold ofGangP at hn2
            simp only [Bool.and_eq_true, beq_iff_eq] at hn2
            exact hn2.1.1
        rw [modC_getD _ _ _ (by rw [hcl]; have := gangF_range s; omega), hp.ch, hgu2]
        congr 1
        by_cases c : g.toNat = q
        · rw [if_pos c, if_pos (by omega)]
        · rw [if_neg c, if_neg (by omega)]
      · rw [hent, modC_getD _ _ _ (by rw [hcl]; omega), hp.ch]
        congr 1
        by_cases c : (s.ent e.toNat).gu.toNat = q
        · rw [if_pos c, if_pos (by omega)]
        · rw [if_neg c, if_neg (by omega)]
    rw [key]
    exact ⟨by omega, fun _ _ => by omega⟩
theorem tickFrom_sum (g : Int) (rd : List Bool) : ∀ (f h : Nat) (s : SS) (k : Int), Wf s → g = gangF s → ((h + f : Nat) : Int) ≤ s.H → CntC s k → CntR s k → SumI s → SumI (tickFrom g rd f h s)
  | 0, h, s, k, hw, _, _, hc, hr, hI => hI
  | f + 1, h, s, k, hw, hg, hh, hc, hr, hI => by
    obtain ⟨h1, h2, h3⟩ := tickH_tk hw hg (h := h) (by omega) rd hc hr
    exact tickFrom_sum g rd f (h + 1) (tickH s g h rd) (k + 1) h1.wf (by rw [h1.st.gang h1.now]; exact hg) (by rw [h1.st.H]; omega) h2 h3 (tickH_sum hw hg (by omega) rd hI)
theorem SumI.give {s : SS} (hw : Wf s) (h : SumI s) : SumI (giveF s) := by
  have hg := giveF_gk hw
  refine h.step hg.st.gs hg.st.cr (fun q hq => ⟨0, ?_, by rw [hg.ch]; omega, fun _ _ => by rw [hg.ch]; omega⟩)
  rw [Int.add_zero]
  exact sumL_congr _ hg.st.el (fun i _ => ⟨(hg.st.en i).1, (hg.gn i).2⟩)
theorem tickF_sum {s : SS} (rd : List Bool) (hw : Wf s) (hn : s.now < 4611686018427387904) (hc : CntC s 0) (hr : CntR s 0) (hI : SumI s) : SumI (tickF s rd) := by
  have hH1 := hw.H1
  obtain ⟨h1, h2, h3⟩ := tickFrom_tk (gangF s) rd s.H.toNat 0 s 0 hw rfl (by omega) hc hr
  have k1 := tickFrom_sum (gangF s) rd s.H.toNat 0 s 0 hw rfl (by omega) hc hr hI
  obtain ⟨e1, e2⟩ := tickE_wf h1.wf (gangF s) (by rw [h1.now]; exact hn)
  have k2 : SumI (tickE (tickFrom (gangF s) rd s.H.toNat 0 s) (gangF s)) := ⟨k1.le, k1.eq⟩
  show SumI (if (tickE (tickFrom (gangF s) rd s.H.toNat 0 s) (gangF s)).now % (tickE (tickFrom (gangF s) rd s.H.toNat 0 s) (gangF s)).P = 0 ∧ (tickE (tickFrom (gangF s) rd s.H.toNat 0 s) (gangF s)).cr = true then giveF (tickE (tickFrom (gangF s) rd s.H.toNat 0 s) (gangF s)) else tickE (tickFrom (gangF s) rd s.H.toNat 0 s) (gangF s))
  split
  · exact k2.give e1
  · exact k2
/-- What holds while SchedSums ticks. -/
structure SumP (s : SS) (i : Int) : Prop where
  I : SumI s
  now : s.now = i
theorem SumP.tick {W : World} {own : Nat → Prop} {b : Nat} {s : SS} {i : Int} (hx : SB W own b s) (h : SumP s i) (hi : i ≤ 1048576) (rd : List Bool) : SumP (tickF s rd) (i + 1) ∧ St s (tickF s rd) := by
  have hn := h.now
  have ht := tickF_tf rd hx.wf (by omega) hx.cntC hx.cntR
  exact ⟨⟨tickF_sum rd hx.wf (by omega) hx.cntC hx.cntR h.I, by rw [ht.now, hn]⟩, ht.st⟩
end Go.Proofs.Ytdaadmjppikebaa.SC

/- Plain: whose entities a hart's queue holds; what is picked can run and is the hart's own; credits stay within their bounds. -/
namespace Go.Proofs.Ytdaadmjppikebaa.SC
open Go.RowKit
open Go.Proofs.Ytdaadmjppikebaa.PV (S94 k94 S29 k29 rd_T94 rd_T29)
set_option linter.unusedVariables false
set_option linter.unusedSimpArgs false

/-- Each hart's queue holds just the hart's plain entities. -/
def QI (s : SS) : Prop := ∀ h : Nat, h < s.ts.length → ∀ e : Int, e ∈ (s.trn h).q ↔ e ∈ plainL s h
theorem back_mem {t : ST} (hc : 0 ≤ t.cu → t.cu ∈ t.q) (h0 : 0 ≤ t.cu) (e : Int) : e ∈ (backF t).q ↔ e ∈ t.q := by
  show e ∈ (t.q.filter fun x => x != t.cu) ++ [t.cu] ↔ _
  rw [List.mem_append, List.mem_filter, List.mem_singleton]
  constructor
  · rintro (h | h)
    · exact h.1
    · rw [h]; exact hc h0
  · intro h
    by_cases c : e = t.cu
    · exact .inr c
    · exact .inl ⟨h, by simpa using c⟩
theorem findQ_mem (s : SS) (rd : List Bool) (sm : Bool) : ∀ l : List Int, findQ s rd sm l = -1 ∨ (findQ s rd sm l ∈ l ∧ readyF s rd (findQ s rd sm l) = true)
  | [] => .inl rfl
  | e :: r => by
    unfold findQ
    by_cases c : (richF s rd e || (!sm && readyF s rd e)) = true
    · rw [if_pos c]
      refine .inr ⟨List.mem_cons_self, ?_⟩
      unfold richF at c
      cases h : readyF s rd e with
      | true => rfl
      | false => rw [h] at c; simp at c
    · rw [if_neg c]
      rcases findQ_mem s rd sm r with h | h
      · exact .inl h
      · exact .inr ⟨List.mem_cons_of_mem _ h.1, h.2⟩
theorem findQ_none (s : SS) (rd : List Bool) (sm : Bool) : ∀ l : List Int, (∀ e ∈ l, 0 ≤ e) → findQ s rd sm l = -1 → ∀ e ∈ l, (richF s rd e || (!sm && readyF s rd e)) = false
  | [], _, _, e, he => by simp at he
  | x :: r, h0, h, e, he => by
    unfold findQ at h
    by_cases c : (richF s rd x || (!sm && readyF s rd x)) = true
    · rw [if_pos c] at h
      have := h0 x List.mem_cons_self
      omega
    · rw [if_neg c] at h
      rcases List.mem_cons.1 he with rfl | he
      · simpa using c
      · exact findQ_none s rd sm r (fun y hy => h0 y (List.mem_cons_of_mem _ hy)) h e he
theorem QI.of {s s' : SS} (h : QI s) (st : St s s') (hq : ∀ i, i < s.ts.length → ∀ e, e ∈ (s'.trn i).q ↔ e ∈ (s.trn i).q) : QI s' := by
  intro i hi e
  rw [st.plain]
  have hi' : i < s.ts.length := by rw [← st.tl]; exact hi
  exact (hq i hi' e).trans (h i hi' e)
/-- What holds of what a hart picks. -/
structure PP (s : SS) (h : Nat) (rd : List Bool) (p : Int × SS) : Prop where
  q : QI p.2
  mem : 0 ≤ p.1 → p.1 ∈ plainL s h ∧ readyF s rd p.1 = true
  none : p.1 < 0 → ∀ e ∈ plainL s h, readyF s rd e = false
theorem creditF2_pp {s s0 : SS} (hw : Wf s) (hq : QI s) {i : Nat} (hi : i < s.ts.length) (rd : List Bool) (sm : Bool) (hsm : sm = (s.trn i).q.any (richF s rd)) (he : s.es = s0.es) (hpl : plainL s i = plainL s0 i) : PP s0 i rd (creditF2 s i rd sm) := by
  have hrd : ∀ e, readyF s0 rd e = readyF s rd e := fun e => by unfold readyF SS.ent; rw [he]
  have hmem := findQ_mem s rd sm (s.trn i).q
  have hnone := findQ_none s rd sm (s.trn i).q (fun e h => ((hw.tq i hi).1 e h).1)
  unfold creditF2
  by_cases hf : findQ s rd sm (s.trn i).q = -1
  · rw [if_pos hf]
    refine ⟨hq, fun h => by simp at h, fun _ e hepl => ?_⟩
    have h1 := hnone hf
    rw [← hpl] at hepl
    have h2 := (hq i hi e).2 hepl
    have h3 := h1 e h2
    rw [hrd]
    cases hs : sm with
    | true =>
      rw [hs] at hsm
      obtain ⟨x, hx1, hx2⟩ := List.any_eq_true.1 hsm.symm
      have h4 := h1 x hx1
      rw [hx2] at h4
      simp at h4
    | false =>
      rw [hs] at h3
      cases hr : readyF s rd e with
      | false => rfl
      | true => rw [hr] at h3; simp at h3
  · rw [if_neg hf]
    have hm := hmem.resolve_left hf
    refine ⟨hq.of (St.modT s i _) (fun j hj e => ?_), fun _ => ⟨?_, by rw [hrd]; exact hm.2⟩, fun h => ?_⟩
    · rw [modT_trn _ hi]
      by_cases c : i = j
      · subst c; rw [if_pos rfl]
      · rw [if_neg c]
    · rw [← hpl]; exact (hq i hi _).1 hm.1
    · exact absurd ((hw.tq i hi).1 _ hm.1).1 (by show ¬ 0 ≤ findQ s rd sm (s.trn i).q; have h' : findQ s rd sm (s.trn i).q < 0 := h; omega)
theorem byCreditF_pp {s : SS} (hw : Wf s) (hq : QI s) {i : Nat} (hi : i < s.ts.length) (rd : List Bool) : PP s i rd (byCreditF s i rd) := by
  have ht := hw.tq i hi
  have hcu := ht.2.2.2.2.2.2.2
  unfold byCreditF
  by_cases hc : 0 ≤ (s.trn i).cu
  · rw [if_pos hc]
    by_cases hg : goesOn s i rd = true
    · rw [if_pos hg]
      unfold goesOn at hg
      simp only [Bool.and_eq_true] at hg
      refine ⟨hq, fun _ => ⟨(hq i hi _).1 (hcu hc), hg.1.1⟩, fun h => ?_⟩
      have h' : (s.trn i).cu < 0 := h
      omega
    · rw [if_neg hg]
      have hb : ∀ e, e ∈ ((s.modT i backF).trn i).q ↔ e ∈ (s.trn i).q := fun e => by
        rw [modT_trn _ hi, if_pos rfl]
        exact back_mem hcu hc e
      refine creditF2_pp (hw.modT i hi backF (TQ.back hw hi hc)) (hq.of (St.modT s i _) (fun j hj e => ?_)) (by simpa using hi) rd _ ?_ rfl rfl
      · rw [modT_trn _ hi]
        by_cases c : i = j
        · subst c; rw [if_pos rfl]; exact back_mem hcu hc e
        · rw [if_neg c]
      · unfold someF
        rw [Bool.eq_iff_iff, List.any_eq_true, List.any_eq_true]
        constructor
        · rintro ⟨x, h1, h2⟩; exact ⟨x, (hb x).2 h1, h2⟩
        · rintro ⟨x, h1, h2⟩; exact ⟨x, (hb x).1 h1, h2⟩
  · rw [if_neg hc]
    exact creditF2_pp hw hq hi rd _ rfl rfl rfl
theorem plainTo_in {s : SS} {h : Int} {k i : Nat} (hi : i < k) (h1 : homeOf s i = h) (h2 : s.gng i = false) : (i : Int) ∈ plainTo s h k := by
  unfold plainTo
  refine List.mem_map.2 ⟨i, List.mem_filter.2 ⟨List.mem_range.2 hi, ?_⟩, rfl⟩
  unfold plainP
  rw [h1, h2]; simp
/-- A hart's pick, in shared time. -/
theorem pickF_pp {s : SS} (hw : Wf s) (hq : QI s) {h : Nat} (hh : (h : Int) < s.H) (hg : gangF s < 0) (rd : List Bool) :
    QI (pickF s h rd).2 ∧ (0 ≤ (pickF s h rd).1 → (pickF s h rd).1 ∈ plainL s h ∧ readyF s rd (pickF s h rd).1 = true) ∧ (s.cr = true → (pickF s h rd).1 < 0 → ∀ e ∈ plainL s h, readyF s rd e = false) := by
  unfold pickF
  rw [if_neg (by omega), if_neg (by omega)]
  by_cases hc : s.cr = true
  · rw [if_pos hc, Int.toNat_natCast]
    have := byCreditF_pp hw hq (i := h) (by have := hw.tn; omega) rd
    exact ⟨this.q, this.mem, fun _ => this.none⟩
  · rw [if_neg hc]
    refine ⟨hq, fun h0 => ?_, fun h1 => absurd h1 hc⟩
    unfold byTurnF at h0 ⊢
    by_cases c : 0 ≤ whoseF s h ∧ readyF s rd (whoseF s h) = true
    · rw [if_pos c]
      refine ⟨?_, c.2⟩
      rcases whoseF_range s h with hm | ⟨i, hm, hi, h2, h3⟩
      · omega
      · rw [hm]; exact plainTo_in hi h2 h3
    · rw [if_neg c] at h0; omega
theorem pickF_qi {s : SS} (hw : Wf s) (hq : QI s) (h : Int) (rd : List Bool) : QI (pickF s h rd).2 := by
  by_cases h0 : h < 0 ∨ s.H ≤ h
  · unfold pickF; rw [if_pos h0]; exact hq
  · by_cases hg : 0 ≤ gangF s
    · unfold pickF; rw [if_neg h0, if_pos hg]; exact hq
    · obtain ⟨n, rfl⟩ : ∃ n : Nat, h = (n : Int) := ⟨h.toNat, by omega⟩
      exact (pickF_pp hw hq (by omega) (by omega) rd).1
theorem ranF_qi {s : SS} (hw : Wf s) (hq : QI s) (g : Int) (h : Nat) (hh : h < s.ts.length) (e : Int) : QI (ranF s g h e) := by
  unfold ranF
  split
  · exact hq
  · split
    · have h1 : QI (s.modE e.toNat fun x => { x with rn := x.rn + 1, cd := max (x.cd - 1) (-limitF s) }) := hq.of (St.modE s _ _ (fun _ => ⟨rfl, rfl, rfl⟩)) (fun i hi e => Iff.rfl)
      refine h1.of (St.modT _ h _) (fun j hj x => ?_)
      rw [modT_trn _ (by exact hh)]
      by_cases c : h = j
      · subst c; rw [if_pos rfl]
      · rw [if_neg c]
    · exact hq.of (St.modE s _ _ (fun _ => ⟨rfl, rfl, rfl⟩)) (fun i hi e => Iff.rfl)
/-- Credits are within their bounds, a gang's are 0. -/
def CI (s : SS) : Prop := ∀ i, i < s.es.length → -limitF s ≤ (s.ent i).cd ∧ (s.ent i).cd ≤ limitF s ∧ (s.gng i = true → (s.ent i).cd = 0)
theorem CI.of {s s' : SS} (h : CI s) (st : St s s') (hc : ∀ i, i < s.es.length → (s'.ent i).cd = (s.ent i).cd) : CI s' := by
  intro i hi
  rw [st.el] at hi
  rw [st.limit, hc i hi, st.gng]
  exact h i hi
theorem CI.modE {s : SS} (h : CI s) (i : Nat) (hi : i < s.es.length) (f : SE → SE) (hf : ∀ x, (f x).gu = x.gu ∧ (f x).ix = x.ix ∧ (f x).wt = x.wt) (hg : s.gng i = false) (hc : -limitF s ≤ (f (s.ent i)).cd ∧ (f (s.ent i)).cd ≤ limitF s) : CI (s.modE i f) := by
  have st := St.modE s i f hf
  intro j hj
  rw [st.el] at hj
  rw [st.limit, st.gng, modE_ent f hi]
  by_cases c : i = j
  · subst c
    rw [if_pos rfl]
    exact ⟨hc.1, hc.2, fun e => by rw [hg] at e; cases e⟩
  · rw [if_neg c]; exact h j hj
theorem CI.giveGo (sum : Int) (h1 : 1 ≤ sum) (h2 : sum ≤ 64000) : ∀ (l : List Int) (s : SS), Wf s → CI s → (∀ e ∈ l, 0 ≤ e ∧ e < s.es.length ∧ s.gng e.toNat = false) → CI (giveGo sum l s)
  | [], s, _, h, _ => h
  | e :: r, s, hw, h, hl => by
    have he := hl e List.mem_cons_self
    simp only [SC.giveGo]
    by_cases hg : (s.ent e.toNat).gn = true
    · rw [if_pos hg]; exact CI.giveGo sum h1 h2 r s hw h (fun x hx => hl x (List.mem_cons_of_mem _ hx))
    · rw [if_neg hg]
      have hgk := GK.give hw (i := e.toNat) (by omega) h1 h2
      have hi : e.toNat < s.es.length := by omega
      have hc := hw.ec e.toNat hi
      have hci := h e.toNat hi
      have ht := ticksF_range hw.toS
      have hwt := hw.ew e.toNat hi
      have hm : 0 ≤ ticksF s * (s.ent e.toNat).wt := Int.mul_nonneg (by omega) (by omega)
      have hq : 0 ≤ ((s.ent e.toNat).pt + ticksF s * (s.ent e.toNat).wt) / sum := Int.ediv_nonneg (by omega) (by omega)
      have hlim : 0 ≤ limitF s := by unfold limitF; omega
      refine CI.giveGo sum h1 h2 r _ hgk.wf (h.modE e.toNat hi _ (fun _ => ⟨rfl, rfl, rfl⟩) he.2.2 ?_) (fun x hx => by rw [hgk.st.el, hgk.st.gng]; exact hl x (List.mem_cons_of_mem _ hx))
      unfold giveUp
      simp only
      omega
theorem giveGo_none : ∀ (sum : Int) (l : List Int) (s : SS), (∀ e ∈ l, (s.ent e.toNat).gn = true) → giveGo sum l s = s
  | _, [], _, _ => rfl
  | sum, e :: r, s, h => by
    simp only [giveGo]
    rw [if_pos (h e List.mem_cons_self)]
    exact giveGo_none sum r s (fun x hx => h x (List.mem_cons_of_mem _ hx))
theorem CI.giveH {s : SS} (hw : Wf s) (h : CI s) (a : Int) : CI (giveH s a) := by
  have hl := plainTo_len s a s.es.length
  have hem := hw.em
  obtain ⟨h1, h2, h3⟩ := sumGo_range s hw (plainL s a) 0 plainL_range (Int.le_refl 0)
  unfold SC.giveH
  have hr : ∀ e ∈ plainL s a, 0 ≤ e ∧ e < s.es.length ∧ s.gng e.toNat = false := fun e he => by
    obtain ⟨i, rfl, hi, _, hg⟩ := plainTo_mem he
    rw [Int.toNat_natCast]
    exact ⟨by omega, by omega, hg⟩
  by_cases hall : ∀ e ∈ plainL s a, (s.ent e.toNat).gn = true
  · rw [giveGo_none _ _ _ hall]; exact h
  · have : ∃ e ∈ plainL s a, (s.ent e.toNat).gn = false := by
      apply Classical.byContradiction
      intro hn
      exact hall (fun e he => by
        cases hc : (s.ent e.toNat).gn with
        | true => rfl
        | false => exact absurd ⟨e, he, hc⟩ hn)
    obtain ⟨e, he, hc⟩ := this
    exact CI.giveGo _ (h3 e he hc) (by unfold plainL at h2 ⊢; omega) _ s hw h hr
theorem CI.giveFrom : ∀ (f h : Nat) (s : SS), Wf s → CI s → CI (giveFrom f h s)
  | 0, _, _, _, h => h
  | f + 1, k, s, hw, h => CI.giveFrom f (k + 1) _ (giveH_gk hw k).wf (h.giveH hw k)
/-- Both. -/
structure CQ (s : SS) : Prop where
  q : QI s
  c : CI s
theorem CQ.give {s : SS} (hw : Wf s) (h : CQ s) : CQ (giveF s) := by
  have hg := giveF_gk hw
  exact ⟨h.q.of hg.st (fun i hi e => by unfold SS.trn; rw [hg.ts]), h.c.giveFrom _ _ s hw⟩
theorem tickH_cq {s : SS} (hw : Wf s) {g : Int} (hg : g = gangF s) {h : Nat} (hh : (h : Int) < s.H) (rd : List Bool) (hI : CQ s) : CQ (tickH s g h rd) := by
  have hp := pickF_pk hw (h : Int) rd
  have hq := pickF_qi hw hI.q (h : Int) rd
  have hpp := fun hg' => pickF_pp hw hI.q hh hg' rd
  obtain ⟨e, he⟩ : ∃ e, e = (pickF s h rd).1 := ⟨_, rfl⟩
  obtain ⟨s1, hs1⟩ : ∃ s1, s1 = (pickF s h rd).2 := ⟨_, rfl⟩
  have ht : tickH s g h rd = ranF (chargeF s1 g h e) g h e := by rw [he, hs1]; rfl
  rw [← he, ← hs1] at hp
  rw [← hs1] at hq
  have hc := chargeF_tk hp.wf g h e
  have st1 := hp.st.trans hc.1.st
  have q1 : QI (chargeF s1 g h e) := hq.of hc.1.st (fun i hi x => by unfold SS.trn; rw [hc.2.2])
  have hent : ∀ i, (chargeF s1 g h e).ent i = s.ent i := fun i => by unfold SS.ent; rw [hc.2.1, hp.es]
  have c1 : CI (chargeF s1 g h e) := hI.c.of st1 (fun i hi => by rw [hent])
  have htl : h < (chargeF s1 g h e).ts.length := by rw [st1.tl]; have := hw.tn; omega
  rw [ht]
  refine ⟨ranF_qi hc.1.wf q1 g h htl e, ?_⟩
  unfold ranF
  split
  · exact c1
  · next hneg =>
    split
    · next hcg =>
      have hmem := ((hpp (by omega)).2.1 (by omega)).1
      rw [← he] at hmem
      obtain ⟨i, hi, hi2, _, hgn⟩ := plainTo_mem hmem
      have hci := c1 e.toNat (by rw [st1.el]; omega)
      have hlim : 0 ≤ limitF (chargeF s1 g h e) := by unfold limitF; have := hc.1.wf.tk; omega
      have h2 : CI ((chargeF s1 g h e).modE e.toNat fun x => { x with rn := x.rn + 1, cd := max (x.cd - 1) (-limitF (chargeF s1 g h e)) }) := c1.modE e.toNat (by rw [st1.el]; omega) _ (fun _ => ⟨rfl, rfl, rfl⟩) (by rw [st1.gng, hi, Int.toNat_natCast]; exact hgn) (by simp only; omega)
      exact h2
    · refine c1.of (St.modE _ _ _ (fun _ => ⟨rfl, rfl, rfl⟩)) (fun i hi => ?_)
      by_cases c : e.toNat < (chargeF s1 g h e).es.length
      · rw [modE_ent _ c]
        by_cases c2 : e.toNat = i
        · subst c2; rw [if_pos rfl]
        · rw [if_neg c2]
      · rw [modE_out _ _ c]
theorem tickFrom_cq (g : Int) (rd : List Bool) : ∀ (f h : Nat) (s : SS) (k : Int), Wf s → g = gangF s → ((h + f : Nat) : Int) ≤ s.H → CntC s k → CntR s k → CQ s → CQ (tickFrom g rd f h s)
  | 0, h, s, k, hw, _, _, hc, hr, hI => hI
  | f + 1, h, s, k, hw, hg, hh, hc, hr, hI => by
    obtain ⟨h1, h2, h3⟩ := tickH_tk hw hg (h := h) (by omega) rd hc hr
    exact tickFrom_cq g rd f (h + 1) (tickH s g h rd) (k + 1) h1.wf (by rw [h1.st.gang h1.now]; exact hg) (by rw [h1.st.H]; omega) h2 h3 (tickH_cq hw hg (by omega) rd hI)
theorem tickF_cq {s : SS} (rd : List Bool) (hw : Wf s) (hn : s.now < 4611686018427387904) (hc : CntC s 0) (hr : CntR s 0) (hI : CQ s) : CQ (tickF s rd) := by
  have hH1 := hw.H1
  obtain ⟨h1, h2, h3⟩ := tickFrom_tk (gangF s) rd s.H.toNat 0 s 0 hw rfl (by omega) hc hr
  have k1 := tickFrom_cq (gangF s) rd s.H.toNat 0 s 0 hw rfl (by omega) hc hr hI
  obtain ⟨e1, e2⟩ := tickE_wf h1.wf (gangF s) (by rw [h1.now]; exact hn)
  have k2 : CQ (tickE (tickFrom (gangF s) rd s.H.toNat 0 s) (gangF s)) := ⟨k1.q, k1.c⟩
  show CQ (if (tickE (tickFrom (gangF s) rd s.H.toNat 0 s) (gangF s)).now % (tickE (tickFrom (gangF s) rd s.H.toNat 0 s) (gangF s)).P = 0 ∧ (tickE (tickFrom (gangF s) rd s.H.toNat 0 s) (gangF s)).cr = true then giveF (tickE (tickFrom (gangF s) rd s.H.toNat 0 s) (gangF s)) else tickE (tickFrom (gangF s) rd s.H.toNat 0 s) (gangF s))
  split
  · exact k2.give e1
  · exact k2
theorem newS1_cq {m : Nat} {S P : Int} {cr : Bool} {gl : List S94} (hok : NOk m S P gl) : CQ (newS1 m S P cr gl) := by
  have hw := newS1_wf (cr := cr) hok
  refine ⟨fun h hh e => ?_, fun i hi => ?_⟩
  · have hh' : h < m := by simpa [newS1] using hh
    have e1 : ((newS1 m S P cr gl).trn h).q = plainL (newS0 m S P cr gl) h := by
      show (((List.range m).map fun h : Nat => (⟨plainL (newS0 m S P cr gl) h, -1, 0⟩ : ST)).getD h t0).q = _
      rw [List.getD_eq_getElem?_getD, List.getElem?_map, List.getElem?_range hh']
      rfl
    rw [e1]
    exact Iff.rfl
  · obtain ⟨j, x, k, h1, h2, h3⟩ := new_ent (m := m) (S := S) (P := P) (cr := cr) hi
    have e : ((newS1 m S P cr gl).ent i).cd = 0 := by
      show ((newS0 m S P cr gl).ent i).cd = 0
      rw [h3]
    have ht := hw.tk
    rw [e]
    unfold limitF
    exact ⟨by omega, by omega, fun _ => rfl⟩
theorem newF_cq {m : Nat} {S P : Int} {cr : Bool} {gl : List S94} (hok : NOk m S P gl) : CQ (newF m S P cr gl) := by
  have hw := newS1_wf (cr := cr) hok
  have h1 := newS1_cq (cr := cr) hok
  unfold newF
  split
  · exact h1.give hw
  · exact h1
end Go.Proofs.Ytdaadmjppikebaa.SC

/- shared: the ticks of a period that are shared. -/
namespace Go.Proofs.Ytdaadmjppikebaa.SC
open Go.RowKit Go.Proofs.YtdaadmjppikebaaW.PrintWords Go.Proofs.YtdaadmjppikebaaW.PrintLast
open Go.Proofs.Ytdaadmjppikebaa.PV (S94 k94 S29 k29 rd_T94 rd_T29)
set_option linter.unusedVariables false
set_option linter.unusedSimpArgs false

theorem gS_take (ys : List S29) (k : Nat) (h : k < ys.length) : gS (ys.take (k + 1)) = gS (ys.take k) + if (rd_T29 ys (k : Int)).f2 = true then (rd_T29 ys (k : Int)).f1 else 0 := by
  unfold rd_T29
  rw [List.take_add_one, List.getElem?_eq_getElem h, Option.toList_some, gS_snoc, Int.toNat_natCast, List.getD_eq_getElem?_getD, List.getElem?_eq_getElem h, Option.getD_some]
theorem gS_range {m : Nat} {P : Int} {ys : List S29} (h : RG m P ys) : ∀ k, 0 ≤ gS (ys.take k) ∧ gS (ys.take k) ≤ 9 * k := by
  intro k
  induction k with
  | zero => simp [gS]
  | succ k ih =>
    rcases Nat.lt_or_ge k ys.length with q | q
    · rw [gS_take ys k q]
      have hm : rd_T29 ys (k : Int) ∈ ys := by
        unfold rd_T29
        rw [Int.toNat_natCast, List.getD_eq_getElem?_getD, List.getElem?_eq_getElem q, Option.getD_some]
        exact List.getElem_mem q
      have := h.y _ hm
      split <;> omega
    · rw [List.take_of_length_le (by omega)]
      rw [List.take_of_length_le (by omega)] at ih
      omega
set_option maxRecDepth 100000 in
set_option maxHeartbeats 3200000 in
theorem shared_calls {W : World} {m : Nat} {H S P : Int} {cr : Bool} {Ag : Option Addr} {cg : Nat} {ys : List S29} (hr : Kd.C k29 W Ag ys.length ys) (hg : RG m P ys) (hP : 1 ≤ P ∧ P ≤ 40) :
    Calls Try.prog 28 #[.agg #[.int .i64 H, .int .i64 S, .int .i64 P, .bool cr, .slice Ag ys.length cg]] W fun x w' => x = .returned (.int .i64 (P - gS ys)) ∧ Below W.heap.size W w' := by
  have HC := Aside0.mk hr
  have HRG := Aside0.mk hg
  have hy6 := hg.l6
  clear hr hg
  go_enter Try.func28, Try.ntmps28
  go_upto_region 2 with ((with_reducible refine gate_dst (N := 1) rfl ?_); (try (refine gate_guard (by rfl) ?_; dsimp only)); refine box_event ?hg (N := 1) ?hd (cs := #[.int .i64 H, .int .i64 S, .int .i64 P, .bool cr, .slice Ag ys.length cg]) (t := 27) ?hr ?_; (case hd => rfl); (case hg => rfl); (case hr => first | (go_simp; done) | (go_simp; rfl)); intro gs hg w1 hbox hb; have HBK := Aside0.mk (blkbox hbox); have HB1 := Aside0.mk hb; have z2 : w1.cell? ⟨gs, 2, none⟩ = some (.int .i64 P) := HBK.out.cell rfl; clear hg hbox hb)
  clear z2
  go_wp2_with (fail)
  go_loopw [3, 4] (fun v3 v4 w' => ∃ k : Nat, v3 = .int .i64 (P - gS (ys.take k)) ∧ v4 = .int .i64 (k : Int) ∧ k ≤ ys.length ∧ Aside0 (Blk w' gs 27 [.int .i64 H, .int .i64 S, .int .i64 P, .bool cr, .slice Ag ys.length cg]) ∧ Aside0 (Below W.heap.size W w')) (fun _ v4 _ => ys.length - (intOf v4).toNat)
  case atStart => exact ⟨0, by simp [gS], rfl, Nat.zero_le _, HBK, HB1⟩
  case round =>
    obtain ⟨k, rfl, rfl, hk, HBK2, HB2⟩ := hrel
    clear HBK HB1
    have z4 : wr.cell? ⟨gs, 4, none⟩ = some (.slice Ag ys.length cg) := HBK2.out.cell rfl
    by_cases hlt : k < ys.length
    · obtain ⟨ad, e0, _, x1, x2⟩ := PV.at_T29 (Kd.C_below HC.out HB2.out) (k : Int) (by omega) (by omega)
      subst e0
      have hst := gS_take ys k hlt
      have hr1 := gS_range HRG.out k
      have hr2 := gS_range HRG.out (k + 1)
      obtain ⟨y, hy⟩ : ∃ y, y = rd_T29 ys (k : Int) := ⟨_, rfl⟩
      rw [← hy] at x1 x2 hst
      rw [Int.toNat_natCast] at x1 x2
      obtain ⟨f1, hf1⟩ : ∃ f1, f1 = y.f1 := ⟨_, rfl⟩
      obtain ⟨f2, hf2⟩ : ∃ f2, f2 = y.f2 := ⟨_, rfl⟩
      rw [← hf1] at x1
      rw [← hf2] at x2
      rw [← hf1, ← hf2] at hst
      clear hy hf1 hf2
      obtain ⟨q, hq⟩ : ∃ q, q = gS (ys.take k) := ⟨_, rfl⟩
      rw [← hq] at hst hr1 ⊢
      cases f2 with
      | true =>
        rw [if_pos rfl] at hst
        have Hst := Aside0.mk hst
        have hfr : -54 ≤ f1 ∧ f1 ≤ 54 := by omega
        clear hst hr2 hq
        go_wp2
        go_roundw
        case rel => exact ⟨k + 1, by rw [Hst.out, ← Int.sub_sub], by go_num, by omega, HBK2, HB2⟩
        case measure => simp [intOf]; omega
      | false =>
        rw [if_neg (by decide), Int.add_zero] at hst
        have Hst := Aside0.mk hst
        clear hst hr2 hq
        go_wp2
        go_roundw
        case rel => exact ⟨k + 1, by rw [Hst.out], by go_num, by omega, HBK2, HB2⟩
        case measure => simp [intOf]; omega
    · have HE := Aside0.mk (show gS (ys.take k) = gS ys by rw [List.take_of_length_le (by omega)])
      rw [HE.out]
      go_wp2
      go_ret
      exact ⟨rfl, HB2.out⟩
end Go.Proofs.Ytdaadmjppikebaa.SC
