import Derived.Test.YtdaadmjppikebaaK15
import Derived.Test.YtdaadmjppikebaaK11
import Derived.Test.YtdaadmjppikebaaK14
/- Parts of the walk of package sched, merged. -/
/- SchedPlays: a removal of anybody; confs that are refused. -/
namespace Go.Proofs.Ytdaadmjppikebaa.SC
open Go.RowKit Go.Proofs.YtdaadmjppikebaaW.PrintWords Go.Proofs.YtdaadmjppikebaaW.PrintLast
open Go.Proofs.Ytdaadmjppikebaa.PV (S94 k94 S29 k29 rd_T94 rd_T29)
set_option linter.unusedVariables false
set_option linter.unusedSimpArgs false

set_option maxRecDepth 100000 in
set_option maxHeartbeats 1600000 in
theorem remove_none {W : World} {own : Nat → Prop} {L : Lay} {s : SS} (h : SR W own L s) (hem : s.es.length ≤ 64) (g : Int) (hg : ∀ i, i < s.es.length → (s.ent i).gu ≠ g) :
    Calls Try.prog 30 #[.pointer (some ⟨L.b, 0, none⟩), .int .i64 g] W fun x w' => x = .returned (.tuple #[]) ∧ W = w' := by
  have HR := Aside0.mk h
  have HG := Aside0.mk hg
  have c5 := h.fld 5 rfl
  clear h hg
  go_enter Try.func30, Try.ntmps30
  go_wp2_with (fail)
  go_loopw [12] (fun v12 w' => ∃ k : Nat, v12 = .int .i64 (k : Int) ∧ k ≤ s.es.length ∧ Aside0 (SR w' own L s) ∧ Aside0 (W = w')) (fun v12 _ => s.es.length - (intOf v12).toNat)
  case atStart => exact ⟨0, rfl, Nat.zero_le _, HR, ⟨rfl⟩⟩
  case round =>
    obtain ⟨k, rfl, hk, HS1, HM1⟩ := hrel
    clear c5
    have c5 := HS1.out.fld 5 rfl
    by_cases hlt : k < s.es.length
    · have y0 : wr.cell? ⟨L.be, k * 7, none⟩ = some (.int .i64 (s.ent k).gu) := HS1.out.ent k 0 hlt (by decide) rfl
      have hne := HG.out k hlt
      obtain ⟨v, hv⟩ : ∃ v, v = (s.ent k).gu := ⟨_, rfl⟩
      rw [← hv] at y0 hne
      have b1 : (v == g) = false := by simpa using hne
      have b2 : (v != g) = true := by simpa using hne
      clear hv hne
      go_wp2
      go_roundw
      case rel => exact ⟨k + 1, by go_num, by omega, HS1, HM1⟩
      case measure => (simp [intOf] <;> omega)
    · go_wp2
      go_end0
      exact ⟨rfl, HM1.out⟩
/-- A removal, whatever the number. -/
theorem SB.removeI {W : World} {own : Nat → Prop} {b : Nat} {s : SS} (h : SB W own b s) (g : Int) :
    Calls Try.prog 30 #[.pointer (some ⟨b, 0, none⟩), .int .i64 g] W fun x w' => x = .returned (.tuple #[]) ∧ SB w' own b (removeI s g) ∧ Mut own W w' := by
  have hw := h.wf
  by_cases c : 0 ≤ g ∧ g < s.gs.length
  · obtain ⟨n, rfl⟩ := Int.eq_ofNat_of_zero_le c.1
    have := h.remove n (by omega)
    unfold SC.removeI
    rw [if_pos c.1, Int.toNat_natCast]
    exact this
  · have hne : ∀ i, i < s.es.length → (s.ent i).gu ≠ g := fun i hi => by have := hw.eg i hi; omega
    have e : SC.removeI s g = s := by
      unfold SC.removeI
      split
      · next h0 =>
        obtain ⟨n, rfl⟩ := Int.eq_ofNat_of_zero_le h0
        rw [Int.toNat_natCast]
        exact remove_out hne _ (Nat.le_refl _)
      · rfl
    rw [e]
    obtain ⟨L, rfl, hx⟩ := h
    refine (remove_none hx.r hw.em g hne).mono ?_
    rintro x w' ⟨rfl, rfl⟩
    exact ⟨rfl, ⟨L, rfl, hx⟩, Mut.refl _ _⟩
theorem conf_l0b (ys : List S29) (hy : ys.length ≤ 2000000) (x0 x1 x2 : Int) (x3 : Bool) (H S P : Int) (cr : Bool) : ∀ (n j : Nat), j + n = ys.length → PV.citadellaw18_C_Conf.l0 (n + 1) (j : Int) x0 x1 x2 x3 ys H S P cr (confL (ys.take j)) = some (H, S, P, cr, confL ys)
  | 0, j, h => by
    unfold PV.citadellaw18_C_Conf.l0
    rw [if_neg (by omega), show j = ys.length by omega, List.take_length]
  | n + 1, j, h => by
    unfold PV.citadellaw18_C_Conf.l0
    rw [if_pos (by omega), if_pos (by omega), if_pos (by simp [confL]; omega), wrap64_id (by omega) (by omega)]
    have hj : ys[j]? = some (rd_T29 ys (j : Int)) := by unfold rd_T29; rw [Int.toNat_natCast, List.getD_eq_getElem?_getD, List.getElem?_eq_getElem (by omega)]; rfl
    have e : confL (ys.take j) ++ [(⟨(rd_T29 ys (j : Int)).f0, 0, (rd_T29 ys (j : Int)).f1, [], [], [], (rd_T29 ys (j : Int)).f2⟩ : S94)] = confL (ys.take (j + 1)) := by
      unfold confL; rw [List.take_add_one, hj, List.map_append]; rfl
    rw [e]
    exact conf_l0b ys hy x0 x1 x2 x3 H S P cr n (j + 1) (by omega)
theorem conf_fb (ys : List S29) (hy : ys.length ≤ 2000000) (H S P : Int) (cr : Bool) : PV.citadellaw18_C_Conf.f (ys.length + 1) H S P cr ys = some (H, S, P, cr, confL ys) := by
  unfold PV.citadellaw18_C_Conf.f
  exact conf_l0b ys hy H S P cr H S P cr ys.length 0 (by omega)
set_option maxRecDepth 100000 in
set_option maxHeartbeats 1600000 in
theorem new_not {W : World} {H S P : Int} {cr : Bool} {gl : List S94} {A : Option Addr} {cp k : Nat} (hR : PV.sched_Right.f k H S P cr gl = some false) (hC : Kd.C k94 W A gl.length gl) (hc : gl.length ≤ cp) :
    Calls Try.prog 13 #[.agg #[.int .i64 H, .int .i64 S, .int .i64 P, .bool cr, .slice A gl.length cp]] W fun x w' => x = .returned (.tuple #[.pointer none, .int .i64 1]) ∧ Below W.heap.size W w' := by
  have HR := Aside0.mk hR
  have HC := Aside0.mk hC
  clear hR hC
  go_enter Try.func13, Try.ntmps13
  go_wp2_with (go_at_call 32; refine (PV.sched_Right.calls k _ _ _ _ _ _ gl false _ (Kd.C_alloc HC.out _) hc HR.out).mono ?_; rintro e w1 ⟨rfl, hb⟩; have HB1 := Aside0.mk hb; clear hb)
  go_ret2
  exact ⟨rfl, below_step (below_alloc (Below.refl _ _) _) HB1.out⟩
set_option maxRecDepth 100000 in
set_option maxHeartbeats 1600000 in
theorem rnew_not {W : World} {H S P : Int} {cr : Bool} {gl : List S94} {A : Option Addr} {cp k : Nat} (hR : PV.citadelref18_Right.f k H S P cr gl = some false) (hC : Kd.C k94 W A gl.length gl) (hc : gl.length ≤ cp) :
    Calls Try.prog 31 #[.agg #[.int .i64 H, .int .i64 S, .int .i64 P, .bool cr, .slice A gl.length cp]] W fun x w' => x = .returned (.tuple #[.pointer none, .int .i64 1]) ∧ Below W.heap.size W w' := by
  have HR := Aside0.mk hR
  have HC := Aside0.mk hC
  clear hR hC
  go_enter Try.func31, Try.ntmps31
  go_wp2_with (go_at_call 50; refine (PV.citadelref18_Right.calls k _ _ _ _ _ _ gl false _ (Kd.C_alloc HC.out _) hc HR.out).mono ?_; rintro e w1 ⟨rfl, hb⟩; have HB1 := Aside0.mk hb; clear hb)
  go_ret2
  exact ⟨rfl, below_step (below_alloc (Below.refl _ _) _) HB1.out⟩
/-- Both schedulers, in one world, of one state. -/
structure PW (W0 W : World) (own own2 : Nat → Prop) (b : Nat) (L : RLy) (s : SS) : Prop where
  X : SB W own b s
  R : RS W own2 L s
  Q : QX s
  D : ∀ k, own k → ¬ own2 k
  B : Below W0.heap.size W0 W
  N : ∀ k, own k → W0.heap.size ≤ k
  N2 : ∀ k, own2 k → W0.heap.size ≤ k
  G : ∀ ad, L.Ag = some ad → 0 < L.gl.length → ¬ own ad.block
/-- Who can run, apart from both. -/
structure RL2 (W : World) (own own2 : Nat → Prop) (A : Option Addr) (c : Nat) (rd : List Bool) : Prop where
  r : Kd.R Kd.bool 4 W 0 (fun k => ¬ own k ∧ ¬ own2 k) (.slice A rd.length c) rd
section
variable {W0 W W' : World} {own own' own2 own2' : Nat → Prop} {b : Nat} {L : RLy} {s s' : SS} {rd : List Bool} {A : Option Addr} {c : Nat}
theorem bool_ok {e b : Nat} {ok ok' : Nat → Prop} {W : World} {v : Value} {xs : List Bool} (h : Kd.R Kd.bool e W b ok v xs) (hok : ∀ k, v.ownBlock = some k → ok' k) : Kd.R Kd.bool e W b ok' v xs := by
  obtain ⟨_, inner, ho, hr⟩ := h
  exact ⟨hok, inner, ho, hr⟩
theorem RL2.one (h : RL2 W own own2 A c rd) : RL W own A c rd := ⟨bool_ok h.r (fun k hk => (h.r.1 k hk).1)⟩
theorem RL2.toRD (h : RL2 W own own2 A c rd) : RD W rd A c := h.one.toRD
theorem RL2.no2 (h : RL2 W own own2 A c rd) : ∀ ad, A = some ad → ¬ own2 ad.block ∧ ad.block < W.heap.size := by
  intro ad e
  subst e
  exact ⟨(h.r.1 ad.block rfl).2, Kd.R_lt h.r ad.block rfl⟩
theorem RL2.below (h : RL2 W own own2 A c rd) (hb : Below W.heap.size W W') : RL2 W' own own2 A c rd := ⟨Kd.R_below h.r hb⟩
theorem RL2.then1 (h : RL2 W own own2 A c rd) (t : Then W own W' own') : RL2 W' own' own2 A c rd := by
  have h1 := Kd.R_lt h.r
  have h2 := h.r.1
  have h3 : Kd.R Kd.bool 4 W' 0 (fun k => ¬ own k) (.slice A rd.length c) rd := Kd.R_kept (bool_ok h.r (fun k hk => (h2 k hk).1)) t.m.kept (fun k hk => hk)
  exact ⟨bool_ok h3 (fun k hk => ⟨fun h4 => (t.z k h4).elim (h2 k hk).1 (fun h5 => by have := h1 k hk; omega), (h2 k hk).2⟩)⟩
theorem RL2.then2 (h : RL2 W own own2 A c rd) (hm : Mut own2 W W') (hz : ∀ k, own2' k → own2 k ∨ W.heap.size ≤ k) : RL2 W' own own2' A c rd := by
  have h1 := Kd.R_lt h.r
  have h2 := h.r.1
  have h3 : Kd.R Kd.bool 4 W' 0 (fun k => ¬ own2 k) (.slice A rd.length c) rd := Kd.R_kept (bool_ok h.r (fun k hk => (h2 k hk).2)) hm.kept (fun k hk => hk)
  exact ⟨bool_ok h3 (fun k hk => ⟨(h2 k hk).1, fun h4 => (hz k h4).elim (h2 k hk).2 (fun h5 => by have := h1 k hk; omega)⟩)⟩
theorem RL2.new (h : PW W0 W own own2 b L s) {v : Value} (hr : Kd.R Kd.bool 4 W' W.heap.size (fun _ => True) v rd) : ∃ A c, v = .slice A rd.length c ∧ RL2 W' own own2 A c rd := by
  obtain ⟨A, c, rfl⟩ := Kd.R_slice hr
  have hb := Kd.R_base hr
  have h2 : Kd.R Kd.bool 4 W' 0 (fun _ => True) (.slice A rd.length c) rd := Kd.R_lower hr (Nat.zero_le _)
  exact ⟨A, c, rfl, ⟨bool_ok h2 (fun k hk => ⟨fun h4 => by have := hb k hk; have := h.X.lt k h4; omega, fun h4 => by have := hb k hk; have := h.R.lt k h4; omega⟩)⟩⟩
theorem PW.below (h : PW W0 W own own2 b L s) (hb : Below W.heap.size W W') : PW W0 W' own own2 b L s := ⟨h.X.below hb, h.R.below hb, h.Q, h.D, h.B.trans (hb.mono h.B.size), h.N, h.N2, h.G⟩
/-- The program has gone on. -/
structure PW1 (W0 W : World) (own own2 : Nat → Prop) (b : Nat) (L : RLy) (s s' : SS) : Prop where
  X : SB W own b s'
  R : RS W own2 L s
  D : ∀ k, own k → ¬ own2 k
  B : Below W0.heap.size W0 W
  N : ∀ k, own k → W0.heap.size ≤ k
  N2 : ∀ k, own2 k → W0.heap.size ≤ k
  G : ∀ ad, L.Ag = some ad → 0 < L.gl.length → ¬ own ad.block
/-- The document has gone on. -/
theorem PW.then1 (h : PW W0 W own own2 b L s) (hs : SB W' own' b s') (t : Then W own W' own') : PW1 W0 W' own' own2 b L s s' :=
  { X := hs, R := h.R.mut t.m (fun k hk h1 => h.D k h1 hk) h.G, D := fun k hk h2 => (t.z k hk).elim (fun h1 => h.D k h1 h2) (fun h1 => by have := h.R.lt k h2; omega),
    B := h.B.trans (t.m.to_below h.B.size h.N), N := fun k hk => (t.z k hk).elim (h.N k) (fun h1 => Nat.le_trans h.B.size h1), N2 := h.N2,
    G := fun ad e hl hk => (t.z _ hk).elim (h.G ad e hl) (fun h1 => by have := h.R.gbl ad e hl; omega) }
theorem PW1.then2 (h : PW1 W0 W own own2 b L s s') (hq : QX s') (hp : RPost W own2 L s' W') : ∃ own2' qs us, PW W0 W' own own2' b { L with qs := qs, us := us } s' ∧ Mut own2 W W' ∧ ∀ k, own2' k → own2 k ∨ W.heap.size ≤ k := by
  obtain ⟨own2', qs, us, hr, hm, h1, h2⟩ := hp
  refine ⟨own2', qs, us, ⟨h.X.mut hm (fun k hk h4 => h.D k hk h4), hr, hq, fun k hk h4 => (h2 k h4).elim (h.D k hk) (fun h5 => by have := h.X.lt k hk; omega), h.B.trans (hm.to_below h.B.size h.N2), h.N, fun k hk => (h2 k hk).elim (h.N2 k) (fun h1 => Nat.le_trans h.B.size h1), h.G⟩, hm, h2⟩
/-- The other order: first the document, then the program. -/
structure PW2 (W0 W : World) (own own2 : Nat → Prop) (b : Nat) (L : RLy) (s s' : SS) : Prop where
  X : SB W own b s
  R : RS W own2 L s'
  D : ∀ k, own k → ¬ own2 k
  B : Below W0.heap.size W0 W
  N : ∀ k, own k → W0.heap.size ≤ k
  N2 : ∀ k, own2 k → W0.heap.size ≤ k
  G : ∀ ad, L.Ag = some ad → 0 < L.gl.length → ¬ own ad.block
theorem PW.then2 (h : PW W0 W own own2 b L s) (hp : RPost W own2 L s' W') : ∃ own2' qs us, PW2 W0 W' own own2' b { L with qs := qs, us := us } s s' ∧ Mut own2 W W' ∧ ∀ k, own2' k → own2 k ∨ W.heap.size ≤ k := by
  obtain ⟨own2', qs, us, hr, hm, h1, h2⟩ := hp
  exact ⟨own2', qs, us, ⟨h.X.mut hm (fun k hk h4 => h.D k hk h4), hr, fun k hk h4 => (h2 k h4).elim (h.D k hk) (fun h5 => by have := h.X.lt k hk; omega), h.B.trans (hm.to_below h.B.size h.N2), h.N, fun k hk => (h2 k hk).elim (h.N2 k) (fun h1 => Nat.le_trans h.B.size h1), h.G⟩, hm, h2⟩
theorem PW2.then1 (h : PW2 W0 W own own2 b L s s') (hq : QX s') (hs : SB W' own' b s') (t : Then W own W' own') : PW W0 W' own' own2 b L s' :=
  { X := hs, R := h.R.mut t.m (fun k hk h1 => h.D k h1 hk) h.G, Q := hq, D := fun k hk h2 => (t.z k hk).elim (fun h1 => h.D k h1 h2) (fun h1 => by have := h.R.lt k h2; omega),
    B := h.B.trans (t.m.to_below h.B.size h.N), N := fun k hk => (t.z k hk).elim (h.N k) (fun h1 => Nat.le_trans h.B.size h1), N2 := h.N2,
    G := fun ad e hl hk => (t.z _ hk).elim (h.G ad e hl) (fun h1 => by have := h.R.gbl ad e hl; omega) }
end
/-- The document's tick, whatever the conf. -/
theorem rtick_calls {W : World} {own : Nat → Prop} {L : RLy} {s : SS} {rd : List Bool} {A : Option Addr} {c : Nat} (h : RS W own L s) (hw : Wf s) (hq : QX s) (hn : s.now ≤ 288230376151711744) (hcc : CntC s 0) (hcr : CntR s 0) (hr : RD W rd A c) (hno : ∀ ad, A = some ad → ¬ own ad.block ∧ ad.block < W.heap.size) :
    Calls Try.prog 33 #[.pointer (some ⟨L.b, 0, none⟩), .slice A rd.length c] W fun x w' => x = .returned (.tuple #[]) ∧ RPost W own L (tickF s rd) w' := by
  by_cases hg : 0 ≤ gangF s
  · cases hc : s.cr with
    | true => exact rtick_gang_true h hw hq hn hcc hcr hr hno hc hg
    | false => exact rtick_gang_false h hw hq hn hcc hcr hr hno hc hg
  · cases hc : s.cr with
    | true => exact rtick_free_true h hw hq hn hcc hcr hr hno hc (by omega)
    | false => exact rtick_free_false h hw hq hn hcc hcr hr hno hc (by omega)
end Go.Proofs.Ytdaadmjppikebaa.SC

/- SchedPlays: both schedulers tell the same. -/
namespace Go.Proofs.Ytdaadmjppikebaa.SC
open Go.RowKit Go.Proofs.YtdaadmjppikebaaW.PrintWords Go.Proofs.YtdaadmjppikebaaW.PrintLast
open Go.Proofs.Ytdaadmjppikebaa.PV (S94 k94 S29 k29 rd_T94 rd_T29)
set_option linter.unusedVariables false
set_option linter.unusedSimpArgs false

section
variable {W : World} {own : Nat → Prop} {b : Nat} {s : SS}
theorem SB.guest1 (h : SB W own b s) {k : Nat} (hk : k < s.es.length) : Calls Try.prog 22 #[.pointer (some ⟨b, 0, none⟩), .int .i64 (k : Int)] W fun x w' => x = .returned (.tuple #[.int .i64 (s.ent k).gu, .int .i64 (s.ent k).ix]) ∧ Below W.heap.size W w' := by
  have := h.guest (k : Int)
  rwa [if_pos (thereB_t hk), Int.toNat_natCast] at this
theorem SB.home1 (h : SB W own b s) {k : Nat} (hk : k < s.es.length) : Calls Try.prog 24 #[.pointer (some ⟨b, 0, none⟩), .int .i64 (k : Int)] W fun x w' => x = .returned (.int .i64 (homeOf s k)) ∧ Below W.heap.size W w' := by
  have := h.home (k : Int)
  rwa [if_pos (thereB_t hk), Int.toNat_natCast] at this
theorem SB.ran1 (h : SB W own b s) {k : Nat} (hk : k < s.es.length) : Calls Try.prog 26 #[.pointer (some ⟨b, 0, none⟩), .int .i64 (k : Int)] W fun x w' => x = .returned (.int .u64 (s.ent k).rn) ∧ W = w' := by
  have := h.ran (k : Int)
  rwa [if_pos (thereB_t hk), Int.toNat_natCast] at this
theorem SB.cred1 (h : SB W own b s) {k : Nat} (hk : k < s.es.length) : Calls Try.prog 29 #[.pointer (some ⟨b, 0, none⟩), .int .i64 (k : Int)] W fun x w' => x = .returned (.int .i64 (s.ent k).cd) ∧ W = w' := by
  have := h.credit (k : Int)
  rwa [if_pos (thereB_t hk), Int.toNat_natCast] at this
theorem SB.chg1 (h : SB W own b s) {g : Nat} (hg : g < s.ch.length) : Calls Try.prog 23 #[.pointer (some ⟨b, 0, none⟩), .int .i64 (g : Int)] W fun x w' => x = .returned (.int .u64 (s.ch.getD g 0)) ∧ W = w' := by
  have := h.charged (g : Int)
  rwa [if_pos (by unfold withinB; simp; omega), Int.toNat_natCast] at this
theorem SB.drewN (h : SB W own b s) (n : Nat) : SB (W.drewN n) own b s := h.below (pw_below_drewN (Below.refl _ _) n)
end
set_option maxRecDepth 100000 in
set_option maxHeartbeats 6400000 in
theorem same_calls {W : World} {own own2 : Nat → Prop} {b : Nat} {L : RLy} {s : SS} (h : SB W own b s) (hr : RS W own2 L s) :
    Calls Try.prog 36 #[.pointer (some ⟨b, 0, none⟩), .pointer (some ⟨L.b, 0, none⟩)] W fun x w' => x = .returned (.bool true) ∧ Below W.heap.size W w' := by
  have HX := Aside0.mk h
  have HR := Aside0.mk hr
  have HW := Aside0.mk h.wf
  have hem := h.wf.em
  have hcap := hr.cap
  have hch : s.ch.length ≤ 8 := by have h1 := h.wf.cn; have h2 := h.wf.gm; omega
  have HXd := Aside0.mk (h.below (below_drew (Below.refl _ _)))
  have HRd := Aside0.mk (hr.below (below_drew (Below.refl _ _)))
  have z6 : W.drew.cell? ⟨L.b, 6, none⟩ = some (.int .u64 s.now) := HRd.out.fld 6 rfl
  have z5 : W.drew.cell? ⟨L.b, 5, none⟩ = some (.slice (some ⟨L.be, 0, none⟩) s.es.length L.ce) := HRd.out.fld 5 rfl
  have b1 : (s.now != s.now) = false := by simp
  have b2 : (s.now == s.now) = true := by simp
  have b3 : (gangF s != gangF s) = false := by simp
  have b4 : (gangF s == gangF s) = true := by simp
  have b5 : ((s.es.length : Int) != (s.es.length : Int)) = false := by simp
  have b6 : ((s.es.length : Int) == (s.es.length : Int)) = true := by simp
  clear h hr
  go_enter Try.func36, Try.ntmps36
  go_upto_region 1 with (fail)
  refine start_ (n := 24) (S := fun w' => w'.cell? ⟨L.b, 6, none⟩ = some (.int .u64 s.now) ∧ w'.cell? ⟨L.b, 5, none⟩ = some (.slice (some ⟨L.be, 0, none⟩) s.es.length L.ce)) (ds := []) (bl 24 0) (by kernel_rfl) rfl rfl ⟨z6, z5⟩ (fun hHeld => ?_)
  refine pure_ (i := 0) (N := some 9) (v := ?_) (a' := ?_) (bl 24 1) rfl rfl (by kernel_rfl) (fun _ _ _ h => h) (Or.inl ⟨by rfl, ?_⟩) ?_ ?_
  rotate_left
  · intro w'
    go_simp
    with_reducible rfl
  rotate_left
  · simp only [Act.put, lsa, lsz, lsc, i64_w, i32_w]
    rfl
  refine pure_ (i := 2) (N := some 11) (v := ?_) (a' := ?_) (bl 24 5) rfl rfl (by kernel_rfl) (fun _ _ _ h => h) (Or.inl ⟨by rfl, ?_⟩) ?_ ?_
  rotate_left
  · intro w'
    go_simp
    with_reducible rfl
  rotate_left
  · simp only [Act.put, lsa, lsz, lsc, i64_w, i32_w]
    rfl
  refine pure_ (i := 3) (N := some 12) (v := ?_) (a' := ?_) (bl 24 13) rfl rfl (by kernel_rfl) (fun _ _ _ h => h) (Or.inl ⟨by rfl, ?_⟩) ?_ ?_
  rotate_left
  · intro w'
    go_simp
    with_reducible rfl
  rotate_left
  · simp only [Act.put, lsa, lsz, lsc, i64_w, i32_w]
    rfl
  refine pure_ (i := 4) (N := some 13) (v := ?_) (a' := ?_) (bl 24 29) rfl rfl (by kernel_rfl) (fun _ _ _ h => h) (Or.inl ⟨by rfl, ?_⟩) ?_ ?_
  rotate_left
  · intro w'
    go_simp
    with_reducible rfl
  rotate_left
  · simp only [Act.put, lsa, lsz, lsc, i64_w, i32_w]
    rfl
  refine take_ (i := 5) (N := some 14) (v := ?_) (a' := ?_) (bl 24 61) rfl rfl (by kernel_rfl) (fun _ _ _ h => h) (Or.inl ⟨by rfl, ?_⟩) hHeld ?_ ?_
  rotate_left
  · rintro w' ⟨s0, s1⟩
    go_simp
    with_reducible rfl
  rotate_left
  · simp only [Act.put, lsa, lsz, lsc, i64_w, i32_w]
    rfl
  refine one_ (i := 1) (N := some 10) (bl 24 63) rfl rfl (by kernel_rfl) (by decide) (fun K hK => ?_)
  refine goes_ Try.func27 (by kernel_rfl) rfl #[.pointer (some ⟨b, 0, none⟩)] (by rfl) rfl rfl (by simp only [List.map_toArray, List.map_cons, List.map_nil]; rfl) ?_
  with_reducible refine (HXd.out.now).mono ?_
  rintro e w3 ⟨rfl, rfl⟩
  refine ⟨_, rfl, ?_⟩
  refine hK.out _ _ ⟨z6, z5⟩ (fun hHeld => ?_)
  clear hK K
  refine norm_ (a' := ?_) ?_ ?_
  rotate_left
  · show Act.put _ (some 10) _ = _
    simp only [Act.put, lsa, lsz, lsc, i64_w, i32_w]
    rfl
  refine pure_ (i := 6) (N := some 15) (v := ?_) (a' := ?_) (bl 24 127) rfl rfl (by kernel_rfl) (fun _ _ _ h => h) (Or.inl ⟨by rfl, ?_⟩) ?_ ?_
  rotate_left
  · intro w'
    go_simp
    with_reducible rfl
  rotate_left
  · simp only [Act.put, lsa, lsz, lsc, i64_w, i32_w]
    rfl
  refine pure_ (i := 7) (N := some 16) (v := ?_) (a' := ?_) (bl 24 255) rfl rfl (by kernel_rfl) (fun _ _ _ h => h) (Or.inl ⟨by rfl, ?_⟩) ?_ ?_
  rotate_left
  · intro w'
    go_simp
    with_reducible rfl
  rotate_left
  · simp only [Act.put, lsa, lsz, lsc, i64_w, i32_w]
    rfl
  refine pure_ (i := 8) (N := some 17) (v := ?_) (a' := ?_) (bl 24 511) rfl rfl (by kernel_rfl) (fun _ _ _ h => h) (Or.inl ⟨by rfl, ?_⟩) ?_ ?_
  rotate_left
  · intro w'
    go_simp
    with_reducible rfl
  rotate_left
  · simp only [Act.put, lsa, lsz, lsc, i64_w, i32_w]
    rfl
  refine pure_ (i := 10) (N := some 19) (v := ?_) (a' := ?_) (bl 24 1535) rfl rfl (by kernel_rfl) (fun _ _ _ h => h) (Or.inl ⟨by rfl, ?_⟩) ?_ ?_
  rotate_left
  · intro w'
    go_simp
    with_reducible rfl
  rotate_left
  · simp only [Act.put, lsa, lsz, lsc, i64_w, i32_w]
    rfl
  refine one_ (i := 9) (N := some 18) (bl 24 2047) rfl rfl (by kernel_rfl) (by decide) (fun K hK => ?_)
  refine goes_ Try.func21 (by kernel_rfl) rfl #[.pointer (some ⟨b, 0, none⟩)] (by rfl) rfl rfl (by simp only [List.map_toArray, List.map_cons, List.map_nil]; rfl) ?_
  with_reducible refine (HXd.out.gang).mono ?_
  rintro e w4 ⟨rfl, hb4⟩
  refine ⟨_, rfl, ?_⟩
  refine hK.out _ _ ⟨pw_cell_below hb4 z6, pw_cell_below hb4 z5⟩ (fun hHeld => ?_)
  clear hK K
  refine norm_ (a' := ?_) ?_ ?_
  rotate_left
  · show Act.put _ (some 18) _ = _
    simp only [Act.put, lsa, lsz, lsc, i64_w, i32_w]
    rfl
  refine one_ (i := 11) (N := some 20) (bl 24 4095) rfl rfl (by kernel_rfl) (by decide) (fun K hK => ?_)
  refine goes_ Try.func53 (by kernel_rfl) rfl #[.pointer (some ⟨L.b, 0, none⟩)] (by rfl) rfl rfl (by simp only [List.map_toArray, List.map_cons, List.map_nil]; rfl) ?_
  with_reducible refine (rgang_calls (HRd.out.below hb4) HW.out).mono ?_
  rintro e w6 ⟨rfl, hb5⟩
  refine ⟨_, rfl, ?_⟩
  have hb6 := Aside0.mk (below_step hb4 hb5)
  clear hb5
  refine hK.out _ _ ⟨pw_cell_below hb6.out z6, pw_cell_below hb6.out z5⟩ (fun hHeld => ?_)
  clear hK K
  refine norm_ (a' := ?_) ?_ ?_
  rotate_left
  · show Act.put _ (some 20) _ = _
    simp only [Act.put, lsa, lsz, lsc, i64_w, i32_w]
    rfl
  refine pure_ (i := 12) (N := some 21) (v := ?_) (a' := ?_) (bl 24 8191) rfl rfl (by kernel_rfl) (fun _ _ _ h => h) (Or.inl ⟨by rfl, ?_⟩) ?_ ?_
  rotate_left
  · intro w'
    go_simp
    with_reducible rfl
  rotate_left
  · simp only [Act.put, lsa, lsz, lsc, i64_w, i32_w]
    rfl
  refine pure_ (i := 13) (N := some 22) (v := ?_) (a' := ?_) (bl 24 16383) rfl rfl (by kernel_rfl) (fun _ _ _ h => h) (Or.inl ⟨by rfl, ?_⟩) ?_ ?_
  rotate_left
  · intro w'
    go_simp
    with_reducible rfl
  rotate_left
  · simp only [Act.put, lsa, lsz, lsc, i64_w, i32_w]
    rfl
  refine pure_ (i := 14) (N := some 23) (v := ?_) (a' := ?_) (bl 24 32767) rfl rfl (by kernel_rfl) (fun _ _ _ h => h) (Or.inl ⟨by rfl, ?_⟩) ?_ ?_
  rotate_left
  · intro w'
    go_simp
    with_reducible rfl
  rotate_left
  · simp only [Act.put, lsa, lsz, lsc, i64_w, i32_w]
    rfl
  refine pure_ (i := 15) (N := some 24) (v := ?_) (a' := ?_) (bl 24 65535) rfl rfl (by kernel_rfl) (fun _ _ _ h => h) (Or.inl ⟨by rfl, ?_⟩) ?_ ?_
  rotate_left
  · intro w'
    go_simp
    with_reducible rfl
  rotate_left
  · simp only [Act.put, lsa, lsz, lsc, i64_w, i32_w]
    rfl
  refine pure_ (i := 17) (N := some 26) (v := ?_) (a' := ?_) (bl 24 196607) rfl rfl (by kernel_rfl) (fun _ _ _ h => h) (Or.inl ⟨by rfl, ?_⟩) ?_ ?_
  rotate_left
  · intro w'
    go_simp
    with_reducible rfl
  rotate_left
  · simp only [Act.put, lsa, lsz, lsc, i64_w, i32_w]
    rfl
  refine pure_ (i := 18) (N := some 27) (v := ?_) (a' := ?_) (bl 24 458751) rfl rfl (by kernel_rfl) (fun _ _ _ h => h) (Or.inl ⟨by rfl, ?_⟩) ?_ ?_
  rotate_left
  · intro w'
    go_simp
    with_reducible rfl
  rotate_left
  · simp only [Act.put, lsa, lsz, lsc, i64_w, i32_w]
    rfl
  refine pure_ (i := 19) (N := some 28) (v := ?_) (a' := ?_) (bl 24 983039) rfl rfl (by kernel_rfl) (fun _ _ _ h => h) (Or.inl ⟨by rfl, ?_⟩) ?_ ?_
  rotate_left
  · intro w'
    go_simp
    with_reducible rfl
  rotate_left
  · simp only [Act.put, lsa, lsz, lsc, i64_w, i32_w]
    rfl
  refine take_ (i := 20) (N := some 29) (v := ?_) (a' := ?_) (bl 24 2031615) rfl rfl (by kernel_rfl) (fun _ _ _ h => h) (Or.inl ⟨by rfl, ?_⟩) hHeld ?_ ?_
  rotate_left
  · rintro w' ⟨s0, s1⟩
    go_simp
    with_reducible rfl
  rotate_left
  · simp only [Act.put, lsa, lsz, lsc, i64_w, i32_w]
    rfl
  refine pure_ (i := 21) (N := some 30) (v := ?_) (a' := ?_) (bl 24 4128767) rfl rfl (by kernel_rfl) (fun _ _ _ h => h) (Or.inl ⟨by rfl, ?_⟩) ?_ ?_
  rotate_left
  · intro w'
    go_simp
    with_reducible rfl
  rotate_left
  · simp only [Act.put, lsa, lsz, lsc, i64_w, i32_w]
    rfl
  refine one_ (i := 16) (N := some 25) (bl 24 4194303) rfl rfl (by kernel_rfl) (by decide) (fun K hK => ?_)
  refine goes_ Try.func15 (by kernel_rfl) rfl #[.pointer (some ⟨b, 0, none⟩)] (by rfl) rfl rfl (by simp only [List.map_toArray, List.map_cons, List.map_nil]; rfl) ?_
  with_reducible refine ((HXd.out.below hb6.out).entities).mono ?_
  rintro e w7 ⟨rfl, rfl⟩
  refine ⟨_, rfl, ?_⟩
  refine hK.out _ _ ⟨pw_cell_below hb6.out z6, pw_cell_below hb6.out z5⟩ (fun hHeld => ?_)
  clear hK K
  refine norm_ (a' := ?_) ?_ ?_
  rotate_left
  · show Act.put _ (some 25) _ = _
    simp only [Act.put, lsa, lsz, lsc, i64_w, i32_w]
    rfl
  refine pure_ (i := 22) (N := some 31) (v := ?_) (a' := ?_) (bl 24 8388607) rfl rfl (by kernel_rfl) (fun _ _ _ h => h) (Or.inl ⟨by rfl, ?_⟩) ?_ ?_
  rotate_left
  · intro w'
    go_simp
    with_reducible rfl
  rotate_left
  · simp only [Act.put, lsa, lsz, lsc, i64_w, i32_w]
    rfl
  refine pure_ (i := 23) (N := some 32) (v := ?_) (a' := ?_) (bl 24 16777215) rfl rfl (by kernel_rfl) (fun _ _ _ h => h) (Or.inl ⟨by rfl, ?_⟩) ?_ ?_
  rotate_left
  · intro w'
    go_simp
    with_reducible rfl
  rotate_left
  · simp only [Act.put, lsa, lsz, lsc, i64_w, i32_w]
    rfl
  refine done_ (by kernel_rfl) ?_
  have HB6 := Aside0.mk (show Below W.heap.size W w6 from below_step (below_drew (Below.refl _ _)) hb6.out)
  clear hHeld z6 z5 HXd HRd b1 b2 b3 b4 b5 b6
  go_wp2
  go_loopw [5] (fun v5 w' => ∃ k : Nat, v5 = .int .i64 (k : Int) ∧ k ≤ s.es.length ∧ Aside0 (Below W.heap.size W w')) (fun v5 _ => s.es.length - (intOf v5).toNat)
  case atStart => exact ⟨0, rfl, Nat.zero_le _, HB6⟩
  case round =>
    obtain ⟨k, rfl, hk, HB⟩ := hrel
    clear HB6 hb6 hb4
    have HXr := Aside0.mk (HX.out.below HB.out)
    have HRr := Aside0.mk (HR.out.below HB.out)
    have c5 := HRr.out.fld 5 rfl
    by_cases hlt : k < s.es.length
    · have HG1 := Aside0.mk (HXr.out.guest1 hlt)
      obtain ⟨gu, hgu⟩ : ∃ gu, gu = (s.ent k).gu := ⟨_, rfl⟩
      obtain ⟨ix, hix⟩ : ∃ ix, ix = (s.ent k).ix := ⟨_, rfl⟩
      obtain ⟨ho, hho⟩ : ∃ ho, ho = homeOf s k := ⟨_, rfl⟩
      obtain ⟨rn, hrn⟩ : ∃ rn, rn = (s.ent k).rn := ⟨_, rfl⟩
      obtain ⟨cd, hcd⟩ : ∃ cd, cd = (s.ent k).cd := ⟨_, rfl⟩
      rw [← hgu, ← hix] at HG1
      have HGU := Aside0.mk hgu
      have HIX := Aside0.mk hix
      have HHH := Aside0.mk hho
      have HRR := Aside0.mk hrn
      have HCC := Aside0.mk hcd
      clear hgu hix hho hrn hcd
      have a1 : (gu != gu) = false := by simp
      have a2 : (gu == gu) = true := by simp
      have a3 : (ix != ix) = false := by simp
      have a4 : (ix == ix) = true := by simp
      have a5 : (ho != ho) = false := by simp
      have a6 : (ho == ho) = true := by simp
      have a7 : (rn != rn) = false := by simp
      have a8 : (rn == rn) = true := by simp
      have a9 : (cd != cd) = false := by simp
      have a10 : (cd == cd) = true := by simp
      go_upto_region 7 with (go_at_call 22; refine HG1.out.mono ?_; rintro e w2 ⟨rfl, hb2⟩; have HB2 := Aside0.mk hb2; clear hb2)
      have HXq := Aside0.mk ((HXr.out.below HB2.out).below (below_drew (Below.refl _ _)))
      have HRq := Aside0.mk ((HRr.out.below HB2.out).below (below_drew (Below.refl _ _)))
      have HHO := Aside0.mk (HXq.out.home1 hlt)
      have HRN := Aside0.mk (fun w hb => (HXq.out.below (W' := w) hb).ran1 hlt)
      have HCD := Aside0.mk (fun w hb => (HXq.out.below (W' := w) hb).cred1 hlt)
      rw [← HHH.out] at HHO
      rw [← HRR.out] at HRN
      rw [← HCC.out] at HCD
      have y5 : w2.drew.cell? ⟨L.b, 5, none⟩ = some (.slice (some ⟨L.be, 0, none⟩) s.es.length L.ce) := HRq.out.fld 5 rfl
      have y0 : w2.drew.cell? ⟨L.be, k * 9, none⟩ = some (.int .i64 gu) := by rw [HGU.out]; exact HRq.out.ent k 0 hlt (by decide) rfl
      have y1 : w2.drew.cell? ⟨L.be, k * 9 + 1, none⟩ = some (.int .i64 ix) := by rw [HIX.out]; exact HRq.out.ent k 1 hlt (by decide) rfl
      have y2 : w2.drew.cell? ⟨L.be, k * 9 + 2, none⟩ = some (.int .i64 ho) := by rw [HHH.out]; exact HRq.out.ent k 2 hlt (by decide) rfl
      have y6 : w2.drew.cell? ⟨L.be, k * 9 + 6, none⟩ = some (.int .u64 rn) := by rw [HRR.out]; exact HRq.out.ent k 6 hlt (by decide) rfl
      have y7 : w2.drew.cell? ⟨L.be, k * 9 + 7, none⟩ = some (.int .i64 cd) := by rw [HCC.out]; exact HRq.out.ent k 7 hlt (by decide) rfl
      clear c5
      refine start_ (n := 64) (S := fun w' => w'.cell? ⟨L.b, 5, none⟩ = some (.slice (some ⟨L.be, 0, none⟩) s.es.length L.ce) ∧ w'.cell? ⟨L.be, k * 9, none⟩ = some (.int .i64 gu) ∧ w'.cell? ⟨L.be, k * 9 + 1, none⟩ = some (.int .i64 ix) ∧ w'.cell? ⟨L.be, k * 9 + 2, none⟩ = some (.int .i64 ho) ∧ w'.cell? ⟨L.be, k * 9 + 6, none⟩ = some (.int .u64 rn) ∧ w'.cell? ⟨L.be, k * 9 + 7, none⟩ = some (.int .i64 cd)) (ds := []) (bl 64 0) (by kernel_rfl) rfl rfl ⟨y5, y0, y1, y2, y6, y7⟩ (fun hHeld => ?_)
      refine pure_ (i := 0) (N := some 48) (v := ?_) (a' := ?_) (bl 64 1) rfl rfl (by kernel_rfl) (fun _ _ _ h => h) (Or.inl ⟨by rfl, ?_⟩) ?_ ?_
      rotate_left
      · intro w'
        go_simp
        with_reducible rfl
      rotate_left
      · simp only [Act.put, lsa, lsz, lsc, i64_w, i32_w]
        rfl
      refine pure_ (i := 1) (N := some 49) (v := ?_) (a' := ?_) (bl 64 3) rfl rfl (by kernel_rfl) (fun _ _ _ h => h) (Or.inl ⟨by rfl, ?_⟩) ?_ ?_
      rotate_left
      · intro w'
        go_simp
        with_reducible rfl
      rotate_left
      · simp only [Act.put, lsa, lsz, lsc, i64_w, i32_w]
        rfl
      refine pure_ (i := 2) (N := some 50) (v := ?_) (a' := ?_) (bl 64 7) rfl rfl (by kernel_rfl) (fun _ _ _ h => h) (Or.inl ⟨by rfl, ?_⟩) ?_ ?_
      rotate_left
      · intro w'
        go_simp
        with_reducible rfl
      rotate_left
      · simp only [Act.put, lsa, lsz, lsc, i64_w, i32_w]
        rfl
      refine pure_ (i := 3) (N := some 51) (v := ?_) (a' := ?_) (bl 64 15) rfl rfl (by kernel_rfl) (fun _ _ _ h => h) (Or.inl ⟨by rfl, ?_⟩) ?_ ?_
      rotate_left
      · intro w'
        go_simp
        with_reducible rfl
      rotate_left
      · simp only [Act.put, lsa, lsz, lsc, i64_w, i32_w]
        rfl
      refine pure_ (i := 5) (N := some 53) (v := ?_) (a' := ?_) (bl 64 47) rfl rfl (by kernel_rfl) (fun _ _ _ h => h) (Or.inl ⟨by rfl, ?_⟩) ?_ ?_
      rotate_left
      · intro w'
        go_simp
        with_reducible rfl
      rotate_left
      · simp only [Act.put, lsa, lsz, lsc, i64_w, i32_w]
        rfl
      refine take_ (i := 4) (N := some 52) (v := ?_) (a' := ?_) (bl 64 63) rfl rfl (by kernel_rfl) (fun _ _ _ h => h) (Or.inl ⟨by rfl, ?_⟩) hHeld ?_ ?_
      rotate_left
      · rintro w' ⟨s0, s1, s2, s3, s4, s5⟩
        go_simp
        with_reducible rfl
      rotate_left
      · simp only [Act.put, lsa, lsz, lsc, i64_w, i32_w]
        rfl
      refine pure_ (i := 6) (N := some 54) (v := ?_) (a' := ?_) (bl 64 127) rfl rfl (by kernel_rfl) (fun _ _ _ h => h) (Or.inl ⟨by rfl, ?_⟩) ?_ ?_
      rotate_left
      · intro w'
        go_simp
        with_reducible rfl
      rotate_left
      · simp only [Act.put, lsa, lsz, lsc, i64_w, i32_w]
        rfl
      refine pure_ (i := 7) (N := some 55) (v := ?_) (a' := ?_) (bl 64 255) rfl rfl (by kernel_rfl) (fun _ _ _ h => h) (Or.inl ⟨by rfl, ?_⟩) ?_ ?_
      rotate_left
      · intro w'
        go_simp
        with_reducible rfl
      rotate_left
      · simp only [Act.put, lsa, lsz, lsc, i64_w, i32_w]
        rfl
      refine take_ (i := 8) (N := some 56) (v := ?_) (a' := ?_) (bl 64 511) rfl rfl (by kernel_rfl) (fun _ _ _ h => h) (Or.inl ⟨by rfl, ?_⟩) hHeld ?_ ?_
      rotate_left
      · rintro w' ⟨s0, s1, s2, s3, s4, s5⟩
        go_simp
        with_reducible rfl
      rotate_left
      · simp only [Act.put, lsa, lsz, lsc, i64_w, i32_w]
        rfl
      refine pure_ (i := 9) (N := some 57) (v := ?_) (a' := ?_) (bl 64 1023) rfl rfl (by kernel_rfl) (fun _ _ _ h => h) (Or.inl ⟨by rfl, ?_⟩) ?_ ?_
      rotate_left
      · intro w'
        go_simp
        with_reducible rfl
      rotate_left
      · simp only [Act.put, lsa, lsz, lsc, i64_w, i32_w]
        rfl
      refine pure_ (i := 10) (N := some 58) (v := ?_) (a' := ?_) (bl 64 2047) rfl rfl (by kernel_rfl) (fun _ _ _ h => h) (Or.inl ⟨by rfl, ?_⟩) ?_ ?_
      rotate_left
      · intro w'
        go_simp
        with_reducible rfl
      rotate_left
      · simp only [Act.put, lsa, lsz, lsc, i64_w, i32_w]
        rfl
      as_aux_lemma =>
        refine pure_ (i := 11) (N := some 59) (v := ?_) (a' := ?_) (bl 64 4095) rfl rfl (by kernel_rfl) (fun _ _ _ h => h) (Or.inl ⟨by rfl, ?_⟩) ?_ ?_
        rotate_left
        · intro w'
          go_simp
          with_reducible rfl
        rotate_left
        · simp only [Act.put, lsa, lsz, lsc, i64_w, i32_w]
          rfl
        refine pure_ (i := 12) (N := some 60) (v := ?_) (a' := ?_) (bl 64 8191) rfl rfl (by kernel_rfl) (fun _ _ _ h => h) (Or.inl ⟨by rfl, ?_⟩) ?_ ?_
        rotate_left
        · intro w'
          go_simp
          with_reducible rfl
        rotate_left
        · simp only [Act.put, lsa, lsz, lsc, i64_w, i32_w]
          rfl
        refine pure_ (i := 13) (N := some 61) (v := ?_) (a' := ?_) (bl 64 16383) rfl rfl (by kernel_rfl) (fun _ _ _ h => h) (Or.inl ⟨by rfl, ?_⟩) ?_ ?_
        rotate_left
        · intro w'
          go_simp
          with_reducible rfl
        rotate_left
        · simp only [Act.put, lsa, lsz, lsc, i64_w, i32_w]
          rfl
        refine pure_ (i := 14) (N := some 62) (v := ?_) (a' := ?_) (bl 64 32767) rfl rfl (by kernel_rfl) (fun _ _ _ h => h) (Or.inl ⟨by rfl, ?_⟩) ?_ ?_
        rotate_left
        · intro w'
          go_simp
          with_reducible rfl
        rotate_left
        · simp only [Act.put, lsa, lsz, lsc, i64_w, i32_w]
          rfl
        refine pure_ (i := 16) (N := some 64) (v := ?_) (a' := ?_) (bl 64 98303) rfl rfl (by kernel_rfl) (fun _ _ _ h => h) (Or.inl ⟨by rfl, ?_⟩) ?_ ?_
        rotate_left
        · intro w'
          go_simp
          with_reducible rfl
        rotate_left
        · simp only [Act.put, lsa, lsz, lsc, i64_w, i32_w]
          rfl
        refine take_ (i := 15) (N := some 63) (v := ?_) (a' := ?_) (bl 64 131071) rfl rfl (by kernel_rfl) (fun _ _ _ h => h) (Or.inl ⟨by rfl, ?_⟩) hHeld ?_ ?_
        rotate_left
        · rintro w' ⟨s0, s1, s2, s3, s4, s5⟩
          go_simp
          with_reducible rfl
        rotate_left
        · simp only [Act.put, lsa, lsz, lsc, i64_w, i32_w]
          rfl
        refine pure_ (i := 17) (N := some 65) (v := ?_) (a' := ?_) (bl 64 262143) rfl rfl (by kernel_rfl) (fun _ _ _ h => h) (Or.inl ⟨by rfl, ?_⟩) ?_ ?_
        rotate_left
        · intro w'
          go_simp
          with_reducible rfl
        rotate_left
        · simp only [Act.put, lsa, lsz, lsc, i64_w, i32_w]
          rfl
        refine pure_ (i := 18) (N := some 66) (v := ?_) (a' := ?_) (bl 64 524287) rfl rfl (by kernel_rfl) (fun _ _ _ h => h) (Or.inl ⟨by rfl, ?_⟩) ?_ ?_
        rotate_left
        · intro w'
          go_simp
          with_reducible rfl
        rotate_left
        · simp only [Act.put, lsa, lsz, lsc, i64_w, i32_w]
          rfl
        refine take_ (i := 19) (N := some 67) (v := ?_) (a' := ?_) (bl 64 1048575) rfl rfl (by kernel_rfl) (fun _ _ _ h => h) (Or.inl ⟨by rfl, ?_⟩) hHeld ?_ ?_
        rotate_left
        · rintro w' ⟨s0, s1, s2, s3, s4, s5⟩
          go_simp
          with_reducible rfl
        rotate_left
        · simp only [Act.put, lsa, lsz, lsc, i64_w, i32_w]
          rfl
        refine pure_ (i := 20) (N := some 68) (v := ?_) (a' := ?_) (bl 64 2097151) rfl rfl (by kernel_rfl) (fun _ _ _ h => h) (Or.inl ⟨by rfl, ?_⟩) ?_ ?_
        rotate_left
        · intro w'
          go_simp
          with_reducible rfl
        rotate_left
        · simp only [Act.put, lsa, lsz, lsc, i64_w, i32_w]
          rfl
        refine pure_ (i := 21) (N := some 69) (v := ?_) (a' := ?_) (bl 64 4194303) rfl rfl (by kernel_rfl) (fun _ _ _ h => h) (Or.inl ⟨by rfl, ?_⟩) ?_ ?_
        rotate_left
        · intro w'
          go_simp
          with_reducible rfl
        rotate_left
        · simp only [Act.put, lsa, lsz, lsc, i64_w, i32_w]
          rfl
        refine pure_ (i := 22) (N := some 70) (v := ?_) (a' := ?_) (bl 64 8388607) rfl rfl (by kernel_rfl) (fun _ _ _ h => h) (Or.inl ⟨by rfl, ?_⟩) ?_ ?_
        rotate_left
        · intro w'
          go_simp
          with_reducible rfl
        rotate_left
        · simp only [Act.put, lsa, lsz, lsc, i64_w, i32_w]
          rfl
        as_aux_lemma =>
          refine pure_ (i := 23) (N := some 71) (v := ?_) (a' := ?_) (bl 64 16777215) rfl rfl (by kernel_rfl) (fun _ _ _ h => h) (Or.inl ⟨by rfl, ?_⟩) ?_ ?_
          rotate_left
          · intro w'
            go_simp
            with_reducible rfl
          rotate_left
          · simp only [Act.put, lsa, lsz, lsc, i64_w, i32_w]
            rfl
          refine pure_ (i := 24) (N := some 72) (v := ?_) (a' := ?_) (bl 64 33554431) rfl rfl (by kernel_rfl) (fun _ _ _ h => h) (Or.inl ⟨by rfl, ?_⟩) ?_ ?_
          rotate_left
          · intro w'
            go_simp
            with_reducible rfl
          rotate_left
          · simp only [Act.put, lsa, lsz, lsc, i64_w, i32_w]
            rfl
          refine pure_ (i := 26) (N := some 74) (v := ?_) (a' := ?_) (bl 64 100663295) rfl rfl (by kernel_rfl) (fun _ _ _ h => h) (Or.inl ⟨by rfl, ?_⟩) ?_ ?_
          rotate_left
          · intro w'
            go_simp
            with_reducible rfl
          rotate_left
          · simp only [Act.put, lsa, lsz, lsc, i64_w, i32_w]
            rfl
          refine pure_ (i := 27) (N := some 75) (v := ?_) (a' := ?_) (bl 64 234881023) rfl rfl (by kernel_rfl) (fun _ _ _ h => h) (Or.inl ⟨by rfl, ?_⟩) ?_ ?_
          rotate_left
          · intro w'
            go_simp
            with_reducible rfl
          rotate_left
          · simp only [Act.put, lsa, lsz, lsc, i64_w, i32_w]
            rfl
          refine pure_ (i := 28) (N := some 76) (v := ?_) (a' := ?_) (bl 64 503316479) rfl rfl (by kernel_rfl) (fun _ _ _ h => h) (Or.inl ⟨by rfl, ?_⟩) ?_ ?_
          rotate_left
          · intro w'
            go_simp
            with_reducible rfl
          rotate_left
          · simp only [Act.put, lsa, lsz, lsc, i64_w, i32_w]
            rfl
          refine pure_ (i := 30) (N := some 78) (v := ?_) (a' := ?_) (bl 64 1577058303) rfl rfl (by kernel_rfl) (fun _ _ _ h => h) (Or.inl ⟨by rfl, ?_⟩) ?_ ?_
          rotate_left
          · intro w'
            go_simp
            with_reducible rfl
          rotate_left
          · simp only [Act.put, lsa, lsz, lsc, i64_w, i32_w]
            rfl
          refine take_ (i := 29) (N := some 77) (v := ?_) (a' := ?_) (bl 64 2113929215) rfl rfl (by kernel_rfl) (fun _ _ _ h => h) (Or.inl ⟨by rfl, ?_⟩) hHeld ?_ ?_
          rotate_left
          · rintro w' ⟨s0, s1, s2, s3, s4, s5⟩
            go_simp
            with_reducible rfl
          rotate_left
          · simp only [Act.put, lsa, lsz, lsc, i64_w, i32_w]
            rfl
          refine pure_ (i := 31) (N := some 79) (v := ?_) (a' := ?_) (bl 64 4261412863) rfl rfl (by kernel_rfl) (fun _ _ _ h => h) (Or.inl ⟨by rfl, ?_⟩) ?_ ?_
          rotate_left
          · intro w'
            go_simp
            with_reducible rfl
          rotate_left
          · simp only [Act.put, lsa, lsz, lsc, i64_w, i32_w]
            rfl
          refine pure_ (i := 32) (N := some 80) (v := ?_) (a' := ?_) (bl 64 8556380159) rfl rfl (by kernel_rfl) (fun _ _ _ h => h) (Or.inl ⟨by rfl, ?_⟩) ?_ ?_
          rotate_left
          · intro w'
            go_simp
            with_reducible rfl
          rotate_left
          · simp only [Act.put, lsa, lsz, lsc, i64_w, i32_w]
            rfl
          refine take_ (i := 33) (N := some 81) (v := ?_) (a' := ?_) (bl 64 17146314751) rfl rfl (by kernel_rfl) (fun _ _ _ h => h) (Or.inl ⟨by rfl, ?_⟩) hHeld ?_ ?_
          rotate_left
          · rintro w' ⟨s0, s1, s2, s3, s4, s5⟩
            go_simp
            with_reducible rfl
          rotate_left
          · simp only [Act.put, lsa, lsz, lsc, i64_w, i32_w]
            rfl
          refine one_ (i := 25) (N := some 73) (bl 64 17179869183) rfl rfl (by kernel_rfl) (by decide) (fun K hK => ?_)
          refine goes_ Try.func24 (by kernel_rfl) rfl #[.pointer (some ⟨b, 0, none⟩), .int .i64 (k : Int)] (by rfl) rfl rfl (by simp only [List.map_toArray, List.map_cons, List.map_nil]; rfl) ?_
          with_reducible refine (HHO.out).mono ?_
          rintro e w8 ⟨rfl, hb8⟩
          refine ⟨_, rfl, ?_⟩
          refine hK.out _ _ ⟨pw_cell_below hb8 y5, pw_cell_below hb8 y0, pw_cell_below hb8 y1, pw_cell_below hb8 y2, pw_cell_below hb8 y6, pw_cell_below hb8 y7⟩ (fun hHeld => ?_)
          clear hK K
          refine norm_ (a' := ?_) ?_ ?_
          rotate_left
          · show Act.put _ (some 73) _ = _
            simp only [Act.put, lsa, lsz, lsc, i64_w, i32_w]
            rfl
          refine pure_ (i := 34) (N := some 82) (v := ?_) (a' := ?_) (bl 64 34359738367) rfl rfl (by kernel_rfl) (fun _ _ _ h => h) (Or.inl ⟨by rfl, ?_⟩) ?_ ?_
          rotate_left
          · intro w'
            go_simp
            with_reducible rfl
          rotate_left
          · simp only [Act.put, lsa, lsz, lsc, i64_w, i32_w]
            rfl
          as_aux_lemma =>
            refine pure_ (i := 35) (N := some 83) (v := ?_) (a' := ?_) (bl 64 68719476735) rfl rfl (by kernel_rfl) (fun _ _ _ h => h) (Or.inl ⟨by rfl, ?_⟩) ?_ ?_
            rotate_left
            · intro w'
              go_simp
              with_reducible rfl
            rotate_left
            · simp only [Act.put, lsa, lsz, lsc, i64_w, i32_w]
              rfl
            refine pure_ (i := 36) (N := some 84) (v := ?_) (a' := ?_) (bl 64 137438953471) rfl rfl (by kernel_rfl) (fun _ _ _ h => h) (Or.inl ⟨by rfl, ?_⟩) ?_ ?_
            rotate_left
            · intro w'
              go_simp
              with_reducible rfl
            rotate_left
            · simp only [Act.put, lsa, lsz, lsc, i64_w, i32_w]
              rfl
            refine pure_ (i := 37) (N := some 85) (v := ?_) (a' := ?_) (bl 64 274877906943) rfl rfl (by kernel_rfl) (fun _ _ _ h => h) (Or.inl ⟨by rfl, ?_⟩) ?_ ?_
            rotate_left
            · intro w'
              go_simp
              with_reducible rfl
            rotate_left
            · simp only [Act.put, lsa, lsz, lsc, i64_w, i32_w]
              rfl
            refine pure_ (i := 38) (N := some 86) (v := ?_) (a' := ?_) (bl 64 549755813887) rfl rfl (by kernel_rfl) (fun _ _ _ h => h) (Or.inl ⟨by rfl, ?_⟩) ?_ ?_
            rotate_left
            · intro w'
              go_simp
              with_reducible rfl
            rotate_left
            · simp only [Act.put, lsa, lsz, lsc, i64_w, i32_w]
              rfl
            refine pure_ (i := 40) (N := some 88) (v := ?_) (a' := ?_) (bl 64 1649267441663) rfl rfl (by kernel_rfl) (fun _ _ _ h => h) (Or.inl ⟨by rfl, ?_⟩) ?_ ?_
            rotate_left
            · intro w'
              go_simp
              with_reducible rfl
            rotate_left
            · simp only [Act.put, lsa, lsz, lsc, i64_w, i32_w]
              rfl
            refine pure_ (i := 41) (N := some 89) (v := ?_) (a' := ?_) (bl 64 3848290697215) rfl rfl (by kernel_rfl) (fun _ _ _ h => h) (Or.inl ⟨by rfl, ?_⟩) ?_ ?_
            rotate_left
            · intro w'
              go_simp
              with_reducible rfl
            rotate_left
            · simp only [Act.put, lsa, lsz, lsc, i64_w, i32_w]
              rfl
            refine pure_ (i := 42) (N := some 90) (v := ?_) (a' := ?_) (bl 64 8246337208319) rfl rfl (by kernel_rfl) (fun _ _ _ h => h) (Or.inl ⟨by rfl, ?_⟩) ?_ ?_
            rotate_left
            · intro w'
              go_simp
              with_reducible rfl
            rotate_left
            · simp only [Act.put, lsa, lsz, lsc, i64_w, i32_w]
              rfl
            refine pure_ (i := 44) (N := some 92) (v := ?_) (a' := ?_) (bl 64 25838523252735) rfl rfl (by kernel_rfl) (fun _ _ _ h => h) (Or.inl ⟨by rfl, ?_⟩) ?_ ?_
            rotate_left
            · intro w'
              go_simp
              with_reducible rfl
            rotate_left
            · simp only [Act.put, lsa, lsz, lsc, i64_w, i32_w]
              rfl
            refine take_ (i := 43) (N := some 91) (v := ?_) (a' := ?_) (bl 64 34634616274943) rfl rfl (by kernel_rfl) (fun _ _ _ h => h) (Or.inl ⟨by rfl, ?_⟩) hHeld ?_ ?_
            rotate_left
            · rintro w' ⟨s0, s1, s2, s3, s4, s5⟩
              go_simp
              with_reducible rfl
            rotate_left
            · simp only [Act.put, lsa, lsz, lsc, i64_w, i32_w]
              rfl
            refine pure_ (i := 45) (N := some 93) (v := ?_) (a' := ?_) (bl 64 69818988363775) rfl rfl (by kernel_rfl) (fun _ _ _ h => h) (Or.inl ⟨by rfl, ?_⟩) ?_ ?_
            rotate_left
            · intro w'
              go_simp
              with_reducible rfl
            rotate_left
            · simp only [Act.put, lsa, lsz, lsc, i64_w, i32_w]
              rfl
            refine pure_ (i := 46) (N := some 94) (v := ?_) (a' := ?_) (bl 64 140187732541439) rfl rfl (by kernel_rfl) (fun _ _ _ h => h) (Or.inl ⟨by rfl, ?_⟩) ?_ ?_
            rotate_left
            · intro w'
              go_simp
              with_reducible rfl
            rotate_left
            · simp only [Act.put, lsa, lsz, lsc, i64_w, i32_w]
              rfl
            refine take_ (i := 47) (N := some 95) (v := ?_) (a' := ?_) (bl 64 280925220896767) rfl rfl (by kernel_rfl) (fun _ _ _ h => h) (Or.inl ⟨by rfl, ?_⟩) hHeld ?_ ?_
            rotate_left
            · rintro w' ⟨s0, s1, s2, s3, s4, s5⟩
              go_simp
              with_reducible rfl
            rotate_left
            · simp only [Act.put, lsa, lsz, lsc, i64_w, i32_w]
              rfl
            as_aux_lemma =>
              refine one_ (i := 39) (N := some 87) (bl 64 281474976710655) rfl rfl (by kernel_rfl) (by decide) (fun K hK => ?_)
              refine goes_ Try.func26 (by kernel_rfl) rfl #[.pointer (some ⟨b, 0, none⟩), .int .i64 (k : Int)] (by rfl) rfl rfl (by simp only [List.map_toArray, List.map_cons, List.map_nil]; rfl) ?_
              with_reducible refine (HRN.out w8 hb8).mono ?_
              rintro e w9 ⟨rfl, rfl⟩
              refine ⟨_, rfl, ?_⟩
              refine hK.out _ _ ⟨pw_cell_below hb8 y5, pw_cell_below hb8 y0, pw_cell_below hb8 y1, pw_cell_below hb8 y2, pw_cell_below hb8 y6, pw_cell_below hb8 y7⟩ (fun hHeld => ?_)
              clear hK K
              refine norm_ (a' := ?_) ?_ ?_
              rotate_left
              · show Act.put _ (some 87) _ = _
                simp only [Act.put, lsa, lsz, lsc, i64_w, i32_w]
                rfl
              refine pure_ (i := 48) (N := some 96) (v := ?_) (a' := ?_) (bl 64 562949953421311) rfl rfl (by kernel_rfl) (fun _ _ _ h => h) (Or.inl ⟨by rfl, ?_⟩) ?_ ?_
              rotate_left
              · intro w'
                go_simp
                with_reducible rfl
              rotate_left
              · simp only [Act.put, lsa, lsz, lsc, i64_w, i32_w]
                rfl
              refine pure_ (i := 49) (N := some 97) (v := ?_) (a' := ?_) (bl 64 1125899906842623) rfl rfl (by kernel_rfl) (fun _ _ _ h => h) (Or.inl ⟨by rfl, ?_⟩) ?_ ?_
              rotate_left
              · intro w'
                go_simp
                with_reducible rfl
              rotate_left
              · simp only [Act.put, lsa, lsz, lsc, i64_w, i32_w]
                rfl
              refine pure_ (i := 50) (N := some 98) (v := ?_) (a' := ?_) (bl 64 2251799813685247) rfl rfl (by kernel_rfl) (fun _ _ _ h => h) (Or.inl ⟨by rfl, ?_⟩) ?_ ?_
              rotate_left
              · intro w'
                go_simp
                with_reducible rfl
              rotate_left
              · simp only [Act.put, lsa, lsz, lsc, i64_w, i32_w]
                rfl
              refine pure_ (i := 51) (N := some 99) (v := ?_) (a' := ?_) (bl 64 4503599627370495) rfl rfl (by kernel_rfl) (fun _ _ _ h => h) (Or.inl ⟨by rfl, ?_⟩) ?_ ?_
              rotate_left
              · intro w'
                go_simp
                with_reducible rfl
              rotate_left
              · simp only [Act.put, lsa, lsz, lsc, i64_w, i32_w]
                rfl
              refine pure_ (i := 52) (N := some 100) (v := ?_) (a' := ?_) (bl 64 9007199254740991) rfl rfl (by kernel_rfl) (fun _ _ _ h => h) (Or.inl ⟨by rfl, ?_⟩) ?_ ?_
              rotate_left
              · intro w'
                go_simp
                with_reducible rfl
              rotate_left
              · simp only [Act.put, lsa, lsz, lsc, i64_w, i32_w]
                rfl
              refine pure_ (i := 54) (N := some 102) (v := ?_) (a' := ?_) (bl 64 27021597764222975) rfl rfl (by kernel_rfl) (fun _ _ _ h => h) (Or.inl ⟨by rfl, ?_⟩) ?_ ?_
              rotate_left
              · intro w'
                go_simp
                with_reducible rfl
              rotate_left
              · simp only [Act.put, lsa, lsz, lsc, i64_w, i32_w]
                rfl
              refine pure_ (i := 55) (N := some 103) (v := ?_) (a' := ?_) (bl 64 63050394783186943) rfl rfl (by kernel_rfl) (fun _ _ _ h => h) (Or.inl ⟨by rfl, ?_⟩) ?_ ?_
              rotate_left
              · intro w'
                go_simp
                with_reducible rfl
              rotate_left
              · simp only [Act.put, lsa, lsz, lsc, i64_w, i32_w]
                rfl
              refine pure_ (i := 56) (N := some 104) (v := ?_) (a' := ?_) (bl 64 135107988821114879) rfl rfl (by kernel_rfl) (fun _ _ _ h => h) (Or.inl ⟨by rfl, ?_⟩) ?_ ?_
              rotate_left
              · intro w'
                go_simp
                with_reducible rfl
              rotate_left
              · simp only [Act.put, lsa, lsz, lsc, i64_w, i32_w]
                rfl
              refine pure_ (i := 58) (N := some 106) (v := ?_) (a' := ?_) (bl 64 423338364972826623) rfl rfl (by kernel_rfl) (fun _ _ _ h => h) (Or.inl ⟨by rfl, ?_⟩) ?_ ?_
              rotate_left
              · intro w'
                go_simp
                with_reducible rfl
              rotate_left
              · simp only [Act.put, lsa, lsz, lsc, i64_w, i32_w]
                rfl
              refine take_ (i := 57) (N := some 105) (v := ?_) (a' := ?_) (bl 64 567453553048682495) rfl rfl (by kernel_rfl) (fun _ _ _ h => h) (Or.inl ⟨by rfl, ?_⟩) hHeld ?_ ?_
              rotate_left
              · rintro w' ⟨s0, s1, s2, s3, s4, s5⟩
                go_simp
                with_reducible rfl
              rotate_left
              · simp only [Act.put, lsa, lsz, lsc, i64_w, i32_w]
                rfl
              refine pure_ (i := 59) (N := some 107) (v := ?_) (a' := ?_) (bl 64 1143914305352105983) rfl rfl (by kernel_rfl) (fun _ _ _ h => h) (Or.inl ⟨by rfl, ?_⟩) ?_ ?_
              rotate_left
              · intro w'
                go_simp
                with_reducible rfl
              rotate_left
              · simp only [Act.put, lsa, lsz, lsc, i64_w, i32_w]
                rfl
              as_aux_lemma =>
                refine pure_ (i := 60) (N := some 108) (v := ?_) (a' := ?_) (bl 64 2296835809958952959) rfl rfl (by kernel_rfl) (fun _ _ _ h => h) (Or.inl ⟨by rfl, ?_⟩) ?_ ?_
                rotate_left
                · intro w'
                  go_simp
                  with_reducible rfl
                rotate_left
                · simp only [Act.put, lsa, lsz, lsc, i64_w, i32_w]
                  rfl
                refine take_ (i := 61) (N := some 109) (v := ?_) (a' := ?_) (bl 64 4602678819172646911) rfl rfl (by kernel_rfl) (fun _ _ _ h => h) (Or.inl ⟨by rfl, ?_⟩) hHeld ?_ ?_
                rotate_left
                · rintro w' ⟨s0, s1, s2, s3, s4, s5⟩
                  go_simp
                  with_reducible rfl
                rotate_left
                · simp only [Act.put, lsa, lsz, lsc, i64_w, i32_w]
                  rfl
                refine one_ (i := 53) (N := some 101) (bl 64 4611686018427387903) rfl rfl (by kernel_rfl) (by decide) (fun K hK => ?_)
                refine goes_ Try.func29 (by kernel_rfl) rfl #[.pointer (some ⟨b, 0, none⟩), .int .i64 (k : Int)] (by rfl) rfl rfl (by simp only [List.map_toArray, List.map_cons, List.map_nil]; rfl) ?_
                with_reducible refine (HCD.out w8 hb8).mono ?_
                rintro e w9 ⟨rfl, rfl⟩
                refine ⟨_, rfl, ?_⟩
                refine hK.out _ _ ⟨pw_cell_below hb8 y5, pw_cell_below hb8 y0, pw_cell_below hb8 y1, pw_cell_below hb8 y2, pw_cell_below hb8 y6, pw_cell_below hb8 y7⟩ (fun hHeld => ?_)
                clear hK K
                refine norm_ (a' := ?_) ?_ ?_
                rotate_left
                · show Act.put _ (some 101) _ = _
                  simp only [Act.put, lsa, lsz, lsc, i64_w, i32_w]
                  rfl
                refine pure_ (i := 62) (N := some 110) (v := ?_) (a' := ?_) (bl 64 9223372036854775807) rfl rfl (by kernel_rfl) (fun _ _ _ h => h) (Or.inl ⟨by rfl, ?_⟩) ?_ ?_
                rotate_left
                · intro w'
                  go_simp
                  with_reducible rfl
                rotate_left
                · simp only [Act.put, lsa, lsz, lsc, i64_w, i32_w]
                  rfl
                refine pure_ (i := 63) (N := some 111) (v := ?_) (a' := ?_) (bl 64 18446744073709551615) rfl rfl (by kernel_rfl) (fun _ _ _ h => h) (Or.inl ⟨by rfl, ?_⟩) ?_ ?_
                rotate_left
                · intro w'
                  go_simp
                  with_reducible rfl
                rotate_left
                · simp only [Act.put, lsa, lsz, lsc, i64_w, i32_w]
                  rfl
                refine done_ (by kernel_rfl) ?_
                have HB9 := Aside0.mk (below_step HB.out (below_step HB2.out (below_step (below_drew (Below.refl _ _)) hb8)))
                clear hHeld y5 y0 y1 y2 y6 y7 HXq HRq HHO HRN HCD hb8
                go_wp2
                go_roundw
                case rel => exact ⟨k + 1, by go_num, by omega, HB9⟩
                case measure => (simp [intOf] <;> omega)
    · go_wp2
      go_loopw [8] (fun v8 w' => ∃ g : Nat, v8 = .int .i64 (g : Int) ∧ g ≤ s.ch.length ∧ Aside0 (Below W.heap.size W w')) (fun v8 _ => s.ch.length - (intOf v8).toNat)
      case atStart => exact ⟨0, rfl, Nat.zero_le _, HB⟩
      case round =>
        clear c5 HXr HRr HB
        obtain ⟨g, rfl, hg, HB⟩ := hrel
        have HXr := Aside0.mk (HX.out.below HB.out)
        have HRr := Aside0.mk (HR.out.below HB.out)
        have c8 := HRr.out.fld 8 rfl
        by_cases hlg : g < s.ch.length
        · have cg := HRr.out.chg g hlg
          have HCH := Aside0.mk (fun n => (HXr.out.drewN n).chg1 hlg)
          obtain ⟨v, hv⟩ : ∃ v, v = s.ch.getD g 0 := ⟨_, rfl⟩
          rw [← hv] at cg HCH
          clear hv
          have a1 : (v != v) = false := by simp
          have a2 : (v == v) = true := by simp
          go_wp2_with (fail)
          go_quiet ((go_at_call 23; exact Calls.quiet_of_same (same_of (HCH.out _))))
          have HB9 := Aside0.mk (pw_below_drewN HB.out nq)
          go_wp2
          go_roundw
          case rel => exact ⟨g + 1, by go_num, by omega, HB9⟩
          case measure => (simp [intOf] <;> omega)
        · go_wp2
          go_ret
          exact ⟨rfl, HB.out⟩
end Go.Proofs.Ytdaadmjppikebaa.SC
