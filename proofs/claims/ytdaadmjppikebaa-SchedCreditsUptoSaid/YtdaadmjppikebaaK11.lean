import Derived.Test.YtdaadmjppikebaaK10
import Derived.Test.YtdaadmjppikebaaOpen
import Derived.WideShapes
/- Parts of the walk of package sched, merged. -/
/- SchedCredits. -/
namespace Go.Proofs.Ytdaadmjppikebaa.SC
open Go.RowKit Go.Proofs.YtdaadmjppikebaaW.PrintWords Go.Proofs.YtdaadmjppikebaaW.PrintLast
open Go.Proofs.Ytdaadmjppikebaa.PV (S94 k94 S29 k29 rd_T94 rd_T29)
set_option linter.unusedVariables false
set_option linter.unusedSimpArgs false

/-- What holds while SchedCredits ticks. -/
structure CrP (m : Nat) (S P : Int) (ys : List S29) (s : SS) (i : Int) : Prop where
  c : CQ s
  now : s.now = i
  n : NP m S P true ys s
theorem CrP.tick {W : World} {own : Nat → Prop} {b m : Nat} {S P : Int} {ys : List S29} {s : SS} {i : Int} (hx : SB W own b s) (h : CrP m S P ys s i) (hi : i ≤ 1048576) (rd : List Bool) : CrP m S P ys (tickF s rd) (i + 1) := by
  have hn := h.now
  have ht := tickF_tf rd hx.wf (by omega) hx.cntC hx.cntR
  exact ⟨tickF_cq rd hx.wf (by omega) hx.cntC hx.cntR h.c, by rw [ht.now, hn], h.n.st ht.st⟩
theorem ticksGo_gS : ∀ (gs : List SG) (ys : List S29) (P : Int), gs.length = ys.length → (∀ q : Nat, (gs.getD q g0).g = (rd_T29 ys (q : Int)).f2) → (∀ q : Nat, (gs.getD q g0).w = (rd_T29 ys (q : Int)).f1) → ticksGo gs P = P - gS ys
  | [], [], P, _, _, _ => by simp [ticksGo, gS]
  | [], _ :: _, _, h, _, _ => by simp at h
  | _ :: _, [], _, h, _, _ => by simp at h
  | x :: r, y :: ys, P, h, hg, hw => by
    have g0' : x.g = y.f2 := hg 0
    have w0' : x.w = y.f1 := hw 0
    have ih := ticksGo_gS r ys (if x.g = true then P - x.w else P) (by simpa using h) (fun q => by have := hg (q + 1); unfold rd_T29 at this ⊢; rw [Int.toNat_natCast] at this ⊢; simpa using this) (fun q => by have := hw (q + 1); unfold rd_T29 at this ⊢; rw [Int.toNat_natCast] at this ⊢; simpa using this)
    show ticksGo r (if x.g = true then P - x.w else P) = _
    rw [ih, g0', w0']
    have e : gS (y :: ys) = (if y.f2 = true then y.f1 else 0) + gS ys := by simp [gS]
    rw [e]
    split <;> omega
theorem NP.ticks {m : Nat} {S P : Int} {cr : Bool} {ys : List S29} {s : SS} (h : NP m S P cr ys s) : ticksF s = P - gS ys := by
  unfold ticksF
  rw [h.P]
  exact ticksGo_gS s.gs ys P h.gl h.gg h.gw
/-- What SchedCredits asks of an entity. -/
theorem CrP.at {W : World} {own : Nat → Prop} {b m : Nat} {S P : Int} {ys : List S29} {s : SS} {i : Int} (hx : SB W own b s) (h : CrP m S P ys s i) {k : Nat} (hk : k < s.es.length) :
    ∃ g : Nat, (s.ent k).gu = (g : Int) ∧ g < ys.length ∧ -(P - gS ys + 128) ≤ (s.ent k).cd ∧ (s.ent k).cd ≤ P - gS ys + 128 ∧ ((rd_T29 ys (g : Int)).f2 = true → (s.ent k).cd = 0) := by
  have h1 := h.c.c k hk
  have h2 := hx.wf.eg k hk
  have h3 := h.n.ticks
  have h4 := h.n.gl
  unfold limitF at h1
  rw [h3] at h1
  refine ⟨(s.ent k).gu.toNat, by omega, by omega, by omega, by omega, fun hf => h1.2.2 ?_⟩
  unfold SS.gng
  rw [h.n.gg]
  exact hf
set_option maxRecDepth 100000 in
set_option maxHeartbeats 3200000 in
theorem credits_calls {W : World} {a0 a1 a2 : Int} {a3 : Bool} {A0 : Option Addr} {c0 : Nat} {l0 : List S29} {A1 : Option Addr} {c1 : Nat} {l1 : List S48} (hC : Kd.C k29 W A0 l0.length l0) (hc : l0.length ≤ c0) (hS : Kd.C k48 W A1 l1.length l1) (hs : l1.length ≤ c1) (hs2 : l1.length ≤ 1048576) :
    Calls Try.prog 9 #[.agg #[.int .i64 a0, .int .i64 a1, .int .i64 a2, .bool a3, .slice A0 l0.length c0], .slice A1 l1.length c1] W fun x w' => x = .returned (.bool true) ∧ Below W.heap.size W w' := by
  have HSC := Aside0.mk hS
  clear hS
  obtain ⟨m, S, P, ys, hrt, hm, hS, hP, hrg⟩ := right_plain a0 a1 a2 a3 l0
  have hok := hrg.ok hm hS hP
  have hcf := conf_f ys (by have := hrg.l6; omega) (m : Int) S P true
  have hrf := right_f (cr := true) hok
  obtain ⟨gl, hgl⟩ : ∃ gl, gl = confL ys := ⟨_, rfl⟩
  rw [← hgl] at hok hcf hrf
  have HGL := Aside0.mk hgl
  have HRG := Aside0.mk hrg
  have HOK := Aside0.mk hok
  have HCF := Aside0.mk hcf
  have HRF := Aside0.mk hrf
  have HRT := Aside0.mk hrt
  have HC0 := Aside0.mk hC
  have HL0 := Aside0.mk hc
  clear hok hcf hrf hgl hrg hrt hC hc
  go_enter Try.func9, Try.ntmps9
  go_upto_region 2 with (first | ((with_reducible refine gate_dst (N := 2) rfl ?_); (try (refine gate_guard (by rfl) ?_; dsimp only)); refine box_event ?hg (N := 2) ?hd (cs := #[.int .i64 a0, .int .i64 a1, .int .i64 a2, .bool a3, .slice A0 l0.length c0]) (t := 27) ?hr ?_; (case hd => rfl); (case hg => rfl); (case hr => first | (go_simp; done) | (go_simp; rfl)); intro gb hg w1 hbox hb; have z0 : w1.cell? ⟨gb, 0, none⟩ = some (.int .i64 a0) := (blk_cell hbox 0).trans rfl; have z1 : w1.cell? ⟨gb, 1, none⟩ = some (.int .i64 a1) := (blk_cell hbox 1).trans rfl; have z2 : w1.cell? ⟨gb, 2, none⟩ = some (.int .i64 a2) := (blk_cell hbox 2).trans rfl; have z3 : w1.cell? ⟨gb, 3, none⟩ = some (.bool a3) := (blk_cell hbox 3).trans rfl; have z4 : w1.cell? ⟨gb, 4, none⟩ = some (.slice A0 l0.length c0) := (blk_cell hbox 4).trans rfl; have HBX := Aside0.mk hbox; have HGB := Aside0.mk hg; have HB1 := Aside0.mk hb; clear hg hbox hb) | (go_at_call 20; with_reducible refine (PV.citadellaw18_right.calls 20 a0 a1 a2 a3 A0 c0 l0 (m : Int) S P a3 ys _ (Kd.C_below HC0.out HB1.out) HL0.out HRT.out).mono ?_; rintro e w2 ⟨v4, rfl, hs2, hb2⟩; obtain ⟨Ag, cg, e4⟩ := Kd.R_slice hs2; subst e4; have HR2 := Aside0.mk hs2; have HB2 := Aside0.mk hb2; have HBK := Aside0.mk ((blkbox HBX.out).below hb2); have y0 : w2.cell? ⟨gb, 0, none⟩ = some (.int .i64 a0) := HBK.out.cell rfl; have yf0 : w2.frozen? ⟨gb, 0, none⟩ = false := HBK.out.frozen _; have y1 : w2.cell? ⟨gb, 1, none⟩ = some (.int .i64 a1) := HBK.out.cell rfl; have yf1 : w2.frozen? ⟨gb, 1, none⟩ = false := HBK.out.frozen _; have y2 : w2.cell? ⟨gb, 2, none⟩ = some (.int .i64 a2) := HBK.out.cell rfl; have yf2 : w2.frozen? ⟨gb, 2, none⟩ = false := HBK.out.frozen _; have y3 : w2.cell? ⟨gb, 3, none⟩ = some (.bool a3) := HBK.out.cell rfl; have yf3 : w2.frozen? ⟨gb, 3, none⟩ = false := HBK.out.frozen _; have y4 : w2.cell? ⟨gb, 4, none⟩ = some (.slice A0 l0.length c0) := HBK.out.cell rfl; have yf4 : w2.frozen? ⟨gb, 4, none⟩ = false := HBK.out.frozen _; clear hs2 hb2))
  have HCC := Aside0.mk (CC.of (m := (m : Int)) (S := S) (P := P) (cr := a3) HBK.out (by rw [HGB.out]; exact Nat.le_refl _) (below_step HB1.out HB2.out) (Kd.R_lower HR2.out HB1.out.size) (fun k hk e => by have h1 := Kd.R_base HR2.out k hk; have h2 := (blkbox HBX.out).lt; rw [e] at h1; omega))
  obtain ⟨w3, hw3⟩ : ∃ w3, w3 = (((((w2.setCell ⟨gb, 0, none⟩ (.int .i64 (m : Int))).setCell ⟨gb, 1, none⟩ (.int .i64 S)).setCell ⟨gb, 2, none⟩ (.int .i64 P)).setCell ⟨gb, 3, none⟩ (.bool a3)).setCell ⟨gb, 4, none⟩ (.slice Ag ys.length cg)) := ⟨_, rfl⟩
  rw [← hw3] at HCC ⊢
  clear hw3 HBK HR2 HB2 HB1 HGB HBX z0 z1 z2 z3 z4 y0 y1 y2 y3 y4 yf0 yf1 yf2 yf3 yf4
  have d3 : w3.cell? ⟨gb, 3, none⟩ = some (.bool a3) := HCC.out.b.cell rfl
  have df3 : w3.frozen? ⟨gb, 3, none⟩ = false := HCC.out.b.frozen _
  go_upto_region 3 with (fail)
  replace HCC := Aside0.mk (HCC.out.credit true)
  obtain ⟨w4, hw4⟩ : ∃ w4, w4 = w3.setCell ⟨gb, 3, none⟩ (.bool true) := ⟨_, rfl⟩
  rw [← hw4] at HCC ⊢
  clear hw4 d3 df3
  have d0 : w4.cell? ⟨gb, 0, none⟩ = some (.int .i64 (m : Int)) := HCC.out.b.cell rfl
  have d1 : w4.cell? ⟨gb, 1, none⟩ = some (.int .i64 S) := HCC.out.b.cell rfl
  have d2 : w4.cell? ⟨gb, 2, none⟩ = some (.int .i64 P) := HCC.out.b.cell rfl
  have d3 : w4.cell? ⟨gb, 3, none⟩ = some (.bool true) := HCC.out.b.cell rfl
  have d4 : w4.cell? ⟨gb, 4, none⟩ = some (.slice Ag ys.length cg) := HCC.out.b.cell rfl
  go_upto_region 4 with (first | (go_at_call 14; with_reducible refine (PV.citadellaw18_C_Conf.calls (ys.length + 1) (m : Int) S P true _ _ ys (m : Int) S P true gl _ (Kd.R_reads' HCC.out.r).2.2 (Kd.R_reads' HCC.out.r).2.1 HCF.out).mono ?_; rintro e w21 ⟨v2, rfl, hs2, hb2⟩; obtain ⟨A2, c2, e2, hl2, hC2⟩ := Kd.S_reads hs2; subst e2; have HC2 := Aside0.mk hC2; have HL2 := Aside0.mk hl2; have HCB3 := Aside0.mk (HCC.out.below hb2); clear hs2 hl2 hC2 hb2) | (go_at_call 13; refine (new_sb (m := m) (k := 2 * gl.length + 2) rfl HRF.out HC2.out HL2.out HOK.out).mono ?_; rintro e w22 ⟨b, own, rfl, hsb, hown, hb3⟩; obtain ⟨s0, hs0⟩ : ∃ s0, s0 = newF m S P true gl := ⟨_, rfl⟩; rw [← hs0] at hsb; have HS0 := Aside0.mk hs0; have HLW := Aside0.mk (LW.of HCB3.out hb3 hsb hown); clear hsb hown hb3 hs0))
  clear d0 d1 d2 d3 d4 HCC HCB3 HC2 HL2 HCF HRF

  have hnp := (by have := HOK.out; rw [HGL.out] at this; exact np_new (cr := true) this : NP m S P true ys (newF m S P true (confL ys)))
  have HI := Aside0.mk (show CrP m S P ys s0 0 from by
    have h1 := newF_cq (cr := true) HOK.out
    have h2 := (newF_ok (cr := true) HOK.out).2.2.2.2.1
    rw [← HS0.out] at h1 h2
    rw [← HGL.out, ← HS0.out] at hnp
    exact ⟨h1, h2, hnp⟩)
  clear hnp HS0 HOK HGL HRT HC0 HL0
  obtain ⟨hN, hhN⟩ : ∃ hN, hN = w21.heap.size := ⟨_, rfl⟩
  rw [← hhN] at HLW
  clear hhN
  have hg1 : 0 ≤ gS ys ∧ gS ys < P := HRG.out.g
  obtain ⟨q, hq⟩ : ∃ q, q = P - gS ys := ⟨_, rfl⟩
  have Hq := Aside0.mk hq
  have hq1 : 1 ≤ q ∧ q ≤ 40 := by omega
  clear hq hg1
  have d0 : w22.cell? ⟨gb, 0, none⟩ = some (.int .i64 (m : Int)) := HLW.out.C.b.cell rfl
  have d1 : w22.cell? ⟨gb, 1, none⟩ = some (.int .i64 S) := HLW.out.C.b.cell rfl
  have d2 : w22.cell? ⟨gb, 2, none⟩ = some (.int .i64 P) := HLW.out.C.b.cell rfl
  have d3 : w22.cell? ⟨gb, 3, none⟩ = some (.bool true) := HLW.out.C.b.cell rfl
  have d4 : w22.cell? ⟨gb, 4, none⟩ = some (.slice Ag ys.length cg) := HLW.out.C.b.cell rfl
  go_upto_region 7 with (go_at_call 28; refine (shared_calls (Kd.R_reads' HLW.out.C.r).2.2 HRG.out hP).mono ?_; rintro e w41 ⟨rfl, hb⟩; have HLW1 := Aside0.mk (HLW.out.below hb); rw [← Hq.out]; clear hb)
  clear d0 d1 d2 d3 d4 HLW
  go_wp2_with (fail)
  go_loopw [8] (fun v8 w' => ∃ (i : Nat) (own : Nat → Prop) (s : SS), v8 = .int .i64 (i : Int) ∧ i ≤ l1.length ∧ Aside0 (LW W w' own b gb hN s (m : Int) S P true Ag cg ys) ∧ Aside0 (CrP m S P ys s (i : Int))) (fun v8 _ => l1.length - (intOf v8).toNat)
  case atStart => exact ⟨0, own, s0, rfl, Nat.zero_le _, HLW1, HI⟩
  case round =>
    obtain ⟨i, own1, s, rfl, hil, HL1, HI1⟩ := hrel
    clear HLW1 HI
    by_cases hlt : i < l1.length
    · obtain ⟨ad, e0, _, _, hx⟩ := at_T48 (Kd.C_below HSC.out HL1.out.B) (i : Int) (by omega) (by omega)
      subst e0
      obtain ⟨x, hxx⟩ : ∃ x, x = (rd_T48 l1 (i : Int)).f2 := ⟨_, rfl⟩
      rw [← hxx, Int.toNat_natCast] at hx
      have HNW := Aside0.mk (show s.now ≤ 288230376151711744 by have := HI1.out.now; omega)
      have HLd := Aside0.mk (HL1.out.below (below_drew (Below.refl _ _)))
      have zx : wr.drew.cell? ⟨(ad.add (i * 3)).block, (ad.add (i * 3)).off + 2, none⟩ = some (.int .u64 x) := pw_cell_below (below_drew (Below.refl _ _)) hx
      clear hxx
      go_upto_region 10 with (fail)
      refine start_ (n := 10) (S := fun w' => w'.cell? ⟨(ad.add (i * 3)).block, (ad.add (i * 3)).off + 2, none⟩ = some (.int .u64 x)) (ds := [9]) #[false, false, false, false, false, false, false, false, false, false] (by kernel_rfl) rfl rfl (zx) (fun hHeld => ?_)
      refine pure_ (i := 0) (N := some 37) (v := ?_) (a' := ?_) #[true, false, false, false, false, false, false, false, false, false] rfl rfl (by kernel_rfl) (fun _ _ _ h => h) (Or.inl ⟨by rfl, ?_⟩) ?_ ?_
      rotate_left
      · intro w'
        go_simp
        with_reducible rfl
      rotate_left
      · simp only [Act.put, List.setIfInBounds_toArray, List.set_cons_zero, List.set_cons_succ, i64_w, i32_w]
        rfl
      refine pure_ (i := 1) (N := some 38) (v := ?_) (a' := ?_) #[true, true, false, false, false, false, false, false, false, false] rfl rfl (by kernel_rfl) (fun _ _ _ h => h) (Or.inl ⟨by rfl, ?_⟩) ?_ ?_
      rotate_left
      · intro w'
        go_simp
        with_reducible rfl
      rotate_left
      · simp only [Act.put, List.setIfInBounds_toArray, List.set_cons_zero, List.set_cons_succ, i64_w, i32_w]
        rfl
      refine pure_ (i := 2) (N := some 39) (v := ?_) (a' := ?_) #[true, true, true, false, false, false, false, false, false, false] rfl rfl (by kernel_rfl) (fun _ _ _ h => h) (Or.inl ⟨by rfl, ?_⟩) ?_ ?_
      rotate_left
      · intro w'
        go_simp
        with_reducible rfl
      rotate_left
      · simp only [Act.put, List.setIfInBounds_toArray, List.set_cons_zero, List.set_cons_succ, i64_w, i32_w]
        rfl
      refine pure_ (i := 3) (N := some 40) (v := ?_) (a' := ?_) #[true, true, true, true, false, false, false, false, false, false] rfl rfl (by kernel_rfl) (fun _ _ _ h => h) (Or.inl ⟨by rfl, ?_⟩) ?_ ?_
      rotate_left
      · intro w'
        go_simp
        with_reducible rfl
      rotate_left
      · simp only [Act.put, List.setIfInBounds_toArray, List.set_cons_zero, List.set_cons_succ, i64_w, i32_w]
        rfl
      refine pure_ (i := 4) (N := some 41) (v := ?_) (a' := ?_) #[true, true, true, true, true, false, false, false, false, false] rfl rfl (by kernel_rfl) (fun _ _ _ h => h) (Or.inl ⟨by rfl, ?_⟩) ?_ ?_
      rotate_left
      · intro w'
        go_simp
        with_reducible rfl
      rotate_left
      · simp only [Act.put, List.setIfInBounds_toArray, List.set_cons_zero, List.set_cons_succ, i64_w, i32_w]
        rfl
      refine pure_ (i := 6) (N := some 43) (v := ?_) (a' := ?_) #[true, true, true, true, true, false, true, false, false, false] rfl rfl (by kernel_rfl) (fun _ _ _ h => h) (Or.inl ⟨by rfl, ?_⟩) ?_ ?_
      rotate_left
      · intro w'
        go_simp
        with_reducible rfl
      rotate_left
      · simp only [Act.put, List.setIfInBounds_toArray, List.set_cons_zero, List.set_cons_succ, i64_w, i32_w]
        rfl
      refine take_ (i := 5) (N := some 42) (v := ?_) (a' := ?_) #[true, true, true, true, true, true, true, false, false, false] rfl rfl (by kernel_rfl) (fun _ _ _ h => h) (Or.inl ⟨by rfl, ?_⟩) hHeld ?_ ?_
      rotate_left
      · intro w' s0
        go_simp
        with_reducible rfl
      rotate_left
      · simp only [Act.put, List.setIfInBounds_toArray, List.set_cons_zero, List.set_cons_succ, i64_w, i32_w]
        rfl
      refine one_ (i := 7) (N := some 44) #[true, true, true, true, true, true, true, true, false, false] rfl rfl (by kernel_rfl) (by decide) (fun K hK => ?_)
      refine goes_ Try.func15 (by kernel_rfl) rfl #[.pointer (some ⟨b, 0, none⟩)] (by rfl) rfl rfl (by simp only [List.map_toArray, List.map_cons, List.map_nil]; rfl) ?_
      with_reducible refine (HLd.out.X.entities).mono ?_
      rintro e w3 ⟨rfl, rfl⟩
      refine ⟨_, rfl, ?_⟩
      refine hK.out _ _ (zx) (fun hHeld => ?_)
      clear hK K
      refine norm_ (a' := ?_) ?_ ?_
      rotate_left
      · show Act.put _ (some 44) _ = _
        simp only [Act.put, List.setIfInBounds_toArray, List.set_cons_zero, List.set_cons_succ, i64_w, i32_w]
        rfl
      refine one_ (i := 8) (N := some 45) #[true, true, true, true, true, true, true, true, true, false] rfl rfl (by kernel_rfl) (by decide) (fun K hK => ?_)
      refine goes_ Try.func16 (by kernel_rfl) rfl #[.int .u64 x, .int .i64 (s.es.length : Int)] (by rfl) rfl rfl (by simp only [List.map_toArray, List.map_cons, List.map_nil]; rfl) ?_
      with_reducible refine (HLd.out.list x s.es.length rfl).mono ?_
      rintro e w4 ⟨A4, c4, rfl, hrl, hl4, hb4⟩
      refine ⟨_, rfl, ?_⟩
      have HRL := Aside0.mk hrl
      have HL4 := Aside0.mk hl4
      have zx4 := pw_cell_below hb4 zx
      clear hrl hl4 hb4
      refine hK.out _ _ (zx4) (fun hHeld => ?_)
      clear hK K
      refine norm_ (a' := ?_) ?_ ?_
      rotate_left
      · show Act.put _ (some 45) _ = _
        simp only [Act.put, List.setIfInBounds_toArray, List.set_cons_zero, List.set_cons_succ, i64_w, i32_w]
        rfl
      refine last_ (i := 9) (N := some 46) #[true, true, true, true, true, true, true, true, true, true] rfl rfl (by kernel_rfl) (by decide) (fun K hK => ?_)
      refine goes_ Try.func18 (by kernel_rfl) rfl #[.pointer (some ⟨b, 0, none⟩), .slice A4 (bitsL x s.es.length).length c4] (by rfl) rfl rfl (by simp only [List.map_toArray, List.map_cons, List.map_nil]; rfl) ?_
      with_reducible refine (HL4.out.tick HNW.out HRL.out).mono ?_
      rintro e w5 ⟨rfl, own5, hl5, ht5⟩
      refine ⟨_, rfl, ?_⟩
      have HL5 := Aside0.mk hl5
      clear hl5 ht5
      refine hK.out _ _ ?_
      clear hK K
      refine norm_ (a' := ?_) ?_ ?_
      rotate_left
      · show Act.put _ (some 46) _ = _
        simp only [Act.put, List.setIfInBounds_toArray, List.set_cons_zero, List.set_cons_succ, i64_w, i32_w]
        rfl
      refine done_ (by kernel_rfl) ?_
      have HI5 := Aside0.mk (show CrP m S P ys (tickF s (bitsL x s.es.length)) ((i + 1 : Nat) : Int) from HI1.out.tick HL1.out.X (by omega) (bitsL x s.es.length))
      obtain ⟨s5, hs5⟩ : ∃ s5, s5 = tickF s (bitsL x s.es.length) := ⟨_, rfl⟩
      rw [← hs5] at HI5 HL5
      clear hx zx HLd HL4 HRL HNW zx4 HI1 HL1 hs5
      go_wp2_with (fail)
      go_loopw [9] (fun v9 w' => ∃ k : Nat, v9 = .int .i64 (k : Int) ∧ k ≤ s5.es.length ∧ Aside0 (LW W w' own5 b gb hN s5 (m : Int) S P true Ag cg ys)) (fun v9 _ => s5.es.length - (intOf v9).toNat)
      case atStart => exact ⟨0, rfl, Nat.zero_le _, HL5⟩
      case round =>
        obtain ⟨k, rfl, hkl, HL6⟩ := hrel
        clear HL5
        have hem := HL6.out.X.wf.em
        by_cases hlt3 : k < s5.es.length
        · obtain ⟨g, hgu, hgl, hv1, hv2, hv3⟩ := HI5.out.at HL6.out.X hlt3
          rw [← Hq.out] at hv1 hv2
          have HGU := Aside0.mk (show Calls Try.prog 22 #[.pointer (some ⟨b, 0, none⟩), .int .i64 (k : Int)] wr fun x w' => x = .returned (.tuple #[.int .i64 (g : Int), .int .i64 (s5.ent k).ix]) ∧ LW W w' own5 b gb hN s5 (m : Int) S P true Ag cg ys ∧ Below wr.heap.size wr w' by have := HL6.out.guest hlt3; rwa [hgu] at this)
          have HCD := Aside0.mk (HL6.out.cred hlt3)
          obtain ⟨v, hv⟩ : ∃ v, v = (s5.ent k).cd := ⟨_, rfl⟩
          rw [← hv] at hv1 hv2 hv3 HCD
          obtain ⟨ad6, e6, _, _, kx⟩ := PV.at_T29 (Kd.R_reads' HL6.out.C.r).2.2 (g : Int) (by omega) (by omega)
          subst e6
          obtain ⟨fg, hfg⟩ : ∃ fg, fg = (rd_T29 ys (g : Int)).f2 := ⟨_, rfl⟩
          rw [← hfg] at kx hv3
          rw [Int.toNat_natCast] at kx
          have bgt : decide (v > q + 128) = false := by simp; omega
          have blt : decide (v < -(q + 128)) = false := by simp; omega
          have hy6 := HRG.out.l6
          clear hfg hgu hv
          cases fg with
          | true =>
            have e1 := hv3 rfl
            subst e1
            clear hv3
            go_wp2_with (first | (go_at_call 15; refine HL6.out.X.entities.mono ?_; rintro e w51 ⟨rfl, rfl⟩) | (go_at_call 29; refine HCD.out.mono ?_; rintro e w53 ⟨rfl, rfl⟩) | (go_at_call 22; refine HGU.out.mono ?_; rintro e w52 ⟨rfl, hl7, hb7⟩; have HL7 := Aside0.mk hl7; have k7 : w52.cell? ⟨gb, 4, none⟩ = some (.slice (some ad6) ys.length cg) := HL7.out.C.b.cell rfl; have kx7 := pw_cell_below hb7 kx; clear hl7 hb7))
            go_roundw
            case rel => exact ⟨k + 1, by go_num, by omega, HL7⟩
            case measure => simp [intOf]; omega
          | false =>
            clear hv3
            go_wp2_with (first | (go_at_call 15; refine HL6.out.X.entities.mono ?_; rintro e w51 ⟨rfl, rfl⟩) | (go_at_call 29; refine HCD.out.mono ?_; rintro e w53 ⟨rfl, rfl⟩) | (go_at_call 22; refine HGU.out.mono ?_; rintro e w52 ⟨rfl, hl7, hb7⟩; have HL7 := Aside0.mk hl7; have k7 : w52.cell? ⟨gb, 4, none⟩ = some (.slice (some ad6) ys.length cg) := HL7.out.C.b.cell rfl; have kx7 := pw_cell_below hb7 kx; clear hl7 hb7))
            go_roundw
            case rel => exact ⟨k + 1, by go_num, by omega, HL7⟩
            case measure => simp [intOf]; omega
        · go_wp2_with (go_at_call 15; refine HL6.out.X.entities.mono ?_; rintro e w51 ⟨rfl, rfl⟩)
          go_roundw
          case rel => exact ⟨i + 1, own5, s5, by go_num, by omega, HL6, HI5⟩
          case measure => simp [intOf]; omega
    · have HC1 := Aside0.mk (HL1.out.cred_no (thereB_no1 s))
      have HC2 := Aside0.mk (HL1.out.cred_no (thereB_no2 s))
      have HC3 := Aside0.mk (HL1.out.ran_no (thereB_no1 s))
      have HC4 := Aside0.mk HL1.out.charged_no
      have HC5 := Aside0.mk (HL1.out.home_no (thereB_no1 s))
      have HC6 := Aside0.mk HL1.out.X.entities
      go_wp2_with (first | (go_at_call 29; with_reducible refine HC1.out.mono ?_; rintro e w61 ⟨rfl, rfl⟩) | (go_at_call 15; with_reducible refine HC6.out.mono ?_; rintro e w62 ⟨rfl, rfl⟩) | (go_at_call 29; with_reducible refine HC2.out.mono ?_; rintro e w63 ⟨rfl, rfl⟩) | (go_at_call 26; with_reducible refine HC3.out.mono ?_; rintro e w64 ⟨rfl, rfl⟩) | (go_at_call 23; with_reducible refine HC4.out.mono ?_; rintro e w65 ⟨rfl, rfl⟩) | (go_at_call 24; with_reducible refine HC5.out.mono ?_; rintro e w66 ⟨rfl, hl6⟩; have HL6 := Aside0.mk hl6; clear hl6) | (go_at_call 19; refine (awake_calls _).mono ?_; rintro e w90 ⟨rfl, hb⟩; have HBE := Aside0.mk (below_step HL6.out.B hb); clear hb))
      go_ret
      exact ⟨rfl, HBE.out⟩
end Go.Proofs.Ytdaadmjppikebaa.SC

/- What the readings of a law's arguments (a conf, a script, numbers) say of cells. -/
namespace Go.Proofs.Ytdaadmjppikebaa.SC
open Go.RowKit Go.Proofs.YtdaadmjppikebaaW.PrintWords Go.Proofs.Ytdaadmjppikebaa.Opn Go.WideShapes
open Go.Proofs.Ytdaadmjppikebaa.PV (S29 k29)
set_option linter.unusedVariables false
set_option maxRecDepth 100000

theorem list3 {α : Type} {l : List α} (h : l.length = 3) : ∃ a b c, l = [a, b, c] := by
  match l, h with
  | [a, b, c], _ => exact ⟨a, b, c, rfl⟩
theorem list5 {α : Type} {l : List α} (h : l.length = 5) : ∃ a b c d e, l = [a, b, c, d, e] := by
  match l, h with
  | [a, b, c, d, e], _ => exact ⟨a, b, c, d, e, rfl⟩
theorem cells3 : Try.prog.cellsOf 3 = 1 := by kernel_rfl
theorem cells4 : Try.prog.cellsOf 4 = 1 := by kernel_rfl
theorem cells23 : Try.prog.cellsOf 23 = 1 := by kernel_rfl
theorem cells25 : Try.prog.cellsOf 25 = 1 := by kernel_rfl
theorem cells27 : Try.prog.cellsOf 27 = 5 := by kernel_rfl
theorem cells29 : Try.prog.cellsOf 29 = 3 := by kernel_rfl
theorem cells48 : Try.prog.cellsOf 48 = 3 := by kernel_rfl
theorem fld {H : Type} {enc : TypeId × Value → H} {w : World} {n t off k : Nat} {cs : List Value} {y : DataW H × List MemPlace} (hc : Try.prog.cellsOf t = k) (h : DataW.trod enc Try.prog w 0 (fun _ => true) true n t ((cs.drop off).take (Try.prog.cellsOf t)) = some y) : DataW.trod enc Try.prog w 0 (fun _ => true) true n t ((cs.drop off).take k) = some y := by
  rw [hc] at h; exact h
def G29 (_ : Nat) (_ : S29) : Prop := True
def G48 (_ : Nat) (x : S48) : Prop := (Lit.int .u64 x.f2).wf = true
theorem opens29 : Opens Try.prog 29 k29 G29 := by
  intro H enc w fuel cs x h
  obtain ⟨n, hl, hf⟩ := opens_fields Try.underlying29 h
  rw [cells29] at hl
  obtain ⟨c0, c1, c2, rfl⟩ := list3 hl
  obtain ⟨y0, h0, b0⟩ := hf 0 _ rfl
  obtain ⟨y1, h1, b1⟩ := hf 1 _ rfl
  obtain ⟨y2, h2, b2⟩ := hf 2 _ rfl
  have h0 : DataW.trod enc Try.prog w 0 (fun _ => true) true n 3 [c0] = some y0 := fld (t := 3) (off := 0) (cs := [c0, c1, c2]) cells3 h0
  have h1 : DataW.trod enc Try.prog w 0 (fun _ => true) true n 3 [c1] = some y1 := fld (t := 3) (off := 1) (cs := [c0, c1, c2]) cells3 h1
  have h2 : DataW.trod enc Try.prog w 0 (fun _ => true) true n 4 [c2] = some y2 := fld (t := 4) (off := 2) (cs := [c0, c1, c2]) cells4 h2
  obtain ⟨a0, k0, _⟩ := opens_int Try.underlying3 enc w n _ _ h0
  obtain ⟨a1, k1, _⟩ := opens_int Try.underlying3 enc w n _ _ h1
  obtain ⟨a2, k2, _⟩ := opens_bool Try.underlying4 enc w n _ _ h2
  obtain rfl : c0 = .int .i64 a0 := by simpa using (show [c0] = [Value.int .i64 a0] from k0)
  obtain rfl : c1 = .int .i64 a1 := by simpa using (show [c1] = [Value.int .i64 a1] from k1)
  obtain rfl : c2 = .bool a2 := by simpa using (show [c2] = [Value.bool a2] from k2)
  exact ⟨⟨a0, a1, a2⟩, PV.k29_mk w ⟨a0, a1, a2⟩, trivial⟩
theorem k48_mk (w : World) (x : S48) : k48.K w x [.int .i64 x.f0, .int .i64 x.f1, .int .u64 x.f2] := ⟨[.int .i64 x.f0], [.int .i64 x.f1, .int .u64 x.f2], rfl, rfl, ⟨[.int .i64 x.f1], [.int .u64 x.f2], rfl, rfl, rfl⟩⟩
theorem opens48 : Opens Try.prog 48 k48 G48 := by
  intro H enc w fuel cs x h
  obtain ⟨n, hl, hf⟩ := opens_fields Try.underlying48 h
  rw [cells48] at hl
  obtain ⟨c0, c1, c2, rfl⟩ := list3 hl
  obtain ⟨y0, h0, b0⟩ := hf 0 _ rfl
  obtain ⟨y1, h1, b1⟩ := hf 1 _ rfl
  obtain ⟨y2, h2, b2⟩ := hf 2 _ rfl
  have h0 : DataW.trod enc Try.prog w 0 (fun _ => true) true n 3 [c0] = some y0 := fld (t := 3) (off := 0) (cs := [c0, c1, c2]) cells3 h0
  have h1 : DataW.trod enc Try.prog w 0 (fun _ => true) true n 3 [c1] = some y1 := fld (t := 3) (off := 1) (cs := [c0, c1, c2]) cells3 h1
  have h2 : DataW.trod enc Try.prog w 0 (fun _ => true) true n 23 [c2] = some y2 := fld (t := 23) (off := 2) (cs := [c0, c1, c2]) cells23 h2
  obtain ⟨a0, k0, _⟩ := opens_int Try.underlying3 enc w n _ _ h0
  obtain ⟨a1, k1, _⟩ := opens_int Try.underlying3 enc w n _ _ h1
  obtain ⟨a2, k2, _, g2⟩ := opens_int Try.underlying23 enc w n _ _ h2
  obtain rfl : c0 = .int .i64 a0 := by simpa using (show [c0] = [Value.int .i64 a0] from k0)
  obtain rfl : c1 = .int .i64 a1 := by simpa using (show [c1] = [Value.int .i64 a1] from k1)
  obtain rfl : c2 = .int .u64 a2 := by simpa using (show [c2] = [Value.int .u64 a2] from k2)
  exact ⟨⟨a0, a1, a2⟩, k48_mk w ⟨a0, a1, a2⟩, g2⟩
/-- A conf that was read. -/
theorem open_C {H : Type} {enc : TypeId × Value → H} {w : World} {v : Value} {d : DataW H} {p : List MemPlace} {r : Reach} {base : Nat} (hv : Value.okWide Try.prog w r base 27 v) (h : DataW.Trod enc Try.prog w 0 (fun _ => true) true 27 v d p) :
    ∃ (a0 a1 a2 : Int) (a3 : Bool) (A : Option Addr) (c : Nat) (l : List S29), v = .agg #[.int .i64 a0, .int .i64 a1, .int .i64 a2, .bool a3, .slice A l.length c] ∧ Kd.C k29 w A l.length l ∧ l.length ≤ c ∧ l.length ≤ Rows.uptoBulk d := by
  obtain ⟨cs, rfl, hsz⟩ := okWide_struct Try.underlying27 hv
  obtain ⟨fuel, h⟩ := h
  have h' : DataW.trod enc Try.prog w 0 (fun _ => true) true fuel 27 cs.toList = some (d, p) := h
  obtain ⟨n, hl, hf⟩ := opens_fields Try.underlying27 h'
  rw [cells27] at hl
  obtain ⟨c0, c1, c2, c3, c4, hcs⟩ := list5 hl
  obtain rfl : cs = #[c0, c1, c2, c3, c4] := by cases cs; simpa using hcs
  obtain ⟨y0, h0, b0⟩ := hf 0 _ rfl
  obtain ⟨y1, h1, b1⟩ := hf 1 _ rfl
  obtain ⟨y2, h2, b2⟩ := hf 2 _ rfl
  obtain ⟨y3, h3, b3⟩ := hf 3 _ rfl
  obtain ⟨y4, h4, b4⟩ := hf 4 _ rfl
  have h0 : DataW.trod enc Try.prog w 0 (fun _ => true) true n 3 [c0] = some y0 := fld (t := 3) (off := 0) (cs := [c0, c1, c2, c3, c4]) cells3 h0
  have h1 : DataW.trod enc Try.prog w 0 (fun _ => true) true n 3 [c1] = some y1 := fld (t := 3) (off := 1) (cs := [c0, c1, c2, c3, c4]) cells3 h1
  have h2 : DataW.trod enc Try.prog w 0 (fun _ => true) true n 3 [c2] = some y2 := fld (t := 3) (off := 2) (cs := [c0, c1, c2, c3, c4]) cells3 h2
  have h3 : DataW.trod enc Try.prog w 0 (fun _ => true) true n 4 [c3] = some y3 := fld (t := 4) (off := 3) (cs := [c0, c1, c2, c3, c4]) cells4 h3
  have h4 : DataW.trod enc Try.prog w 0 (fun _ => true) true n 25 [c4] = some y4 := fld (t := 25) (off := 4) (cs := [c0, c1, c2, c3, c4]) cells25 h4
  obtain ⟨a0, k0, _⟩ := opens_int Try.underlying3 enc w n _ _ h0
  obtain ⟨a1, k1, _⟩ := opens_int Try.underlying3 enc w n _ _ h1
  obtain ⟨a2, k2, _⟩ := opens_int Try.underlying3 enc w n _ _ h2
  obtain ⟨a3, k3, _⟩ := opens_bool Try.underlying4 enc w n _ _ h3
  obtain ⟨A4, x4, l4, e4, q4, C4, g4⟩ := opens_row (d := k29) (G := G29) Try.underlying25 opens29 cells29 h4
  obtain rfl : c0 = .int .i64 a0 := by simpa using (show [c0] = [Value.int .i64 a0] from k0)
  obtain rfl : c1 = .int .i64 a1 := by simpa using (show [c1] = [Value.int .i64 a1] from k1)
  obtain rfl : c2 = .int .i64 a2 := by simpa using (show [c2] = [Value.int .i64 a2] from k2)
  obtain rfl : c3 = .bool a3 := by simpa using (show [c3] = [Value.bool a3] from k3)
  obtain rfl : c4 = .slice A4 l4.length x4 := by simpa using e4
  have z4 := g4.1
  simp only at b4
  exact ⟨a0, a1, a2, a3, A4, x4, l4, rfl, C4, q4, by omega⟩
/-- A script that was read. -/
theorem open_ops {H : Type} {enc : TypeId × Value → H} {w : World} {v : Value} {d : DataW H} {p : List MemPlace} {r : Reach} {base : Nat} (hv : Value.okWide Try.prog w r base 45 v) (h : DataW.Trod enc Try.prog w 0 (fun _ => true) true 45 v d p) :
    ∃ (A : Option Addr) (c : Nat) (ls : List S48), v = .slice A ls.length c ∧ Kd.C k48 w A ls.length ls ∧ ls.length ≤ c ∧ ls.length ≤ Rows.uptoBulk d := by
  obtain ⟨a, len, cap, rfl⟩ := okWide_slice Try.underlying45 hv
  obtain ⟨fuel, h⟩ := h
  obtain ⟨A, c, ls, e, l, C, g⟩ := opens_row (d := k48) (G := G48) Try.underlying45 opens48 cells48 h
  have e' : Value.slice a len cap = .slice A ls.length c := by simpa [Value.cells] using e
  exact ⟨A, c, ls, e', C, l, by have := g.1; simp only at this; omega⟩
theorem bulk2 {H : Type} {d0 d1 : DataW H} (h : Rows.uptoBulkAll [d0, d1] ≤ 1048576) : Rows.uptoBulk d0 ≤ 1048576 ∧ Rows.uptoBulk d1 ≤ 1048576 := by
  simp only [Rows.uptoBulkAll] at h; omega
end Go.Proofs.Ytdaadmjppikebaa.SC

/- SchedCredits: whatever the arguments are that read as data, it gives true. -/
namespace Go.Proofs.Ytdaadmjppikebaa.SC
open Go.RowKit Go.Proofs.Ytdaadmjppikebaa.Opn Go.WideShapes Go.Proofs.YtdaadmjppikebaaW.PrintWords
set_option maxRecDepth 100000 in
theorem schedCredits_core (H : Type) (enc : TypeId × Value → H) (W : World) (base : Nat) (v0 v1 : Value) (d0 d1 : DataW H) (p0 p1 : List MemPlace)
    (o0 : Value.okWide Try.prog W .any base 27 v0) (h0 : DataW.Trod enc Try.prog W 0 (fun _ => true) true 27 v0 d0 p0)
    (o1 : Value.okWide Try.prog W .any base 45 v1) (h1 : DataW.Trod enc Try.prog W 0 (fun _ => true) true 45 v1 d1 p1) (hb : Rows.uptoBulkAll [d0, d1] ≤ 1048576) :
    Calls Try.prog 9 #[v0, v1] W fun e W' => e = .returned (.bool true) ∧ Below W.heap.size W W' := by
  obtain ⟨hb0, hb1⟩ := bulk2 hb
  obtain ⟨a0, a1, a2, a3, A, c, l, rfl, hC, hl, _⟩ := open_C o0 h0
  obtain ⟨A1, c1, l1, rfl, hC1, hl1, hb2⟩ := open_ops o1 h1
  exact credits_calls hC hl hC1 hl1 (by omega)
end Go.Proofs.Ytdaadmjppikebaa.SC
