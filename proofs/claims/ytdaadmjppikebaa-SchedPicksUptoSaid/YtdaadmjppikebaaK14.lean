import Derived.Test.YtdaadmjppikebaaK13
import Derived.Test.YtdaadmjppikebaaK10
import Derived.Test.YtdaadmjppikebaaOpen
import Derived.WideShapes
/- Parts of the walk of package sched, merged. -/
/- SchedPicks. -/
namespace Go.Proofs.Ytdaadmjppikebaa.SC
open Go.RowKit Go.Proofs.YtdaadmjppikebaaW.PrintWords Go.Proofs.YtdaadmjppikebaaW.PrintLast
open Go.Proofs.Ytdaadmjppikebaa.PV (S94 k94 S29 k29 rd_T94 rd_T29)
set_option linter.unusedVariables false
set_option linter.unusedSimpArgs false

theorem mk39 (W : World) (n : Nat) : Blk (W.alloc (.cells (madeCells #[.bool false] n) 4)) W.heap.size 4 ((List.replicate n false).map Value.bool) := by
  have h := make_blk W (Value.agg #[.bool false]).cells 4 n [.bool false] rfl (by decide)
  have e : (List.replicate n [Value.bool false]).flatten = (List.replicate n false).map Value.bool := by simp
  rw [e, show n * [Value.bool false].length = n by simp] at h; exact h
theorem info4' : (Try.prog.info? 4).map (fun i => (i.zero, i.size, i.bytes)) = some (some (.bool false), 1, 1) := by kernel_rfl
set_option maxRecDepth 100000 in
set_option maxHeartbeats 3200000 in
theorem picks_law {W : World} {a0 a1 a2 : Int} {a3 : Bool} {A0 : Option Addr} {c0 : Nat} {l0 : List S29} {A1 : Option Addr} {c1 : Nat} {l1 : List S48} (hC : Kd.C k29 W A0 l0.length l0) (hc : l0.length ≤ c0) (hS : Kd.C k48 W A1 l1.length l1) (hs : l1.length ≤ c1) (hs2 : l1.length ≤ 1048576) :
    Calls Try.prog 5 #[.agg #[.int .i64 a0, .int .i64 a1, .int .i64 a2, .bool a3, .slice A0 l0.length c0], .slice A1 l1.length c1] W fun x w' => x = .returned (.bool true) ∧ Below W.heap.size W w' := by
  have HSC := Aside0.mk hS
  clear hS
  obtain ⟨m, S, P, ys, hrt, hm, hS, hP, hrg⟩ := right_plain a0 a1 a2 a3 l0
  have hok := hrg.ok hm hS hP
  have hcf := conf_f ys (by have := hrg.l6; omega) (m : Int) S P a3
  have hrf := right_f (cr := a3) hok
  obtain ⟨gl, hgl⟩ : ∃ gl, gl = confL ys := ⟨_, rfl⟩
  rw [← hgl] at hok hcf hrf
  have HGL := Aside0.mk hgl
  have HRG := Aside0.mk hrg
  have HOK := Aside0.mk hok
  have HCF := Aside0.mk hcf
  have HRF := Aside0.mk hrf
  have HRT := Aside0.mk hrt
  have HC0 := Aside0.mk hC
  have HL0 := Aside0.mk hc
  clear hok hcf hrf hgl hrg hrt hC hc
  go_enter Try.func5, Try.ntmps5
  go_upto_region 2 with (first | ((with_reducible refine gate_dst (N := 2) rfl ?_); (try (refine gate_guard (by rfl) ?_; dsimp only)); refine box_event ?hg (N := 2) ?hd (cs := #[.int .i64 a0, .int .i64 a1, .int .i64 a2, .bool a3, .slice A0 l0.length c0]) (t := 27) ?hr ?_; (case hd => rfl); (case hg => rfl); (case hr => first | (go_simp; done) | (go_simp; rfl)); intro gb hg w1 hbox hb; have z0 : w1.cell? ⟨gb, 0, none⟩ = some (.int .i64 a0) := (blk_cell hbox 0).trans rfl; have z1 : w1.cell? ⟨gb, 1, none⟩ = some (.int .i64 a1) := (blk_cell hbox 1).trans rfl; have z2 : w1.cell? ⟨gb, 2, none⟩ = some (.int .i64 a2) := (blk_cell hbox 2).trans rfl; have z3 : w1.cell? ⟨gb, 3, none⟩ = some (.bool a3) := (blk_cell hbox 3).trans rfl; have z4 : w1.cell? ⟨gb, 4, none⟩ = some (.slice A0 l0.length c0) := (blk_cell hbox 4).trans rfl; have HBX := Aside0.mk hbox; have HGB := Aside0.mk hg; have HB1 := Aside0.mk hb; clear hg hbox hb) | (go_at_call 20; with_reducible refine (PV.citadellaw18_right.calls 20 a0 a1 a2 a3 A0 c0 l0 (m : Int) S P a3 ys _ (Kd.C_below HC0.out HB1.out) HL0.out HRT.out).mono ?_; rintro e w2 ⟨v4, rfl, hs2, hb2⟩; obtain ⟨Ag, cg, e4⟩ := Kd.R_slice hs2; subst e4; have HR2 := Aside0.mk hs2; have HB2 := Aside0.mk hb2; have HBK := Aside0.mk ((blkbox HBX.out).below hb2); have y0 : w2.cell? ⟨gb, 0, none⟩ = some (.int .i64 a0) := HBK.out.cell rfl; have yf0 : w2.frozen? ⟨gb, 0, none⟩ = false := HBK.out.frozen _; have y1 : w2.cell? ⟨gb, 1, none⟩ = some (.int .i64 a1) := HBK.out.cell rfl; have yf1 : w2.frozen? ⟨gb, 1, none⟩ = false := HBK.out.frozen _; have y2 : w2.cell? ⟨gb, 2, none⟩ = some (.int .i64 a2) := HBK.out.cell rfl; have yf2 : w2.frozen? ⟨gb, 2, none⟩ = false := HBK.out.frozen _; have y3 : w2.cell? ⟨gb, 3, none⟩ = some (.bool a3) := HBK.out.cell rfl; have yf3 : w2.frozen? ⟨gb, 3, none⟩ = false := HBK.out.frozen _; have y4 : w2.cell? ⟨gb, 4, none⟩ = some (.slice A0 l0.length c0) := HBK.out.cell rfl; have yf4 : w2.frozen? ⟨gb, 4, none⟩ = false := HBK.out.frozen _; clear hs2 hb2))
  have HCC := Aside0.mk (CC.of (m := (m : Int)) (S := S) (P := P) (cr := a3) HBK.out (by rw [HGB.out]; exact Nat.le_refl _) (below_step HB1.out HB2.out) (Kd.R_lower HR2.out HB1.out.size) (fun k hk e => by have h1 := Kd.R_base HR2.out k hk; have h2 := (blkbox HBX.out).lt; rw [e] at h1; omega))
  obtain ⟨w3, hw3⟩ : ∃ w3, w3 = (((((w2.setCell ⟨gb, 0, none⟩ (.int .i64 (m : Int))).setCell ⟨gb, 1, none⟩ (.int .i64 S)).setCell ⟨gb, 2, none⟩ (.int .i64 P)).setCell ⟨gb, 3, none⟩ (.bool a3)).setCell ⟨gb, 4, none⟩ (.slice Ag ys.length cg)) := ⟨_, rfl⟩
  rw [← hw3] at HCC ⊢
  clear hw3 HBK HR2 HB2 HB1 HGB HBX z0 z1 z2 z3 z4 y0 y1 y2 y3 y4 yf0 yf1 yf2 yf3 yf4
  have d0 : w3.cell? ⟨gb, 0, none⟩ = some (.int .i64 (m : Int)) := HCC.out.b.cell rfl
  have d1 : w3.cell? ⟨gb, 1, none⟩ = some (.int .i64 S) := HCC.out.b.cell rfl
  have d2 : w3.cell? ⟨gb, 2, none⟩ = some (.int .i64 P) := HCC.out.b.cell rfl
  have d3 : w3.cell? ⟨gb, 3, none⟩ = some (.bool a3) := HCC.out.b.cell rfl
  have d4 : w3.cell? ⟨gb, 4, none⟩ = some (.slice Ag ys.length cg) := HCC.out.b.cell rfl
  go_upto_region 3 with (first | (go_at_call 14; with_reducible refine (PV.citadellaw18_C_Conf.calls (ys.length + 1) (m : Int) S P a3 _ _ ys (m : Int) S P a3 gl _ (Kd.R_reads' HCC.out.r).2.2 (Kd.R_reads' HCC.out.r).2.1 HCF.out).mono ?_; rintro e w21 ⟨v2, rfl, hs2, hb2⟩; obtain ⟨A2, c2, e2, hl2, hC2⟩ := Kd.S_reads hs2; subst e2; have HC2 := Aside0.mk hC2; have HL2 := Aside0.mk hl2; have HCB3 := Aside0.mk (HCC.out.below hb2); clear hs2 hl2 hC2 hb2) | (go_at_call 13; refine (new_sb (m := m) (k := 2 * gl.length + 2) rfl HRF.out HC2.out HL2.out HOK.out).mono ?_; rintro e w22 ⟨b, own, rfl, hsb, hown, hb3⟩; obtain ⟨s0, hs0⟩ : ∃ s0, s0 = newF m S P a3 gl := ⟨_, rfl⟩; rw [← hs0] at hsb; have HS0 := Aside0.mk hs0; have HLW := Aside0.mk (LW.of HCB3.out hb3 hsb hown); clear hsb hown hb3 hs0))
  clear d0 d1 d2 d3 d4 HCC HCB3 HC2 HL2

  have d0 : w22.cell? ⟨gb, 0, none⟩ = some (.int .i64 (m : Int)) := HLW.out.C.b.cell rfl
  have d1 : w22.cell? ⟨gb, 1, none⟩ = some (.int .i64 S) := HLW.out.C.b.cell rfl
  have d2 : w22.cell? ⟨gb, 2, none⟩ = some (.int .i64 P) := HLW.out.C.b.cell rfl
  have d3 : w22.cell? ⟨gb, 3, none⟩ = some (.bool a3) := HLW.out.C.b.cell rfl
  have d4 : w22.cell? ⟨gb, 4, none⟩ = some (.slice Ag ys.length cg) := HLW.out.C.b.cell rfl
  go_upto_region 4 with (first | (go_at_call 14; with_reducible refine (PV.citadellaw18_C_Conf.calls (ys.length + 1) (m : Int) S P a3 _ _ ys (m : Int) S P a3 gl _ (Kd.R_reads' HLW.out.C.r).2.2 (Kd.R_reads' HLW.out.C.r).2.1 HCF.out).mono ?_; rintro e w31 ⟨v2, rfl, hs2, hb2⟩; obtain ⟨A2, c2, e2, hl2, hC2⟩ := Kd.S_reads hs2; subst e2; have HC2 := Aside0.mk hC2; have HL2 := Aside0.mk hl2; have HLW2 := Aside0.mk (HLW.out.below hb2); clear hs2 hl2 hC2 hb2) | (go_at_call 13; refine (new_sb (m := m) (k := 2 * gl.length + 2) rfl HRF.out HC2.out HL2.out HOK.out).mono ?_; rintro e w32 ⟨b2, own2, rfl, hsb, hown, hb3⟩; rw [← HS0.out] at hsb; have HLT := Aside0.mk (LT.of HLW2.out hb3 hsb hown); clear hsb hown hb3))
  clear d0 d1 d2 d3 d4 HLW HLW2 HC2 HL2 HCF HRF
  have hnp := (by have := HOK.out; rw [HGL.out] at this; exact np_new (cr := a3) this : NP m S P a3 ys (newF m S P a3 (confL ys)))
  have HI := Aside0.mk (show PkP m S P a3 ys s0 s0 ((0 : Nat) : Int) from by
    have h1 := newF_cq (cr := a3) HOK.out
    have h2 := (newF_ok (cr := a3) HOK.out).2.2.2.2.1
    have h3 := newF_gn (cr := a3) HOK.out
    rw [← HS0.out] at h1 h2 h3
    rw [← HGL.out, ← HS0.out] at hnp
    exact ⟨h1, hnp, St.refl _, h2, rfl, rfl, h3, h3⟩)
  clear hnp HS0 HOK HGL HRT HC0 HL0
  obtain ⟨hN, hhN⟩ : ∃ hN, hN = w21.heap.size := ⟨_, rfl⟩
  rw [← hhN] at HLT
  clear hhN
  go_wp2_with (fail)
  go_loopw [9] (fun v9 w' => ∃ (i : Nat) (own own2 : Nat → Prop) (s u : SS), v9 = .int .i64 (i : Int) ∧ i ≤ l1.length ∧ Aside0 (LT W w' own own2 b b2 gb hN s u (m : Int) S P a3 Ag cg ys) ∧ Aside0 (PkP m S P a3 ys s u (i : Int))) (fun v9 _ => l1.length - (intOf v9).toNat)
  case atStart => exact ⟨0, own, own2, s0, s0, rfl, Nat.zero_le _, HLT, HI⟩
  case round =>
    obtain ⟨i, own1, own3, s, u, rfl, hil, HL1, HI1⟩ := hrel
    clear HLT HI
    by_cases hlt : i < l1.length
    · obtain ⟨ad, e0, _, _, hx⟩ := at_T48 (Kd.C_below HSC.out HL1.out.L.B) (i : Int) (by omega) (by omega)
      subst e0
      obtain ⟨x, hxx⟩ : ∃ x, x = (rd_T48 l1 (i : Int)).f2 := ⟨_, rfl⟩
      rw [← hxx, Int.toNat_natCast] at hx
      have HLd := Aside0.mk (HL1.out.below (below_drew (Below.refl _ _)))
      have zx : wr.drew.cell? ⟨(ad.add (i * 3)).block, (ad.add (i * 3)).off + 2, none⟩ = some (.int .u64 x) := pw_cell_below (below_drew (Below.refl _ _)) hx
      clear hxx
      go_upto_region 9 with (fail)
      refine start_ (n := 9) (S := fun w' => w'.cell? ⟨(ad.add (i * 3)).block, (ad.add (i * 3)).off + 2, none⟩ = some (.int .u64 x)) (ds := []) #[false, false, false, false, false, false, false, false, false] (by kernel_rfl) rfl rfl (zx) (fun hHeld => ?_)
      refine pure_ (i := 0) (N := some 51) (v := ?_) (a' := ?_) #[true, false, false, false, false, false, false, false, false] rfl rfl (by kernel_rfl) (fun _ _ _ h => h) (Or.inl ⟨by rfl, ?_⟩) ?_ ?_
      rotate_left
      · intro w'
        go_simp
        with_reducible rfl
      rotate_left
      · simp only [Act.put, List.setIfInBounds_toArray, List.set_cons_zero, List.set_cons_succ, i64_w, i32_w]
        rfl
      refine pure_ (i := 1) (N := some 52) (v := ?_) (a' := ?_) #[true, true, false, false, false, false, false, false, false] rfl rfl (by kernel_rfl) (fun _ _ _ h => h) (Or.inl ⟨by rfl, ?_⟩) ?_ ?_
      rotate_left
      · intro w'
        go_simp
        with_reducible rfl
      rotate_left
      · simp only [Act.put, List.setIfInBounds_toArray, List.set_cons_zero, List.set_cons_succ, i64_w, i32_w]
        rfl
      refine pure_ (i := 2) (N := some 53) (v := ?_) (a' := ?_) #[true, true, true, false, false, false, false, false, false] rfl rfl (by kernel_rfl) (fun _ _ _ h => h) (Or.inl ⟨by rfl, ?_⟩) ?_ ?_
      rotate_left
      · intro w'
        go_simp
        with_reducible rfl
      rotate_left
      · simp only [Act.put, List.setIfInBounds_toArray, List.set_cons_zero, List.set_cons_succ, i64_w, i32_w]
        rfl
      refine pure_ (i := 3) (N := some 54) (v := ?_) (a' := ?_) #[true, true, true, true, false, false, false, false, false] rfl rfl (by kernel_rfl) (fun _ _ _ h => h) (Or.inl ⟨by rfl, ?_⟩) ?_ ?_
      rotate_left
      · intro w'
        go_simp
        with_reducible rfl
      rotate_left
      · simp only [Act.put, List.setIfInBounds_toArray, List.set_cons_zero, List.set_cons_succ, i64_w, i32_w]
        rfl
      refine pure_ (i := 5) (N := some 56) (v := ?_) (a' := ?_) #[true, true, true, true, false, true, false, false, false] rfl rfl (by kernel_rfl) (fun _ _ _ h => h) (Or.inl ⟨by rfl, ?_⟩) ?_ ?_
      rotate_left
      · intro w'
        go_simp
        with_reducible rfl
      rotate_left
      · simp only [Act.put, List.setIfInBounds_toArray, List.set_cons_zero, List.set_cons_succ, i64_w, i32_w]
        rfl
      refine take_ (i := 4) (N := some 55) (v := ?_) (a' := ?_) #[true, true, true, true, true, true, false, false, false] rfl rfl (by kernel_rfl) (fun _ _ _ h => h) (Or.inl ⟨by rfl, ?_⟩) hHeld ?_ ?_
      rotate_left
      · intro w' s0
        go_simp
        with_reducible rfl
      rotate_left
      · simp only [Act.put, List.setIfInBounds_toArray, List.set_cons_zero, List.set_cons_succ, i64_w, i32_w]
        rfl
      refine one_ (i := 6) (N := some 57) #[true, true, true, true, true, true, true, false, false] rfl rfl (by kernel_rfl) (by decide) (fun K hK => ?_)
      refine goes_ Try.func15 (by kernel_rfl) rfl #[.pointer (some ⟨b, 0, none⟩)] (by rfl) rfl rfl (by simp only [List.map_toArray, List.map_cons, List.map_nil]; rfl) ?_
      with_reducible refine (HLd.out.L.X.entities).mono ?_
      rintro e w3 ⟨rfl, rfl⟩
      refine ⟨_, rfl, ?_⟩
      refine hK.out _ _ (zx) (fun hHeld => ?_)
      clear hK K
      refine norm_ (a' := ?_) ?_ ?_
      rotate_left
      · show Act.put _ (some 57) _ = _
        simp only [Act.put, List.setIfInBounds_toArray, List.set_cons_zero, List.set_cons_succ, i64_w, i32_w]
        rfl
      refine one_ (i := 7) (N := some 58) #[true, true, true, true, true, true, true, true, false] rfl rfl (by kernel_rfl) (by decide) (fun K hK => ?_)
      refine goes_ Try.func16 (by kernel_rfl) rfl #[.int .u64 x, .int .i64 (s.es.length : Int)] (by rfl) rfl rfl (by simp only [List.map_toArray, List.map_cons, List.map_nil]; rfl) ?_
      with_reducible refine (HLd.out.list x s.es.length rfl).mono ?_
      rintro e w4 ⟨A4, c4, rfl, hrl, hl4, hb4⟩
      refine ⟨_, rfl, ?_⟩
      have HRL := Aside0.mk hrl
      have HL4 := Aside0.mk hl4
      have zx4 := pw_cell_below hb4 zx
      clear hrl hl4 hb4
      refine hK.out _ _ (zx4) (fun hHeld => ?_)
      clear hK K
      refine norm_ (a' := ?_) ?_ ?_
      rotate_left
      · show Act.put _ (some 58) _ = _
        simp only [Act.put, List.setIfInBounds_toArray, List.set_cons_zero, List.set_cons_succ, i64_w, i32_w]
        rfl
      refine pure_ (i := 8) (N := some 10) (v := ?_) (a' := ?_) #[true, true, true, true, true, true, true, true, true] rfl rfl (by kernel_rfl) (fun _ _ _ h => h) (Or.inl ⟨by rfl, ?_⟩) ?_ ?_
      rotate_left
      · intro w'
        go_simp
        with_reducible rfl
      rotate_left
      · simp only [Act.put, List.setIfInBounds_toArray, List.set_cons_zero, List.set_cons_succ, i64_w, i32_w]
        rfl
      refine done_ (by kernel_rfl) ?_
      obtain ⟨rd, hrd⟩ : ∃ rd, rd = bitsL x s.es.length := ⟨_, rfl⟩
      rw [← hrd] at HRL ⊢
      have HP1 := Aside0.mk (show PkP m S P a3 ys s u (i : Int) ∧ s.es.length = rd.length from ⟨HI1.out, by rw [hrd, bitsL_len]⟩)
      have hrl : rd.length ≤ 64 := by rw [hrd, bitsL_len]; exact HL1.out.L.X.wf.em
      clear hx zx HLd zx4 hrd HL1 HI1
      go_upto_block 2 with (fail)
      go_cut [11] (fun v11 wc => ∃ (own' own2' : Nat → Prop) (s' : SS), Aside0 (LT W wc own' own2' b b2 gb hN s' u (m : Int) S P a3 Ag cg ys) ∧ Aside0 (RL2 wc own' own2' A4 c4 rd) ∧ Aside0 (PkP m S P a3 ys s' u (i : Int) ∧ s'.es.length = rd.length))
      case first =>
        go_wp2_with (fail)
        go_loopw [11] (fun v11 w' => ∃ (h : Nat) (own' own2' : Nat → Prop) (s' : SS), v11 = .int .i64 (h : Int) ∧ h ≤ m ∧ Aside0 (LT W w' own' own2' b b2 gb hN s' u (m : Int) S P a3 Ag cg ys) ∧ Aside0 (RL2 w' own' own2' A4 c4 rd) ∧ Aside0 (PkP m S P a3 ys s' u (i : Int) ∧ s'.es.length = rd.length)) (fun v11 _ => m - (intOf v11).toNat)
        case atStart => exact ⟨0, own1, own3, s, rfl, Nat.zero_le _, HL4, HRL, HP1⟩
        case round =>
          obtain ⟨h, own8, own28, s8, rfl, hhm, HL8, HR8, HP8⟩ := hrel
          clear HL4 HRL HP1
          have k0 : wr.cell? ⟨gb, 0, none⟩ = some (.int .i64 (m : Int)) := HL8.out.L.C.b.cell rfl
          by_cases hlt2 : h < m
          · have hpo := HP8.out.1.own HL8.out.L.X.wf hlt2 rd HP8.out.2.symm
            have HPK := Aside0.mk (HL8.out.pick HR8.out (h : Int))
            have hpn := HP8.out.1.pick HL8.out.L.X.wf (h : Int) rd
            have hst := (pickF_pk HL8.out.L.X.wf (h : Int) rd).st
            have hidle := fun hc : a3 = true => (by subst hc; exact HP8.out.1.idle HL8.out.L.X.wf hlt2 rd : gangF s8 < 0 → (pickF s8 (h : Int) rd).1 = -1 → ∀ e ∈ plainL s8 h, rd.getD e.toNat false = false)
            have htwin := fun (hc : a3 = false) (p : Nat) => (by subst hc; exact HP8.out.1.twin HL8.out.L.X.wf hlt2 rd (p := p) : (pickF s8 (h : Int) rd).1 = (p : Int) → p < s8.es.length → pickF u (h : Int) ((List.replicate s8.es.length false).set p true) = ((p : Int), u))
            have hgs : gangF (pickF s8 (h : Int) rd).2 = gangF s8 := hst.gang (pickF_pk HL8.out.L.X.wf (h : Int) rd).now
            have hes : s8.es.length = rd.length := HP8.out.2
            obtain ⟨sn, hsn⟩ : ∃ sn, sn = (pickF s8 (h : Int) rd).2 := ⟨_, rfl⟩
            rw [← hsn] at HPK hpn hst hgs
            have hen : sn.es.length = rd.length := by rw [hst.el, hes]
            have HPN := Aside0.mk hpn
            have HPE := Aside0.mk (And.intro hpn hen)
            have HHE := Aside0.mk hen
            have HST := Aside0.mk hst
            clear hsn hpn hst HL8 HR8 HP8 hen
            rcases hpo with hp | ⟨p, hp, hp1, hp2, hp5⟩
            · rw [hp] at HPK
              have HID := Aside0.mk (fun (hc : a3 = true) (hg : gangF sn < 0) => (show ∀ e ∈ plainL sn h, (0 ≤ e ∧ e < (rd.length : Int)) ∧ rd.getD e.toNat false = false from fun e he => by
                rw [HST.out.plain] at he
                exact ⟨by obtain ⟨q, hq, hq1, _⟩ := plainTo_mem he; omega, hidle hc (by rw [← hgs]; exact hg) hp e he⟩))
              clear htwin hidle hgs hp hes
              go_upto_region 16 with (go_at_call 17; refine HPK.out.mono ?_; rintro e w48 ⟨rfl, own9, hl9, hr9⟩; have HL9 := Aside0.mk hl9; have HR9 := Aside0.mk hr9; clear hl9 hr9)
              have HG9 := Aside0.mk HL9.out.L.gang
              obtain ⟨gv, hgv⟩ : ∃ gv, gv = gangF sn := ⟨_, rfl⟩
              rw [← hgv] at HG9 HID
              clear hgv
              by_cases hg0 : gv < 0
              · have bg : decide (gv < 0) = true := by simpa using hg0
                cases a3 with
                | false =>
                  go_wp2_with (go_at_call 21; refine HG9.out.mono ?_; rintro e w50 ⟨rfl, _, hb10⟩; have HL10 := Aside0.mk (HL9.out.below hb10); have HR10 := Aside0.mk (HR9.out.below hb10); have k3 : w50.cell? ⟨gb, 3, none⟩ = some (.bool false) := HL10.out.L.C.b.cell rfl; clear hb10)
                  go_roundw
                  case rel => exact ⟨h + 1, own9, own28, sn, by go_num, by omega, HL10, HR10, HPE⟩
                  case measure => simp [intOf]; omega
                | true =>
                  have HIE := Aside0.mk (HID.out rfl hg0)
                  clear HID
                  go_upto_region 17 with (go_at_call 21; refine HG9.out.mono ?_; rintro e w50 ⟨rfl, _, hb10⟩; have HL10 := Aside0.mk (HL9.out.below hb10); have HR10 := Aside0.mk (HR9.out.below hb10); have k3 : w50.cell? ⟨gb, 3, none⟩ = some (.bool true) := HL10.out.L.C.b.cell rfl; clear hb10)
                  have d0 : w50.cell? ⟨gb, 0, none⟩ = some (.int .i64 (m : Int)) := HL10.out.L.C.b.cell rfl
                  have d1 : w50.cell? ⟨gb, 1, none⟩ = some (.int .i64 S) := HL10.out.L.C.b.cell rfl
                  have d2 : w50.cell? ⟨gb, 2, none⟩ = some (.int .i64 P) := HL10.out.L.C.b.cell rfl
                  have d4 : w50.cell? ⟨gb, 4, none⟩ = some (.slice Ag ys.length cg) := HL10.out.L.C.b.cell rfl
                  go_upto_region 18 with (go_at_call 25; refine (home_fn HL10.out.L.X HPN.out.n (Kd.R_reads' HL10.out.L.C.r).2.2 (h : Int)).mono ?_; rintro e w51 ⟨vl, rfl, hrl, hb11⟩; have HLs := Aside0.mk hrl; have HL11 := Aside0.mk (HL10.out.below hb11); have HR11 := Aside0.mk (HR10.out.below hb11); clear hrl hb11)
                  obtain ⟨Al, cl, el⟩ := Kd.R_slice HLs.out
                  subst el
                  obtain ⟨ls, hls⟩ : ∃ ls, ls = plainL sn (h : Int) := ⟨_, rfl⟩
                  have hln : ls.length ≤ 64 := by rw [hls]; have h1 := plainTo_len sn (h : Int) sn.es.length; have h2 := HHE.out; unfold plainL; omega
                  rw [← hls] at HLs HIE ⊢
                  clear hls d0 d1 d2 d4 k3 HL10 HR10 HG9 HL9 HR9
                  go_wp2_with (fail)
                  go_loopw [15] (fun v15 w' => ∃ k : Nat, v15 = .int .i64 (k : Int) ∧ k ≤ ls.length ∧ Aside0 (LT W w' own9 own28 b b2 gb hN sn u (m : Int) S P true Ag cg ys) ∧ Aside0 (RL2 w' own9 own28 A4 c4 rd) ∧ Aside0 (Kd.R (Kd.int .i64) 3 w' w50.heap.size (fun _ => True) (.slice Al ls.length cl) ls)) (fun v15 _ => ls.length - (intOf v15).toNat)
                  case atStart => exact ⟨0, rfl, Nat.zero_le _, HL11, HR11, HLs⟩
                  case round =>
                    obtain ⟨k, rfl, hk, HL13, HR13, HLs2⟩ := hrel
                    clear HL11 HR11 HLs
                    by_cases hk2 : k < ls.length
                    · obtain ⟨adl, e5, kl⟩ := Kd.at_int (Kd.R_reads' HLs2.out).2.2 (k : Int) (by omega) (by omega)
                      subst e5
                      obtain ⟨h7, h8⟩ := HIE.out (Go.Proofs.YtdaadmjppikebaaW.PrintWords.rd ls k) (rd_mem hk2)
                      obtain ⟨q, hq⟩ : ∃ q : Nat, Go.Proofs.YtdaadmjppikebaaW.PrintWords.rd ls k = (q : Int) := ⟨(Go.Proofs.YtdaadmjppikebaaW.PrintWords.rd ls k).toNat, by omega⟩
                      rw [Int.toNat_natCast] at kl
                      replace kl : wr.cell? (adl.add k) = some (.int .i64 (q : Int)) := by rw [← hq]; exact kl
                      rw [hq] at h7 h8
                      rw [Int.toNat_natCast] at h8
                      obtain ⟨adr, e6, kr⟩ := Kd.at_bool HR13.out.a.toRD.1 (q : Int) (by omega) (by omega)
                      subst e6
                      replace kr : wr.cell? (adr.add q) = some (.bool false) := by rw [Int.toNat_natCast] at kr; rw [kr]; unfold rdOf; rw [Int.toNat_natCast, h8]
                      have hql : q < rd.length := by omega
                      clear hq h8 h7
                      go_wp2
                      go_roundw
                      case rel => exact ⟨k + 1, by go_num, by omega, HL13, HR13, HLs2⟩
                      case measure => simp [intOf]; omega
                    · go_wp2
                      go_roundw
                      case rel => exact ⟨h + 1, own9, own28, sn, by go_num, by omega, HL13, HR13, HPE⟩
                      case measure => simp [intOf]; omega
              · have bg : decide (gv < 0) = false := by simpa using hg0
                clear HID
                go_wp2_with (go_at_call 21; refine HG9.out.mono ?_; rintro e w50 ⟨rfl, _, hb10⟩; have HL10 := Aside0.mk (HL9.out.below hb10); have HR10 := Aside0.mk (HR9.out.below hb10); have k3 : w50.cell? ⟨gb, 3, none⟩ = some (.bool a3) := HL10.out.L.C.b.cell rfl; clear hb10)
                go_roundw
                case rel => exact ⟨h + 1, own9, own28, sn, by go_num, by omega, HL10, HR10, HPE⟩
                case measure => simp [intOf]; omega
            · rw [hp] at HPK
              have HTW := Aside0.mk (fun hc : a3 = false => htwin hc p hp hp1)
              have hp6 : rdOf false rd (p : Int) = true := by unfold rdOf; rw [Int.toNat_natCast]; exact hp5
              have hpe : p < sn.es.length := by rw [HST.out.el]; exact hp1
              have hhp : homeOf sn p = (h : Int) := by rw [HST.out.home]; exact hp2
              have hpr : p < rd.length := by omega
              have HHP := Aside0.mk hhp
              have HES := Aside0.mk hes
              clear htwin hidle hgs hp hes hp2 hp5 hp1 hhp
              go_upto_region 14 with (go_at_call 17; refine HPK.out.mono ?_; rintro e w48 ⟨rfl, own9, hl9, hr9⟩; have HL9 := Aside0.mk hl9; have HR9 := Aside0.mk hr9; clear hl9 hr9)
              have HHM := Aside0.mk (show Calls Try.prog 24 #[.pointer (some ⟨b, 0, none⟩), .int .i64 (p : Int)] w48 fun x w' => x = .returned (.int .i64 (h : Int)) ∧ Below w48.heap.size w48 w' by
                have := HL9.out.L.X.home (p : Int)
                rwa [if_pos (thereB_t hpe), Int.toNat_natCast, HHP.out] at this)
              obtain ⟨adr, er, _⟩ := Kd.at_bool HR9.out.a.toRD.1 (p : Int) (by omega) (by omega)
              subst er
              cases a3 with
              | true =>
                clear HTW
                go_wp2_with (first | (go_at_call 15; refine HL9.out.L.X.entities.mono ?_; rintro e w52 ⟨rfl, rfl⟩) | (go_at_call 24; refine HHM.out.mono ?_; rintro e w53 ⟨rfl, hb12⟩; have HL12 := Aside0.mk (HL9.out.below hb12); have HR12 := Aside0.mk (HR9.out.below hb12); obtain ⟨adr2, er2, kr2⟩ := Kd.at_bool HR12.out.a.toRD.1 (p : Int) (by omega) (by omega); cases er2; rw [hp6, Int.toNat_natCast] at kr2; have k3 : w53.cell? ⟨gb, 3, none⟩ = some (.bool true) := HL12.out.L.C.b.cell rfl; clear hb12))
                go_roundw
                case rel => exact ⟨h + 1, own9, own28, sn, by go_num, by omega, HL12, HR12, HPE⟩
                case measure => simp [intOf]; omega
              | false =>
                have HTX := Aside0.mk (HTW.out rfl)
                clear HTW
                go_upto_region 24 with (first | (go_at_call 15; refine HL9.out.L.X.entities.mono ?_; rintro e w52 ⟨rfl, rfl⟩) | (go_at_call 24; refine HHM.out.mono ?_; rintro e w53 ⟨rfl, hb12⟩; have HL12 := Aside0.mk (HL9.out.below hb12); have HR12 := Aside0.mk (HR9.out.below hb12); obtain ⟨adr2, er2, kr2⟩ := Kd.at_bool HR12.out.a.toRD.1 (p : Int) (by omega) (by omega); cases er2; rw [hp6, Int.toNat_natCast] at kr2; have k3 : w53.cell? ⟨gb, 3, none⟩ = some (.bool false) := HL12.out.L.C.b.cell rfl; clear hb12))
                have h39 := make_run 39 4 _ 1 1 Try.underlying39 info4' (by decide) sn.es.length (by have := HHE.out; omega)
                go_upto_region 25 with (go_at_call 15; refine HL12.out.L.X.entities.mono ?_; rintro e w54 ⟨rfl, rfl⟩)
                have HOB := Aside0.mk (mk39 w53 sn.es.length)
                have hob1 : ¬ own9 w53.heap.size := fun e => by have := HL12.out.L.X.lt _ e; omega
                have hob2 : ¬ own28 w53.heap.size := fun e => by have := HL12.out.X.lt _ e; omega
                have hobN : hN ≤ w53.heap.size := HL12.out.L.z
                have HL14 := Aside0.mk (HL12.out.below (below_alloc (Below.refl _ _) (.cells (madeCells #[.bool false] sn.es.length) 4)))
                have HR14 := Aside0.mk (HR12.out.below (below_alloc (Below.refl _ _) (.cells (madeCells #[.bool false] sn.es.length) 4)))
                have hrne : ∀ k, (Value.slice (some adr) rd.length c4).ownBlock = some k → k ≠ w53.heap.size := fun k hk e => by have := Kd.R_lt HR12.out.a.r k hk; omega
                obtain ⟨ob, hob⟩ : ∃ ob, ob = w53.heap.size := ⟨_, rfl⟩
                obtain ⟨w55, hw55⟩ : ∃ w55, w55 = w53.alloc (.cells (madeCells #[.bool false] sn.es.length) 4) := ⟨_, rfl⟩
                rw [← hw55] at HOB HL14 HR14 ⊢
                rw [← hob] at HOB hob1 hob2 hobN hrne ⊢
                have z0 : w55.cell? ⟨ob, p, none⟩ = some (.bool false) := HOB.out.cell (by rw [List.getElem?_map, List.getElem?_replicate, if_pos hpe]; rfl)
                have zf : w55.frozen? ⟨ob, p, none⟩ = false := HOB.out.frozen _
                clear hw55 hob h39
                go_upto_region 26 with (fail)
                have HOB2 := Aside0.mk (show Blk (w55.setCell ⟨ob, p, none⟩ (.bool true)) ob 4 (((List.replicate sn.es.length false).set p true).map Value.bool) by have := HOB.out.set p (.bool true); rwa [← List.map_set] at this)
                have HL15 := Aside0.mk (HL14.out.put hob1 hob2 hobN p (.bool true))
                have HR15 := Aside0.mk (HR14.out.put hrne p (.bool true))
                obtain ⟨w56, hw56⟩ : ∃ w56, w56 = w55.setCell ⟨ob, p, none⟩ (.bool true) := ⟨_, rfl⟩
                rw [← hw56] at HOB2 HL15 HR15 ⊢
                have hll : ((List.replicate sn.es.length false).set p true).length = sn.es.length := by simp
                have HPK2 := Aside0.mk (show Calls Try.prog 17 #[.pointer (some ⟨b2, 0, none⟩), .int .i64 (h : Int), .slice (some ⟨ob, 0, none⟩) sn.es.length sn.es.length] w56 fun x w' => x = .returned (.int .i64 (p : Int)) ∧ ∃ own2', LT W w' own9 own2' b b2 gb hN sn u (m : Int) S P false Ag cg ys ∧ RL2 w' own9 own2' (some adr) c4 rd by
                  have h1 := HL15.out.pick2 HR15.out HOB2.out (by rw [hll]; have := HHE.out; omega) hob2 (h : Int)
                  rw [hll] at h1
                  have h2 := HTX.out
                  rw [← HST.out.el] at h2
                  rw [h2] at h1
                  exact h1)
                clear hw56 z0 zf hob1 hob2 hobN hrne hll k3 kr2
                go_wp2_with (go_at_call 17; refine HPK2.out.mono ?_; rintro e w57 ⟨rfl, own16, hl16, hr16⟩; have HL16 := Aside0.mk hl16; have HR16 := Aside0.mk hr16; clear hl16 hr16)
                go_roundw
                case rel => exact ⟨h + 1, own9, own16, sn, by go_num, by omega, HL16, HR16, HPE⟩
                case measure => simp [intOf]; omega
          · go_wp2
            go_meet
            case rel => exact ⟨own8, own28, s8, HL8, HR8, HP8⟩
      case rest =>
        clear HL4 HRL HP1
        obtain ⟨own8, own28, s8, HL8, HR8, HP8⟩ := hcut
        go_wp2_with (first | (go_at_call 18; with_reducible refine (HL8.out.tick (by have := HP8.out.1.now; omega) HR8.out).mono ?_; rintro e w61 ⟨rfl, own11, hl11⟩; have HL11 := Aside0.mk hl11; clear hl11) | (go_at_call 18; with_reducible refine (HL11.out.tick2 (by have h1 := HP8.out.1.un; have h2 := HP8.out.1.now; omega)).mono ?_; rintro e w62 ⟨rfl, own12, hl12⟩; have HL12 := Aside0.mk hl12; clear hl12))
        go_roundw
        case rel => exact ⟨i + 1, own11, own12, _, _, by go_num, by omega, HL12, ⟨by have := HP8.out.1.tick HL8.out.L.X HL8.out.X (by omega) rd; exact this⟩⟩
        case measure => simp [intOf]; omega
    · go_wp2_with (go_at_call 19; refine (awake_calls _).mono ?_; rintro e w90 ⟨rfl, hb⟩; have HBE := Aside0.mk (below_step HL1.out.L.B hb); clear hb)
      go_ret
      exact ⟨rfl, HBE.out⟩
end Go.Proofs.Ytdaadmjppikebaa.SC

/- What the readings of a law's arguments (a conf, a script, numbers) say of cells. -/
namespace Go.Proofs.Ytdaadmjppikebaa.SC
open Go.RowKit Go.Proofs.YtdaadmjppikebaaW.PrintWords Go.Proofs.Ytdaadmjppikebaa.Opn Go.WideShapes
open Go.Proofs.Ytdaadmjppikebaa.PV (S29 k29)
set_option linter.unusedVariables false
set_option maxRecDepth 100000

theorem list3 {α : Type} {l : List α} (h : l.length = 3) : ∃ a b c, l = [a, b, c] := by
  match l, h with
  | [a, b, c], _ => exact ⟨a, b, c, rfl⟩
theorem list5 {α : Type} {l : List α} (h : l.length = 5) : ∃ a b c d e, l = [a, b, c, d, e] := by
  match l, h with
  | [a, b, c, d, e], _ => exact ⟨a, b, c, d, e, rfl⟩
theorem cells3 : Try.prog.cellsOf 3 = 1 := by kernel_rfl
theorem cells4 : Try.prog.cellsOf 4 = 1 := by kernel_rfl
theorem cells23 : Try.prog.cellsOf 23 = 1 := by kernel_rfl
theorem cells25 : Try.prog.cellsOf 25 = 1 := by kernel_rfl
theorem cells27 : Try.prog.cellsOf 27 = 5 := by kernel_rfl
theorem cells29 : Try.prog.cellsOf 29 = 3 := by kernel_rfl
theorem cells48 : Try.prog.cellsOf 48 = 3 := by kernel_rfl
theorem fld {H : Type} {enc : TypeId × Value → H} {w : World} {n t off k : Nat} {cs : List Value} {y : DataW H × List MemPlace} (hc : Try.prog.cellsOf t = k) (h : DataW.trod enc Try.prog w 0 (fun _ => true) true n t ((cs.drop off).take (Try.prog.cellsOf t)) = some y) : DataW.trod enc Try.prog w 0 (fun _ => true) true n t ((cs.drop off).take k) = some y := by
  rw [hc] at h; exact h
def G29 (_ : Nat) (_ : S29) : Prop := True
def G48 (_ : Nat) (x : S48) : Prop := (Lit.int .u64 x.f2).wf = true
theorem opens29 : Opens Try.prog 29 k29 G29 := by
  intro H enc w fuel cs x h
  obtain ⟨n, hl, hf⟩ := opens_fields Try.underlying29 h
  rw [cells29] at hl
  obtain ⟨c0, c1, c2, rfl⟩ := list3 hl
  obtain ⟨y0, h0, b0⟩ := hf 0 _ rfl
  obtain ⟨y1, h1, b1⟩ := hf 1 _ rfl
  obtain ⟨y2, h2, b2⟩ := hf 2 _ rfl
  have h0 : DataW.trod enc Try.prog w 0 (fun _ => true) true n 3 [c0] = some y0 := fld (t := 3) (off := 0) (cs := [c0, c1, c2]) cells3 h0
  have h1 : DataW.trod enc Try.prog w 0 (fun _ => true) true n 3 [c1] = some y1 := fld (t := 3) (off := 1) (cs := [c0, c1, c2]) cells3 h1
  have h2 : DataW.trod enc Try.prog w 0 (fun _ => true) true n 4 [c2] = some y2 := fld (t := 4) (off := 2) (cs := [c0, c1, c2]) cells4 h2
  obtain ⟨a0, k0, _⟩ := opens_int Try.underlying3 enc w n _ _ h0
  obtain ⟨a1, k1, _⟩ := opens_int Try.underlying3 enc w n _ _ h1
  obtain ⟨a2, k2, _⟩ := opens_bool Try.underlying4 enc w n _ _ h2
  obtain rfl : c0 = .int .i64 a0 := by simpa using (show [c0] = [Value.int .i64 a0] from k0)
  obtain rfl : c1 = .int .i64 a1 := by simpa using (show [c1] = [Value.int .i64 a1] from k1)
  obtain rfl : c2 = .bool a2 := by simpa using (show [c2] = [Value.bool a2] from k2)
  exact ⟨⟨a0, a1, a2⟩, PV.k29_mk w ⟨a0, a1, a2⟩, trivial⟩
theorem k48_mk (w : World) (x : S48) : k48.K w x [.int .i64 x.f0, .int .i64 x.f1, .int .u64 x.f2] := ⟨[.int .i64 x.f0], [.int .i64 x.f1, .int .u64 x.f2], rfl, rfl, ⟨[.int .i64 x.f1], [.int .u64 x.f2], rfl, rfl, rfl⟩⟩
theorem opens48 : Opens Try.prog 48 k48 G48 := by
  intro H enc w fuel cs x h
  obtain ⟨n, hl, hf⟩ := opens_fields Try.underlying48 h
  rw [cells48] at hl
  obtain ⟨c0, c1, c2, rfl⟩ := list3 hl
  obtain ⟨y0, h0, b0⟩ := hf 0 _ rfl
  obtain ⟨y1, h1, b1⟩ := hf 1 _ rfl
  obtain ⟨y2, h2, b2⟩ := hf 2 _ rfl
  have h0 : DataW.trod enc Try.prog w 0 (fun _ => true) true n 3 [c0] = some y0 := fld (t := 3) (off := 0) (cs := [c0, c1, c2]) cells3 h0
  have h1 : DataW.trod enc Try.prog w 0 (fun _ => true) true n 3 [c1] = some y1 := fld (t := 3) (off := 1) (cs := [c0, c1, c2]) cells3 h1
  have h2 : DataW.trod enc Try.prog w 0 (fun _ => true) true n 23 [c2] = some y2 := fld (t := 23) (off := 2) (cs := [c0, c1, c2]) cells23 h2
  obtain ⟨a0, k0, _⟩ := opens_int Try.underlying3 enc w n _ _ h0
  obtain ⟨a1, k1, _⟩ := opens_int Try.underlying3 enc w n _ _ h1
  obtain ⟨a2, k2, _, g2⟩ := opens_int Try.underlying23 enc w n _ _ h2
  obtain rfl : c0 = .int .i64 a0 := by simpa using (show [c0] = [Value.int .i64 a0] from k0)
  obtain rfl : c1 = .int .i64 a1 := by simpa using (show [c1] = [Value.int .i64 a1] from k1)
  obtain rfl : c2 = .int .u64 a2 := by simpa using (show [c2] = [Value.int .u64 a2] from k2)
  exact ⟨⟨a0, a1, a2⟩, k48_mk w ⟨a0, a1, a2⟩, g2⟩
/-- A conf that was read. -/
theorem open_C {H : Type} {enc : TypeId × Value → H} {w : World} {v : Value} {d : DataW H} {p : List MemPlace} {r : Reach} {base : Nat} (hv : Value.okWide Try.prog w r base 27 v) (h : DataW.Trod enc Try.prog w 0 (fun _ => true) true 27 v d p) :
    ∃ (a0 a1 a2 : Int) (a3 : Bool) (A : Option Addr) (c : Nat) (l : List S29), v = .agg #[.int .i64 a0, .int .i64 a1, .int .i64 a2, .bool a3, .slice A l.length c] ∧ Kd.C k29 w A l.length l ∧ l.length ≤ c ∧ l.length ≤ Rows.uptoBulk d := by
  obtain ⟨cs, rfl, hsz⟩ := okWide_struct Try.underlying27 hv
  obtain ⟨fuel, h⟩ := h
  have h' : DataW.trod enc Try.prog w 0 (fun _ => true) true fuel 27 cs.toList = some (d, p) := h
  obtain ⟨n, hl, hf⟩ := opens_fields Try.underlying27 h'
  rw [cells27] at hl
  obtain ⟨c0, c1, c2, c3, c4, hcs⟩ := list5 hl
  obtain rfl : cs = #[c0, c1, c2, c3, c4] := by cases cs; simpa using hcs
  obtain ⟨y0, h0, b0⟩ := hf 0 _ rfl
  obtain ⟨y1, h1, b1⟩ := hf 1 _ rfl
  obtain ⟨y2, h2, b2⟩ := hf 2 _ rfl
  obtain ⟨y3, h3, b3⟩ := hf 3 _ rfl
  obtain ⟨y4, h4, b4⟩ := hf 4 _ rfl
  have h0 : DataW.trod enc Try.prog w 0 (fun _ => true) true n 3 [c0] = some y0 := fld (t := 3) (off := 0) (cs := [c0, c1, c2, c3, c4]) cells3 h0
  have h1 : DataW.trod enc Try.prog w 0 (fun _ => true) true n 3 [c1] = some y1 := fld (t := 3) (off := 1) (cs := [c0, c1, c2, c3, c4]) cells3 h1
  have h2 : DataW.trod enc Try.prog w 0 (fun _ => true) true n 3 [c2] = some y2 := fld (t := 3) (off := 2) (cs := [c0, c1, c2, c3, c4]) cells3 h2
  have h3 : DataW.trod enc Try.prog w 0 (fun _ => true) true n 4 [c3] = some y3 := fld (t := 4) (off := 3) (cs := [c0, c1, c2, c3, c4]) cells4 h3
  have h4 : DataW.trod enc Try.prog w 0 (fun _ => true) true n 25 [c4] = some y4 := fld (t := 25) (off := 4) (cs := [c0, c1, c2, c3, c4]) cells25 h4
  obtain ⟨a0, k0, _⟩ := opens_int Try.underlying3 enc w n _ _ h0
  obtain ⟨a1, k1, _⟩ := opens_int Try.underlying3 enc w n _ _ h1
  obtain ⟨a2, k2, _⟩ := opens_int Try.underlying3 enc w n _ _ h2
  obtain ⟨a3, k3, _⟩ := opens_bool Try.underlying4 enc w n _ _ h3
  obtain ⟨A4, x4, l4, e4, q4, C4, g4⟩ := opens_row (d := k29) (G := G29) Try.underlying25 opens29 cells29 h4
  obtain rfl : c0 = .int .i64 a0 := by simpa using (show [c0] = [Value.int .i64 a0] from k0)
  obtain rfl : c1 = .int .i64 a1 := by simpa using (show [c1] = [Value.int .i64 a1] from k1)
  obtain rfl : c2 = .int .i64 a2 := by simpa using (show [c2] = [Value.int .i64 a2] from k2)
  obtain rfl : c3 = .bool a3 := by simpa using (show [c3] = [Value.bool a3] from k3)
  obtain rfl : c4 = .slice A4 l4.length x4 := by simpa using e4
  have z4 := g4.1
  simp only at b4
  exact ⟨a0, a1, a2, a3, A4, x4, l4, rfl, C4, q4, by omega⟩
/-- A script that was read. -/
theorem open_ops {H : Type} {enc : TypeId × Value → H} {w : World} {v : Value} {d : DataW H} {p : List MemPlace} {r : Reach} {base : Nat} (hv : Value.okWide Try.prog w r base 45 v) (h : DataW.Trod enc Try.prog w 0 (fun _ => true) true 45 v d p) :
    ∃ (A : Option Addr) (c : Nat) (ls : List S48), v = .slice A ls.length c ∧ Kd.C k48 w A ls.length ls ∧ ls.length ≤ c ∧ ls.length ≤ Rows.uptoBulk d := by
  obtain ⟨a, len, cap, rfl⟩ := okWide_slice Try.underlying45 hv
  obtain ⟨fuel, h⟩ := h
  obtain ⟨A, c, ls, e, l, C, g⟩ := opens_row (d := k48) (G := G48) Try.underlying45 opens48 cells48 h
  have e' : Value.slice a len cap = .slice A ls.length c := by simpa [Value.cells] using e
  exact ⟨A, c, ls, e', C, l, by have := g.1; simp only at this; omega⟩
theorem bulk2 {H : Type} {d0 d1 : DataW H} (h : Rows.uptoBulkAll [d0, d1] ≤ 1048576) : Rows.uptoBulk d0 ≤ 1048576 ∧ Rows.uptoBulk d1 ≤ 1048576 := by
  simp only [Rows.uptoBulkAll] at h; omega
end Go.Proofs.Ytdaadmjppikebaa.SC

/- SchedPicks: whatever the arguments are that read as data, it gives true. -/
namespace Go.Proofs.Ytdaadmjppikebaa.SC
open Go.RowKit Go.Proofs.Ytdaadmjppikebaa.Opn Go.WideShapes Go.Proofs.YtdaadmjppikebaaW.PrintWords
set_option maxRecDepth 100000 in
theorem schedPicks_core (H : Type) (enc : TypeId × Value → H) (W : World) (base : Nat) (v0 v1 : Value) (d0 d1 : DataW H) (p0 p1 : List MemPlace)
    (o0 : Value.okWide Try.prog W .any base 27 v0) (h0 : DataW.Trod enc Try.prog W 0 (fun _ => true) true 27 v0 d0 p0)
    (o1 : Value.okWide Try.prog W .any base 45 v1) (h1 : DataW.Trod enc Try.prog W 0 (fun _ => true) true 45 v1 d1 p1) (hb : Rows.uptoBulkAll [d0, d1] ≤ 1048576) :
    Calls Try.prog 5 #[v0, v1] W fun e W' => e = .returned (.bool true) ∧ Below W.heap.size W W' := by
  obtain ⟨hb0, hb1⟩ := bulk2 hb
  obtain ⟨a0, a1, a2, a3, A, c, l, rfl, hC, hl, _⟩ := open_C o0 h0
  obtain ⟨A1, c1, l1, rfl, hC1, hl1, hb2⟩ := open_ops o1 h1
  exact picks_law hC hl hC1 hl1 (by omega)
end Go.Proofs.Ytdaadmjppikebaa.SC
