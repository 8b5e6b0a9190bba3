import Derived.Test.YtdaadmjppikebaaK11
import Derived.Test.YtdaadmjppikebaaK10
import Derived.Test.YtdaadmjppikebaaOpen
import Derived.WideShapes
/- Parts of the walk of package sched, merged. -/
/- SchedGangs. -/
namespace Go.Proofs.Ytdaadmjppikebaa.SC
open Go.RowKit Go.Proofs.YtdaadmjppikebaaW.PrintWords Go.Proofs.YtdaadmjppikebaaW.PrintLast
open Go.Proofs.Ytdaadmjppikebaa.PV (S94 k94 S29 k29 rd_T94 rd_T29)
set_option linter.unusedVariables false
set_option linter.unusedSimpArgs false

theorem mk22 (W : World) (n : Nat) : Blk (W.alloc (.cells (madeCells #[.int .i64 0] n) 3)) W.heap.size 3 ((List.replicate n (0 : Int)).map (Value.int .i64)) := by
  have h := make_blk W (Value.agg #[.int .i64 0]).cells 3 n [.int .i64 0] rfl (by decide)
  have e : (List.replicate n [Value.int .i64 0]).flatten = (List.replicate n (0 : Int)).map (Value.int .i64) := by simp
  rw [e, show n * [Value.int .i64 0].length = n by simp] at h; exact h
set_option maxRecDepth 100000 in
set_option maxHeartbeats 3200000 in
theorem gangs_calls {W : World} {a0 a1 a2 : Int} {a3 : Bool} {A0 : Option Addr} {c0 : Nat} {l0 : List S29} {A1 : Option Addr} {c1 : Nat} {l1 : List S48} (hC : Kd.C k29 W A0 l0.length l0) (hc : l0.length ≤ c0) (hS : Kd.C k48 W A1 l1.length l1) (hs : l1.length ≤ c1) (hs2 : l1.length ≤ 1048576) :
    Calls Try.prog 4 #[.agg #[.int .i64 a0, .int .i64 a1, .int .i64 a2, .bool a3, .slice A0 l0.length c0], .slice A1 l1.length c1] W fun x w' => x = .returned (.bool true) ∧ Below W.heap.size W w' := by
  have HSC := Aside0.mk hS
  clear hS
  obtain ⟨m, S, P, ys, hrt, hm, hS, hP, hrg⟩ := right_plain a0 a1 a2 a3 l0
  have hok := hrg.ok hm hS hP
  have hcf := conf_f ys (by have := hrg.l6; omega) (m : Int) S P a3
  have hrf := right_f (cr := a3) hok
  obtain ⟨gl, hgl⟩ : ∃ gl, gl = confL ys := ⟨_, rfl⟩
  rw [← hgl] at hok hcf hrf
  have HGL := Aside0.mk hgl
  have HRG := Aside0.mk hrg
  have HOK := Aside0.mk hok
  have HCF := Aside0.mk hcf
  have HRF := Aside0.mk hrf
  have HRT := Aside0.mk hrt
  have HC0 := Aside0.mk hC
  have HL0 := Aside0.mk hc
  clear hok hcf hrf hgl hrg hrt hC hc
  go_enter Try.func4, Try.ntmps4
  go_upto_region 2 with (first | ((with_reducible refine gate_dst (N := 2) rfl ?_); (try (refine gate_guard (by rfl) ?_; dsimp only)); refine box_event ?hg (N := 2) ?hd (cs := #[.int .i64 a0, .int .i64 a1, .int .i64 a2, .bool a3, .slice A0 l0.length c0]) (t := 27) ?hr ?_; (case hd => rfl); (case hg => rfl); (case hr => first | (go_simp; done) | (go_simp; rfl)); intro gb hg w1 hbox hb; have z0 : w1.cell? ⟨gb, 0, none⟩ = some (.int .i64 a0) := (blk_cell hbox 0).trans rfl; have z1 : w1.cell? ⟨gb, 1, none⟩ = some (.int .i64 a1) := (blk_cell hbox 1).trans rfl; have z2 : w1.cell? ⟨gb, 2, none⟩ = some (.int .i64 a2) := (blk_cell hbox 2).trans rfl; have z3 : w1.cell? ⟨gb, 3, none⟩ = some (.bool a3) := (blk_cell hbox 3).trans rfl; have z4 : w1.cell? ⟨gb, 4, none⟩ = some (.slice A0 l0.length c0) := (blk_cell hbox 4).trans rfl; have HBX := Aside0.mk hbox; have HGB := Aside0.mk hg; have HB1 := Aside0.mk hb; clear hg hbox hb) | (go_at_call 20; with_reducible refine (PV.citadellaw18_right.calls 20 a0 a1 a2 a3 A0 c0 l0 (m : Int) S P a3 ys _ (Kd.C_below HC0.out HB1.out) HL0.out HRT.out).mono ?_; rintro e w2 ⟨v4, rfl, hs2, hb2⟩; obtain ⟨Ag, cg, e4⟩ := Kd.R_slice hs2; subst e4; have HR2 := Aside0.mk hs2; have HB2 := Aside0.mk hb2; have HBK := Aside0.mk ((blkbox HBX.out).below hb2); have y0 : w2.cell? ⟨gb, 0, none⟩ = some (.int .i64 a0) := HBK.out.cell rfl; have yf0 : w2.frozen? ⟨gb, 0, none⟩ = false := HBK.out.frozen _; have y1 : w2.cell? ⟨gb, 1, none⟩ = some (.int .i64 a1) := HBK.out.cell rfl; have yf1 : w2.frozen? ⟨gb, 1, none⟩ = false := HBK.out.frozen _; have y2 : w2.cell? ⟨gb, 2, none⟩ = some (.int .i64 a2) := HBK.out.cell rfl; have yf2 : w2.frozen? ⟨gb, 2, none⟩ = false := HBK.out.frozen _; have y3 : w2.cell? ⟨gb, 3, none⟩ = some (.bool a3) := HBK.out.cell rfl; have yf3 : w2.frozen? ⟨gb, 3, none⟩ = false := HBK.out.frozen _; have y4 : w2.cell? ⟨gb, 4, none⟩ = some (.slice A0 l0.length c0) := HBK.out.cell rfl; have yf4 : w2.frozen? ⟨gb, 4, none⟩ = false := HBK.out.frozen _; clear hs2 hb2))
  have HCC := Aside0.mk (CC.of (m := (m : Int)) (S := S) (P := P) (cr := a3) HBK.out (by rw [HGB.out]; exact Nat.le_refl _) (below_step HB1.out HB2.out) (Kd.R_lower HR2.out HB1.out.size) (fun k hk e => by have h1 := Kd.R_base HR2.out k hk; have h2 := (blkbox HBX.out).lt; rw [e] at h1; omega))
  obtain ⟨w3, hw3⟩ : ∃ w3, w3 = (((((w2.setCell ⟨gb, 0, none⟩ (.int .i64 (m : Int))).setCell ⟨gb, 1, none⟩ (.int .i64 S)).setCell ⟨gb, 2, none⟩ (.int .i64 P)).setCell ⟨gb, 3, none⟩ (.bool a3)).setCell ⟨gb, 4, none⟩ (.slice Ag ys.length cg)) := ⟨_, rfl⟩
  rw [← hw3] at HCC ⊢
  clear hw3 HBK HR2 HB2 HB1 HGB HBX z0 z1 z2 z3 z4 y0 y1 y2 y3 y4 yf0 yf1 yf2 yf3 yf4
  have d0 : w3.cell? ⟨gb, 0, none⟩ = some (.int .i64 (m : Int)) := HCC.out.b.cell rfl
  have d1 : w3.cell? ⟨gb, 1, none⟩ = some (.int .i64 S) := HCC.out.b.cell rfl
  have d2 : w3.cell? ⟨gb, 2, none⟩ = some (.int .i64 P) := HCC.out.b.cell rfl
  have d3 : w3.cell? ⟨gb, 3, none⟩ = some (.bool a3) := HCC.out.b.cell rfl
  have d4 : w3.cell? ⟨gb, 4, none⟩ = some (.slice Ag ys.length cg) := HCC.out.b.cell rfl
  go_upto_region 3 with (first | (go_at_call 14; with_reducible refine (PV.citadellaw18_C_Conf.calls (ys.length + 1) (m : Int) S P a3 _ _ ys (m : Int) S P a3 gl _ (Kd.R_reads' HCC.out.r).2.2 (Kd.R_reads' HCC.out.r).2.1 HCF.out).mono ?_; rintro e w21 ⟨v2, rfl, hs2, hb2⟩; obtain ⟨A2, c2, e2, hl2, hC2⟩ := Kd.S_reads hs2; subst e2; have HC2 := Aside0.mk hC2; have HL2 := Aside0.mk hl2; have HCB3 := Aside0.mk (HCC.out.below hb2); clear hs2 hl2 hC2 hb2) | (go_at_call 13; refine (new_sb (m := m) (k := 2 * gl.length + 2) rfl HRF.out HC2.out HL2.out HOK.out).mono ?_; rintro e w22 ⟨b, own, rfl, hsb, hown, hb3⟩; obtain ⟨s0, hs0⟩ : ∃ s0, s0 = newF m S P a3 gl := ⟨_, rfl⟩; rw [← hs0] at hsb; have HS0 := Aside0.mk hs0; have HLW := Aside0.mk (LW.of HCB3.out hb3 hsb hown); clear hsb hown hb3 hs0))
  clear d0 d1 d2 d3 d4 HCC HCB3 HC2 HL2 HCF HRF

  obtain ⟨pn, rfl⟩ : ∃ pn : Nat, P = (pn : Int) := ⟨P.toNat, by omega⟩
  have hnp := (by have := HOK.out; rw [HGL.out] at this; exact np_new (cr := a3) this : NP m S (pn : Int) a3 ys (newF m S (pn : Int) a3 (confL ys)))
  have HI := Aside0.mk (show GaP m S pn a3 ys s0 (List.replicate ys.length 0) 0 from by
    have h2 := (newF_ok (cr := a3) HOK.out).2.2.2.2.1
    rw [← HS0.out] at h2
    rw [← HGL.out, ← HS0.out] at hnp
    exact ⟨h2, hnp, by simp, fun q hq => by rw [List.getD_eq_getElem?_getD, List.getElem?_replicate, if_pos hq]; rfl⟩)
  clear hnp HS0 HOK HGL HRT HC0 HL0
  obtain ⟨hN, hhN⟩ : ∃ hN, hN = w21.heap.size := ⟨_, rfl⟩
  rw [← hhN] at HLW
  clear hhN
  have h22 := make_run 22 3 _ 1 8 Try.underlying22 info3 (by decide) ys.length (by have := HRG.out.l6; omega)
  have d4 : w22.cell? ⟨gb, 4, none⟩ = some (.slice Ag ys.length cg) := HLW.out.C.b.cell rfl
  go_upto_region 6 with (fail)
  have HSL := Aside0.mk (show SL (w22.alloc (.cells (madeCells #[.int .i64 0] ys.length) 3)) own hN w22.heap.size (List.replicate ys.length 0) from ⟨mk22 w22 ys.length, fun e => by have := HLW.out.X.lt _ e; omega, HLW.out.z⟩)
  replace HLW := Aside0.mk (HLW.out.below (below_alloc (Below.refl _ _) (.cells (madeCells #[.int .i64 0] ys.length) 3)))
  obtain ⟨sb, hsb⟩ : ∃ sb, sb = w22.heap.size := ⟨_, rfl⟩
  obtain ⟨w5, hw5⟩ : ∃ w5, w5 = w22.alloc (.cells (madeCells #[.int .i64 0] ys.length) 3) := ⟨_, rfl⟩
  rw [← hw5, ← hsb] at HSL
  rw [← hw5] at HLW
  rw [← hw5, ← hsb]
  clear hw5 hsb d4 h22
  go_wp2_with (fail)
  go_loopw [8] (fun v8 w' => ∃ (i : Nat) (own : Nat → Prop) (s : SS) (sl : List Int), v8 = .int .i64 (i : Int) ∧ i ≤ l1.length ∧ Aside0 (LW W w' own b gb hN s (m : Int) S (pn : Int) a3 Ag cg ys) ∧ Aside0 (SL w' own hN sb sl) ∧ Aside0 (GaP m S pn a3 ys s sl i)) (fun v8 _ => l1.length - (intOf v8).toNat)
  case atStart => exact ⟨0, own, s0, _, rfl, Nat.zero_le _, HLW, HSL, HI⟩
  case round =>
    obtain ⟨i, own1, s, sl, rfl, hil, HL1, HSL1, HI1⟩ := hrel
    clear HLW HSL HI
    by_cases hlt : i < l1.length
    · obtain ⟨ad, e0, _, _, hx⟩ := at_T48 (Kd.C_below HSC.out HL1.out.B) (i : Int) (by omega) (by omega)
      subst e0
      obtain ⟨x, hxx⟩ : ∃ x, x = (rd_T48 l1 (i : Int)).f2 := ⟨_, rfl⟩
      rw [← hxx, Int.toNat_natCast] at hx
      have HLd := Aside0.mk (HL1.out.below (below_drew (Below.refl _ _)))
      have HSd := Aside0.mk (HSL1.out.below (below_drew (Below.refl _ _)))
      have zx : wr.drew.cell? ⟨(ad.add (i * 3)).block, (ad.add (i * 3)).off + 2, none⟩ = some (.int .u64 x) := pw_cell_below (below_drew (Below.refl _ _)) hx
      clear hxx
      go_upto_region 9 with (fail)
      refine start_ (n := 9) (S := fun w' => w'.cell? ⟨(ad.add (i * 3)).block, (ad.add (i * 3)).off + 2, none⟩ = some (.int .u64 x)) (ds := []) #[false, false, false, false, false, false, false, false, false] (by kernel_rfl) rfl rfl (zx) (fun hHeld => ?_)
      refine pure_ (i := 0) (N := some 41) (v := ?_) (a' := ?_) #[true, false, false, false, false, false, false, false, false] rfl rfl (by kernel_rfl) (fun _ _ _ h => h) (Or.inl ⟨by rfl, ?_⟩) ?_ ?_
      rotate_left
      · intro w'
        go_simp
        with_reducible rfl
      rotate_left
      · simp only [Act.put, List.setIfInBounds_toArray, List.set_cons_zero, List.set_cons_succ, i64_w, i32_w]
        rfl
      refine pure_ (i := 1) (N := some 42) (v := ?_) (a' := ?_) #[true, true, false, false, false, false, false, false, false] rfl rfl (by kernel_rfl) (fun _ _ _ h => h) (Or.inl ⟨by rfl, ?_⟩) ?_ ?_
      rotate_left
      · intro w'
        go_simp
        with_reducible rfl
      rotate_left
      · simp only [Act.put, List.setIfInBounds_toArray, List.set_cons_zero, List.set_cons_succ, i64_w, i32_w]
        rfl
      refine pure_ (i := 2) (N := some 43) (v := ?_) (a' := ?_) #[true, true, true, false, false, false, false, false, false] rfl rfl (by kernel_rfl) (fun _ _ _ h => h) (Or.inl ⟨by rfl, ?_⟩) ?_ ?_
      rotate_left
      · intro w'
        go_simp
        with_reducible rfl
      rotate_left
      · simp only [Act.put, List.setIfInBounds_toArray, List.set_cons_zero, List.set_cons_succ, i64_w, i32_w]
        rfl
      refine pure_ (i := 3) (N := some 44) (v := ?_) (a' := ?_) #[true, true, true, true, false, false, false, false, false] rfl rfl (by kernel_rfl) (fun _ _ _ h => h) (Or.inl ⟨by rfl, ?_⟩) ?_ ?_
      rotate_left
      · intro w'
        go_simp
        with_reducible rfl
      rotate_left
      · simp only [Act.put, List.setIfInBounds_toArray, List.set_cons_zero, List.set_cons_succ, i64_w, i32_w]
        rfl
      refine pure_ (i := 5) (N := some 46) (v := ?_) (a' := ?_) #[true, true, true, true, false, true, false, false, false] rfl rfl (by kernel_rfl) (fun _ _ _ h => h) (Or.inl ⟨by rfl, ?_⟩) ?_ ?_
      rotate_left
      · intro w'
        go_simp
        with_reducible rfl
      rotate_left
      · simp only [Act.put, List.setIfInBounds_toArray, List.set_cons_zero, List.set_cons_succ, i64_w, i32_w]
        rfl
      refine take_ (i := 4) (N := some 45) (v := ?_) (a' := ?_) #[true, true, true, true, true, true, false, false, false] rfl rfl (by kernel_rfl) (fun _ _ _ h => h) (Or.inl ⟨by rfl, ?_⟩) hHeld ?_ ?_
      rotate_left
      · intro w' s0
        go_simp
        with_reducible rfl
      rotate_left
      · simp only [Act.put, List.setIfInBounds_toArray, List.set_cons_zero, List.set_cons_succ, i64_w, i32_w]
        rfl
      refine one_ (i := 6) (N := some 47) #[true, true, true, true, true, true, true, false, false] rfl rfl (by kernel_rfl) (by decide) (fun K hK => ?_)
      refine goes_ Try.func15 (by kernel_rfl) rfl #[.pointer (some ⟨b, 0, none⟩)] (by rfl) rfl rfl (by simp only [List.map_toArray, List.map_cons, List.map_nil]; rfl) ?_
      with_reducible refine (HLd.out.X.entities).mono ?_
      rintro e w3 ⟨rfl, rfl⟩
      refine ⟨_, rfl, ?_⟩
      refine hK.out _ _ (zx) (fun hHeld => ?_)
      clear hK K
      refine norm_ (a' := ?_) ?_ ?_
      rotate_left
      · show Act.put _ (some 47) _ = _
        simp only [Act.put, List.setIfInBounds_toArray, List.set_cons_zero, List.set_cons_succ, i64_w, i32_w]
        rfl
      refine one_ (i := 7) (N := some 48) #[true, true, true, true, true, true, true, true, false] rfl rfl (by kernel_rfl) (by decide) (fun K hK => ?_)
      refine goes_ Try.func16 (by kernel_rfl) rfl #[.int .u64 x, .int .i64 (s.es.length : Int)] (by rfl) rfl rfl (by simp only [List.map_toArray, List.map_cons, List.map_nil]; rfl) ?_
      with_reducible refine (HLd.out.lists x s.es.length rfl).mono ?_
      rintro e w4 ⟨A4, c4, rfl, hrl, hl4, hb4, hne⟩
      refine ⟨_, rfl, ?_⟩
      have HRL := Aside0.mk hrl
      have HL4 := Aside0.mk hl4
      have HS4 := Aside0.mk (HSd.out.below hb4)
      have HNE := Aside0.mk (show ∀ k, (Value.slice A4 (bitsL x s.es.length).length c4).ownBlock = some k → k ≠ sb from fun k hk e => by have h1 := hne k hk; have h2 := HSd.out.b.lt; omega)
      have zx4 := pw_cell_below hb4 zx
      clear hrl hl4 hb4 hne
      refine hK.out _ _ (zx4) (fun hHeld => ?_)
      clear hK K
      refine norm_ (a' := ?_) ?_ ?_
      rotate_left
      · show Act.put _ (some 48) _ = _
        simp only [Act.put, List.setIfInBounds_toArray, List.set_cons_zero, List.set_cons_succ, i64_w, i32_w]
        rfl
      refine pure_ (i := 8) (N := some 9) (v := ?_) (a' := ?_) #[true, true, true, true, true, true, true, true, true] rfl rfl (by kernel_rfl) (fun _ _ _ h => h) (Or.inl ⟨by rfl, ?_⟩) ?_ ?_
      rotate_left
      · intro w'
        go_simp
        with_reducible rfl
      rotate_left
      · simp only [Act.put, List.setIfInBounds_toArray, List.set_cons_zero, List.set_cons_succ, i64_w, i32_w]
        rfl
      refine done_ (by kernel_rfl) ?_
      obtain ⟨rd, hrd⟩ : ∃ rd, rd = bitsL x s.es.length := ⟨_, rfl⟩
      rw [← hrd] at HRL HNE ⊢
      have HRN := Aside0.mk (show rd.length = s.es.length by rw [hrd, bitsL_len])
      clear hx zx HLd HSd zx4 hrd HL1 HSL1
      have hy6 := HRG.out.l6
      have HG := Aside0.mk HL4.out.gang
      go_upto_if 52 with (go_at_call 21; refine HG.out.mono ?_; rintro e w44 ⟨rfl, hl5, hb5⟩; have HL5 := Aside0.mk hl5; have HR5 := Aside0.mk (HRL.out.below hb5); have HS5 := Aside0.mk (HS4.out.below hb5); clear hl5 hb5)
      go_cut [10] (fun v10 wc => ∃ (own' : Nat → Prop) (sl' : List Int), Aside0 (LW W wc own' b gb hN (tickF s rd) (m : Int) S (pn : Int) a3 Ag cg ys) ∧ Aside0 (SL wc own' hN sb sl') ∧ Aside0 (GaP m S pn a3 ys (tickF s rd) sl' (i + 1)))
      case first =>
        clear HL4 HS4 HRL HG
        rcases gangF_range s with hgn | hgp
        · have HNX := Aside0.mk (fun q : Nat => (show gangF s ≠ (q : Int) by omega))
          first | rw [show decide (gangF s ≥ 0) = false by rw [hgn]; rfl] | rw [show decide (0 ≤ gangF s) = false by rw [hgn]; rfl]
          rw [hgn]
          clear hgn
          go_wp2_with (go_at_call 18; with_reducible refine (HL5.out.tick (by have := HI1.out.now; omega) HR5.out).mono ?_; rintro e w46 ⟨rfl, own6, hl6, ht6⟩; have HL6 := Aside0.mk hl6; have HS6 := Aside0.mk (HS5.out.then_ ht6); clear hl6 ht6)
          go_meet
          case rel => exact ⟨own6, sl, HL6, HS6, ⟨HI1.out.tick HL5.out.X (by omega) rd rfl (fun q hq => by rw [if_neg (HNX.out q), Int.add_zero])⟩⟩
        · obtain ⟨g, hg⟩ : ∃ g : Nat, gangF s = (g : Int) := ⟨(gangF s).toNat, by omega⟩
          have hgg := gangF_g (s := s) (by omega)
          rw [hg, Int.toNat_natCast, HI1.out.n.gl] at hgg
          have hgl := hgg.1
          have hgf : (rd_T29 ys (g : Int)).f2 = true := by have h1 := HI1.out.n.gg g; rw [← h1]; exact hgg.2
          have HGF := Aside0.mk hg
          first | rw [show decide (gangF s ≥ 0) = true by rw [hg]; simp] | rw [show decide (0 ≤ gangF s) = true by rw [hg]; simp]
          rw [hg]
          clear hg hgg hgp
          have k4 : w44.cell? ⟨gb, 4, none⟩ = some (.slice Ag ys.length cg) := HL5.out.C.b.cell rfl
          obtain ⟨adg, e6, _, _, kx⟩ := PV.at_T29 (Kd.R_reads' HL5.out.C.r).2.2 (g : Int) (by omega) (by omega)
          subst e6
          rw [hgf, Int.toNat_natCast] at kx
          clear hgf
          have bge : decide (ys.length ≤ g) = false := by simp; omega
          have hsl : g < sl.length := by rw [HI1.out.l]; exact hgl
          have ks := HS5.out.cell hsl
          have kf : w44.frozen? ⟨sb, g, none⟩ = false := HS5.out.b.frozen _
          have hsr : 0 ≤ sl.getD g 0 ∧ sl.getD g 0 ≤ 1048576 := by rw [HI1.out.c g hgl]; have := gcnt_range s.gs pn g i; omega
          obtain ⟨sg, hsg⟩ : ∃ sg, sg = sl.getD g 0 := ⟨_, rfl⟩
          rw [← hsg] at ks hsr
          have HSG := Aside0.mk hsg
          clear hsg
          go_upto_region 15 with (fail)
          have HL7 := Aside0.mk (HL5.out.put HS5.out.o HS5.out.g g (.int .i64 (sg + 1)))
          have HS7 := Aside0.mk (HS5.out.put g (sg + 1))
          have HR7 := Aside0.mk (HR5.out.put HNE.out g (.int .i64 (sg + 1)))
          obtain ⟨w47, hw47⟩ : ∃ w47, w47 = w44.setCell ⟨sb, g, none⟩ (.int .i64 (sg + 1)) := ⟨_, rfl⟩
          rw [← hw47] at HL7 HS7 HR7
          rw [← hw47]
          clear hw47 ks kf k4 kx bge
          go_upto_block 2 with (fail)
          go_cut [11] (fun v11 wc => ∃ own', Aside0 (LW W wc own' b gb hN s (m : Int) S (pn : Int) a3 (some adg) cg ys) ∧ Aside0 (SL wc own' hN sb (sl.set g (sg + 1))) ∧ Aside0 (RL wc own' A4 c4 rd))
          case first =>
            go_wp2_with (fail)
            go_loopw [11] (fun v11 w' => ∃ (h : Nat) (own' : Nat → Prop), v11 = .int .i64 (h : Int) ∧ h ≤ m ∧ Aside0 (LW W w' own' b gb hN s (m : Int) S (pn : Int) a3 (some adg) cg ys) ∧ Aside0 (SL w' own' hN sb (sl.set g (sg + 1))) ∧ Aside0 (RL w' own' A4 c4 rd)) (fun v11 _ => m - (intOf v11).toNat)
            case atStart => exact ⟨0, own1, rfl, Nat.zero_le _, HL7, HS7, HR7⟩
            case round =>
              obtain ⟨h, own8, rfl, hhm, HL8, HS8, HR8⟩ := hrel
              clear HL7 HS7 HR7
              have k0 : wr.cell? ⟨gb, 0, none⟩ = some (.int .i64 (m : Int)) := HL8.out.C.b.cell rfl
              by_cases hlt2 : h < m
              · obtain ⟨hps, hpp⟩ := pick_gang HL8.out.X.wf (h := h) (by rw [HI1.out.n.H]; omega) HGF.out rd
                have HPK := Aside0.mk (show Calls Try.prog 17 #[.pointer (some ⟨b, 0, none⟩), .int .i64 (h : Int), .slice A4 rd.length c4] wr fun x w' => x = .returned (.int .i64 (pickF s h rd).1) ∧ ∃ own', LW W w' own' b gb hN s (m : Int) S (pn : Int) a3 (some adg) cg ys ∧ Then wr own8 w' own' by have := HL8.out.pick HR8.out (h : Int); rwa [hps] at this)
                clear hps
                rcases hpp with hp | ⟨p, hp, hp1, hp2, hp3, hp4, hp5⟩
                · rw [hp] at HPK
                  clear hp
                  go_wp2_with (go_at_call 17; refine HPK.out.mono ?_; rintro e w48 ⟨rfl, own9, hl9, ht9⟩; have HL9 := Aside0.mk hl9; have HS9 := Aside0.mk (HS8.out.then_ ht9); have HR9 := Aside0.mk (HR8.out.then_ ht9); clear hl9 ht9)
                  go_roundw
                  case rel => exact ⟨h + 1, own9, by go_num, by omega, HL9, HS9, HR9⟩
                  case measure => simp [intOf]; omega
                · rw [hp] at HPK
                  obtain ⟨adr, er, kr⟩ := Kd.at_bool HR8.out.toRD.1 (p : Int) (by omega) (by omega)
                  subst er
                  have hp6 : rdOf false rd (p : Int) = true := by unfold rdOf; rw [Int.toNat_natCast]; exact hp5
                  have HP := Aside0.mk (And.intro hp1 (And.intro hp2 hp3))
                  clear hp hp5 hp1 hp2 hp3 kr
                  go_wp2_with (first | (go_at_call 17; refine HPK.out.mono ?_; rintro e w48 ⟨rfl, own9, hl9, ht9⟩; have HL9 := Aside0.mk hl9; have HS9 := Aside0.mk (HS8.out.then_ ht9); have HR9 := Aside0.mk (HR8.out.then_ ht9); clear hl9 ht9) | (go_at_call 22; refine (show Calls Try.prog 22 _ _ _ from (by have h9 := HL9.out.guest HP.out.1; rw [HP.out.2.1, HP.out.2.2] at h9; exact h9)).mono ?_; rintro e w49 ⟨rfl, hl10, hb10⟩; have HL10 := Aside0.mk hl10; have HS10 := Aside0.mk (HS9.out.below hb10); have HR10 := Aside0.mk (HR9.out.below hb10); obtain ⟨adr2, er2, kr2⟩ := Kd.at_bool HR10.out.toRD.1 (p : Int) (by omega) (by omega); cases er2; rw [hp6, Int.toNat_natCast] at kr2; clear hl10 hb10))
                  go_roundw
                  case rel => exact ⟨h + 1, own9, by go_num, by omega, HL10, HS10, HR10⟩
                  case measure => simp [intOf]; omega
              · go_wp2
                go_meet
                case rel => exact ⟨own8, HL8, HS8, HR8⟩
          case rest =>
            clear HL7 HS7 HR7
            obtain ⟨own8, HL8, HS8, HR8⟩ := hcut
            have HCH := Aside0.mk (HL8.out.charged (g := g) (by rw [HI1.out.n.gl]; exact hgl))
            obtain ⟨cg0, hcg0⟩ : ∃ cg0, cg0 = s.ch.getD g 0 := ⟨_, rfl⟩
            have hcr : 0 ≤ cg0 ∧ cg0 ≤ 16777216 := by
              have h1 := HL8.out.X.cntC g (by rw [HL8.out.X.wf.cn, HI1.out.n.gl]; exact hgl)
              have h2 := HI1.out.now
              rw [← hcg0] at h1
              omega
            have HCT := Aside0.mk (show (tickF s rd).ch.getD g 0 = cg0 + (m : Int) by
              have h2 := HI1.out.now
              rw [tickF_ch rd HL8.out.X.wf (by omega) HL8.out.X.cntC HL8.out.X.cntR HGF.out, hcg0, HI1.out.n.H])
            rw [← hcg0] at HCH
            clear hcg0
            go_upto_region 25 with (first | (go_at_call 23; refine HCH.out.mono ?_; rintro e w60 ⟨rfl, rfl⟩) | (go_at_call 18; with_reducible refine (HL8.out.tick (by have := HI1.out.now; omega) HR8.out).mono ?_; rintro e w61 ⟨rfl, own11, hl11, ht11⟩; have HL11 := Aside0.mk hl11; have HS11 := Aside0.mk (HS8.out.then_ ht11); clear hl11 ht11))
            have HLd2 := Aside0.mk (HL11.out.below (below_drew (Below.refl _ _)))
            have y0 : w61.drew.cell? ⟨gb, 0, none⟩ = some (.int .i64 (m : Int)) := HLd2.out.C.b.cell rfl
            have HCH2 := Aside0.mk (show Calls Try.prog 23 #[.pointer (some ⟨b, 0, none⟩), .int .i64 (g : Int)] w61.drew fun x w' => x = .returned (.int .u64 (cg0 + (m : Int))) ∧ w61.drew = w' by have := HLd2.out.charged (g := g) (by rw [(tickF_tf rd HL8.out.X.wf (by have := HI1.out.now; omega) HL8.out.X.cntC HL8.out.X.cntR).st.gs, HI1.out.n.gl]; exact hgl); rwa [HCT.out] at this)
            have ew2 : IntKind.u64.wrap (m : Int) = (m : Int) := IntWalk.u64_in _ (by omega)
            have ew3 : IntKind.u64.wrap (cg0 + (m : Int)) = cg0 + (m : Int) := IntWalk.u64_in _ (by omega)
            refine start_ (n := 9) (S := fun w' => w'.cell? ⟨gb, 0, none⟩ = some (.int .i64 (m : Int))) (ds := []) #[false, false, false, false, false, false, false, false, false] (by kernel_rfl) rfl rfl (y0) (fun hHeld => ?_)
            refine pure_ (i := 0) (N := some 112) (v := ?_) (a' := ?_) #[true, false, false, false, false, false, false, false, false] rfl rfl (by kernel_rfl) (fun _ _ _ h => h) (Or.inl ⟨by rfl, ?_⟩) ?_ ?_
            rotate_left
            · intro w'
              go_simp
              with_reducible rfl
            rotate_left
            · simp only [Act.put, List.setIfInBounds_toArray, List.set_cons_zero, List.set_cons_succ, i64_w, i32_w]
              rfl
            refine pure_ (i := 1) (N := some 113) (v := ?_) (a' := ?_) #[true, true, false, false, false, false, false, false, false] rfl rfl (by kernel_rfl) (fun _ _ _ h => h) (Or.inl ⟨by rfl, ?_⟩) ?_ ?_
            rotate_left
            · intro w'
              go_simp
              with_reducible rfl
            rotate_left
            · simp only [Act.put, List.setIfInBounds_toArray, List.set_cons_zero, List.set_cons_succ, i64_w, i32_w]
              rfl
            refine pure_ (i := 3) (N := some 115) (v := ?_) (a' := ?_) #[true, true, false, true, false, false, false, false, false] rfl rfl (by kernel_rfl) (fun _ _ _ h => h) (Or.inl ⟨by rfl, ?_⟩) ?_ ?_
            rotate_left
            · intro w'
              go_simp
              with_reducible rfl
            rotate_left
            · simp only [Act.put, List.setIfInBounds_toArray, List.set_cons_zero, List.set_cons_succ, i64_w, i32_w]
              rfl
            refine pure_ (i := 4) (N := some 116) (v := ?_) (a' := ?_) #[true, true, false, true, true, false, false, false, false] rfl rfl (by kernel_rfl) (fun _ _ _ h => h) (Or.inl ⟨by rfl, ?_⟩) ?_ ?_
            rotate_left
            · intro w'
              go_simp
              with_reducible rfl
            rotate_left
            · simp only [Act.put, List.setIfInBounds_toArray, List.set_cons_zero, List.set_cons_succ, i64_w, i32_w]
              rfl
            refine take_ (i := 5) (N := some 117) (v := ?_) (a' := ?_) #[true, true, false, true, true, true, false, false, false] rfl rfl (by kernel_rfl) (fun _ _ _ h => h) (Or.inl ⟨by rfl, ?_⟩) hHeld ?_ ?_
            rotate_left
            · intro w' s0
              go_simp
              with_reducible rfl
            rotate_left
            · simp only [Act.put, List.setIfInBounds_toArray, List.set_cons_zero, List.set_cons_succ, i64_w, i32_w]
              rfl
            refine pure_ (i := 6) (N := some 118) (v := ?_) (a' := ?_) #[true, true, false, true, true, true, true, false, false] rfl rfl (by kernel_rfl) (fun _ _ _ h => h) (Or.inl ⟨by rfl, ?_⟩) ?_ ?_
            rotate_left
            · intro w'
              go_simp
              with_reducible rfl
            rotate_left
            · simp only [Act.put, List.setIfInBounds_toArray, List.set_cons_zero, List.set_cons_succ, i64_w, i32_w]
              rfl
            refine pure_ (i := 7) (N := some 119) (v := ?_) (a' := ?_) #[true, true, false, true, true, true, true, true, false] rfl rfl (by kernel_rfl) (fun _ _ _ h => h) (Or.inl ⟨by rfl, ?_⟩) ?_ ?_
            rotate_left
            · intro w'
              go_simp
              with_reducible rfl
            rotate_left
            · simp only [Act.put, List.setIfInBounds_toArray, List.set_cons_zero, List.set_cons_succ, i64_w, i32_w]
              rfl
            refine one_ (i := 2) (N := some 114) #[true, true, true, true, true, true, true, true, false] rfl rfl (by kernel_rfl) (by decide) (fun K hK => ?_)
            refine goes_ Try.func23 (by kernel_rfl) rfl #[.pointer (some ⟨b, 0, none⟩), .int .i64 (g : Int)] (by rfl) rfl rfl (by simp only [List.map_toArray, List.map_cons, List.map_nil]; rfl) ?_
            with_reducible refine (HCH2.out).mono ?_
            rintro e w3 ⟨rfl, rfl⟩
            refine ⟨_, rfl, ?_⟩
            refine hK.out _ _ (y0) (fun hHeld => ?_)
            clear hK K
            refine norm_ (a' := ?_) ?_ ?_
            rotate_left
            · show Act.put _ (some 114) _ = _
              simp only [Act.put, List.setIfInBounds_toArray, List.set_cons_zero, List.set_cons_succ, i64_w, i32_w]
              rfl
            refine pure_ (i := 8) (N := some 120) (v := ?_) (a' := ?_) #[true, true, true, true, true, true, true, true, true] rfl rfl (by kernel_rfl) (fun _ _ _ h => h) (Or.inl ⟨by rfl, ?_⟩) ?_ ?_
            rotate_left
            · intro w'
              go_simp
              with_reducible rfl
            rotate_left
            · simp only [Act.put, List.setIfInBounds_toArray, List.set_cons_zero, List.set_cons_succ, i64_w, i32_w]
              rfl
            refine done_ (by kernel_rfl) ?_
            have HS12 := Aside0.mk (HS11.out.below (below_drew (Below.refl _ _)))
            go_upto_if 120 with (fail)
            go_wp2
            go_meet
            case rel => exact ⟨own11, sl.set g (sg + 1), HLd2, HS12, ⟨HI1.out.tick HL8.out.X (by omega) rd (by simp) (fun q hq => by
              rw [HGF.out, List.getD_eq_getElem?_getD, List.getD_eq_getElem?_getD, List.getElem?_set]
              by_cases c : g = q
              · subst c
                rw [if_pos rfl, if_pos hsl, HSG.out, List.getD_eq_getElem?_getD]
                simp
              · rw [if_neg c, if_neg (by omega), Int.add_zero])⟩⟩
      case rest =>
        obtain ⟨own6, sl6, HL6, HS6, HI6⟩ := hcut
        clear HL4 HS4 HRL HNE HG
        obtain ⟨s6, hs6⟩ : ∃ s6, s6 = tickF s rd := ⟨_, rfl⟩
        rw [← hs6] at HL6 HI6
        clear HI1 hs6
        have k2 : wc.cell? ⟨gb, 2, none⟩ = some (.int .i64 (pn : Int)) := HL6.out.C.b.cell rfl
        have hpn : 1 ≤ pn ∧ pn ≤ 40 := by omega
        by_cases hz : (i + 1) % pn = 0
        · have bz1 : (((i : Int) + 1).tmod (pn : Int) == 0) = true := by rw [Int.tmod_eq_emod_of_nonneg (by omega)]; have : ((i : Int) + 1) % (pn : Int) = (((i + 1) % pn : Nat) : Int) := rfl; rw [this, hz]; rfl
          have bz2 : (((i : Int) + 1) % (pn : Int) == 0) = true := by have : ((i : Int) + 1) % (pn : Int) = (((i + 1) % pn : Nat) : Int) := rfl; rw [this, hz]; rfl
          obtain ⟨kk, hkk⟩ : ∃ kk, i + 1 = pn * kk := ⟨(i + 1) / pn, by have := Nat.div_add_mod (i + 1) pn; omega⟩
          have HK := Aside0.mk hkk
          have hquo : ((i : Int) + 1) / (pn : Int) = (kk : Int) := by
            have : ((i : Int) + 1) / (pn : Int) = (((i + 1) / pn : Nat) : Int) := rfl
            rw [this, hkk, Nat.mul_div_cancel_left _ (by omega)]
          have hkb : kk ≤ 1048576 := by
            have h1 : kk ≤ pn * kk := Nat.le_mul_of_pos_left kk (by omega)
            omega
          clear hz hkk
          go_wp2_with (fail)
          go_loopw [16] (fun v16 w' => ∃ q : Nat, v16 = .int .i64 (q : Int) ∧ q ≤ ys.length ∧ Aside0 (LW W w' own6 b gb hN s6 (m : Int) S (pn : Int) a3 Ag cg ys) ∧ Aside0 (SL w' own6 hN sb sl6)) (fun v16 _ => ys.length - (intOf v16).toNat)
          case atStart => exact ⟨0, rfl, Nat.zero_le _, HL6, HS6⟩
          case round =>
            obtain ⟨q, rfl, hq, HL12, HS12⟩ := hrel
            clear HL6 HS6
            have k4 : wr.cell? ⟨gb, 4, none⟩ = some (.slice Ag ys.length cg) := HL12.out.C.b.cell rfl
            by_cases hq2 : q < ys.length
            · obtain ⟨adq, e9, _, kw, kf⟩ := PV.at_T29 (Kd.R_reads' HL12.out.C.r).2.2 (q : Int) (by omega) (by omega)
              subst e9
              have hyq := HRG.out.y (rd_T29 ys (q : Int)) (by unfold rd_T29; rw [Int.toNat_natCast, List.getD_eq_getElem?_getD, List.getElem?_eq_getElem hq2, Option.getD_some]; exact List.getElem_mem hq2)
              obtain ⟨fw, hfw⟩ : ∃ fw, fw = (rd_T29 ys (q : Int)).f1 := ⟨_, rfl⟩
              obtain ⟨fg, hfg⟩ : ∃ fg, fg = (rd_T29 ys (q : Int)).f2 := ⟨_, rfl⟩
              rw [← hfw, Int.toNat_natCast] at kw
              rw [← hfg, Int.toNat_natCast] at kf
              have hwb : 1 ≤ fw ∧ fw ≤ 9 := by rw [hfw]; omega
              have hqs : q < sl6.length := by rw [HI6.out.l]; exact hq2
              have hsq : fg = true → sl6.getD q 0 = fw * (kk : Int) := by
                intro hg
                rw [HI6.out.c q hq2, HK.out]
                have h1 := HI6.out.n.gw q
                have h2 := HI6.out.n.gg q
                have h3 := HL12.out.X.wf.tk
                have h4 : ticksF s6 = ticksGo s6.gs (pn : Int) := by unfold ticksF; rw [HI6.out.n.P]
                rw [h4] at h3
                have h5 := gcnt_full (gs := s6.gs) (P := pn) (q := q) (fun x hx => by
                  obtain ⟨j, hj, rfl⟩ := List.getElem_of_mem hx
                  have := HL12.out.X.wf.gw j hj
                  unfold SS.gst at this
                  rw [List.getD_eq_getElem?_getD, List.getElem?_eq_getElem hj, Option.getD_some] at this
                  omega) (by rw [HI6.out.n.gl]; exact hq2) (by have : (s6.gst q).g = true := by rw [h2, ← hfg]; exact hg
                                                               exact this) h3 kk
                rw [h5, hfw, ← h1]
                rfl
              clear hfw hfg hyq
              have ks := HS12.out.cell hqs
              obtain ⟨sq, hsqe⟩ : ∃ sq, sq = sl6.getD q 0 := ⟨_, rfl⟩
              rw [← hsqe] at ks hsq
              clear hsqe
              have DW := (below_drew (Below.refl wr.heap.size wr))
              have e0 := pw_cell_below DW k4
              have e1 := pw_cell_below DW kf
              have e2 := pw_cell_below DW ks
              have e3 := pw_cell_below DW kw
              have e4 := pw_cell_below DW (show wr.cell? ⟨gb, 2, none⟩ = some (.int .i64 (pn : Int)) from HL12.out.C.b.cell rfl)
              have HL13 := Aside0.mk (HL12.out.below DW)
              have HS13 := Aside0.mk (HS12.out.below DW)
              clear DW
              cases fg with
              | true =>
                have hsq2 := hsq rfl
                clear hsq
                subst hsq2
                have hfk : 0 ≤ fw * (kk : Int) ∧ fw * (kk : Int) ≤ 9437184 := ⟨Int.mul_nonneg (by omega) (by omega), by
                  have h1 : fw * (kk : Int) ≤ 9 * (kk : Int) := Int.mul_le_mul_of_nonneg_right hwb.2 (by omega)
                  omega⟩
                go_upto_region 32 with (fail)
                have hnz : ¬ pn = 0 := by omega
                have b1 : -9223372036854775808 ≤ (i : Int) + 1 ∧ (i : Int) + 1 ≤ 9223372036854775807 := by omega
                have b2 : -9223372036854775808 ≤ fw * (kk : Int) ∧ fw * (kk : Int) ≤ 9223372036854775807 := by omega
                have b3 : 0 ≤ (i : Int) + 1 ∧ (i : Int) + 1 ≤ 9223372036854775807 ∧ 1 ≤ (pn : Int) := by omega
                have em : IntKind.i64.wrap (fw * (kk : Int)) = fw * (kk : Int) := IntWalk.i64_in _ b2
                have eq : IntKind.i64.wrap (((i : Int) + 1).tdiv (pn : Int)) = (kk : Int) := by rw [IntWalk.i64_quo _ _ b3]; exact hquo
                have ew : wrap64 ((i : Int) + 1) = (i : Int) + 1 := wrap64_id b1.1 b1.2
                have em2 : wrap64 (fw * (kk : Int)) = fw * (kk : Int) := wrap64_id b2.1 b2.2
                clear b1 b2 b3
                refine start_ (n := 25) (S := fun w' => w'.cell? ⟨gb, 4, none⟩ = some (.slice (some adq) ys.length cg) ∧ w'.cell? ⟨(adq.add (q * 3)).block, (adq.add (q * 3)).off + 2, none⟩ = some (.bool true) ∧ w'.cell? ⟨sb, q, none⟩ = some (.int .i64 (fw * (kk : Int))) ∧ w'.cell? ⟨(adq.add (q * 3)).block, (adq.add (q * 3)).off + 1, none⟩ = some (.int .i64 fw) ∧ w'.cell? ⟨gb, 2, none⟩ = some (.int .i64 (pn : Int))) (ds := []) #[false, false, false, false, false, false, false, false, false, false, false, false, false, false, false, false, false, false, false, false, false, false, false, false, false] (by kernel_rfl) rfl rfl ⟨e0, e1, e2, e3, e4⟩ (fun hHeld => ?_)
                refine pure_ (i := 0) (N := some 137) (v := ?_) (a' := ?_) #[true, false, false, false, false, false, false, false, false, false, false, false, false, false, false, false, false, false, false, false, false, false, false, false, false] rfl rfl (by kernel_rfl) (fun _ _ _ h => h) (Or.inl ⟨by rfl, ?_⟩) ?_ ?_
                rotate_left
                · intro w'
                  go_simp
                  with_reducible rfl
                rotate_left
                · simp only [Act.put, List.setIfInBounds_toArray, List.set_cons_zero, List.set_cons_succ, i64_w, i32_w]
                  rfl
                refine pure_ (i := 2) (N := some 139) (v := ?_) (a' := ?_) #[true, false, true, false, false, false, false, false, false, false, false, false, false, false, false, false, false, false, false, false, false, false, false, false, false] rfl rfl (by kernel_rfl) (fun _ _ _ h => h) (Or.inl ⟨by rfl, ?_⟩) ?_ ?_
                rotate_left
                · intro w'
                  go_simp
                  with_reducible rfl
                rotate_left
                · simp only [Act.put, List.setIfInBounds_toArray, List.set_cons_zero, List.set_cons_succ, i64_w, i32_w]
                  rfl
                refine take_ (i := 1) (N := some 138) (v := ?_) (a' := ?_) #[true, true, true, false, false, false, false, false, false, false, false, false, false, false, false, false, false, false, false, false, false, false, false, false, false] rfl rfl (by kernel_rfl) (fun _ _ _ h => h) (Or.inl ⟨by rfl, ?_⟩) hHeld ?_ ?_
                rotate_left
                · rintro w' ⟨s0, s1, s2, s3, s4⟩
                  go_simp
                  with_reducible rfl
                rotate_left
                · simp only [Act.put, List.setIfInBounds_toArray, List.set_cons_zero, List.set_cons_succ, i64_w, i32_w]
                  rfl
                refine pure_ (i := 3) (N := some 140) (v := ?_) (a' := ?_) #[true, true, true, true, false, false, false, false, false, false, false, false, false, false, false, false, false, false, false, false, false, false, false, false, false] rfl rfl (by kernel_rfl) (fun _ _ _ h => h) (Or.inl ⟨by rfl, ?_⟩) ?_ ?_
                rotate_left
                · intro w'
                  go_simp
                  with_reducible rfl
                rotate_left
                · simp only [Act.put, List.setIfInBounds_toArray, List.set_cons_zero, List.set_cons_succ, i64_w, i32_w]
                  rfl
                refine pure_ (i := 4) (N := some 141) (v := ?_) (a' := ?_) #[true, true, true, true, true, false, false, false, false, false, false, false, false, false, false, false, false, false, false, false, false, false, false, false, false] rfl rfl (by kernel_rfl) (fun _ _ _ h => h) (Or.inl ⟨by rfl, ?_⟩) ?_ ?_
                rotate_left
                · intro w'
                  go_simp
                  with_reducible rfl
                rotate_left
                · simp only [Act.put, List.setIfInBounds_toArray, List.set_cons_zero, List.set_cons_succ, i64_w, i32_w]
                  rfl
                refine take_ (i := 5) (N := some 142) (v := ?_) (a' := ?_) #[true, true, true, true, true, true, false, false, false, false, false, false, false, false, false, false, false, false, false, false, false, false, false, false, false] rfl rfl (by kernel_rfl) (fun _ _ _ h => h) (Or.inl ⟨by rfl, ?_⟩) hHeld ?_ ?_
                rotate_left
                · rintro w' ⟨s0, s1, s2, s3, s4⟩
                  go_simp
                  with_reducible rfl
                rotate_left
                · simp only [Act.put, List.setIfInBounds_toArray, List.set_cons_zero, List.set_cons_succ, i64_w, i32_w]
                  rfl
                refine pure_ (i := 6) (N := some 143) (v := ?_) (a' := ?_) #[true, true, true, true, true, true, true, false, false, false, false, false, false, false, false, false, false, false, false, false, false, false, false, false, false] rfl rfl (by kernel_rfl) (fun _ _ _ h => h) (Or.inl ⟨by rfl, ?_⟩) ?_ ?_
                rotate_left
                · intro w'
                  go_simp
                  with_reducible rfl
                rotate_left
                · simp only [Act.put, List.setIfInBounds_toArray, List.set_cons_zero, List.set_cons_succ, i64_w, i32_w]
                  rfl
                refine pure_ (i := 7) (N := some 144) (v := ?_) (a' := ?_) #[true, true, true, true, true, true, true, true, false, false, false, false, false, false, false, false, false, false, false, false, false, false, false, false, false] rfl rfl (by kernel_rfl) (fun _ _ _ h => h) (Or.inl ⟨by rfl, ?_⟩) ?_ ?_
                rotate_left
                · intro w'
                  go_simp
                  with_reducible rfl
                rotate_left
                · simp only [Act.put, List.setIfInBounds_toArray, List.set_cons_zero, List.set_cons_succ, i64_w, i32_w]
                  rfl
                refine pure_ (i := 8) (N := some 145) (v := ?_) (a' := ?_) #[true, true, true, true, true, true, true, true, true, false, false, false, false, false, false, false, false, false, false, false, false, false, false, false, false] rfl rfl (by kernel_rfl) (fun _ _ _ h => h) (Or.inl ⟨by rfl, ?_⟩) ?_ ?_
                rotate_left
                · intro w'
                  go_simp
                  with_reducible rfl
                rotate_left
                · simp only [Act.put, List.setIfInBounds_toArray, List.set_cons_zero, List.set_cons_succ, i64_w, i32_w]
                  rfl
                refine pure_ (i := 9) (N := some 146) (v := ?_) (a' := ?_) #[true, true, true, true, true, true, true, true, true, true, false, false, false, false, false, false, false, false, false, false, false, false, false, false, false] rfl rfl (by kernel_rfl) (fun _ _ _ h => h) (Or.inl ⟨by rfl, ?_⟩) ?_ ?_
                rotate_left
                · intro w'
                  go_simp
                  with_reducible rfl
                rotate_left
                · simp only [Act.put, List.setIfInBounds_toArray, List.set_cons_zero, List.set_cons_succ, i64_w, i32_w]
                  rfl
                refine pure_ (i := 11) (N := some 148) (v := ?_) (a' := ?_) #[true, true, true, true, true, true, true, true, true, true, false, true, false, false, false, false, false, false, false, false, false, false, false, false, false] rfl rfl (by kernel_rfl) (fun _ _ _ h => h) (Or.inl ⟨by rfl, ?_⟩) ?_ ?_
                rotate_left
                · intro w'
                  go_simp
                  with_reducible rfl
                rotate_left
                · simp only [Act.put, List.setIfInBounds_toArray, List.set_cons_zero, List.set_cons_succ, i64_w, i32_w]
                  rfl
                refine pure_ (i := 13) (N := some 150) (v := ?_) (a' := ?_) #[true, true, true, true, true, true, true, true, true, true, false, true, false, true, false, false, false, false, false, false, false, false, false, false, false] rfl rfl (by kernel_rfl) (fun _ _ _ h => h) (Or.inl ⟨by rfl, ?_⟩) ?_ ?_
                rotate_left
                · intro w'
                  go_simp
                  with_reducible rfl
                rotate_left
                · simp only [Act.put, List.setIfInBounds_toArray, List.set_cons_zero, List.set_cons_succ, i64_w, i32_w]
                  rfl
                refine pure_ (i := 17) (N := some 154) (v := ?_) (a' := ?_) #[true, true, true, true, true, true, true, true, true, true, false, true, false, true, false, false, false, true, false, false, false, false, false, false, false] rfl rfl (by kernel_rfl) (fun _ _ _ h => h) (Or.inl ⟨by rfl, ?_⟩) ?_ ?_
                rotate_left
                · intro w'
                  go_simp
                  with_reducible rfl
                rotate_left
                · simp only [Act.put, List.setIfInBounds_toArray, List.set_cons_zero, List.set_cons_succ, i64_w, i32_w]
                  rfl
                refine pure_ (i := 18) (N := some 155) (v := ?_) (a' := ?_) #[true, true, true, true, true, true, true, true, true, true, false, true, false, true, false, false, false, true, true, false, false, false, false, false, false] rfl rfl (by kernel_rfl) (fun _ _ _ h => h) (Or.inl ⟨by rfl, ?_⟩) ?_ ?_
                rotate_left
                · intro w'
                  go_simp
                  with_reducible rfl
                rotate_left
                · simp only [Act.put, List.setIfInBounds_toArray, List.set_cons_zero, List.set_cons_succ, i64_w, i32_w]
                  rfl
                refine pure_ (i := 19) (N := some 156) (v := ?_) (a' := ?_) #[true, true, true, true, true, true, true, true, true, true, false, true, false, true, false, false, false, true, true, true, false, false, false, false, false] rfl rfl (by kernel_rfl) (fun _ _ _ h => h) (Or.inl ⟨by rfl, ?_⟩) ?_ ?_
                rotate_left
                · intro w'
                  go_simp
                  with_reducible rfl
                rotate_left
                · simp only [Act.put, List.setIfInBounds_toArray, List.set_cons_zero, List.set_cons_succ, i64_w, i32_w]
                  rfl
                refine take_ (i := 10) (N := some 147) (v := ?_) (a' := ?_) #[true, true, true, true, true, true, true, true, true, true, true, true, false, true, false, false, false, true, true, true, false, false, false, false, false] rfl rfl (by kernel_rfl) (fun _ _ _ h => h) (Or.inl ⟨by rfl, ?_⟩) hHeld ?_ ?_
                rotate_left
                · rintro w' ⟨s0, s1, s2, s3, s4⟩
                  go_simp
                  with_reducible rfl
                rotate_left
                · simp only [Act.put, List.setIfInBounds_toArray, List.set_cons_zero, List.set_cons_succ, i64_w, i32_w]
                  rfl
                refine take_ (i := 12) (N := some 149) (v := ?_) (a' := ?_) #[true, true, true, true, true, true, true, true, true, true, true, true, true, true, false, false, false, true, true, true, false, false, false, false, false] rfl rfl (by kernel_rfl) (fun _ _ _ h => h) (Or.inl ⟨by rfl, ?_⟩) hHeld ?_ ?_
                rotate_left
                · rintro w' ⟨s0, s1, s2, s3, s4⟩
                  go_simp
                  with_reducible rfl
                rotate_left
                · simp only [Act.put, List.setIfInBounds_toArray, List.set_cons_zero, List.set_cons_succ, i64_w, i32_w]
                  rfl
                refine pure_ (i := 14) (N := some 151) (v := ?_) (a' := ?_) #[true, true, true, true, true, true, true, true, true, true, true, true, true, true, true, false, false, true, true, true, false, false, false, false, false] rfl rfl (by kernel_rfl) (fun _ _ _ h => h) (Or.inl ⟨by rfl, ?_⟩) ?_ ?_
                rotate_left
                · intro w'
                  go_simp
                  with_reducible rfl
                rotate_left
                · simp only [Act.put, List.setIfInBounds_toArray, List.set_cons_zero, List.set_cons_succ, i64_w, i32_w]
                  rfl
                refine pure_ (i := 15) (N := some 152) (v := ?_) (a' := ?_) #[true, true, true, true, true, true, true, true, true, true, true, true, true, true, true, true, false, true, true, true, false, false, false, false, false] rfl rfl (by kernel_rfl) (fun _ _ _ h => h) (Or.inl ⟨by rfl, ?_⟩) ?_ ?_
                rotate_left
                · intro w'
                  go_simp
                  with_reducible rfl
                rotate_left
                · simp only [Act.put, List.setIfInBounds_toArray, List.set_cons_zero, List.set_cons_succ, i64_w, i32_w]
                  rfl
                refine take_ (i := 16) (N := some 153) (v := ?_) (a' := ?_) #[true, true, true, true, true, true, true, true, true, true, true, true, true, true, true, true, true, true, true, true, false, false, false, false, false] rfl rfl (by kernel_rfl) (fun _ _ _ h => h) (Or.inl ⟨by rfl, ?_⟩) hHeld ?_ ?_
                rotate_left
                · rintro w' ⟨s0, s1, s2, s3, s4⟩
                  go_simp
                  with_reducible rfl
                rotate_left
                · simp only [Act.put, List.setIfInBounds_toArray, List.set_cons_zero, List.set_cons_succ, i64_w, i32_w]
                  rfl
                refine take_ (i := 20) (N := some 157) (v := ?_) (a' := ?_) #[true, true, true, true, true, true, true, true, true, true, true, true, true, true, true, true, true, true, true, true, true, false, false, false, false] rfl rfl (by kernel_rfl) (fun _ _ _ h => h) (Or.inl ⟨by rfl, ?_⟩) hHeld ?_ ?_
                rotate_left
                · rintro w' ⟨s0, s1, s2, s3, s4⟩
                  go_simp
                  with_reducible rfl
                rotate_left
                · simp only [Act.put, List.setIfInBounds_toArray, List.set_cons_zero, List.set_cons_succ, i64_w, i32_w]
                  rfl
                refine pure_ (i := 21) (N := some 158) (v := ?_) (a' := ?_) #[true, true, true, true, true, true, true, true, true, true, true, true, true, true, true, true, true, true, true, true, true, true, false, false, false] rfl rfl (by kernel_rfl) (fun _ _ _ h => h) (Or.inl ⟨by rfl, ?_⟩) ?_ ?_
                rotate_left
                · intro w'
                  go_simp
                  with_reducible rfl
                rotate_left
                · simp only [Act.put, List.setIfInBounds_toArray, List.set_cons_zero, List.set_cons_succ, i64_w, i32_w]
                  rfl
                refine pure_ (i := 22) (N := some 159) (v := ?_) (a' := ?_) #[true, true, true, true, true, true, true, true, true, true, true, true, true, true, true, true, true, true, true, true, true, true, true, false, false] rfl rfl (by kernel_rfl) (fun _ _ _ h => h) (Or.inl ⟨by rfl, ?_⟩) ?_ ?_
                rotate_left
                · intro w'
                  go_simp
                  with_reducible rfl
                rotate_left
                · simp only [Act.put, List.setIfInBounds_toArray, List.set_cons_zero, List.set_cons_succ, i64_w, i32_w]
                  rfl
                refine pure_ (i := 23) (N := some 160) (v := ?_) (a' := ?_) #[true, true, true, true, true, true, true, true, true, true, true, true, true, true, true, true, true, true, true, true, true, true, true, true, false] rfl rfl (by kernel_rfl) (fun _ _ _ h => h) (Or.inl ⟨by rfl, ?_⟩) ?_ ?_
                rotate_left
                · intro w'
                  go_simp
                  with_reducible rfl
                rotate_left
                · simp only [Act.put, List.setIfInBounds_toArray, List.set_cons_zero, List.set_cons_succ, i64_w, i32_w]
                  rfl
                refine pure_ (i := 24) (N := some 161) (v := ?_) (a' := ?_) #[true, true, true, true, true, true, true, true, true, true, true, true, true, true, true, true, true, true, true, true, true, true, true, true, true] rfl rfl (by kernel_rfl) (fun _ _ _ h => h) (Or.inl ⟨by rfl, ?_⟩) ?_ ?_
                rotate_left
                · intro w'
                  go_simp
                  with_reducible rfl
                rotate_left
                · simp only [Act.put, List.setIfInBounds_toArray, List.set_cons_zero, List.set_cons_succ, i64_w, i32_w]
                  rfl
                refine done_ (by kernel_rfl) ?_
                clear em eq ew em2
                go_wp2
                go_roundw
                case rel => exact ⟨q + 1, by go_num, by omega, HL13, HS13⟩
                case measure => simp [intOf]; omega
              | false =>
                clear hsq
                go_upto_region 32 with (fail)
                refine start_ (n := 25) (S := fun w' => w'.cell? ⟨gb, 4, none⟩ = some (.slice (some adq) ys.length cg) ∧ w'.cell? ⟨(adq.add (q * 3)).block, (adq.add (q * 3)).off + 2, none⟩ = some (.bool false) ∧ w'.cell? ⟨sb, q, none⟩ = some (.int .i64 sq) ∧ w'.cell? ⟨(adq.add (q * 3)).block, (adq.add (q * 3)).off + 1, none⟩ = some (.int .i64 fw) ∧ w'.cell? ⟨gb, 2, none⟩ = some (.int .i64 (pn : Int))) (ds := []) #[false, false, false, false, false, false, false, false, false, false, false, false, false, false, false, false, false, false, false, false, false, false, false, false, false] (by kernel_rfl) rfl rfl ⟨e0, e1, e2, e3, e4⟩ (fun hHeld => ?_)
                refine pure_ (i := 0) (N := some 137) (v := ?_) (a' := ?_) #[true, false, false, false, false, false, false, false, false, false, false, false, false, false, false, false, false, false, false, false, false, false, false, false, false] rfl rfl (by kernel_rfl) (fun _ _ _ h => h) (Or.inl ⟨by rfl, ?_⟩) ?_ ?_
                rotate_left
                · intro w'
                  go_simp
                  with_reducible rfl
                rotate_left
                · simp only [Act.put, List.setIfInBounds_toArray, List.set_cons_zero, List.set_cons_succ, i64_w, i32_w]
                  rfl
                refine pure_ (i := 2) (N := some 139) (v := ?_) (a' := ?_) #[true, false, true, false, false, false, false, false, false, false, false, false, false, false, false, false, false, false, false, false, false, false, false, false, false] rfl rfl (by kernel_rfl) (fun _ _ _ h => h) (Or.inl ⟨by rfl, ?_⟩) ?_ ?_
                rotate_left
                · intro w'
                  go_simp
                  with_reducible rfl
                rotate_left
                · simp only [Act.put, List.setIfInBounds_toArray, List.set_cons_zero, List.set_cons_succ, i64_w, i32_w]
                  rfl
                refine take_ (i := 1) (N := some 138) (v := ?_) (a' := ?_) #[true, true, true, false, false, false, false, false, false, false, false, false, false, false, false, false, false, false, false, false, false, false, false, false, false] rfl rfl (by kernel_rfl) (fun _ _ _ h => h) (Or.inl ⟨by rfl, ?_⟩) hHeld ?_ ?_
                rotate_left
                · rintro w' ⟨s0, s1, s2, s3, s4⟩
                  go_simp
                  with_reducible rfl
                rotate_left
                · simp only [Act.put, List.setIfInBounds_toArray, List.set_cons_zero, List.set_cons_succ, i64_w, i32_w]
                  rfl
                refine pure_ (i := 3) (N := some 140) (v := ?_) (a' := ?_) #[true, true, true, true, false, false, false, false, false, false, false, false, false, false, false, false, false, false, false, false, false, false, false, false, false] rfl rfl (by kernel_rfl) (fun _ _ _ h => h) (Or.inl ⟨by rfl, ?_⟩) ?_ ?_
                rotate_left
                · intro w'
                  go_simp
                  with_reducible rfl
                rotate_left
                · simp only [Act.put, List.setIfInBounds_toArray, List.set_cons_zero, List.set_cons_succ, i64_w, i32_w]
                  rfl
                refine pure_ (i := 4) (N := some 141) (v := ?_) (a' := ?_) #[true, true, true, true, true, false, false, false, false, false, false, false, false, false, false, false, false, false, false, false, false, false, false, false, false] rfl rfl (by kernel_rfl) (fun _ _ _ h => h) (Or.inl ⟨by rfl, ?_⟩) ?_ ?_
                rotate_left
                · intro w'
                  go_simp
                  with_reducible rfl
                rotate_left
                · simp only [Act.put, List.setIfInBounds_toArray, List.set_cons_zero, List.set_cons_succ, i64_w, i32_w]
                  rfl
                refine take_ (i := 5) (N := some 142) (v := ?_) (a' := ?_) #[true, true, true, true, true, true, false, false, false, false, false, false, false, false, false, false, false, false, false, false, false, false, false, false, false] rfl rfl (by kernel_rfl) (fun _ _ _ h => h) (Or.inl ⟨by rfl, ?_⟩) hHeld ?_ ?_
                rotate_left
                · rintro w' ⟨s0, s1, s2, s3, s4⟩
                  go_simp
                  with_reducible rfl
                rotate_left
                · simp only [Act.put, List.setIfInBounds_toArray, List.set_cons_zero, List.set_cons_succ, i64_w, i32_w]
                  rfl
                refine pure_ (i := 6) (N := some 143) (v := ?_) (a' := ?_) #[true, true, true, true, true, true, true, false, false, false, false, false, false, false, false, false, false, false, false, false, false, false, false, false, false] rfl rfl (by kernel_rfl) (fun _ _ _ h => h) (Or.inl ⟨by rfl, ?_⟩) ?_ ?_
                rotate_left
                · intro w'
                  go_simp
                  with_reducible rfl
                rotate_left
                · simp only [Act.put, List.setIfInBounds_toArray, List.set_cons_zero, List.set_cons_succ, i64_w, i32_w]
                  rfl
                refine pure_ (i := 7) (N := some 144) (v := undef) (a' := ?_) #[true, true, true, true, true, true, true, true, false, false, false, false, false, false, false, false, false, false, false, false, false, false, false, false, false] rfl rfl (by kernel_rfl) (fun _ _ _ h => h) (Or.inr ⟨by rfl, rfl⟩) ?_ ?_
                rotate_left
                · simp only [Act.put, List.setIfInBounds_toArray, List.set_cons_zero, List.set_cons_succ, i64_w, i32_w]
                  rfl
                refine pure_ (i := 8) (N := some 145) (v := undef) (a' := ?_) #[true, true, true, true, true, true, true, true, true, false, false, false, false, false, false, false, false, false, false, false, false, false, false, false, false] rfl rfl (by kernel_rfl) (fun _ _ _ h => h) (Or.inr ⟨by rfl, rfl⟩) ?_ ?_
                rotate_left
                · simp only [Act.put, List.setIfInBounds_toArray, List.set_cons_zero, List.set_cons_succ, i64_w, i32_w]
                  rfl
                refine pure_ (i := 9) (N := some 146) (v := undef) (a' := ?_) #[true, true, true, true, true, true, true, true, true, true, false, false, false, false, false, false, false, false, false, false, false, false, false, false, false] rfl rfl (by kernel_rfl) (fun _ _ _ h => h) (Or.inr ⟨by rfl, rfl⟩) ?_ ?_
                rotate_left
                · simp only [Act.put, List.setIfInBounds_toArray, List.set_cons_zero, List.set_cons_succ, i64_w, i32_w]
                  rfl
                refine pure_ (i := 10) (N := some 147) (v := undef) (a' := ?_) #[true, true, true, true, true, true, true, true, true, true, true, false, false, false, false, false, false, false, false, false, false, false, false, false, false] rfl rfl (by kernel_rfl) (fun _ _ _ h => h) (Or.inr ⟨by rfl, rfl⟩) ?_ ?_
                rotate_left
                · simp only [Act.put, List.setIfInBounds_toArray, List.set_cons_zero, List.set_cons_succ, i64_w, i32_w]
                  rfl
                refine pure_ (i := 11) (N := some 148) (v := undef) (a' := ?_) #[true, true, true, true, true, true, true, true, true, true, true, true, false, false, false, false, false, false, false, false, false, false, false, false, false] rfl rfl (by kernel_rfl) (fun _ _ _ h => h) (Or.inr ⟨by rfl, rfl⟩) ?_ ?_
                rotate_left
                · simp only [Act.put, List.setIfInBounds_toArray, List.set_cons_zero, List.set_cons_succ, i64_w, i32_w]
                  rfl
                refine pure_ (i := 12) (N := some 149) (v := undef) (a' := ?_) #[true, true, true, true, true, true, true, true, true, true, true, true, true, false, false, false, false, false, false, false, false, false, false, false, false] rfl rfl (by kernel_rfl) (fun _ _ _ h => h) (Or.inr ⟨by rfl, rfl⟩) ?_ ?_
                rotate_left
                · simp only [Act.put, List.setIfInBounds_toArray, List.set_cons_zero, List.set_cons_succ, i64_w, i32_w]
                  rfl
                refine pure_ (i := 13) (N := some 150) (v := undef) (a' := ?_) #[true, true, true, true, true, true, true, true, true, true, true, true, true, true, false, false, false, false, false, false, false, false, false, false, false] rfl rfl (by kernel_rfl) (fun _ _ _ h => h) (Or.inr ⟨by rfl, rfl⟩) ?_ ?_
                rotate_left
                · simp only [Act.put, List.setIfInBounds_toArray, List.set_cons_zero, List.set_cons_succ, i64_w, i32_w]
                  rfl
                refine pure_ (i := 14) (N := some 151) (v := undef) (a' := ?_) #[true, true, true, true, true, true, true, true, true, true, true, true, true, true, true, false, false, false, false, false, false, false, false, false, false] rfl rfl (by kernel_rfl) (fun _ _ _ h => h) (Or.inr ⟨by rfl, rfl⟩) ?_ ?_
                rotate_left
                · simp only [Act.put, List.setIfInBounds_toArray, List.set_cons_zero, List.set_cons_succ, i64_w, i32_w]
                  rfl
                refine pure_ (i := 15) (N := some 152) (v := undef) (a' := ?_) #[true, true, true, true, true, true, true, true, true, true, true, true, true, true, true, true, false, false, false, false, false, false, false, false, false] rfl rfl (by kernel_rfl) (fun _ _ _ h => h) (Or.inr ⟨by rfl, rfl⟩) ?_ ?_
                rotate_left
                · simp only [Act.put, List.setIfInBounds_toArray, List.set_cons_zero, List.set_cons_succ, i64_w, i32_w]
                  rfl
                refine pure_ (i := 16) (N := some 153) (v := undef) (a' := ?_) #[true, true, true, true, true, true, true, true, true, true, true, true, true, true, true, true, true, false, false, false, false, false, false, false, false] rfl rfl (by kernel_rfl) (fun _ _ _ h => h) (Or.inr ⟨by rfl, rfl⟩) ?_ ?_
                rotate_left
                · simp only [Act.put, List.setIfInBounds_toArray, List.set_cons_zero, List.set_cons_succ, i64_w, i32_w]
                  rfl
                refine pure_ (i := 17) (N := some 154) (v := undef) (a' := ?_) #[true, true, true, true, true, true, true, true, true, true, true, true, true, true, true, true, true, true, false, false, false, false, false, false, false] rfl rfl (by kernel_rfl) (fun _ _ _ h => h) (Or.inr ⟨by rfl, rfl⟩) ?_ ?_
                rotate_left
                · simp only [Act.put, List.setIfInBounds_toArray, List.set_cons_zero, List.set_cons_succ, i64_w, i32_w]
                  rfl
                refine pure_ (i := 18) (N := some 155) (v := undef) (a' := ?_) #[true, true, true, true, true, true, true, true, true, true, true, true, true, true, true, true, true, true, true, false, false, false, false, false, false] rfl rfl (by kernel_rfl) (fun _ _ _ h => h) (Or.inr ⟨by rfl, rfl⟩) ?_ ?_
                rotate_left
                · simp only [Act.put, List.setIfInBounds_toArray, List.set_cons_zero, List.set_cons_succ, i64_w, i32_w]
                  rfl
                refine pure_ (i := 19) (N := some 156) (v := undef) (a' := ?_) #[true, true, true, true, true, true, true, true, true, true, true, true, true, true, true, true, true, true, true, true, false, false, false, false, false] rfl rfl (by kernel_rfl) (fun _ _ _ h => h) (Or.inr ⟨by rfl, rfl⟩) ?_ ?_
                rotate_left
                · simp only [Act.put, List.setIfInBounds_toArray, List.set_cons_zero, List.set_cons_succ, i64_w, i32_w]
                  rfl
                refine pure_ (i := 20) (N := some 157) (v := undef) (a' := ?_) #[true, true, true, true, true, true, true, true, true, true, true, true, true, true, true, true, true, true, true, true, true, false, false, false, false] rfl rfl (by kernel_rfl) (fun _ _ _ h => h) (Or.inr ⟨by rfl, rfl⟩) ?_ ?_
                rotate_left
                · simp only [Act.put, List.setIfInBounds_toArray, List.set_cons_zero, List.set_cons_succ, i64_w, i32_w]
                  rfl
                refine pure_ (i := 21) (N := some 158) (v := undef) (a' := ?_) #[true, true, true, true, true, true, true, true, true, true, true, true, true, true, true, true, true, true, true, true, true, true, false, false, false] rfl rfl (by kernel_rfl) (fun _ _ _ h => h) (Or.inr ⟨by rfl, rfl⟩) ?_ ?_
                rotate_left
                · simp only [Act.put, List.setIfInBounds_toArray, List.set_cons_zero, List.set_cons_succ, i64_w, i32_w]
                  rfl
                refine pure_ (i := 22) (N := some 159) (v := undef) (a' := ?_) #[true, true, true, true, true, true, true, true, true, true, true, true, true, true, true, true, true, true, true, true, true, true, true, false, false] rfl rfl (by kernel_rfl) (fun _ _ _ h => h) (Or.inr ⟨by rfl, rfl⟩) ?_ ?_
                rotate_left
                · simp only [Act.put, List.setIfInBounds_toArray, List.set_cons_zero, List.set_cons_succ, i64_w, i32_w]
                  rfl
                refine pure_ (i := 23) (N := some 160) (v := undef) (a' := ?_) #[true, true, true, true, true, true, true, true, true, true, true, true, true, true, true, true, true, true, true, true, true, true, true, true, false] rfl rfl (by kernel_rfl) (fun _ _ _ h => h) (Or.inr ⟨by rfl, rfl⟩) ?_ ?_
                rotate_left
                · simp only [Act.put, List.setIfInBounds_toArray, List.set_cons_zero, List.set_cons_succ, i64_w, i32_w]
                  rfl
                refine pure_ (i := 24) (N := some 161) (v := ?_) (a' := ?_) #[true, true, true, true, true, true, true, true, true, true, true, true, true, true, true, true, true, true, true, true, true, true, true, true, true] rfl rfl (by kernel_rfl) (fun _ _ _ h => h) (Or.inl ⟨by rfl, ?_⟩) ?_ ?_
                rotate_left
                · intro w'
                  go_simp
                  with_reducible rfl
                rotate_left
                · simp only [Act.put, List.setIfInBounds_toArray, List.set_cons_zero, List.set_cons_succ, i64_w, i32_w]
                  rfl
                refine done_ (by kernel_rfl) ?_
                go_wp2
                go_roundw
                case rel => exact ⟨q + 1, by go_num, by omega, HL13, HS13⟩
                case measure => simp [intOf]; omega
            · go_wp2
              go_roundw
              case rel => exact ⟨i + 1, own6, s6, sl6, by go_num, by omega, HL12, HS12, HI6⟩
              case measure => simp [intOf]; omega
        · have bz1 : (((i : Int) + 1).tmod (pn : Int) == 0) = false := by rw [Int.tmod_eq_emod_of_nonneg (by omega)]; have : ((i : Int) + 1) % (pn : Int) = (((i + 1) % pn : Nat) : Int) := rfl; rw [this]; exact beq_eq_false_iff_ne.2 (by omega)
          have bz2 : (((i : Int) + 1) % (pn : Int) == 0) = false := by have : ((i : Int) + 1) % (pn : Int) = (((i + 1) % pn : Nat) : Int) := rfl; rw [this]; exact beq_eq_false_iff_ne.2 (by omega)
          have HZ := Aside0.mk hz
          clear hz
          go_wp2
          go_roundw
          case rel => exact ⟨i + 1, own6, s6, sl6, by go_num, by omega, HL6, HS6, HI6⟩
          case measure => simp [intOf]; omega
    · go_wp2_with (go_at_call 19; refine (awake_calls _).mono ?_; rintro e w90 ⟨rfl, hb⟩; have HBE := Aside0.mk (below_step HL1.out.B hb); clear hb)
      go_ret
      exact ⟨rfl, HBE.out⟩
end Go.Proofs.Ytdaadmjppikebaa.SC

/- What the readings of a law's arguments (a conf, a script, numbers) say of cells. -/
namespace Go.Proofs.Ytdaadmjppikebaa.SC
open Go.RowKit Go.Proofs.YtdaadmjppikebaaW.PrintWords Go.Proofs.Ytdaadmjppikebaa.Opn Go.WideShapes
open Go.Proofs.Ytdaadmjppikebaa.PV (S29 k29)
set_option linter.unusedVariables false
set_option maxRecDepth 100000

theorem list3 {α : Type} {l : List α} (h : l.length = 3) : ∃ a b c, l = [a, b, c] := by
  match l, h with
  | [a, b, c], _ => exact ⟨a, b, c, rfl⟩
theorem list5 {α : Type} {l : List α} (h : l.length = 5) : ∃ a b c d e, l = [a, b, c, d, e] := by
  match l, h with
  | [a, b, c, d, e], _ => exact ⟨a, b, c, d, e, rfl⟩
theorem cells3 : Try.prog.cellsOf 3 = 1 := by kernel_rfl
theorem cells4 : Try.prog.cellsOf 4 = 1 := by kernel_rfl
theorem cells23 : Try.prog.cellsOf 23 = 1 := by kernel_rfl
theorem cells25 : Try.prog.cellsOf 25 = 1 := by kernel_rfl
theorem cells27 : Try.prog.cellsOf 27 = 5 := by kernel_rfl
theorem cells29 : Try.prog.cellsOf 29 = 3 := by kernel_rfl
theorem cells48 : Try.prog.cellsOf 48 = 3 := by kernel_rfl
theorem fld {H : Type} {enc : TypeId × Value → H} {w : World} {n t off k : Nat} {cs : List Value} {y : DataW H × List MemPlace} (hc : Try.prog.cellsOf t = k) (h : DataW.trod enc Try.prog w 0 (fun _ => true) true n t ((cs.drop off).take (Try.prog.cellsOf t)) = some y) : DataW.trod enc Try.prog w 0 (fun _ => true) true n t ((cs.drop off).take k) = some y := by
  rw [hc] at h; exact h
def G29 (_ : Nat) (_ : S29) : Prop := True
def G48 (_ : Nat) (x : S48) : Prop := (Lit.int .u64 x.f2).wf = true
theorem opens29 : Opens Try.prog 29 k29 G29 := by
  intro H enc w fuel cs x h
  obtain ⟨n, hl, hf⟩ := opens_fields Try.underlying29 h
  rw [cells29] at hl
  obtain ⟨c0, c1, c2, rfl⟩ := list3 hl
  obtain ⟨y0, h0, b0⟩ := hf 0 _ rfl
  obtain ⟨y1, h1, b1⟩ := hf 1 _ rfl
  obtain ⟨y2, h2, b2⟩ := hf 2 _ rfl
  have h0 : DataW.trod enc Try.prog w 0 (fun _ => true) true n 3 [c0] = some y0 := fld (t := 3) (off := 0) (cs := [c0, c1, c2]) cells3 h0
  have h1 : DataW.trod enc Try.prog w 0 (fun _ => true) true n 3 [c1] = some y1 := fld (t := 3) (off := 1) (cs := [c0, c1, c2]) cells3 h1
  have h2 : DataW.trod enc Try.prog w 0 (fun _ => true) true n 4 [c2] = some y2 := fld (t := 4) (off := 2) (cs := [c0, c1, c2]) cells4 h2
  obtain ⟨a0, k0, _⟩ := opens_int Try.underlying3 enc w n _ _ h0
  obtain ⟨a1, k1, _⟩ := opens_int Try.underlying3 enc w n _ _ h1
  obtain ⟨a2, k2, _⟩ := opens_bool Try.underlying4 enc w n _ _ h2
  obtain rfl : c0 = .int .i64 a0 := by simpa using (show [c0] = [Value.int .i64 a0] from k0)
  obtain rfl : c1 = .int .i64 a1 := by simpa using (show [c1] = [Value.int .i64 a1] from k1)
  obtain rfl : c2 = .bool a2 := by simpa using (show [c2] = [Value.bool a2] from k2)
  exact ⟨⟨a0, a1, a2⟩, PV.k29_mk w ⟨a0, a1, a2⟩, trivial⟩
theorem k48_mk (w : World) (x : S48) : k48.K w x [.int .i64 x.f0, .int .i64 x.f1, .int .u64 x.f2] := ⟨[.int .i64 x.f0], [.int .i64 x.f1, .int .u64 x.f2], rfl, rfl, ⟨[.int .i64 x.f1], [.int .u64 x.f2], rfl, rfl, rfl⟩⟩
theorem opens48 : Opens Try.prog 48 k48 G48 := by
  intro H enc w fuel cs x h
  obtain ⟨n, hl, hf⟩ := opens_fields Try.underlying48 h
  rw [cells48] at hl
  obtain ⟨c0, c1, c2, rfl⟩ := list3 hl
  obtain ⟨y0, h0, b0⟩ := hf 0 _ rfl
  obtain ⟨y1, h1, b1⟩ := hf 1 _ rfl
  obtain ⟨y2, h2, b2⟩ := hf 2 _ rfl
  have h0 : DataW.trod enc Try.prog w 0 (fun _ => true) true n 3 [c0] = some y0 := fld (t := 3) (off := 0) (cs := [c0, c1, c2]) cells3 h0
  have h1 : DataW.trod enc Try.prog w 0 (fun _ => true) true n 3 [c1] = some y1 := fld (t := 3) (off := 1) (cs := [c0, c1, c2]) cells3 h1
  have h2 : DataW.trod enc Try.prog w 0 (fun _ => true) true n 23 [c2] = some y2 := fld (t := 23) (off := 2) (cs := [c0, c1, c2]) cells23 h2
  obtain ⟨a0, k0, _⟩ := opens_int Try.underlying3 enc w n _ _ h0
  obtain ⟨a1, k1, _⟩ := opens_int Try.underlying3 enc w n _ _ h1
  obtain ⟨a2, k2, _, g2⟩ := opens_int Try.underlying23 enc w n _ _ h2
  obtain rfl : c0 = .int .i64 a0 := by simpa using (show [c0] = [Value.int .i64 a0] from k0)
  obtain rfl : c1 = .int .i64 a1 := by simpa using (show [c1] = [Value.int .i64 a1] from k1)
  obtain rfl : c2 = .int .u64 a2 := by simpa using (show [c2] = [Value.int .u64 a2] from k2)
  exact ⟨⟨a0, a1, a2⟩, k48_mk w ⟨a0, a1, a2⟩, g2⟩
/-- A conf that was read. -/
theorem open_C {H : Type} {enc : TypeId × Value → H} {w : World} {v : Value} {d : DataW H} {p : List MemPlace} {r : Reach} {base : Nat} (hv : Value.okWide Try.prog w r base 27 v) (h : DataW.Trod enc Try.prog w 0 (fun _ => true) true 27 v d p) :
    ∃ (a0 a1 a2 : Int) (a3 : Bool) (A : Option Addr) (c : Nat) (l : List S29), v = .agg #[.int .i64 a0, .int .i64 a1, .int .i64 a2, .bool a3, .slice A l.length c] ∧ Kd.C k29 w A l.length l ∧ l.length ≤ c ∧ l.length ≤ Rows.uptoBulk d := by
  obtain ⟨cs, rfl, hsz⟩ := okWide_struct Try.underlying27 hv
  obtain ⟨fuel, h⟩ := h
  have h' : DataW.trod enc Try.prog w 0 (fun _ => true) true fuel 27 cs.toList = some (d, p) := h
  obtain ⟨n, hl, hf⟩ := opens_fields Try.underlying27 h'
  rw [cells27] at hl
  obtain ⟨c0, c1, c2, c3, c4, hcs⟩ := list5 hl
  obtain rfl : cs = #[c0, c1, c2, c3, c4] := by cases cs; simpa using hcs
  obtain ⟨y0, h0, b0⟩ := hf 0 _ rfl
  obtain ⟨y1, h1, b1⟩ := hf 1 _ rfl
  obtain ⟨y2, h2, b2⟩ := hf 2 _ rfl
  obtain ⟨y3, h3, b3⟩ := hf 3 _ rfl
  obtain ⟨y4, h4, b4⟩ := hf 4 _ rfl
  have h0 : DataW.trod enc Try.prog w 0 (fun _ => true) true n 3 [c0] = some y0 := fld (t := 3) (off := 0) (cs := [c0, c1, c2, c3, c4]) cells3 h0
  have h1 : DataW.trod enc Try.prog w 0 (fun _ => true) true n 3 [c1] = some y1 := fld (t := 3) (off := 1) (cs := [c0, c1, c2, c3, c4]) cells3 h1
  have h2 : DataW.trod enc Try.prog w 0 (fun _ => true) true n 3 [c2] = some y2 := fld (t := 3) (off := 2) (cs := [c0, c1, c2, c3, c4]) cells3 h2
  have h3 : DataW.trod enc Try.prog w 0 (fun _ => true) true n 4 [c3] = some y3 := fld (t := 4) (off := 3) (cs := [c0, c1, c2, c3, c4]) cells4 h3
  have h4 : DataW.trod enc Try.prog w 0 (fun _ => true) true n 25 [c4] = some y4 := fld (t := 25) (off := 4) (cs := [c0, c1, c2, c3, c4]) cells25 h4
  obtain ⟨a0, k0, _⟩ := opens_int Try.underlying3 enc w n _ _ h0
  obtain ⟨a1, k1, _⟩ := opens_int Try.underlying3 enc w n _ _ h1
  obtain ⟨a2, k2, _⟩ := opens_int Try.underlying3 enc w n _ _ h2
  obtain ⟨a3, k3, _⟩ := opens_bool Try.underlying4 enc w n _ _ h3
  obtain ⟨A4, x4, l4, e4, q4, C4, g4⟩ := opens_row (d := k29) (G := G29) Try.underlying25 opens29 cells29 h4
  obtain rfl : c0 = .int .i64 a0 := by simpa using (show [c0] = [Value.int .i64 a0] from k0)
  obtain rfl : c1 = .int .i64 a1 := by simpa using (show [c1] = [Value.int .i64 a1] from k1)
  obtain rfl : c2 = .int .i64 a2 := by simpa using (show [c2] = [Value.int .i64 a2] from k2)
  obtain rfl : c3 = .bool a3 := by simpa using (show [c3] = [Value.bool a3] from k3)
  obtain rfl : c4 = .slice A4 l4.length x4 := by simpa using e4
  have z4 := g4.1
  simp only at b4
  exact ⟨a0, a1, a2, a3, A4, x4, l4, rfl, C4, q4, by omega⟩
/-- A script that was read. -/
theorem open_ops {H : Type} {enc : TypeId × Value → H} {w : World} {v : Value} {d : DataW H} {p : List MemPlace} {r : Reach} {base : Nat} (hv : Value.okWide Try.prog w r base 45 v) (h : DataW.Trod enc Try.prog w 0 (fun _ => true) true 45 v d p) :
    ∃ (A : Option Addr) (c : Nat) (ls : List S48), v = .slice A ls.length c ∧ Kd.C k48 w A ls.length ls ∧ ls.length ≤ c ∧ ls.length ≤ Rows.uptoBulk d := by
  obtain ⟨a, len, cap, rfl⟩ := okWide_slice Try.underlying45 hv
  obtain ⟨fuel, h⟩ := h
  obtain ⟨A, c, ls, e, l, C, g⟩ := opens_row (d := k48) (G := G48) Try.underlying45 opens48 cells48 h
  have e' : Value.slice a len cap = .slice A ls.length c := by simpa [Value.cells] using e
  exact ⟨A, c, ls, e', C, l, by have := g.1; simp only at this; omega⟩
theorem bulk2 {H : Type} {d0 d1 : DataW H} (h : Rows.uptoBulkAll [d0, d1] ≤ 1048576) : Rows.uptoBulk d0 ≤ 1048576 ∧ Rows.uptoBulk d1 ≤ 1048576 := by
  simp only [Rows.uptoBulkAll] at h; omega
end Go.Proofs.Ytdaadmjppikebaa.SC

/- SchedGangs: whatever the arguments are that read as data, it gives true. -/
namespace Go.Proofs.Ytdaadmjppikebaa.SC
open Go.RowKit Go.Proofs.Ytdaadmjppikebaa.Opn Go.WideShapes Go.Proofs.YtdaadmjppikebaaW.PrintWords
set_option maxRecDepth 100000 in
theorem schedGangs_core (H : Type) (enc : TypeId × Value → H) (W : World) (base : Nat) (v0 v1 : Value) (d0 d1 : DataW H) (p0 p1 : List MemPlace)
    (o0 : Value.okWide Try.prog W .any base 27 v0) (h0 : DataW.Trod enc Try.prog W 0 (fun _ => true) true 27 v0 d0 p0)
    (o1 : Value.okWide Try.prog W .any base 45 v1) (h1 : DataW.Trod enc Try.prog W 0 (fun _ => true) true 45 v1 d1 p1) (hb : Rows.uptoBulkAll [d0, d1] ≤ 1048576) :
    Calls Try.prog 4 #[v0, v1] W fun e W' => e = .returned (.bool true) ∧ Below W.heap.size W W' := by
  obtain ⟨hb0, hb1⟩ := bulk2 hb
  obtain ⟨a0, a1, a2, a3, A, c, l, rfl, hC, hl, _⟩ := open_C o0 h0
  obtain ⟨A1, c1, l1, rfl, hC1, hl1, hb2⟩ := open_ops o1 h1
  exact gangs_calls hC hl hC1 hl1 (by omega)
end Go.Proofs.Ytdaadmjppikebaa.SC
