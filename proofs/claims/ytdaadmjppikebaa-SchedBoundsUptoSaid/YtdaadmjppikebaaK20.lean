/- Parts of the walk of package sched, merged. -/
/- SchedBounds. -/
import Derived.Test.YtdaadmjppikebaaK17
import Derived.Test.YtdaadmjppikebaaK19
import Derived.Test.YtdaadmjppikebaaK10
import Derived.Test.YtdaadmjppikebaaOpen
import Derived.WideShapes
namespace Go.Proofs.Ytdaadmjppikebaa.SC
open Go.RowKit Go.Proofs.YtdaadmjppikebaaW.PrintWords Go.Proofs.YtdaadmjppikebaaW.PrintLast
open Go.Proofs.Ytdaadmjppikebaa.PV (S94 k94 S29 k29 rd_T94 rd_T29)
set_option linter.unusedVariables false
set_option linter.unusedSimpArgs false

theorem mulb {x y A B : Int} (h1 : 0 ≤ x) (h2 : x ≤ A) (h3 : 0 ≤ y) (h4 : y ≤ B) : 0 ≤ x * y ∧ x * y ≤ A * B :=
  ⟨Int.mul_nonneg h1 h3, Int.le_trans (Int.mul_le_mul_of_nonneg_right h2 h3) (Int.mul_le_mul_of_nonneg_left h4 (Int.le_trans h1 h2))⟩
theorem divmod_int {P p r y z : Int} (h1 : 0 ≤ y ∧ y < P) (h2 : 0 ≤ z ∧ z < P) (h : P * p + y = P * r + z) : p = r := by
  rcases Int.lt_trichotomy p r with c | c | c
  · have := Int.mul_le_mul_of_nonneg_left (show p + 1 ≤ r by omega) (show 0 ≤ P by omega)
    rw [Int.mul_add, Int.mul_one] at this
    omega
  · exact c
  · have := Int.mul_le_mul_of_nonneg_left (show r + 1 ≤ p by omega) (show 0 ≤ P by omega)
    rw [Int.mul_add, Int.mul_one] at this
    omega
theorem newF_bz {m : Nat} {S P : Int} {cr : Bool} {gl : List S94} (hok : NOk m S P gl) {a : Nat} (ha : a < m) (hw1 : 1 ≤ (plainL (newF m S P cr gl) a).length) : BZ a (ticksF (newF m S P cr gl)) (sumW (newF m S P cr gl) a) P 0 0 (newF m S P cr gl) ∧ 1 ≤ sumW (newF m S P cr gl) a := by
  obtain ⟨hw, hc, hr, hst, hn, hs⟩ := newF_ok (cr := cr) hok
  have hws := newS1_wf (cr := cr) hok
  have hP := hok.P1
  have hpos : 1 ≤ sumW (newF m S P cr gl) a := by
    have h1 := sumE_le (F := fun _ => 1) (G := fun e => ((newF m S P cr gl).ent e.toNat).wt) (plainL (newF m S P cr gl) a) (fun e he => by
      have := plainL_range e he
      exact (hw.ew e.toNat (by omega)).1)
    rw [sumE_const] at h1
    unfold sumW
    omega
  have htl : ticksF (newF m S P cr gl) ≤ P := by
    have h2 := ticksGo_range (newF m S P cr gl).gs (newF m S P cr gl).P (fun g hg => by
      obtain ⟨i, hi, rfl⟩ := List.getElem_of_mem hg
      have := hw.gw i hi
      unfold SS.gst at this
      rw [List.getD_eq_getElem?_getD, List.getElem?_eq_getElem hi, Option.getD_some] at this
      omega)
    have hpp : (newF m S P cr gl).P = P := hst.P
    unfold ticksF
    omega
  have hgn1 : ∀ k, ((newS1 m S P cr gl).ent k).gn = false := fun k => by
    show ((newS0 m S P cr gl).ent k).gn = false
    rcases Nat.lt_or_ge k (entsL 0 gl).length with q | q
    · obtain ⟨j, x, k', h1, h2, h3⟩ := new_ent (m := m) (S := S) (P := P) (cr := cr) q
      rw [h3]
    · show ((entsL 0 gl).getD k e0).gn = false
      rw [List.getD_eq_getElem?_getD, List.getElem?_eq_none q]; rfl
  refine ⟨⟨by rw [hn]; omega, by omega, hst.P, by rw [hst.H]; show (a : Int) < (m : Int); omega, rfl, htl, Int.le_refl _, by rw [hs]; omega, newF_cq hok, fun k => ?_, fun hcr e he => ?_, rfl⟩, hpos⟩
  · unfold newF
    split
    · rw [((giveF_gk hws).gn k).1]; exact hgn1 k
    · exact hgn1 k
  · have hcr' : cr = true := by rw [← hcr]; exact hst.cr.symm
    subst hcr'
    have e1 : newF m S P true gl = giveF (newS1 m S P true gl) := by unfold newF; rw [if_pos rfl]
    have he' : e ∈ plainL (newS1 m S P true gl) a := by rw [← hst.plain]; exact he
    have hent : (giveFrom (newS1 m S P true gl).H.toNat 0 (newS1 m S P true gl)).ent e.toNat = _ := giveFrom_ent (a := a) (newS1 m S P true gl).H.toNat 0 (newS1 m S P true gl) hws hgn1 (Nat.zero_le _) (by show a < 0 + ((m : Int)).toNat; omega) e he'
    have hent2 : (newF m S P true gl).ent e.toNat = giveUp (ticksF (newS1 m S P true gl)) (limitF (newS1 m S P true gl)) (sumW (newS1 m S P true gl) a) ((newS1 m S P true gl).ent e.toNat) := by rw [e1]; exact hent
    rw [hent2, ← sumW_st hst]
    exact ⟨Int.emod_nonneg _ (show sumW (newF m S P true gl) a ≠ 0 by omega), Int.emod_lt_of_pos _ (show 0 < sumW (newF m S P true gl) a by omega)⟩
/-- What holds while SchedBounds ticks ahead of its question. -/
structure BP (m : Nat) (S P : Int) (a x : Nat) (q w wt : Int) (cr : Bool) (ys : List S29) (ls : List Int) (n0 : Nat) (s : SS) (p y : Int) : Prop where
  z : BZ a q w P p y s
  n : NP m S P cr ys s
  l : plainL s a = ls
  e : s.es.length = n0
  wt : (s.ent x).wt = wt
theorem BP.tick {W : World} {own : Nat → Prop} {b m : Nat} {S P : Int} {a x : Nat} {q w wt : Int} {cr : Bool} {ys : List S29} {ls : List Int} {n0 : Nat} {s : SS} {p y : Int} (hx : SB W own b s) (h : BP m S P a x q w wt cr ys ls n0 s p y) (hw1 : 1 ≤ w) (hi : s.now ≤ 288230376151711744) (rd : List Bool) :
    BP m S P a x q w wt cr ys ls n0 (tickF s rd) (if y + 1 = P then p + 1 else p) (if y + 1 = P then 0 else y + 1) := by
  have ht := tickF_tf rd hx.wf (by omega) hx.cntC hx.cntR
  exact ⟨h.z.tick hx.wf (by omega) hx.cntC hx.cntR (fun _ => hw1) rd, h.n.st ht.st, by rw [ht.st.plain]; exact h.l, by rw [ht.st.el]; exact h.e, by rw [(ht.st.en x).2.2]; exact h.wt⟩
set_option maxRecDepth 100000 in
set_option maxHeartbeats 3200000 in
theorem bounds_calls {W : World} {a0 a1 a2 : Int} {a3 : Bool} {A0 : Option Addr} {c0 : Nat} {l0 : List S29} {A2' A9 : Option Addr} {c2' c9 : Nat} {l2 l9 : List Int} {entity : Int} (hC : Kd.C k29 W A0 l0.length l0) (hc : l0.length ≤ c0) (hS2 : Kd.C (Kd.int .u64) W A2' l2.length l2) (hs' : l2.length ≤ c2') (hs2' : l2.length ≤ 1048576) (hS9 : Kd.C (Kd.int .u64) W A9 l9.length l9) (hs : l9.length ≤ c9) (hs2 : l9.length ≤ 1048576) :
    Calls Try.prog 8 #[.agg #[.int .i64 a0, .int .i64 a1, .int .i64 a2, .bool a3, .slice A0 l0.length c0], .int .i64 entity, .slice A2' l2.length c2', .slice A9 l9.length c9] W fun x w' => x = .returned (.bool true) ∧ Below W.heap.size W w' := by
  have HSC := Aside0.mk hS9
  have HSB := Aside0.mk hS2
  clear hS9 hS2
  obtain ⟨m, S, P, ys, hrt, hm, hS, hP, hrg⟩ := right_plain a0 a1 a2 a3 l0
  have hok := hrg.ok hm hS hP
  have hcf := conf_f ys (by have := hrg.l6; omega) (m : Int) S P a3
  have hrf := right_f (cr := a3) hok
  obtain ⟨gl, hgl⟩ : ∃ gl, gl = confL ys := ⟨_, rfl⟩
  rw [← hgl] at hok hcf hrf
  have HGL := Aside0.mk hgl
  have HRG := Aside0.mk hrg
  have HOK := Aside0.mk hok
  have HCF := Aside0.mk hcf
  have HRF := Aside0.mk hrf
  have HRT := Aside0.mk hrt
  have HC0 := Aside0.mk hC
  have HL0 := Aside0.mk hc
  clear hok hcf hrf hgl hrg hrt hC hc
  go_enter Try.func8, Try.ntmps8
  go_upto_region 2 with (first | ((with_reducible refine gate_dst (N := 4) rfl ?_); (try (refine gate_guard (by rfl) ?_; dsimp only)); refine box_event ?hg (N := 4) ?hd (cs := #[.int .i64 a0, .int .i64 a1, .int .i64 a2, .bool a3, .slice A0 l0.length c0]) (t := 27) ?hr ?_; (case hd => rfl); (case hg => rfl); (case hr => first | (go_simp; done) | (go_simp; rfl)); intro gb hg w1 hbox hb; have z0 : w1.cell? ⟨gb, 0, none⟩ = some (.int .i64 a0) := (blk_cell hbox 0).trans rfl; have z1 : w1.cell? ⟨gb, 1, none⟩ = some (.int .i64 a1) := (blk_cell hbox 1).trans rfl; have z2 : w1.cell? ⟨gb, 2, none⟩ = some (.int .i64 a2) := (blk_cell hbox 2).trans rfl; have z3 : w1.cell? ⟨gb, 3, none⟩ = some (.bool a3) := (blk_cell hbox 3).trans rfl; have z4 : w1.cell? ⟨gb, 4, none⟩ = some (.slice A0 l0.length c0) := (blk_cell hbox 4).trans rfl; have HBX := Aside0.mk hbox; have HGB := Aside0.mk hg; have HB1 := Aside0.mk hb; clear hg hbox hb) | (go_at_call 20; with_reducible refine (PV.citadellaw18_right.calls 20 a0 a1 a2 a3 A0 c0 l0 (m : Int) S P a3 ys _ (Kd.C_below HC0.out HB1.out) HL0.out HRT.out).mono ?_; rintro e w2 ⟨v4, rfl, hs2, hb2⟩; obtain ⟨Ag, cg, e4⟩ := Kd.R_slice hs2; subst e4; have HR2 := Aside0.mk hs2; have HB2 := Aside0.mk hb2; have HBK := Aside0.mk ((blkbox HBX.out).below hb2); have y0 : w2.cell? ⟨gb, 0, none⟩ = some (.int .i64 a0) := HBK.out.cell rfl; have yf0 : w2.frozen? ⟨gb, 0, none⟩ = false := HBK.out.frozen _; have y1 : w2.cell? ⟨gb, 1, none⟩ = some (.int .i64 a1) := HBK.out.cell rfl; have yf1 : w2.frozen? ⟨gb, 1, none⟩ = false := HBK.out.frozen _; have y2 : w2.cell? ⟨gb, 2, none⟩ = some (.int .i64 a2) := HBK.out.cell rfl; have yf2 : w2.frozen? ⟨gb, 2, none⟩ = false := HBK.out.frozen _; have y3 : w2.cell? ⟨gb, 3, none⟩ = some (.bool a3) := HBK.out.cell rfl; have yf3 : w2.frozen? ⟨gb, 3, none⟩ = false := HBK.out.frozen _; have y4 : w2.cell? ⟨gb, 4, none⟩ = some (.slice A0 l0.length c0) := HBK.out.cell rfl; have yf4 : w2.frozen? ⟨gb, 4, none⟩ = false := HBK.out.frozen _; clear hs2 hb2))
  have HCC := Aside0.mk (CC.of (m := (m : Int)) (S := S) (P := P) (cr := a3) HBK.out (by rw [HGB.out]; exact Nat.le_refl _) (below_step HB1.out HB2.out) (Kd.R_lower HR2.out HB1.out.size) (fun k hk e => by have h1 := Kd.R_base HR2.out k hk; have h2 := (blkbox HBX.out).lt; rw [e] at h1; omega))
  obtain ⟨w3, hw3⟩ : ∃ w3, w3 = (((((w2.setCell ⟨gb, 0, none⟩ (.int .i64 (m : Int))).setCell ⟨gb, 1, none⟩ (.int .i64 S)).setCell ⟨gb, 2, none⟩ (.int .i64 P)).setCell ⟨gb, 3, none⟩ (.bool a3)).setCell ⟨gb, 4, none⟩ (.slice Ag ys.length cg)) := ⟨_, rfl⟩
  rw [← hw3] at HCC ⊢
  clear hw3 HBK HR2 HB2 HB1 HGB HBX z0 z1 z2 z3 z4 y0 y1 y2 y3 y4 yf0 yf1 yf2 yf3 yf4
  have d0 : w3.cell? ⟨gb, 0, none⟩ = some (.int .i64 (m : Int)) := HCC.out.b.cell rfl
  have d1 : w3.cell? ⟨gb, 1, none⟩ = some (.int .i64 S) := HCC.out.b.cell rfl
  have d2 : w3.cell? ⟨gb, 2, none⟩ = some (.int .i64 P) := HCC.out.b.cell rfl
  have d3 : w3.cell? ⟨gb, 3, none⟩ = some (.bool a3) := HCC.out.b.cell rfl
  have d4 : w3.cell? ⟨gb, 4, none⟩ = some (.slice Ag ys.length cg) := HCC.out.b.cell rfl
  go_upto_region 3 with (first | (go_at_call 14; with_reducible refine (PV.citadellaw18_C_Conf.calls (ys.length + 1) (m : Int) S P a3 _ _ ys (m : Int) S P a3 gl _ (Kd.R_reads' HCC.out.r).2.2 (Kd.R_reads' HCC.out.r).2.1 HCF.out).mono ?_; rintro e w21 ⟨v2, rfl, hs2, hb2⟩; obtain ⟨A2, c2, e2, hl2, hC2⟩ := Kd.S_reads hs2; subst e2; have HC2 := Aside0.mk hC2; have HL2 := Aside0.mk hl2; have HCB3 := Aside0.mk (HCC.out.below hb2); clear hs2 hl2 hC2 hb2) | (go_at_call 13; refine (new_sb (m := m) (k := 2 * gl.length + 2) rfl HRF.out HC2.out HL2.out HOK.out).mono ?_; rintro e w22 ⟨b, own, rfl, hsb, hown, hb3⟩; obtain ⟨s0, hs0⟩ : ∃ s0, s0 = newF m S P a3 gl := ⟨_, rfl⟩; rw [← hs0] at hsb; have HS0 := Aside0.mk hs0; have HLW := Aside0.mk (LW.of HCB3.out hb3 hsb hown); clear hsb hown hb3 hs0))
  clear d0 d1 d2 d3 d4 HCC HCB3 HC2 HL2 HCF HRF

  have hnp := (by have := HOK.out; rw [HGL.out] at this; exact np_new (cr := a3) this : NP m S P a3 ys (newF m S P a3 (confL ys)))
  rw [← HGL.out, ← HS0.out] at hnp
  have hen := HLW.out.X.wf.en
  have hem := HLW.out.X.wf.em
  obtain ⟨r1, hr1, h11, h12⟩ := mod_f entity (s0.es.length : Int) (by omega) (by omega)
  obtain ⟨x, hx⟩ : ∃ x : Nat, r1 = (x : Int) := ⟨r1.toNat, by omega⟩
  subst hx
  have hxn : x < s0.es.length := by omega
  have HM1 := Aside0.mk hr1
  have heg := HLW.out.X.wf.eg x hxn
  obtain ⟨g, hg⟩ : ∃ g : Nat, (s0.ent x).gu = (g : Int) := ⟨(s0.ent x).gu.toNat, by omega⟩
  have hgl : g < ys.length := by have := hnp.gl; omega
  have hgg := hnp.gg g
  have hgw := hnp.gw g
  have HNP := Aside0.mk hnp
  have HG := Aside0.mk hg
  obtain ⟨hN, hhN⟩ : ∃ hN, hN = w21.heap.size := ⟨_, rfl⟩
  rw [← hhN] at HLW
  clear hhN hr1 h11 h12 heg
  go_upto_region 6 with (first | (go_at_call 15; refine HLW.out.X.entities.mono ?_; rintro e w35 ⟨rfl, rfl⟩) | (go_at_call 12; with_reducible refine (mod_calls entity (s0.es.length : Int) (x : Int) _ HM1.out).mono ?_; rintro e w30 ⟨rfl, hb⟩; have HLW1 := Aside0.mk (HLW.out.below hb); clear hb))
  have HGU := Aside0.mk (show Calls Try.prog 22 #[.pointer (some ⟨b, 0, none⟩), .int .i64 (x : Int)] w30 fun x_1 w' => x_1 = .returned (.tuple #[.int .i64 (g : Int), .int .i64 (s0.ent x).ix]) ∧ LW W w' own b gb hN s0 (m : Int) S P a3 Ag cg ys ∧ Below w30.heap.size w30 w' by have := HLW1.out.guest hxn; rwa [HG.out] at this)
  go_upto_region 7 with (go_at_call 22; refine HGU.out.mono ?_; rintro e w31 ⟨rfl, hl2, _⟩; have HLW2 := Aside0.mk hl2; clear hl2)
  clear HGU HLW HLW1
  obtain ⟨adg, e6, _, kw, kf⟩ := PV.at_T29 (Kd.R_reads' HLW2.out.C.r).2.2 (g : Int) (by omega) (by omega)
  subst e6
  obtain ⟨fw, hfw⟩ : ∃ fw, fw = (rd_T29 ys (g : Int)).f1 := ⟨_, rfl⟩
  obtain ⟨fg, hfg⟩ : ∃ fg, fg = (rd_T29 ys (g : Int)).f2 := ⟨_, rfl⟩
  rw [← hfw, Int.toNat_natCast] at kw
  rw [← hfg, Int.toNat_natCast] at kf
  rw [← hfg] at hgg
  rw [← hfw] at hgw
  have hyq := HRG.out.y (rd_T29 ys (g : Int)) (by unfold rd_T29; rw [Int.toNat_natCast, List.getD_eq_getElem?_getD, List.getElem?_eq_getElem hgl, Option.getD_some]; exact List.getElem_mem hgl)
  rw [← hfw] at hyq
  have hfwb : 1 ≤ fw ∧ fw ≤ 9 := by omega
  have d4 : w31.cell? ⟨gb, 4, none⟩ = some (.slice (some adg) ys.length cg) := HLW2.out.C.b.cell rfl
  have hy6 := HRG.out.l6
  have HFW := Aside0.mk hfw
  clear hyq hfw hfg
  cases fg with
  | true =>
    go_wp2_with (go_at_call 19; refine (awake_calls _).mono ?_; rintro e w90 ⟨rfl, hb⟩; have HBE := Aside0.mk (below_step HLW2.out.B hb); clear hb)
    go_ret
    exact ⟨rfl, HBE.out⟩
  | false =>
    have hgn : s0.gng x = false := by unfold SS.gng; rw [HG.out, Int.toNat_natCast]; exact hgg
    have hhr := home_range HLW2.out.X.wf hxn
    have hH := hnp.H
    obtain ⟨a, ha⟩ : ∃ a : Nat, homeOf s0 x = (a : Int) := ⟨(homeOf s0 x).toNat, by omega⟩
    have ham : a < m := by omega
    have hmem : (x : Int) ∈ plainL s0 (a : Int) := plainTo_in hxn ha hgn
    have hwt := newF_wt (cr := a3) HOK.out
    rw [← HS0.out] at hwt
    have hwx : (s0.ent x).wt = fw := by rw [hwt x hxn, HG.out, Int.toNat_natCast]; exact hgw
    have hwe := wSum_sumE hwt (a : Int)
    have hbz := newF_bz (cr := a3) HOK.out ham (by rw [← HS0.out]; exact List.length_pos_of_mem hmem)
    rw [← HS0.out, hnp.ticks'] at hbz
    have hwr := wSum_range HLW2.out.X.wf (plainL s0 (a : Int)) plainL_range
    have hln : (plainL s0 (a : Int)).length ≤ 64 := Nat.le_trans (plainTo_len s0 (a : Int) s0.es.length) hem
    obtain ⟨q, hq⟩ : ∃ q, q = P - gS ys := ⟨_, rfl⟩
    have hgs := HRG.out.g
    have hq1 : 1 ≤ q ∧ q ≤ 40 := by omega
    obtain ⟨ls, hls⟩ : ∃ ls, ls = plainL s0 (a : Int) := ⟨_, rfl⟩
    obtain ⟨ww, hww⟩ : ∃ ww, ww = wSum s0 ls := ⟨_, rfl⟩
    have hsw : sumW s0 a = ww := by unfold sumW; rw [← hwe, hww, hls]
    rw [hsw, ← hq] at hbz
    rw [← hls, ← hww] at hwr
    rw [← hls] at hln hmem
    have hww1 : 1 ≤ ww ∧ ww ≤ 64000 := by have := hbz.2; omega
    have HLS := Aside0.mk hls
    have HWW := Aside0.mk hww
    have HQ := Aside0.mk hq
    obtain ⟨n0, hn0⟩ : ∃ n0, n0 = s0.es.length := ⟨_, rfl⟩
    have HI := Aside0.mk (show BP m S P a x q ww fw a3 ys ls n0 s0 0 0 from ⟨hbz.1, hnp, hls.symm, hn0.symm, hwx⟩)
    have HHA := Aside0.mk (show Calls Try.prog 24 #[.pointer (some ⟨b, 0, none⟩), .int .i64 (x : Int)] w31.drew fun x_1 w' => x_1 = .returned (.int .i64 (a : Int)) ∧ LW W w' own b gb hN s0 (m : Int) S P a3 (some adg) cg ys ∧ Below w31.drew.heap.size w31.drew w' by have := (HLW2.out.below (below_drew (Below.refl _ _))).home hxn; rwa [ha] at this)
    have HMEM := Aside0.mk hmem
    have HXN := Aside0.mk (show x < n0 by omega)
    clear hwt hwe hbz hwr hls hww hsw hgs hhr hH ha hgn hwx hq hn0 hgg hgw hnp HG hmem hxn
    go_upto_region 9 with (fail)
    have HLd := Aside0.mk (HLW2.out.below (below_drew (Below.refl _ _)))
    have kwd := pw_cell_below (below_drew (Below.refl w31.heap.size w31)) kw
    have z0 : w31.drew.cell? ⟨gb, 0, none⟩ = some (.int .i64 (m : Int)) := HLd.out.C.b.cell rfl
    have z1 : w31.drew.cell? ⟨gb, 1, none⟩ = some (.int .i64 S) := HLd.out.C.b.cell rfl
    have z2 : w31.drew.cell? ⟨gb, 2, none⟩ = some (.int .i64 P) := HLd.out.C.b.cell rfl
    have z3 : w31.drew.cell? ⟨gb, 3, none⟩ = some (.bool a3) := HLd.out.C.b.cell rfl
    have z4 : w31.drew.cell? ⟨gb, 4, none⟩ = some (.slice (some adg) ys.length cg) := HLd.out.C.b.cell rfl
    refine start_ (n := 11) (S := fun w' => w'.cell? ⟨gb, 0, none⟩ = some (.int .i64 (m : Int)) ∧ w'.cell? ⟨gb, 1, none⟩ = some (.int .i64 S) ∧ w'.cell? ⟨gb, 2, none⟩ = some (.int .i64 P) ∧ w'.cell? ⟨gb, 3, none⟩ = some (.bool a3) ∧ w'.cell? ⟨gb, 4, none⟩ = some (.slice (some adg) ys.length cg)) (ds := [5]) #[false, false, false, false, false, false, false, false, false, false, false] (by kernel_rfl) rfl rfl ⟨z0, z1, z2, z3, z4⟩ (fun hHeld => ?_)
    refine pure_ (i := 0) (N := some 57) (v := ?_) (a' := ?_) #[true, false, false, false, false, false, false, false, false, false, false] rfl rfl (by kernel_rfl) (fun _ _ _ h => h) (Or.inl ⟨by rfl, ?_⟩) ?_ ?_
    rotate_left
    · intro w'
      go_simp
      with_reducible rfl
    rotate_left
    · simp only [Act.put, List.setIfInBounds_toArray, List.set_cons_zero, List.set_cons_succ, i64_w, i32_w]
      rfl
    refine pure_ (i := 2) (N := some 59) (v := ?_) (a' := ?_) #[true, false, true, false, false, false, false, false, false, false, false] rfl rfl (by kernel_rfl) (fun _ _ _ h => h) (Or.inl ⟨by rfl, ?_⟩) ?_ ?_
    rotate_left
    · intro w'
      go_simp
      with_reducible rfl
    rotate_left
    · simp only [Act.put, List.setIfInBounds_toArray, List.set_cons_zero, List.set_cons_succ, i64_w, i32_w]
      rfl
    refine pure_ (i := 3) (N := some 60) (v := ?_) (a' := ?_) #[true, false, true, true, false, false, false, false, false, false, false] rfl rfl (by kernel_rfl) (fun _ _ _ h => h) (Or.inl ⟨by rfl, ?_⟩) ?_ ?_
    rotate_left
    · intro w'
      go_simp
      with_reducible rfl
    rotate_left
    · simp only [Act.put, List.setIfInBounds_toArray, List.set_cons_zero, List.set_cons_succ, i64_w, i32_w]
      rfl
    refine take_ (i := 1) (N := some 58) (v := ?_) (a' := ?_) #[true, true, true, true, false, false, false, false, false, false, false] rfl rfl (by kernel_rfl) (fun _ _ _ h => h) (Or.inl ⟨by rfl, ?_⟩) hHeld ?_ ?_
    rotate_left
    · rintro w' ⟨s0, s1, s2, s3, s4⟩
      go_simp
      with_reducible rfl
    rotate_left
    · simp only [Act.put, List.setIfInBounds_toArray, List.set_cons_zero, List.set_cons_succ, i64_w, i32_w]
      rfl
    refine one_ (i := 4) (N := some 61) #[true, true, true, true, true, false, false, false, false, false, false] rfl rfl (by kernel_rfl) (by decide) (fun K hK => ?_)
    refine goes_ Try.func24 (by kernel_rfl) rfl #[.pointer (some ⟨b, 0, none⟩), .int .i64 (x : Int)] (by rfl) rfl rfl (by simp only [List.map_toArray, List.map_cons, List.map_nil]; rfl) ?_
    with_reducible refine (HHA.out).mono ?_
    rintro e w40 ⟨rfl, hl3, hb3⟩
    refine ⟨_, rfl, ?_⟩
    have HLW3 := Aside0.mk hl3
    have kw3 := pw_cell_below hb3 kwd
    have y0 := pw_cell_below hb3 z0
    have y1 := pw_cell_below hb3 z1
    have y2 := pw_cell_below hb3 z2
    have y3 := pw_cell_below hb3 z3
    have y4 := pw_cell_below hb3 z4
    clear hl3 hb3
    refine hK.out _ _ ⟨y0, y1, y2, y3, y4⟩ (fun hHeld => ?_)
    clear hK K
    refine norm_ (a' := ?_) ?_ ?_
    rotate_left
    · show Act.put _ (some 61) _ = _
      simp only [Act.put, List.setIfInBounds_toArray, List.set_cons_zero, List.set_cons_succ, i64_w, i32_w]
      rfl
    refine last_ (i := 5) (N := some 62) #[true, true, true, true, true, true, false, false, false, false, false] rfl rfl (by kernel_rfl) (by decide) (fun K hK => ?_)
    refine goes_ Try.func25 (by kernel_rfl) rfl #[.pointer (some ⟨b, 0, none⟩), .agg #[.int .i64 (m : Int), .int .i64 S, .int .i64 P, .bool a3, .slice (some adg) ys.length cg], .int .i64 (a : Int)] (by rfl) rfl rfl (by simp only [List.map_toArray, List.map_cons, List.map_nil]; rfl) ?_
    with_reducible refine (home_fn HLW3.out.X HNP.out (Kd.R_reads' HLW3.out.C.r).2.2 (a : Int)).mono ?_
    rintro e w41 ⟨vl, rfl, hrl, hb4⟩
    refine ⟨_, rfl, ?_⟩
    rw [← HLS.out] at hrl ⊢
    have HRL := Aside0.mk hrl
    have HLW4 := Aside0.mk (HLW3.out.below hb4)
    have kw4 := pw_cell_below hb4 kw3
    clear hrl hb4
    refine hK.out _ _ ?_
    clear hK K
    refine norm_ (a' := ?_) ?_ ?_
    rotate_left
    · show Act.put _ (some 62) _ = _
      simp only [Act.put, List.setIfInBounds_toArray, List.set_cons_zero, List.set_cons_succ, i64_w, i32_w]
      rfl
    refine pure_ (i := 6) (N := some 56) (v := ?_) (a' := ?_) #[true, true, true, true, true, true, true, false, false, false, false] rfl rfl (by kernel_rfl) (fun _ _ _ h => h) (Or.inl ⟨by rfl, ?_⟩) ?_ ?_
    rotate_left
    · intro w'
      go_simp
      with_reducible rfl
    rotate_left
    · simp only [Act.put, List.setIfInBounds_toArray, List.set_cons_zero, List.set_cons_succ, i64_w, i32_w]
      rfl
    refine pure_ (i := 7) (N := some 63) (v := ?_) (a' := ?_) #[true, true, true, true, true, true, true, true, false, false, false] rfl rfl (by kernel_rfl) (fun _ _ _ h => h) (Or.inl ⟨by rfl, ?_⟩) ?_ ?_
    rotate_left
    · intro w'
      go_simp
      with_reducible rfl
    rotate_left
    · simp only [Act.put, List.setIfInBounds_toArray, List.set_cons_zero, List.set_cons_succ, i64_w, i32_w]
      rfl
    refine pure_ (i := 8) (N := some 64) (v := ?_) (a' := ?_) #[true, true, true, true, true, true, true, true, true, false, false] rfl rfl (by kernel_rfl) (fun _ _ _ h => h) (Or.inl ⟨by rfl, ?_⟩) ?_ ?_
    rotate_left
    · intro w'
      go_simp
      with_reducible rfl
    rotate_left
    · simp only [Act.put, List.setIfInBounds_toArray, List.set_cons_zero, List.set_cons_succ, i64_w, i32_w]
      rfl
    refine pure_ (i := 9) (N := some 14) (v := ?_) (a' := ?_) #[true, true, true, true, true, true, true, true, true, true, false] rfl rfl (by kernel_rfl) (fun _ _ _ h => h) (Or.inl ⟨by rfl, ?_⟩) ?_ ?_
    rotate_left
    · intro w'
      go_simp
      with_reducible rfl
    rotate_left
    · simp only [Act.put, List.setIfInBounds_toArray, List.set_cons_zero, List.set_cons_succ, i64_w, i32_w]
      rfl
    refine pure_ (i := 10) (N := some 15) (v := ?_) (a' := ?_) #[true, true, true, true, true, true, true, true, true, true, true] rfl rfl (by kernel_rfl) (fun _ _ _ h => h) (Or.inl ⟨by rfl, ?_⟩) ?_ ?_
    rotate_left
    · intro w'
      go_simp
      with_reducible rfl
    rotate_left
    · simp only [Act.put, List.setIfInBounds_toArray, List.set_cons_zero, List.set_cons_succ, i64_w, i32_w]
      rfl
    refine done_ (by kernel_rfl) ?_
    obtain ⟨Al, cl, el⟩ := Kd.R_slice HRL.out
    subst el
    have HIL := Aside0.mk (IL.of HLW3.out.X HRL.out)
    rw [← HWW.out]
    clear d4 z0 z1 z2 z3 z4 HRL HLd kw kf kwd
    have d0 : w41.cell? ⟨gb, 0, none⟩ = some (.int .i64 (m : Int)) := HLW4.out.C.b.cell rfl
    have d1 : w41.cell? ⟨gb, 1, none⟩ = some (.int .i64 S) := HLW4.out.C.b.cell rfl
    have d2 : w41.cell? ⟨gb, 2, none⟩ = some (.int .i64 P) := HLW4.out.C.b.cell rfl
    have d3 : w41.cell? ⟨gb, 3, none⟩ = some (.bool a3) := HLW4.out.C.b.cell rfl
    have d4 : w41.cell? ⟨gb, 4, none⟩ = some (.slice (some adg) ys.length cg) := HLW4.out.C.b.cell rfl
    go_upto_region 11 with (go_at_call 28; refine (shared_calls (Kd.R_reads' HLW4.out.C.r).2.2 HRG.out hP).mono ?_; rw [← HQ.out]; rintro e w42 ⟨rfl, hb⟩; have HLW5 := Aside0.mk (HLW4.out.below hb); have HIL5 := Aside0.mk (HIL.out.below hb); have kw5 := pw_cell_below hb kw4; clear hb)
    clear d0 d1 d2 d3 d4 HIL HLW4 HLW3 HLW2 HHA HLS HWW HQ HS0 HOK HGL HRT HC0 HL0
    clear kw5
    have hSb := hS
    have hnS : 0 ≤ (ls.length : Int) * S ∧ (ls.length : Int) * S ≤ 768 := mulb (by omega) (by omega : (ls.length : Int) ≤ 64) (by omega) hSb.2
    obtain ⟨BB, hBB⟩ : ∃ BB, BB = (ls.length : Int) * S / q := ⟨_, rfl⟩
    have hB0 : 0 ≤ BB ∧ BB ≤ 768 := by
      rw [hBB]
      exact ⟨Int.ediv_nonneg hnS.1 (by omega), Int.le_trans (Int.ediv_le_self q hnS.1) hnS.2⟩
    have hqw : 1 ≤ q * fw ∧ q * fw ≤ 360 := ⟨by have := Int.mul_le_mul_of_nonneg_left hfwb.1 (show 0 ≤ q by omega); rw [Int.mul_one] at this; omega, (mulb (by omega) hq1.2 (by omega) hfwb.2).2⟩
    have hqq : 0 ≤ (q + 128 + 2) * ww ∧ (q + 128 + 2) * ww ≤ 10880000 := mulb (by omega) (by omega : q + 128 + 2 ≤ 170) (by omega) hww1.2
    obtain ⟨AA, hAA⟩ : ∃ AA, AA = (q + 128 + 2) * ww / (q * fw) := ⟨_, rfl⟩
    have hA0 : 0 ≤ AA ∧ AA ≤ 10880000 := by
      rw [hAA]
      exact ⟨Int.ediv_nonneg hqq.1 (by omega), Int.le_trans (Int.ediv_le_self _ hqq.1) hqq.2⟩
    have HBB := Aside0.mk hBB
    have HAA := Aside0.mk hAA
    have hP2 : 0 ≤ P * (2 + BB) ∧ P * (2 + BB) ≤ 30800 := mulb (by omega) hP.2 (by omega) (by omega : 2 + BB ≤ 770)
    have hP4 : 0 ≤ P * (4 + AA + BB) ∧ P * (4 + AA + BB) ≤ 435240000 := mulb (by omega) hP.2 (by omega) (by omega : 4 + AA + BB ≤ 10881000)
    go_wp2_with (fail)
    go_loopw [17] (fun v17 w' => ∃ (i : Nat) (p y : Int) (own : Nat → Prop) (s : SS), v17 = .int .i64 (i : Int) ∧ i ≤ l2.length ∧ Aside0 (LW W w' own b gb hN s (m : Int) S P a3 (some adg) cg ys) ∧ Aside0 (IL w' own Al cl ls) ∧ Aside0 (BP m S P a x q ww fw a3 ys ls n0 s p y ∧ s.now = (i : Int))) (fun v17 _ => l2.length - (intOf v17).toNat)
    case atStart => exact ⟨0, 0, 0, own, s0, rfl, Nat.zero_le _, HLW5, HIL5, ⟨HI.out, by have := HI.out.z.now; rw [this]; simp⟩⟩
    case round =>
      obtain ⟨i, p, y, own1, s, rfl, hil, HL1, HA1, HF1⟩ := hrel
      clear HLW5 HIL5 HI
      by_cases hlt : i < l2.length
      · obtain ⟨ad, e0, hx⟩ := Kd.at_int (Kd.C_below HSB.out HL1.out.B) (i : Int) (by omega) (by omega)
        subst e0
        obtain ⟨v, hv⟩ : ∃ v, v = Go.Proofs.YtdaadmjppikebaaW.PrintWords.rd l2 i := ⟨_, rfl⟩
        rw [← hv, Int.toNat_natCast] at hx
        have HNW := Aside0.mk (show s.now ≤ 288230376151711744 by have := HF1.out.2; omega)
        have HLd := Aside0.mk (HL1.out.below (below_drew (Below.refl _ _)))
        have HAd := Aside0.mk (HA1.out.below (below_drew (Below.refl _ _)))
        have zx : wr.drew.cell? (ad.add i) = some (.int .u64 v) := pw_cell_below (below_drew (Below.refl _ _)) hx
        clear hv
        go_upto_region 14 with (fail)
        refine start_ (n := 9) (S := fun w' => w'.cell? (ad.add i) = some (.int .u64 v)) (ds := [8]) #[false, false, false, false, false, false, false, false, false] (by kernel_rfl) rfl rfl (zx) (fun hHeld => ?_)
        refine pure_ (i := 0) (N := some 73) (v := ?_) (a' := ?_) #[true, false, false, false, false, false, false, false, false] rfl rfl (by kernel_rfl) (fun _ _ _ h => h) (Or.inl ⟨by rfl, ?_⟩) ?_ ?_
        rotate_left
        · intro w'
          go_simp
          with_reducible rfl
        rotate_left
        · simp only [Act.put, List.setIfInBounds_toArray, List.set_cons_zero, List.set_cons_succ, i64_w, i32_w]
          rfl
        refine pure_ (i := 1) (N := some 74) (v := ?_) (a' := ?_) #[true, true, false, false, false, false, false, false, false] rfl rfl (by kernel_rfl) (fun _ _ _ h => h) (Or.inl ⟨by rfl, ?_⟩) ?_ ?_
        rotate_left
        · intro w'
          go_simp
          with_reducible rfl
        rotate_left
        · simp only [Act.put, List.setIfInBounds_toArray, List.set_cons_zero, List.set_cons_succ, i64_w, i32_w]
          rfl
        refine pure_ (i := 2) (N := some 75) (v := ?_) (a' := ?_) #[true, true, true, false, false, false, false, false, false] rfl rfl (by kernel_rfl) (fun _ _ _ h => h) (Or.inl ⟨by rfl, ?_⟩) ?_ ?_
        rotate_left
        · intro w'
          go_simp
          with_reducible rfl
        rotate_left
        · simp only [Act.put, List.setIfInBounds_toArray, List.set_cons_zero, List.set_cons_succ, i64_w, i32_w]
          rfl
        refine pure_ (i := 3) (N := some 76) (v := ?_) (a' := ?_) #[true, true, true, true, false, false, false, false, false] rfl rfl (by kernel_rfl) (fun _ _ _ h => h) (Or.inl ⟨by rfl, ?_⟩) ?_ ?_
        rotate_left
        · intro w'
          go_simp
          with_reducible rfl
        rotate_left
        · simp only [Act.put, List.setIfInBounds_toArray, List.set_cons_zero, List.set_cons_succ, i64_w, i32_w]
          rfl
        refine pure_ (i := 5) (N := some 78) (v := ?_) (a' := ?_) #[true, true, true, true, false, true, false, false, false] rfl rfl (by kernel_rfl) (fun _ _ _ h => h) (Or.inl ⟨by rfl, ?_⟩) ?_ ?_
        rotate_left
        · intro w'
          go_simp
          with_reducible rfl
        rotate_left
        · simp only [Act.put, List.setIfInBounds_toArray, List.set_cons_zero, List.set_cons_succ, i64_w, i32_w]
          rfl
        refine take_ (i := 4) (N := some 77) (v := ?_) (a' := ?_) #[true, true, true, true, true, true, false, false, false] rfl rfl (by kernel_rfl) (fun _ _ _ h => h) (Or.inl ⟨by rfl, ?_⟩) hHeld ?_ ?_
        rotate_left
        · intro w' s0
          go_simp
          with_reducible rfl
        rotate_left
        · simp only [Act.put, List.setIfInBounds_toArray, List.set_cons_zero, List.set_cons_succ, i64_w, i32_w]
          rfl
        refine one_ (i := 6) (N := some 79) #[true, true, true, true, true, true, true, false, false] rfl rfl (by kernel_rfl) (by decide) (fun K hK => ?_)
        refine goes_ Try.func15 (by kernel_rfl) rfl #[.pointer (some ⟨b, 0, none⟩)] (by rfl) rfl rfl (by simp only [List.map_toArray, List.map_cons, List.map_nil]; rfl) ?_
        with_reducible refine (HLd.out.X.entities).mono ?_
        rintro e w50 ⟨rfl, rfl⟩
        refine ⟨_, rfl, ?_⟩
        refine hK.out _ _ (zx) (fun hHeld => ?_)
        clear hK K
        refine norm_ (a' := ?_) ?_ ?_
        rotate_left
        · show Act.put _ (some 79) _ = _
          simp only [Act.put, List.setIfInBounds_toArray, List.set_cons_zero, List.set_cons_succ, i64_w, i32_w]
          rfl
        refine one_ (i := 7) (N := some 80) #[true, true, true, true, true, true, true, true, false] rfl rfl (by kernel_rfl) (by decide) (fun K hK => ?_)
        refine goes_ Try.func16 (by kernel_rfl) rfl #[.int .u64 v, .int .i64 (s.es.length : Int)] (by rfl) rfl rfl (by simp only [List.map_toArray, List.map_cons, List.map_nil]; rfl) ?_
        with_reducible refine (HLd.out.list v s.es.length rfl).mono ?_
        rintro e w51 ⟨A4, c4, rfl, hrl, hl4, hb4⟩
        refine ⟨_, rfl, ?_⟩
        have HRL := Aside0.mk hrl
        have HL4 := Aside0.mk hl4
        have HA4 := Aside0.mk (HAd.out.below hb4)
        have zx4 := pw_cell_below hb4 zx
        clear hrl hl4 hb4
        refine hK.out _ _ (zx4) (fun hHeld => ?_)
        clear hK K
        refine norm_ (a' := ?_) ?_ ?_
        rotate_left
        · show Act.put _ (some 80) _ = _
          simp only [Act.put, List.setIfInBounds_toArray, List.set_cons_zero, List.set_cons_succ, i64_w, i32_w]
          rfl
        refine last_ (i := 8) (N := some 81) #[true, true, true, true, true, true, true, true, true] rfl rfl (by kernel_rfl) (by decide) (fun K hK => ?_)
        refine goes_ Try.func18 (by kernel_rfl) rfl #[.pointer (some ⟨b, 0, none⟩), .slice A4 (bitsL v s.es.length).length c4] (by rfl) rfl rfl (by simp only [List.map_toArray, List.map_cons, List.map_nil]; rfl) ?_
        with_reducible refine (HL4.out.tick HNW.out HRL.out).mono ?_
        rintro e w52 ⟨rfl, own5, hl5, ht5⟩
        refine ⟨_, rfl, ?_⟩
        have HL5 := Aside0.mk hl5
        have HA5 := Aside0.mk (HA4.out.then_ ht5)
        clear hl5 ht5
        refine hK.out _ _ ?_
        clear hK K
        refine norm_ (a' := ?_) ?_ ?_
        rotate_left
        · show Act.put _ (some 81) _ = _
          simp only [Act.put, List.setIfInBounds_toArray, List.set_cons_zero, List.set_cons_succ, i64_w, i32_w]
          rfl
        refine done_ (by kernel_rfl) ?_
        have HF5 := Aside0.mk (show BP m S P a x q ww fw a3 ys ls n0 (tickF s (bitsL v s.es.length)) (if y + 1 = P then p + 1 else p) (if y + 1 = P then 0 else y + 1) ∧ (tickF s (bitsL v s.es.length)).now = ((i + 1 : Nat) : Int) from ⟨HF1.out.1.tick HL1.out.X hww1.1 HNW.out _, by
          have h2 := HF1.out.2
          rw [(tickF_tf (bitsL v s.es.length) HL1.out.X.wf (by omega) HL1.out.X.cntC HL1.out.X.cntR).now, h2]; rfl⟩)
        clear hx zx HLd HAd HL4 HA4 HRL HNW zx4 HF1 HL1 HA1
        go_wp2
        go_roundw
        case rel => exact ⟨i + 1, _, _, own5, _, by go_num, by omega, HL5, HA5, HF5⟩
        case measure => simp [intOf]; omega
      · have hnow : s.now = (l2.length : Int) := by rw [HF1.out.2]; omega
        have HNOW := Aside0.mk hnow
        have k4 : wr.cell? ⟨gb, 4, none⟩ = some (.slice (some adg) ys.length cg) := HL1.out.C.b.cell rfl
        obtain ⟨adg2, e7, _, kw, _⟩ := PV.at_T29 (Kd.R_reads' HL1.out.C.r).2.2 (g : Int) (by omega) (by omega)
        cases e7
        rw [← HFW.out, Int.toNat_natCast] at kw
        clear hnow
        go_upto_region 17 with (fail)
        have DW := (below_drew (Below.refl wr.heap.size wr))
        have HL2 := Aside0.mk (HL1.out.below DW)
        have HA2 := Aside0.mk (HA1.out.below DW)
        have e1 := pw_cell_below DW (show wr.cell? ⟨gb, 2, none⟩ = some (.int .i64 P) from HL1.out.C.b.cell rfl)
        have e2 := pw_cell_below DW (show wr.cell? ⟨gb, 1, none⟩ = some (.int .i64 S) from HL1.out.C.b.cell rfl)
        have k3 := pw_cell_below DW (show wr.cell? ⟨gb, 3, none⟩ = some (.bool a3) from HL1.out.C.b.cell rfl)
        have hqz : ¬ q = 0 := by omega
        have hqfz : ¬ q * fw = 0 := by omega
        have b1 : -9223372036854775808 ≤ (ls.length : Int) * S ∧ (ls.length : Int) * S ≤ 9223372036854775807 := by omega
        have b2 : 0 ≤ (ls.length : Int) * S ∧ (ls.length : Int) * S ≤ 9223372036854775807 ∧ 1 ≤ q := by omega
        have b3 : -9223372036854775808 ≤ 2 + BB ∧ 2 + BB ≤ 9223372036854775807 := by omega
        have b4 : -9223372036854775808 ≤ P * (2 + BB) ∧ P * (2 + BB) ≤ 9223372036854775807 := by omega
        have b5 : -9223372036854775808 ≤ (q + 128 + 2) * ww ∧ (q + 128 + 2) * ww ≤ 9223372036854775807 := by omega
        have b6 : -9223372036854775808 ≤ q * fw ∧ q * fw ≤ 9223372036854775807 := by omega
        have b7 : 0 ≤ (q + 128 + 2) * ww ∧ (q + 128 + 2) * ww ≤ 9223372036854775807 ∧ 1 ≤ q * fw := by omega
        have b8 : -9223372036854775808 ≤ P * (4 + AA + BB) ∧ P * (4 + AA + BB) ≤ 9223372036854775807 := by omega
        have b9 : -9223372036854775808 ≤ q + 128 ∧ q + 128 ≤ 9223372036854775807 := by omega
        have b10 : -9223372036854775808 ≤ q + 128 + 2 ∧ q + 128 + 2 ≤ 9223372036854775807 := by omega
        have b11 : -9223372036854775808 ≤ 4 + AA ∧ 4 + AA ≤ 9223372036854775807 := by omega
        have b12 : -9223372036854775808 ≤ 4 + AA + BB ∧ 4 + AA + BB ≤ 9223372036854775807 := by omega
        have b13 : -9223372036854775808 ≤ AA ∧ AA ≤ 9223372036854775807 := by omega
        have HK1 := Aside0.mk (wrap64_id b9.1 b9.2)
        have HK2 := Aside0.mk (wrap64_id b10.1 b10.2)
        have HK3 := Aside0.mk (wrap64_id b11.1 b11.2)
        have HK4 := Aside0.mk (wrap64_id b12.1 b12.2)
        have HK5 := Aside0.mk (wrap64_id b3.1 b3.2)
        have HK6 := Aside0.mk (show wrap64 (((q + 128 + 2) * ww).tdiv (q * fw)) = AA by
          have e : ((q + 128 + 2) * ww).tdiv (q * fw) = AA := by rw [Int.tdiv_eq_ediv_of_nonneg b7.1, HAA.out]
          rw [e]; exact wrap64_id b13.1 b13.2)
        clear b9 b10 b11 b12 b13
        have c1 : IntKind.i64.wrap ((ls.length : Int) * S) = (ls.length : Int) * S := IntWalk.i64_in _ b1
        have c2 : IntKind.i64.wrap (((ls.length : Int) * S).tdiv q) = BB := by rw [IntWalk.i64_quo _ _ b2, HBB.out]
        have c4 : IntKind.i64.wrap (P * (2 + BB)) = P * (2 + BB) := IntWalk.i64_in _ b4
        have c5 : IntKind.i64.wrap ((q + 128 + 2) * ww) = (q + 128 + 2) * ww := IntWalk.i64_in _ b5
        have c6 : IntKind.i64.wrap (q * fw) = q * fw := IntWalk.i64_in _ b6
        have c7 : IntKind.i64.wrap (((q + 128 + 2) * ww).tdiv (q * fw)) = AA := by rw [IntWalk.i64_quo _ _ b7, HAA.out]
        have c8 : IntKind.i64.wrap (P * (4 + AA + BB)) = P * (4 + AA + BB) := IntWalk.i64_in _ b8
        have k1 : wrap64 ((ls.length : Int) * S) = (ls.length : Int) * S := wrap64_id b1.1 b1.2
        have k2 : wrap64 (P * (2 + BB)) = P * (2 + BB) := wrap64_id b4.1 b4.2
        have k5 : wrap64 ((q + 128 + 2) * ww) = (q + 128 + 2) * ww := wrap64_id b5.1 b5.2
        have k6 : wrap64 (q * fw) = q * fw := wrap64_id b6.1 b6.2
        have k8 : wrap64 (P * (4 + AA + BB)) = P * (4 + AA + BB) := wrap64_id b8.1 b8.2
        clear DW b1 b2 b3 b4 b5 b6 b7 b8 hBB hAA HL1 HA1 kw k4
        refine start_ (n := 11) (S := fun w' => w'.cell? ⟨gb, 2, none⟩ = some (.int .i64 P) ∧ w'.cell? ⟨gb, 1, none⟩ = some (.int .i64 S)) (ds := []) #[false, false, false, false, false, false, false, false, false, false, false] (by kernel_rfl) rfl rfl ⟨e1, e2⟩ (fun hHeld => ?_)
        refine pure_ (i := 0) (N := some 90) (v := ?_) (a' := ?_) #[true, false, false, false, false, false, false, false, false, false, false] rfl rfl (by kernel_rfl) (fun _ _ _ h => h) (Or.inl ⟨by rfl, ?_⟩) ?_ ?_
        rotate_left
        · intro w'
          go_simp
          with_reducible rfl
        rotate_left
        · simp only [Act.put, List.setIfInBounds_toArray, List.set_cons_zero, List.set_cons_succ, i64_w, i32_w]
          rfl
        refine pure_ (i := 2) (N := some 92) (v := ?_) (a' := ?_) #[true, false, true, false, false, false, false, false, false, false, false] rfl rfl (by kernel_rfl) (fun _ _ _ h => h) (Or.inl ⟨by rfl, ?_⟩) ?_ ?_
        rotate_left
        · intro w'
          go_simp
          with_reducible rfl
        rotate_left
        · simp only [Act.put, List.setIfInBounds_toArray, List.set_cons_zero, List.set_cons_succ, i64_w, i32_w]
          rfl
        refine pure_ (i := 3) (N := some 93) (v := ?_) (a' := ?_) #[true, false, true, true, false, false, false, false, false, false, false] rfl rfl (by kernel_rfl) (fun _ _ _ h => h) (Or.inl ⟨by rfl, ?_⟩) ?_ ?_
        rotate_left
        · intro w'
          go_simp
          with_reducible rfl
        rotate_left
        · simp only [Act.put, List.setIfInBounds_toArray, List.set_cons_zero, List.set_cons_succ, i64_w, i32_w]
          rfl
        refine pure_ (i := 6) (N := some 96) (v := ?_) (a' := ?_) #[true, false, true, true, false, false, true, false, false, false, false] rfl rfl (by kernel_rfl) (fun _ _ _ h => h) (Or.inl ⟨by rfl, ?_⟩) ?_ ?_
        rotate_left
        · intro w'
          go_simp
          with_reducible rfl
        rotate_left
        · simp only [Act.put, List.setIfInBounds_toArray, List.set_cons_zero, List.set_cons_succ, i64_w, i32_w]
          rfl
        refine take_ (i := 1) (N := some 91) (v := ?_) (a' := ?_) #[true, true, true, true, false, false, true, false, false, false, false] rfl rfl (by kernel_rfl) (fun _ _ _ h => h) (Or.inl ⟨by rfl, ?_⟩) hHeld ?_ ?_
        rotate_left
        · rintro w' ⟨s0, s1⟩
          go_simp
          with_reducible rfl
        rotate_left
        · simp only [Act.put, List.setIfInBounds_toArray, List.set_cons_zero, List.set_cons_succ, i64_w, i32_w]
          rfl
        refine take_ (i := 4) (N := some 94) (v := ?_) (a' := ?_) #[true, true, true, true, true, false, true, false, false, false, false] rfl rfl (by kernel_rfl) (fun _ _ _ h => h) (Or.inl ⟨by rfl, ?_⟩) hHeld ?_ ?_
        rotate_left
        · rintro w' ⟨s0, s1⟩
          go_simp
          with_reducible rfl
        rotate_left
        · simp only [Act.put, List.setIfInBounds_toArray, List.set_cons_zero, List.set_cons_succ, i64_w, i32_w]
          rfl
        refine pure_ (i := 5) (N := some 95) (v := ?_) (a' := ?_) #[true, true, true, true, true, true, true, false, false, false, false] rfl rfl (by kernel_rfl) (fun _ _ _ h => h) (Or.inl ⟨by rfl, ?_⟩) ?_ ?_
        rotate_left
        · intro w'
          go_simp
          with_reducible rfl
        rotate_left
        · simp only [Act.put, List.setIfInBounds_toArray, List.set_cons_zero, List.set_cons_succ, i64_w, i32_w]
          rfl
        refine pure_ (i := 7) (N := some 97) (v := ?_) (a' := ?_) #[true, true, true, true, true, true, true, true, false, false, false] rfl rfl (by kernel_rfl) (fun _ _ _ h => h) (Or.inl ⟨by rfl, ?_⟩) ?_ ?_
        rotate_left
        · intro w'
          go_simp
          with_reducible rfl
        rotate_left
        · simp only [Act.put, List.setIfInBounds_toArray, List.set_cons_zero, List.set_cons_succ, i64_w, i32_w]
          rfl
        refine pure_ (i := 8) (N := some 98) (v := ?_) (a' := ?_) #[true, true, true, true, true, true, true, true, true, false, false] rfl rfl (by kernel_rfl) (fun _ _ _ h => h) (Or.inl ⟨by rfl, ?_⟩) ?_ ?_
        rotate_left
        · intro w'
          go_simp
          with_reducible rfl
        rotate_left
        · simp only [Act.put, List.setIfInBounds_toArray, List.set_cons_zero, List.set_cons_succ, i64_w, i32_w]
          rfl
        refine pure_ (i := 9) (N := some 99) (v := ?_) (a' := ?_) #[true, true, true, true, true, true, true, true, true, true, false] rfl rfl (by kernel_rfl) (fun _ _ _ h => h) (Or.inl ⟨by rfl, ?_⟩) ?_ ?_
        rotate_left
        · intro w'
          go_simp
          with_reducible rfl
        rotate_left
        · simp only [Act.put, List.setIfInBounds_toArray, List.set_cons_zero, List.set_cons_succ, i64_w, i32_w]
          rfl
        refine pure_ (i := 10) (N := some 20) (v := ?_) (a' := ?_) #[true, true, true, true, true, true, true, true, true, true, true] rfl rfl (by kernel_rfl) (fun _ _ _ h => h) (Or.inl ⟨by rfl, ?_⟩) ?_ ?_
        rotate_left
        · intro w'
          go_simp
          with_reducible rfl
        rotate_left
        · simp only [Act.put, List.setIfInBounds_toArray, List.set_cons_zero, List.set_cons_succ, i64_w, i32_w]
          rfl
        refine done_ (by kernel_rfl) ?_
        go_upto_if 101 with (fail)
        go_cut [20] (fun v20 wc => ∃ bd : Nat, v20 = .int .i64 (bd : Int) ∧ bd ≤ 1000000000 ∧ Aside0 ((a3 = true → (bd : Int) = P * (4 + AA + BB)) ∧ (a3 = false → (bd : Int) = P * (2 + BB))) ∧ Aside0 (LW W wc own1 b gb hN s (m : Int) S P a3 (some adg) cg ys) ∧ Aside0 (IL wc own1 Al cl ls))
        case first =>
          cases a3 with
          | true =>
            go_upto_region 19 with (fail)
            have DW := (below_drew (Below.refl wr.drew.heap.size wr.drew))
            have HL3 := Aside0.mk (HL2.out.below DW)
            have HA3 := Aside0.mk (HA2.out.below DW)
            have e3 := pw_cell_below DW e1
            have e4 := pw_cell_below DW e2
            clear DW
            refine start_ (n := 21) (S := fun w' => w'.cell? ⟨gb, 2, none⟩ = some (.int .i64 P) ∧ w'.cell? ⟨gb, 1, none⟩ = some (.int .i64 S)) (ds := []) #[false, false, false, false, false, false, false, false, false, false, false, false, false, false, false, false, false, false, false, false, false] (by kernel_rfl) rfl rfl ⟨e3, e4⟩ (fun hHeld => ?_)
            refine pure_ (i := 0) (N := some 102) (v := ?_) (a' := ?_) #[true, false, false, false, false, false, false, false, false, false, false, false, false, false, false, false, false, false, false, false, false] rfl rfl (by kernel_rfl) (fun _ _ _ h => h) (Or.inl ⟨by rfl, ?_⟩) ?_ ?_
            rotate_left
            · intro w'
              go_simp
              with_reducible rfl
            rotate_left
            · simp only [Act.put, List.setIfInBounds_toArray, List.set_cons_zero, List.set_cons_succ, i64_w, i32_w]
              rfl
            refine pure_ (i := 2) (N := some 104) (v := ?_) (a' := ?_) #[true, false, true, false, false, false, false, false, false, false, false, false, false, false, false, false, false, false, false, false, false] rfl rfl (by kernel_rfl) (fun _ _ _ h => h) (Or.inl ⟨by rfl, ?_⟩) ?_ ?_
            rotate_left
            · intro w'
              go_simp
              with_reducible rfl
            rotate_left
            · simp only [Act.put, List.setIfInBounds_toArray, List.set_cons_zero, List.set_cons_succ, i64_w, i32_w]
              rfl
            refine pure_ (i := 3) (N := some 105) (v := ?_) (a' := ?_) #[true, false, true, true, false, false, false, false, false, false, false, false, false, false, false, false, false, false, false, false, false] rfl rfl (by kernel_rfl) (fun _ _ _ h => h) (Or.inl ⟨by rfl, ?_⟩) ?_ ?_
            rotate_left
            · intro w'
              go_simp
              with_reducible rfl
            rotate_left
            · simp only [Act.put, List.setIfInBounds_toArray, List.set_cons_zero, List.set_cons_succ, i64_w, i32_w]
              rfl
            refine pure_ (i := 4) (N := some 106) (v := ?_) (a' := ?_) #[true, false, true, true, true, false, false, false, false, false, false, false, false, false, false, false, false, false, false, false, false] rfl rfl (by kernel_rfl) (fun _ _ _ h => h) (Or.inl ⟨by rfl, ?_⟩) ?_ ?_
            rotate_left
            · intro w'
              go_simp
              with_reducible rfl
            rotate_left
            · simp only [Act.put, List.setIfInBounds_toArray, List.set_cons_zero, List.set_cons_succ, i64_w, i32_w]
              rfl
            refine pure_ (i := 5) (N := some 107) (v := ?_) (a' := ?_) #[true, false, true, true, true, true, false, false, false, false, false, false, false, false, false, false, false, false, false, false, false] rfl rfl (by kernel_rfl) (fun _ _ _ h => h) (Or.inl ⟨by rfl, ?_⟩) ?_ ?_
            rotate_left
            · intro w'
              go_simp
              with_reducible rfl
            rotate_left
            · simp only [Act.put, List.setIfInBounds_toArray, List.set_cons_zero, List.set_cons_succ, i64_w, i32_w]
              rfl
            refine pure_ (i := 6) (N := some 108) (v := ?_) (a' := ?_) #[true, false, true, true, true, true, true, false, false, false, false, false, false, false, false, false, false, false, false, false, false] rfl rfl (by kernel_rfl) (fun _ _ _ h => h) (Or.inl ⟨by rfl, ?_⟩) ?_ ?_
            rotate_left
            · intro w'
              go_simp
              with_reducible rfl
            rotate_left
            · simp only [Act.put, List.setIfInBounds_toArray, List.set_cons_zero, List.set_cons_succ, i64_w, i32_w]
              rfl
            refine pure_ (i := 7) (N := some 109) (v := ?_) (a' := ?_) #[true, false, true, true, true, true, true, true, false, false, false, false, false, false, false, false, false, false, false, false, false] rfl rfl (by kernel_rfl) (fun _ _ _ h => h) (Or.inl ⟨by rfl, ?_⟩) ?_ ?_
            rotate_left
            · intro w'
              go_simp
              with_reducible rfl
            rotate_left
            · simp only [Act.put, List.setIfInBounds_toArray, List.set_cons_zero, List.set_cons_succ, i64_w, i32_w]
              rfl
            refine pure_ (i := 8) (N := some 110) (v := ?_) (a' := ?_) #[true, false, true, true, true, true, true, true, true, false, false, false, false, false, false, false, false, false, false, false, false] rfl rfl (by kernel_rfl) (fun _ _ _ h => h) (Or.inl ⟨by rfl, ?_⟩) ?_ ?_
            rotate_left
            · intro w'
              go_simp
              with_reducible rfl
            rotate_left
            · simp only [Act.put, List.setIfInBounds_toArray, List.set_cons_zero, List.set_cons_succ, i64_w, i32_w]
              rfl
            refine pure_ (i := 9) (N := some 111) (v := ?_) (a' := ?_) #[true, false, true, true, true, true, true, true, true, true, false, false, false, false, false, false, false, false, false, false, false] rfl rfl (by kernel_rfl) (fun _ _ _ h => h) (Or.inl ⟨by rfl, ?_⟩) ?_ ?_
            rotate_left
            · intro w'
              go_simp
              with_reducible rfl
            rotate_left
            · simp only [Act.put, List.setIfInBounds_toArray, List.set_cons_zero, List.set_cons_succ, i64_w, i32_w]
              rfl
            refine pure_ (i := 10) (N := some 112) (v := ?_) (a' := ?_) #[true, false, true, true, true, true, true, true, true, true, true, false, false, false, false, false, false, false, false, false, false] rfl rfl (by kernel_rfl) (fun _ _ _ h => h) (Or.inl ⟨by rfl, ?_⟩) ?_ ?_
            rotate_left
            · intro w'
              go_simp
              with_reducible rfl
            rotate_left
            · simp only [Act.put, List.setIfInBounds_toArray, List.set_cons_zero, List.set_cons_succ, i64_w, i32_w]
              rfl
            refine pure_ (i := 11) (N := some 113) (v := ?_) (a' := ?_) #[true, false, true, true, true, true, true, true, true, true, true, true, false, false, false, false, false, false, false, false, false] rfl rfl (by kernel_rfl) (fun _ _ _ h => h) (Or.inl ⟨by rfl, ?_⟩) ?_ ?_
            rotate_left
            · intro w'
              go_simp
              with_reducible rfl
            rotate_left
            · simp only [Act.put, List.setIfInBounds_toArray, List.set_cons_zero, List.set_cons_succ, i64_w, i32_w]
              rfl
            refine pure_ (i := 12) (N := some 114) (v := ?_) (a' := ?_) #[true, false, true, true, true, true, true, true, true, true, true, true, true, false, false, false, false, false, false, false, false] rfl rfl (by kernel_rfl) (fun _ _ _ h => h) (Or.inl ⟨by rfl, ?_⟩) ?_ ?_
            rotate_left
            · intro w'
              go_simp
              with_reducible rfl
            rotate_left
            · simp only [Act.put, List.setIfInBounds_toArray, List.set_cons_zero, List.set_cons_succ, i64_w, i32_w]
              rfl
            refine pure_ (i := 13) (N := some 115) (v := ?_) (a' := ?_) #[true, false, true, true, true, true, true, true, true, true, true, true, true, true, false, false, false, false, false, false, false] rfl rfl (by kernel_rfl) (fun _ _ _ h => h) (Or.inl ⟨by rfl, ?_⟩) ?_ ?_
            rotate_left
            · intro w'
              go_simp
              with_reducible rfl
            rotate_left
            · simp only [Act.put, List.setIfInBounds_toArray, List.set_cons_zero, List.set_cons_succ, i64_w, i32_w]
              rfl
            refine pure_ (i := 16) (N := some 118) (v := ?_) (a' := ?_) #[true, false, true, true, true, true, true, true, true, true, true, true, true, true, false, false, true, false, false, false, false] rfl rfl (by kernel_rfl) (fun _ _ _ h => h) (Or.inl ⟨by rfl, ?_⟩) ?_ ?_
            rotate_left
            · intro w'
              go_simp
              with_reducible rfl
            rotate_left
            · simp only [Act.put, List.setIfInBounds_toArray, List.set_cons_zero, List.set_cons_succ, i64_w, i32_w]
              rfl
            refine take_ (i := 1) (N := some 103) (v := ?_) (a' := ?_) #[true, true, true, true, true, true, true, true, true, true, true, true, true, true, false, false, true, false, false, false, false] rfl rfl (by kernel_rfl) (fun _ _ _ h => h) (Or.inl ⟨by rfl, ?_⟩) hHeld ?_ ?_
            rotate_left
            · rintro w' ⟨s0, s1⟩
              go_simp
              with_reducible rfl
            rotate_left
            · simp only [Act.put, List.setIfInBounds_toArray, List.set_cons_zero, List.set_cons_succ, i64_w, i32_w]
              rfl
            refine take_ (i := 14) (N := some 116) (v := ?_) (a' := ?_) #[true, true, true, true, true, true, true, true, true, true, true, true, true, true, true, false, true, false, false, false, false] rfl rfl (by kernel_rfl) (fun _ _ _ h => h) (Or.inl ⟨by rfl, ?_⟩) hHeld ?_ ?_
            rotate_left
            · rintro w' ⟨s0, s1⟩
              go_simp
              with_reducible rfl
            rotate_left
            · simp only [Act.put, List.setIfInBounds_toArray, List.set_cons_zero, List.set_cons_succ, i64_w, i32_w]
              rfl
            refine pure_ (i := 15) (N := some 117) (v := ?_) (a' := ?_) #[true, true, true, true, true, true, true, true, true, true, true, true, true, true, true, true, true, false, false, false, false] rfl rfl (by kernel_rfl) (fun _ _ _ h => h) (Or.inl ⟨by rfl, ?_⟩) ?_ ?_
            rotate_left
            · intro w'
              go_simp
              with_reducible rfl
            rotate_left
            · simp only [Act.put, List.setIfInBounds_toArray, List.set_cons_zero, List.set_cons_succ, i64_w, i32_w]
              rfl
            refine pure_ (i := 17) (N := some 119) (v := ?_) (a' := ?_) #[true, true, true, true, true, true, true, true, true, true, true, true, true, true, true, true, true, true, false, false, false] rfl rfl (by kernel_rfl) (fun _ _ _ h => h) (Or.inl ⟨by rfl, ?_⟩) ?_ ?_
            rotate_left
            · intro w'
              go_simp
              with_reducible rfl
            rotate_left
            · simp only [Act.put, List.setIfInBounds_toArray, List.set_cons_zero, List.set_cons_succ, i64_w, i32_w]
              rfl
            refine pure_ (i := 18) (N := some 120) (v := ?_) (a' := ?_) #[true, true, true, true, true, true, true, true, true, true, true, true, true, true, true, true, true, true, true, false, false] rfl rfl (by kernel_rfl) (fun _ _ _ h => h) (Or.inl ⟨by rfl, ?_⟩) ?_ ?_
            rotate_left
            · intro w'
              go_simp
              with_reducible rfl
            rotate_left
            · simp only [Act.put, List.setIfInBounds_toArray, List.set_cons_zero, List.set_cons_succ, i64_w, i32_w]
              rfl
            refine pure_ (i := 19) (N := some 121) (v := ?_) (a' := ?_) #[true, true, true, true, true, true, true, true, true, true, true, true, true, true, true, true, true, true, true, true, false] rfl rfl (by kernel_rfl) (fun _ _ _ h => h) (Or.inl ⟨by rfl, ?_⟩) ?_ ?_
            rotate_left
            · intro w'
              go_simp
              with_reducible rfl
            rotate_left
            · simp only [Act.put, List.setIfInBounds_toArray, List.set_cons_zero, List.set_cons_succ, i64_w, i32_w]
              rfl
            refine pure_ (i := 20) (N := some 20) (v := ?_) (a' := ?_) #[true, true, true, true, true, true, true, true, true, true, true, true, true, true, true, true, true, true, true, true, true] rfl rfl (by kernel_rfl) (fun _ _ _ h => h) (Or.inl ⟨by rfl, ?_⟩) ?_ ?_
            rotate_left
            · intro w'
              go_simp
              with_reducible rfl
            rotate_left
            · simp only [Act.put, List.setIfInBounds_toArray, List.set_cons_zero, List.set_cons_succ, i64_w, i32_w]
              rfl
            refine done_ (by kernel_rfl) ?_
            go_wp2
            go_meet
            case rel => exact ⟨(P * (4 + AA + BB)).toNat, by rw [Int.toNat_of_nonneg hP4.1, HK1.out, HK2.out, k5, HK6.out, HK3.out, HK4.out, k8], by omega, ⟨fun _ => by rw [Int.toNat_of_nonneg hP4.1], fun h => by cases h⟩, HL3, HA3⟩
          | false =>
            go_wp2
            go_meet
            case rel => exact ⟨(P * (2 + BB)).toNat, by rw [Int.toNat_of_nonneg hP2.1, HK5.out, k2], by omega, ⟨(fun h => by cases h), fun _ => by rw [Int.toNat_of_nonneg hP2.1]⟩, HL2, HA2⟩
        case rest =>
          clear HL2 HA2 e1 e2 k3 c1 c2 c4 c5 c6 c7 c8 k1 k2 k5 k6 k8 hqz hqfz
          obtain ⟨bd, rfl, hbd, HBD, HL3, HA3⟩ := hcut
          have hxs : x < s.es.length := by rw [HF1.out.1.e]; exact HXN.out
          have hmem : (x : Int) ∈ plainL s (a : Int) := by rw [HF1.out.1.l]; exact HMEM.out
          obtain ⟨px, hbi⟩ := BI.start (A := AA) HF1.out.1.z HL3.out.X.wf hmem hww1.1 hA0.1
          have hshl := HF1.out.1.z.sh_le HL3.out.X.wf
          have hsw := HL3.out.X.wf.sw
          rw [HF1.out.1.n.S, HF1.out.1.l, HF1.out.1.wt] at hbi
          have hrn := HL3.out.X.cntR x hxs
          have hnow2 := HNOW.out
          obtain ⟨sh0, hsh0⟩ : ∃ sh0, sh0 = s.sh := ⟨_, rfl⟩
          obtain ⟨was, hwas⟩ : ∃ was, was = (s.ent x).rn := ⟨_, rfl⟩
          rw [← hsh0] at hbi hshl hsw
          rw [← hwas] at hbi hrn
          have hwb : 0 ≤ was ∧ was ≤ 8388608 := by omega
          have HBI := Aside0.mk (show BI a x q ww P S ls.length fw was p AA px sh0 p y s ∧ P * p + y = P * p + y + ((0 : Nat) : Int) ∧ s.cr = a3 ∧ s.es.length = n0 ∧ s.now ≤ 1048576 + ((0 : Nat) : Int) from ⟨hbi, by simp, HF1.out.1.n.cr, HF1.out.1.e, by omega⟩)
          have HSH := Aside0.mk (And.intro hsw.1 hshl)
          have HRN := Aside0.mk (show Calls Try.prog 26 #[.pointer (some ⟨b, 0, none⟩), .int .i64 (x : Int)] wc fun x_1 w' => x_1 = .returned (.int .u64 was) ∧ wc = w' by have := HL3.out.ran hxs; rwa [← hwas] at this)
          have HYR := Aside0.mk HF1.out.1.z.yr
          have hyr := HF1.out.1.z.yr
          clear hbi hshl hsw hrn hnow2 hsh0 hwas HF1 hmem hxs
          go_upto_region 21 with (go_at_call 26; refine HRN.out.mono ?_; rintro e w53 ⟨rfl, rfl⟩)
          clear HRN
          go_wp2_with (fail)
          go_loopw [22] (fun v22 w' => ∃ (j : Nat) (p' y' : Int) (own' : Nat → Prop) (s' : SS), v22 = .int .i64 (j : Int) ∧ j ≤ bd ∧ Aside0 (LW W w' own' b gb hN s' (m : Int) S P a3 (some adg) cg ys) ∧ Aside0 (BI a x q ww P S ls.length fw was p AA px sh0 p' y' s' ∧ P * p' + y' = P * p + y + (j : Int) ∧ s'.cr = a3 ∧ s'.es.length = n0 ∧ s'.now ≤ 1048576 + (j : Int))) (fun v22 _ => 1000000000 - (intOf v22).toNat)
          case atStart => exact ⟨0, p, y, own1, s, rfl, Nat.zero_le _, HL3, HBI⟩
          case round =>
            obtain ⟨j, p2, y2, own2, s2, rfl, hjb, HL6, HB6⟩ := hrel
            clear HL3 HA3 HBI
            by_cases hlt2 : j < bd
            · go_upto_if 132 with (fail)
              go_cut [23] (fun v23 wc => ∃ v, v23 = .int .u64 v ∧ Aside0 (LW W wc own2 b gb hN s2 (m : Int) S P a3 (some adg) cg ys))
              case first =>
                by_cases h9 : l9.length = 0
                · have h9' : ¬ 0 < l9.length := by omega
                  go_wp2
                  go_meet
                  case rel => exact ⟨_, rfl, HL6⟩
                · have h9' : 0 < l9.length := by omega
                  have j1 : 0 ≤ (j : Int) % (l9.length : Int) := Int.emod_nonneg _ (by omega)
                  have j2 : (j : Int) % (l9.length : Int) < (l9.length : Int) := Int.emod_lt_of_pos _ (by omega)
                  obtain ⟨ad, e0, hx⟩ := Kd.at_int (Kd.C_below HSC.out HL6.out.B) ((j : Int) % (l9.length : Int)) j1 j2
                  subst e0
                  have hx' : wr.cell? (ad.add (j % l9.length)) = _ := hx
                  have j3 : j % l9.length < l9.length := Nat.mod_lt _ h9'
                  go_wp2
                  go_meet
                  case rel => exact ⟨_, rfl, HL6⟩
              case rest =>
                obtain ⟨v, rfl, HL7⟩ := hcut
                clear HL6
                go_upto_region 28 with (first | (go_at_call 15; refine HL7.out.X.entities.mono ?_; rintro e w35 ⟨rfl, rfl⟩) | (go_at_call 16; refine (HL7.out.lists v s2.es.length rfl).mono ?_; rintro e w36 ⟨A4, c4, rfl, hrl4, hl4, hb4, hne4⟩; have HR8 := Aside0.mk hrl4; have HL8 := Aside0.mk hl4; have HNE := Aside0.mk hne4; clear hrl4 hl4 hb4 hne4))
                obtain ⟨rd, hrd⟩ : ∃ rd, rd = bitsL v s2.es.length := ⟨_, rfl⟩
                rw [← hrd] at HR8 HNE ⊢
                have hrl : rd.length = n0 := by rw [hrd, bitsL_len]; exact HB6.out.2.2.2.1
                clear hrd
                have hxn := HXN.out
                obtain ⟨g4, hg4⟩ := HR8.out.at0 (by omega)
                subst hg4
                have hg4n := HNE.out g4 rfl
                have HGO := Aside0.mk (show ¬ own2 g4 ∧ hN ≤ g4 from ⟨HR8.out.r.1 g4 rfl, by have := HL7.out.z; omega⟩)
                obtain ⟨⟨ov, kc⟩, kf⟩ := HR8.out.cell0 (k := x) (by omega)
                have HRL := Aside0.mk hrl
                rw [hrl]
                clear hg4n HNE hrl
                go_upto_region 29 with (fail)
                have HL9 := Aside0.mk (HL8.out.put HGO.out.1 HGO.out.2 x (.bool true))
                have HR9 := Aside0.mk (HR8.out.put1 x true)
                clear kc kf
                obtain ⟨w9, hw9⟩ : ∃ w9, w9 = w36.setCell ⟨g4, x, none⟩ (.bool true) := ⟨_, rfl⟩
                rw [← hw9] at HL9 HR9 ⊢
                clear hw9
                obtain ⟨rd1, hrd1⟩ : ∃ rd1, rd1 = rd.set x true := ⟨_, rfl⟩
                have hr1l : rd1.length = n0 := by rw [hrd1, List.length_set]; exact HRL.out
                have hr1x : rd1.getD x false = true := by
                  rw [hrd1, List.getD_eq_getElem?_getD, List.getElem?_set, if_pos rfl, if_pos (by rw [HRL.out]; exact hxn)]; rfl
                rw [← hrd1] at HR9
                have hrdy : readyF s2 rd1 (x : Int) = true := by
                  unfold readyF
                  rw [Int.toNat_natCast, hr1x, HB6.out.1.z.gn, decide_eq_true (by omega : (x : Int) < (rd1.length : Int))]; rfl
                have hnow3 := HB6.out.2.2.2.2
                have htick := HB6.out.1.tick HL9.out.X.wf (by omega) HL9.out.X.cntC HL9.out.X.cntR hww1.1 hqw.1 (by rw [HAA.out, show q + 128 + 2 = q + 130 by omega]) rd1 hrdy
                have htf := tickF_tf rd1 HL9.out.X.wf (by omega) HL9.out.X.cntC HL9.out.X.cntR
                have HTK := Aside0.mk (show Calls Try.prog 18 #[.pointer (some ⟨b, 0, none⟩), .slice (some ⟨g4, 0, none⟩) n0 c4] w9 fun x_1 w' => x_1 = .returned (.tuple #[]) ∧ ∃ own', LW W w' own' b gb hN (tickF s2 rd1) (m : Int) S P a3 (some adg) cg ys ∧ Then w9 own2 w' own' by
                  have := HL9.out.tick (by omega) HR9.out
                  rwa [hr1l] at this)
                have hes3 : (tickF s2 rd1).es.length = n0 := by rw [htf.st.el]; exact HB6.out.2.2.2.1
                have HRS := Aside0.mk (show (P * (if y2 + 1 = P then p2 + 1 else p2) + (if y2 + 1 = P then 0 else y2 + 1) = P * p + y + ((j + 1 : Nat) : Int)) ∧ (tickF s2 rd1).cr = a3 ∧ (tickF s2 rd1).es.length = n0 ∧ (tickF s2 rd1).now ≤ 1048576 + ((j + 1 : Nat) : Int) from ⟨by
                  have h1 := HB6.out.2.1
                  by_cases c : y2 + 1 = P
                  · rw [if_pos c, if_pos c, Int.mul_add, Int.mul_one]; omega
                  · rw [if_neg c, if_neg c]; omega, htf.st.cr.trans HB6.out.2.2.1, hes3, by rw [htf.now]; omega⟩)
                obtain ⟨s3, hs3⟩ : ∃ s3, s3 = tickF s2 rd1 := ⟨_, rfl⟩
                rw [← hs3] at htick HTK HRS hes3
                have hxs3 : x < s3.es.length := by omega
                have HES3 := Aside0.mk hes3
                clear HB6 htf hrd1 hr1l hr1x hrdy hs3 hes3 hnow3 HR8 HL8 HL7
                rcases htick with hrun | hwait
                · have HRX := Aside0.mk hrun
                  have bgt : decide (was + 1 > was) = true := by simp; omega
                  clear hrun
                  go_wp2_with (first | (go_at_call 18; refine HTK.out.mono ?_; rintro e w37 ⟨rfl, own7, hl7, ht7⟩; have HL10 := Aside0.mk hl7; clear hl7 ht7) | (go_at_call 26; refine (show Calls Try.prog 26 _ _ _ from (by have h := HL10.out.ran hxs3; rw [HRX.out] at h; exact h)).mono ?_; rintro e w54 ⟨rfl, rfl⟩) | (go_at_call 19; refine (awake_calls _).mono ?_; rintro e w90 ⟨rfl, hb⟩; have HBE := Aside0.mk (below_step HL10.out.B hb); clear hb))
                  go_ret
                  exact ⟨rfl, HBE.out⟩
                · have HRX := Aside0.mk hwait.rn
                  have HBW := Aside0.mk (And.intro hwait HRS.out)
                  have bgt : decide (was > was) = false := by simp
                  clear hwait
                  go_wp2_with (first | (go_at_call 18; refine HTK.out.mono ?_; rintro e w37 ⟨rfl, own7, hl7, ht7⟩; have HL10 := Aside0.mk hl7; clear hl7 ht7) | (go_at_call 26; refine (show Calls Try.prog 26 _ _ _ from (by have h := HL10.out.ran hxs3; rw [HRX.out] at h; exact h)).mono ?_; rintro e w54 ⟨rfl, rfl⟩))
                  go_roundw
                  case rel => exact ⟨j + 1, _, _, own7, s3, by go_num, by omega, HL10, HBW⟩
                  case measure => simp [intOf]; omega
            · exfalso
              have hje : j = bd := by omega
              subst hje
              have h1 := HB6.out.2.1
              have hyr2 := HB6.out.1.z.yr
              have hyr3 := HYR.out
              cases a3 with
              | true =>
                have hbe := HBD.out.1 rfl
                have : p2 = p + (4 + AA + (ls.length : Int) * S / q) := by
                  rw [← HBB.out]
                  exact divmod_int hyr2 hyr3 (by rw [Int.mul_add P p]; omega)
                exact HB6.out.1.end_cr HL6.out.X.wf HB6.out.2.2.1 hww1.1 hqw.1 (by rw [HAA.out, show q + 128 + 2 = q + 130 by omega]) this
              | false =>
                have hbe := HBD.out.2 rfl
                have : p2 = p + (2 + (ls.length : Int) * S / q) := by
                  rw [← HBB.out]
                  exact divmod_int hyr2 hyr3 (by rw [Int.mul_add P p]; omega)
                exact HB6.out.1.end_pa HL6.out.X.wf HB6.out.2.2.1 HSH.out.1 HSH.out.2 this
end Go.Proofs.Ytdaadmjppikebaa.SC

/- What the readings of a law's arguments (a conf, a script, numbers) say of cells. -/
namespace Go.Proofs.Ytdaadmjppikebaa.SC
open Go.RowKit Go.Proofs.YtdaadmjppikebaaW.PrintWords Go.Proofs.Ytdaadmjppikebaa.Opn Go.WideShapes
open Go.Proofs.Ytdaadmjppikebaa.PV (S29 k29)
set_option linter.unusedVariables false
set_option maxRecDepth 100000

theorem list3 {α : Type} {l : List α} (h : l.length = 3) : ∃ a b c, l = [a, b, c] := by
  match l, h with
  | [a, b, c], _ => exact ⟨a, b, c, rfl⟩
theorem list5 {α : Type} {l : List α} (h : l.length = 5) : ∃ a b c d e, l = [a, b, c, d, e] := by
  match l, h with
  | [a, b, c, d, e], _ => exact ⟨a, b, c, d, e, rfl⟩
theorem cells3 : Try.prog.cellsOf 3 = 1 := by kernel_rfl
theorem cells4 : Try.prog.cellsOf 4 = 1 := by kernel_rfl
theorem cells23 : Try.prog.cellsOf 23 = 1 := by kernel_rfl
theorem cells25 : Try.prog.cellsOf 25 = 1 := by kernel_rfl
theorem cells27 : Try.prog.cellsOf 27 = 5 := by kernel_rfl
theorem cells29 : Try.prog.cellsOf 29 = 3 := by kernel_rfl
theorem fld {H : Type} {enc : TypeId × Value → H} {w : World} {n t off k : Nat} {cs : List Value} {y : DataW H × List MemPlace} (hc : Try.prog.cellsOf t = k) (h : DataW.trod enc Try.prog w 0 (fun _ => true) true n t ((cs.drop off).take (Try.prog.cellsOf t)) = some y) : DataW.trod enc Try.prog w 0 (fun _ => true) true n t ((cs.drop off).take k) = some y := by
  rw [hc] at h; exact h
def G29 (_ : Nat) (_ : S29) : Prop := True
theorem opens29 : Opens Try.prog 29 k29 G29 := by
  intro H enc w fuel cs x h
  obtain ⟨n, hl, hf⟩ := opens_fields Try.underlying29 h
  rw [cells29] at hl
  obtain ⟨c0, c1, c2, rfl⟩ := list3 hl
  obtain ⟨y0, h0, b0⟩ := hf 0 _ rfl
  obtain ⟨y1, h1, b1⟩ := hf 1 _ rfl
  obtain ⟨y2, h2, b2⟩ := hf 2 _ rfl
  have h0 : DataW.trod enc Try.prog w 0 (fun _ => true) true n 3 [c0] = some y0 := fld (t := 3) (off := 0) (cs := [c0, c1, c2]) cells3 h0
  have h1 : DataW.trod enc Try.prog w 0 (fun _ => true) true n 3 [c1] = some y1 := fld (t := 3) (off := 1) (cs := [c0, c1, c2]) cells3 h1
  have h2 : DataW.trod enc Try.prog w 0 (fun _ => true) true n 4 [c2] = some y2 := fld (t := 4) (off := 2) (cs := [c0, c1, c2]) cells4 h2
  obtain ⟨a0, k0, _⟩ := opens_int Try.underlying3 enc w n _ _ h0
  obtain ⟨a1, k1, _⟩ := opens_int Try.underlying3 enc w n _ _ h1
  obtain ⟨a2, k2, _⟩ := opens_bool Try.underlying4 enc w n _ _ h2
  obtain rfl : c0 = .int .i64 a0 := by simpa using (show [c0] = [Value.int .i64 a0] from k0)
  obtain rfl : c1 = .int .i64 a1 := by simpa using (show [c1] = [Value.int .i64 a1] from k1)
  obtain rfl : c2 = .bool a2 := by simpa using (show [c2] = [Value.bool a2] from k2)
  exact ⟨⟨a0, a1, a2⟩, PV.k29_mk w ⟨a0, a1, a2⟩, trivial⟩
/-- A conf that was read. -/
theorem open_C {H : Type} {enc : TypeId × Value → H} {w : World} {v : Value} {d : DataW H} {p : List MemPlace} {r : Reach} {base : Nat} (hv : Value.okWide Try.prog w r base 27 v) (h : DataW.Trod enc Try.prog w 0 (fun _ => true) true 27 v d p) :
    ∃ (a0 a1 a2 : Int) (a3 : Bool) (A : Option Addr) (c : Nat) (l : List S29), v = .agg #[.int .i64 a0, .int .i64 a1, .int .i64 a2, .bool a3, .slice A l.length c] ∧ Kd.C k29 w A l.length l ∧ l.length ≤ c ∧ l.length ≤ Rows.uptoBulk d := by
  obtain ⟨cs, rfl, hsz⟩ := okWide_struct Try.underlying27 hv
  obtain ⟨fuel, h⟩ := h
  have h' : DataW.trod enc Try.prog w 0 (fun _ => true) true fuel 27 cs.toList = some (d, p) := h
  obtain ⟨n, hl, hf⟩ := opens_fields Try.underlying27 h'
  rw [cells27] at hl
  obtain ⟨c0, c1, c2, c3, c4, hcs⟩ := list5 hl
  obtain rfl : cs = #[c0, c1, c2, c3, c4] := by cases cs; simpa using hcs
  obtain ⟨y0, h0, b0⟩ := hf 0 _ rfl
  obtain ⟨y1, h1, b1⟩ := hf 1 _ rfl
  obtain ⟨y2, h2, b2⟩ := hf 2 _ rfl
  obtain ⟨y3, h3, b3⟩ := hf 3 _ rfl
  obtain ⟨y4, h4, b4⟩ := hf 4 _ rfl
  have h0 : DataW.trod enc Try.prog w 0 (fun _ => true) true n 3 [c0] = some y0 := fld (t := 3) (off := 0) (cs := [c0, c1, c2, c3, c4]) cells3 h0
  have h1 : DataW.trod enc Try.prog w 0 (fun _ => true) true n 3 [c1] = some y1 := fld (t := 3) (off := 1) (cs := [c0, c1, c2, c3, c4]) cells3 h1
  have h2 : DataW.trod enc Try.prog w 0 (fun _ => true) true n 3 [c2] = some y2 := fld (t := 3) (off := 2) (cs := [c0, c1, c2, c3, c4]) cells3 h2
  have h3 : DataW.trod enc Try.prog w 0 (fun _ => true) true n 4 [c3] = some y3 := fld (t := 4) (off := 3) (cs := [c0, c1, c2, c3, c4]) cells4 h3
  have h4 : DataW.trod enc Try.prog w 0 (fun _ => true) true n 25 [c4] = some y4 := fld (t := 25) (off := 4) (cs := [c0, c1, c2, c3, c4]) cells25 h4
  obtain ⟨a0, k0, _⟩ := opens_int Try.underlying3 enc w n _ _ h0
  obtain ⟨a1, k1, _⟩ := opens_int Try.underlying3 enc w n _ _ h1
  obtain ⟨a2, k2, _⟩ := opens_int Try.underlying3 enc w n _ _ h2
  obtain ⟨a3, k3, _⟩ := opens_bool Try.underlying4 enc w n _ _ h3
  obtain ⟨A4, x4, l4, e4, q4, C4, g4⟩ := opens_row (d := k29) (G := G29) Try.underlying25 opens29 cells29 h4
  obtain rfl : c0 = .int .i64 a0 := by simpa using (show [c0] = [Value.int .i64 a0] from k0)
  obtain rfl : c1 = .int .i64 a1 := by simpa using (show [c1] = [Value.int .i64 a1] from k1)
  obtain rfl : c2 = .int .i64 a2 := by simpa using (show [c2] = [Value.int .i64 a2] from k2)
  obtain rfl : c3 = .bool a3 := by simpa using (show [c3] = [Value.bool a3] from k3)
  obtain rfl : c4 = .slice A4 l4.length x4 := by simpa using e4
  have z4 := g4.1
  simp only at b4
  exact ⟨a0, a1, a2, a3, A4, x4, l4, rfl, C4, q4, by omega⟩
end Go.Proofs.Ytdaadmjppikebaa.SC

/- SchedBounds: whatever the arguments are that read as data, it gives true. -/
namespace Go.Proofs.Ytdaadmjppikebaa.SC
open Go.RowKit Go.Proofs.Ytdaadmjppikebaa.Opn Go.WideShapes Go.Proofs.YtdaadmjppikebaaW.PrintWords
set_option maxRecDepth 100000 in
theorem open_u64s' {H : Type} {enc : TypeId × Value → H} {w : World} {v : Value} {d : DataW H} {p : List MemPlace} {r : Reach} {base : Nat} (hv : Value.okWide Try.prog w r base 57 v) (h : DataW.Trod enc Try.prog w 0 (fun _ => true) true 57 v d p) :
    ∃ (A : Option Addr) (c : Nat) (ls : List Int), v = .slice A ls.length c ∧ Kd.C (Kd.int .u64) w A ls.length ls ∧ ls.length ≤ c ∧ ls.length ≤ Rows.uptoBulk d := by
  obtain ⟨a, len, cap, rfl⟩ := okWide_slice Try.underlying57 hv
  obtain ⟨fuel, h⟩ := h
  obtain ⟨A, c, ls, e, l, C, g⟩ := opens_row Try.underlying57 (opens_int Try.underlying23) cells23 h
  have e' : Value.slice a len cap = .slice A ls.length c := by simpa [Value.cells] using e
  exact ⟨A, c, ls, e', C, l, by have := g.1; simp only at this; omega⟩
theorem bulk4b {H : Type} {d0 d1 d2 d3 : DataW H} (h : Rows.uptoBulkAll [d0, d1, d2, d3] ≤ 1048576) : Rows.uptoBulk d2 ≤ 1048576 ∧ Rows.uptoBulk d3 ≤ 1048576 := by
  simp only [Rows.uptoBulkAll] at h; omega
set_option maxRecDepth 100000 in
theorem schedBounds_core (H : Type) (enc : TypeId × Value → H) (W : World) (base : Nat) (v0 v1 v2 v3 : Value) (d0 d1 d2 d3 : DataW H) (p0 p1 p2 p3 : List MemPlace)
    (o0 : Value.okWide Try.prog W .any base 27 v0) (h0 : DataW.Trod enc Try.prog W 0 (fun _ => true) true 27 v0 d0 p0)
    (o1 : Value.okWide Try.prog W .any base 3 v1) (_ : DataW.Trod enc Try.prog W 0 (fun _ => true) true 3 v1 d1 p1)
    (o2 : Value.okWide Try.prog W .any base 57 v2) (h2 : DataW.Trod enc Try.prog W 0 (fun _ => true) true 57 v2 d2 p2)
    (o3 : Value.okWide Try.prog W .any base 57 v3) (h3 : DataW.Trod enc Try.prog W 0 (fun _ => true) true 57 v3 d3 p3) (hb : Rows.uptoBulkAll [d0, d1, d2, d3] ≤ 1048576) :
    Calls Try.prog 8 #[v0, v1, v2, v3] W fun e W' => e = .returned (.bool true) ∧ Below W.heap.size W W' := by
  obtain ⟨hb1, hb2⟩ := bulk4b hb
  obtain ⟨a0, a1, a2, a3, A, c, l, rfl, hC, hl, _⟩ := open_C o0 h0
  obtain ⟨n1, rfl⟩ := okWide_int Try.underlying3 o1
  obtain ⟨A2, c2, l2, rfl, hC2, hl2, hb3⟩ := open_u64s' o2 h2
  obtain ⟨A3, c3, l3, rfl, hC3, hl3, hb4⟩ := open_u64s' o3 h3
  exact bounds_calls hC hl hC2 hl2 (by omega) hC3 hl3 (by omega)
end Go.Proofs.Ytdaadmjppikebaa.SC
