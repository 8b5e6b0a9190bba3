/- Parts of the walk of package sched, merged. -/
/- SchedFair. -/
import Derived.Test.YtdaadmjppikebaaK17
import Derived.Test.YtdaadmjppikebaaK10
import Derived.Test.YtdaadmjppikebaaOpen
import Derived.WideShapes
namespace Go.Proofs.Ytdaadmjppikebaa.SC
open Go.RowKit Go.Proofs.YtdaadmjppikebaaW.PrintWords Go.Proofs.YtdaadmjppikebaaW.PrintLast
open Go.Proofs.Ytdaadmjppikebaa.PV (S94 k94 S29 k29 rd_T94 rd_T29)
set_option linter.unusedVariables false
set_option linter.unusedSimpArgs false

theorem mulb {x y A B : Int} (h1 : 0 ≤ x) (h2 : x ≤ A) (h3 : 0 ≤ y) (h4 : y ≤ B) : 0 ≤ x * y ∧ x * y ≤ A * B :=
  ⟨Int.mul_nonneg h1 h3, Int.le_trans (Int.mul_le_mul_of_nonneg_right h2 h3) (Int.mul_le_mul_of_nonneg_left h4 (Int.le_trans h1 h2))⟩
theorem divmod_one {n p x k : Nat} (hx : x < n) (h : n * p + x = n * k) : p = k ∧ x = 0 := by
  rcases Nat.lt_trichotomy p k with c | c | c
  · have := Nat.mul_le_mul_left n (show p + 1 ≤ k from c)
    rw [Nat.mul_succ] at this
    omega
  · subst c; exact ⟨rfl, by omega⟩
  · have := Nat.mul_le_mul_left n (show k + 1 ≤ p from c)
    rw [Nat.mul_succ] at this
    omega
/-- What holds while SchedFair ticks. -/
structure FP (m : Nat) (S : Int) (pn a : Nat) (q w : Int) (ys : List S29) (ls : List Int) (s : SS) (p x : Nat) : Prop where
  f : FI a q w (pn : Int) (p : Int) (x : Int) s
  n : NP m S (pn : Int) true ys s
  l : plainL s a = ls
  w1 : 1 ≤ ls.length → 1 ≤ w
  wt : ∀ i, i < s.es.length → (s.ent i).wt = (s.gst (s.ent i).gu.toNat).w
theorem FP.tick {W : World} {own : Nat → Prop} {b m : Nat} {S : Int} {pn a : Nat} {q w : Int} {ys : List S29} {ls : List Int} {s : SS} {p x : Nat} (hx : SB W own b s) (h : FP m S pn a q w ys ls s p x) (hi : s.now ≤ 1048576) (rd : List Bool) (hrd : ∀ e ∈ ls, e < (rd.length : Int) ∧ rd.getD e.toNat false = true) :
    FP m S pn a q w ys ls (tickF s rd) (if x + 1 = pn then p + 1 else p) (if x + 1 = pn then 0 else x + 1) := by
  have ht := tickF_tf rd hx.wf (by omega) hx.cntC hx.cntR
  have := h.f.tick hx.wf (by omega) hx.cntC hx.cntR (by rw [h.l]; exact h.w1) rd (by rw [h.l]; exact hrd)
  refine ⟨?_, h.n.st ht.st, by rw [ht.st.plain]; exact h.l, h.w1, fun i hi => by rw [(ht.st.en i).2.2, (ht.st.en i).1, ht.st.gst]; exact h.wt i (by rw [← ht.st.el]; exact hi)⟩
  by_cases c : x + 1 = pn
  · rw [if_pos c, if_pos c]
    rw [if_pos (by omega), if_pos (by omega)] at this
    exact this
  · rw [if_neg c, if_neg c]
    rw [if_neg (by omega), if_neg (by omega)] at this
    exact this
set_option maxRecDepth 100000 in
set_option maxHeartbeats 3200000 in
theorem fair_calls {W : World} {a0 a1 a2 : Int} {a3 : Bool} {A0 : Option Addr} {c0 : Nat} {l0 : List S29} {A9 : Option Addr} {c9 : Nat} {l9 : List Int} {hart periods : Int} (hC : Kd.C k29 W A0 l0.length l0) (hc : l0.length ≤ c0) (hS : Kd.C (Kd.int .u64) W A9 l9.length l9) (hs : l9.length ≤ c9) (hs2 : l9.length ≤ 1048576) :
    Calls Try.prog 7 #[.agg #[.int .i64 a0, .int .i64 a1, .int .i64 a2, .bool a3, .slice A0 l0.length c0], .int .i64 hart, .int .i64 periods, .slice A9 l9.length c9] W fun x w' => x = .returned (.bool true) ∧ Below W.heap.size W w' := by
  have HSC := Aside0.mk hS
  clear hS
  obtain ⟨m, S, P, ys, hrt, hm, hS, hP, hrg⟩ := right_plain a0 a1 a2 a3 l0
  have hok := hrg.ok hm hS hP
  have hcf := conf_f ys (by have := hrg.l6; omega) (m : Int) S P true
  have hrf := right_f (cr := true) hok
  obtain ⟨gl, hgl⟩ : ∃ gl, gl = confL ys := ⟨_, rfl⟩
  rw [← hgl] at hok hcf hrf
  have HGL := Aside0.mk hgl
  have HRG := Aside0.mk hrg
  have HOK := Aside0.mk hok
  have HCF := Aside0.mk hcf
  have HRF := Aside0.mk hrf
  have HRT := Aside0.mk hrt
  have HC0 := Aside0.mk hC
  have HL0 := Aside0.mk hc
  clear hok hcf hrf hgl hrg hrt hC hc
  go_enter Try.func7, Try.ntmps7
  go_upto_region 2 with (first | ((with_reducible refine gate_dst (N := 4) rfl ?_); (try (refine gate_guard (by rfl) ?_; dsimp only)); refine box_event ?hg (N := 4) ?hd (cs := #[.int .i64 a0, .int .i64 a1, .int .i64 a2, .bool a3, .slice A0 l0.length c0]) (t := 27) ?hr ?_; (case hd => rfl); (case hg => rfl); (case hr => first | (go_simp; done) | (go_simp; rfl)); intro gb hg w1 hbox hb; have z0 : w1.cell? ⟨gb, 0, none⟩ = some (.int .i64 a0) := (blk_cell hbox 0).trans rfl; have z1 : w1.cell? ⟨gb, 1, none⟩ = some (.int .i64 a1) := (blk_cell hbox 1).trans rfl; have z2 : w1.cell? ⟨gb, 2, none⟩ = some (.int .i64 a2) := (blk_cell hbox 2).trans rfl; have z3 : w1.cell? ⟨gb, 3, none⟩ = some (.bool a3) := (blk_cell hbox 3).trans rfl; have z4 : w1.cell? ⟨gb, 4, none⟩ = some (.slice A0 l0.length c0) := (blk_cell hbox 4).trans rfl; have HBX := Aside0.mk hbox; have HGB := Aside0.mk hg; have HB1 := Aside0.mk hb; clear hg hbox hb) | (go_at_call 20; with_reducible refine (PV.citadellaw18_right.calls 20 a0 a1 a2 a3 A0 c0 l0 (m : Int) S P a3 ys _ (Kd.C_below HC0.out HB1.out) HL0.out HRT.out).mono ?_; rintro e w2 ⟨v4, rfl, hs2, hb2⟩; obtain ⟨Ag, cg, e4⟩ := Kd.R_slice hs2; subst e4; have HR2 := Aside0.mk hs2; have HB2 := Aside0.mk hb2; have HBK := Aside0.mk ((blkbox HBX.out).below hb2); have y0 : w2.cell? ⟨gb, 0, none⟩ = some (.int .i64 a0) := HBK.out.cell rfl; have yf0 : w2.frozen? ⟨gb, 0, none⟩ = false := HBK.out.frozen _; have y1 : w2.cell? ⟨gb, 1, none⟩ = some (.int .i64 a1) := HBK.out.cell rfl; have yf1 : w2.frozen? ⟨gb, 1, none⟩ = false := HBK.out.frozen _; have y2 : w2.cell? ⟨gb, 2, none⟩ = some (.int .i64 a2) := HBK.out.cell rfl; have yf2 : w2.frozen? ⟨gb, 2, none⟩ = false := HBK.out.frozen _; have y3 : w2.cell? ⟨gb, 3, none⟩ = some (.bool a3) := HBK.out.cell rfl; have yf3 : w2.frozen? ⟨gb, 3, none⟩ = false := HBK.out.frozen _; have y4 : w2.cell? ⟨gb, 4, none⟩ = some (.slice A0 l0.length c0) := HBK.out.cell rfl; have yf4 : w2.frozen? ⟨gb, 4, none⟩ = false := HBK.out.frozen _; clear hs2 hb2))
  have HCC := Aside0.mk (CC.of (m := (m : Int)) (S := S) (P := P) (cr := a3) HBK.out (by rw [HGB.out]; exact Nat.le_refl _) (below_step HB1.out HB2.out) (Kd.R_lower HR2.out HB1.out.size) (fun k hk e => by have h1 := Kd.R_base HR2.out k hk; have h2 := (blkbox HBX.out).lt; rw [e] at h1; omega))
  obtain ⟨w3, hw3⟩ : ∃ w3, w3 = (((((w2.setCell ⟨gb, 0, none⟩ (.int .i64 (m : Int))).setCell ⟨gb, 1, none⟩ (.int .i64 S)).setCell ⟨gb, 2, none⟩ (.int .i64 P)).setCell ⟨gb, 3, none⟩ (.bool a3)).setCell ⟨gb, 4, none⟩ (.slice Ag ys.length cg)) := ⟨_, rfl⟩
  rw [← hw3] at HCC ⊢
  clear hw3 HBK HR2 HB2 HB1 HGB HBX z0 z1 z2 z3 z4 y0 y1 y2 y3 y4 yf0 yf1 yf2 yf3 yf4
  have d3 : w3.cell? ⟨gb, 3, none⟩ = some (.bool a3) := HCC.out.b.cell rfl
  have df3 : w3.frozen? ⟨gb, 3, none⟩ = false := HCC.out.b.frozen _
  go_upto_region 3 with (fail)
  replace HCC := Aside0.mk (HCC.out.credit true)
  obtain ⟨w4, hw4⟩ : ∃ w4, w4 = w3.setCell ⟨gb, 3, none⟩ (.bool true) := ⟨_, rfl⟩
  rw [← hw4] at HCC ⊢
  clear hw4 d3 df3
  have d0 : w4.cell? ⟨gb, 0, none⟩ = some (.int .i64 (m : Int)) := HCC.out.b.cell rfl
  have d1 : w4.cell? ⟨gb, 1, none⟩ = some (.int .i64 S) := HCC.out.b.cell rfl
  have d2 : w4.cell? ⟨gb, 2, none⟩ = some (.int .i64 P) := HCC.out.b.cell rfl
  have d3 : w4.cell? ⟨gb, 3, none⟩ = some (.bool true) := HCC.out.b.cell rfl
  have d4 : w4.cell? ⟨gb, 4, none⟩ = some (.slice Ag ys.length cg) := HCC.out.b.cell rfl
  go_upto_region 4 with (first | (go_at_call 14; with_reducible refine (PV.citadellaw18_C_Conf.calls (ys.length + 1) (m : Int) S P true _ _ ys (m : Int) S P true gl _ (Kd.R_reads' HCC.out.r).2.2 (Kd.R_reads' HCC.out.r).2.1 HCF.out).mono ?_; rintro e w21 ⟨v2, rfl, hs2, hb2⟩; obtain ⟨A2, c2, e2, hl2, hC2⟩ := Kd.S_reads hs2; subst e2; have HC2 := Aside0.mk hC2; have HL2 := Aside0.mk hl2; have HCB3 := Aside0.mk (HCC.out.below hb2); clear hs2 hl2 hC2 hb2) | (go_at_call 13; refine (new_sb (m := m) (k := 2 * gl.length + 2) rfl HRF.out HC2.out HL2.out HOK.out).mono ?_; rintro e w22 ⟨b, own, rfl, hsb, hown, hb3⟩; obtain ⟨s0, hs0⟩ : ∃ s0, s0 = newF m S P true gl := ⟨_, rfl⟩; rw [← hs0] at hsb; have HS0 := Aside0.mk hs0; have HLW := Aside0.mk (LW.of HCB3.out hb3 hsb hown); clear hsb hown hb3 hs0))
  clear d0 d1 d2 d3 d4 HCC HCB3 HC2 HL2 HCF HRF

  obtain ⟨pn, rfl⟩ : ∃ pn : Nat, P = (pn : Int) := ⟨P.toNat, by omega⟩
  have hnp := (by have := HOK.out; rw [HGL.out] at this; exact np_new (cr := true) this : NP m S (pn : Int) true ys (newF m S (pn : Int) true (confL ys)))
  obtain ⟨r1, hr1, h11, h12⟩ := mod_f hart (m : Int) (by omega) (by omega)
  obtain ⟨a, ha⟩ : ∃ a : Nat, r1 = (a : Int) := ⟨r1.toNat, by omega⟩
  subst ha
  have ham : a < m := by omega
  obtain ⟨r2, hr2, h21, h22⟩ := mod_f periods 12 (by decide) (by decide)
  obtain ⟨kp, hkp⟩ : ∃ kp : Nat, 1 + r2 = (kp : Int) := ⟨(1 + r2).toNat, by omega⟩
  have hkr : r2 = (kp : Int) - 1 := by omega
  subst hkr
  have hkp1 : 1 ≤ kp ∧ kp ≤ 12 := by omega
  have HM1 := Aside0.mk hr1
  have HM2 := Aside0.mk hr2
  rw [← HGL.out, ← HS0.out] at hnp
  have hfi := newF_fi HOK.out ham
  rw [← HS0.out] at hfi
  have hwt := newF_wt (cr := true) HOK.out
  rw [← HS0.out] at hwt
  have htk := hnp.ticks'
  have hwe := wSum_sumE hwt (a : Int)
  have hgs := HRG.out.g
  rw [htk, ← hwe] at hfi
  obtain ⟨q, hq⟩ : ∃ q, q = (pn : Int) - gS ys := ⟨_, rfl⟩
  have hq1 : 1 ≤ q ∧ q ≤ 40 := by omega
  obtain ⟨ls, hls⟩ : ∃ ls, ls = plainL s0 (a : Int) := ⟨_, rfl⟩
  obtain ⟨ww, hww⟩ : ∃ ww, ww = wSum s0 ls := ⟨_, rfl⟩
  have hwr := wSum_range HLW.out.X.wf ls (by rw [hls]; exact plainL_range)
  have hlr : ∀ e ∈ ls, 0 ≤ e ∧ e < (s0.es.length : Int) := by rw [hls]; exact plainL_range
  have hln : ls.length ≤ 64 := by rw [hls]; exact Nat.le_trans (plainTo_len s0 (a : Int) s0.es.length) HLW.out.X.wf.em
  have hwp : 1 ≤ ls.length → 1 ≤ ww := fun hl => by
    have h1 := sumE_le (F := fun _ => 1) (G := fun e => (s0.ent e.toNat).wt) ls (fun e he => by
      have := hlr e he
      exact (HLW.out.X.wf.ew e.toNat (by omega)).1)
    rw [sumE_const] at h1
    rw [hww, hls, hwe, ← hls]
    omega
  rw [← hls, ← hww, ← hq] at hfi
  have HI := Aside0.mk (show FP m S pn a q ww ys ls s0 0 0 from ⟨hfi, hnp, hls.symm, hwp, hwt⟩)
  have HLS := Aside0.mk hls
  have HWW := Aside0.mk hww
  have HQ := Aside0.mk hq
  rw [← hww] at hwr
  have HLR := Aside0.mk hlr
  have HEL0 := Aside0.mk (rfl : s0.es.length = s0.es.length)
  have HNP0 := Aside0.mk hnp
  obtain ⟨n0, hn0⟩ : ∃ n0, n0 = s0.es.length := ⟨_, rfl⟩
  rw [← hn0] at HLR
  have HN0 := Aside0.mk hn0
  clear hnp hfi hwt htk hwe hgs hq hls hww hlr hwp hr1 hr2 HS0 HOK HGL HRT HC0 HL0 hn0 h11 h12 h21 h22
  obtain ⟨hN, hhN⟩ : ∃ hN, hN = w21.heap.size := ⟨_, rfl⟩
  rw [← hhN] at HLW
  clear hhN
  have d0 : w22.cell? ⟨gb, 0, none⟩ = some (.int .i64 (m : Int)) := HLW.out.C.b.cell rfl
  go_upto_region 7 with (go_at_call 12; with_reducible refine (mod_calls hart (m : Int) (a : Int) _ HM1.out).mono ?_; rintro e w30 ⟨rfl, hb⟩; have HLW1 := Aside0.mk (HLW.out.below hb); clear hb)
  have d0 : w30.cell? ⟨gb, 0, none⟩ = some (.int .i64 (m : Int)) := HLW1.out.C.b.cell rfl
  have d1 : w30.cell? ⟨gb, 1, none⟩ = some (.int .i64 S) := HLW1.out.C.b.cell rfl
  have d2 : w30.cell? ⟨gb, 2, none⟩ = some (.int .i64 (pn : Int)) := HLW1.out.C.b.cell rfl
  have d3 : w30.cell? ⟨gb, 3, none⟩ = some (.bool true) := HLW1.out.C.b.cell rfl
  have d4 : w30.cell? ⟨gb, 4, none⟩ = some (.slice Ag ys.length cg) := HLW1.out.C.b.cell rfl
  go_upto_region 8 with (go_at_call 25; refine (home_fn HLW1.out.X HNP0.out (Kd.R_reads' HLW1.out.C.r).2.2 (a : Int)).mono ?_; rw [← HLS.out]; rintro e w31 ⟨vl, rfl, hrl, hb⟩; have HRL := Aside0.mk hrl; have HLW2 := Aside0.mk (HLW1.out.below hb); clear hrl hb)
  obtain ⟨Al, cl, el⟩ := Kd.R_slice HRL.out
  subst el
  have HIL := Aside0.mk (IL.of HLW1.out.X HRL.out)
  rw [← HWW.out]
  clear d0 d1 d2 d3 d4 HRL
  have d0 : w31.cell? ⟨gb, 0, none⟩ = some (.int .i64 (m : Int)) := HLW2.out.C.b.cell rfl
  have d1 : w31.cell? ⟨gb, 1, none⟩ = some (.int .i64 S) := HLW2.out.C.b.cell rfl
  have d2 : w31.cell? ⟨gb, 2, none⟩ = some (.int .i64 (pn : Int)) := HLW2.out.C.b.cell rfl
  have d3 : w31.cell? ⟨gb, 3, none⟩ = some (.bool true) := HLW2.out.C.b.cell rfl
  have d4 : w31.cell? ⟨gb, 4, none⟩ = some (.slice Ag ys.length cg) := HLW2.out.C.b.cell rfl
  go_upto_region 10 with (first | (go_at_call 28; refine (shared_calls (Kd.R_reads' HLW2.out.C.r).2.2 HRG.out hP).mono ?_; rw [← HQ.out]; rintro e w32 ⟨rfl, hb⟩; have HLW3 := Aside0.mk (HLW2.out.below hb); have HIL3 := Aside0.mk (HIL.out.below hb); clear hb) | (go_at_call 12; with_reducible refine (mod_calls periods 12 ((kp : Int) - 1) _ HM2.out).mono ?_; rintro e w33 ⟨rfl, hb⟩; have HLW4 := Aside0.mk (HLW3.out.below hb); have HIL4 := Aside0.mk (HIL3.out.below hb); clear hb))
  clear d0 d1 d2 d3 d4 HLW HLW1 HLW2 HIL HLS
  have HKE := Aside0.mk hkp
  have hkpn : 1 ≤ (kp : Int) * (pn : Int) ∧ (kp : Int) * (pn : Int) ≤ 480 := by
    have h1 : (kp : Int) * (pn : Int) ≤ 12 * (pn : Int) := Int.mul_le_mul_of_nonneg_right (by omega) (by omega)
    have h2 : 1 * (pn : Int) ≤ (kp : Int) * (pn : Int) := Int.mul_le_mul_of_nonneg_right (by omega) (by omega)
    omega
  clear hkp
  go_wp2_with (fail)
  go_loopw [16] (fun v16 w' => ∃ (i p x : Nat) (own : Nat → Prop) (s : SS), v16 = .int .i64 (i : Int) ∧ (i : Int) ≤ (kp : Int) * (pn : Int) ∧ Aside0 (i = pn * p + x ∧ s.es.length = n0) ∧ Aside0 (LW W w' own b gb hN s (m : Int) S (pn : Int) true Ag cg ys) ∧ Aside0 (IL w' own Al cl ls) ∧ Aside0 (FP m S pn a q ww ys ls s p x)) (fun v16 _ => 480 - (intOf v16).toNat)
  case atStart => exact ⟨0, 0, 0, own, s0, rfl, by omega, ⟨by simp, HN0.out.symm⟩, HLW4, HIL4, HI⟩
  case round =>
    obtain ⟨i, p, x, own1, s, rfl, hik, HPX, HL1, HA1, HF1⟩ := hrel
    clear HLW4 HIL4 HI
    have k2 : wr.cell? ⟨gb, 2, none⟩ = some (.int .i64 (pn : Int)) := HL1.out.C.b.cell rfl
    have ewk : IntKind.i64.wrap ((kp : Int) * (pn : Int)) = (kp : Int) * (pn : Int) := IntWalk.i64_in _ (by omega)
    by_cases hlt : (i : Int) < (kp : Int) * (pn : Int)
    · go_upto_if 65 with (fail)
      go_cut [17] (fun v17 wc => ∃ v, v17 = .int .u64 v ∧ Aside0 (LW W wc own1 b gb hN s (m : Int) S (pn : Int) true Ag cg ys) ∧ Aside0 (IL wc own1 Al cl ls))
      case first =>
        by_cases h9 : l9.length = 0
        · have h9' : ¬ 0 < l9.length := by omega
          go_wp2
          go_meet
          case rel => exact ⟨_, rfl, HL1, HA1⟩
        · have h9' : 0 < l9.length := by omega
          have j1 : 0 ≤ (i : Int) % (l9.length : Int) := Int.emod_nonneg _ (by omega)
          have j2 : (i : Int) % (l9.length : Int) < (l9.length : Int) := Int.emod_lt_of_pos _ (by omega)
          obtain ⟨ad, e0, hx⟩ := Kd.at_int (Kd.C_below HSC.out HL1.out.B) ((i : Int) % (l9.length : Int)) j1 j2
          subst e0
          have hx' : wr.cell? (ad.add (i % l9.length)) = _ := hx
          have j3 : i % l9.length < l9.length := Nat.mod_lt _ h9'
          go_wp2
          go_meet
          case rel => exact ⟨_, rfl, HL1, HA1⟩
      case rest =>
        obtain ⟨v, rfl, HL3, HA3⟩ := hcut
        clear HL1 HA1 k2 ewk
        go_upto_region 17 with (first | (go_at_call 15; refine HL3.out.X.entities.mono ?_; rintro e w35 ⟨rfl, rfl⟩) | (go_at_call 16; refine (HL3.out.lists v s.es.length rfl).mono ?_; rintro e w36 ⟨A4, c4, rfl, hrl4, hl4, hb4, hne4⟩; have HR4 := Aside0.mk hrl4; have HL4 := Aside0.mk hl4; have HA4 := Aside0.mk (HA3.out.below hb4); have HNE := Aside0.mk hne4; clear hrl4 hl4 hb4 hne4))
        obtain ⟨rd, hrd⟩ : ∃ rd, rd = bitsL v s.es.length := ⟨_, rfl⟩
        rw [← hrd] at HR4 HNE ⊢
        have hrl : rd.length = n0 := by rw [hrd, bitsL_len]; exact HPX.out.2
        clear hrd
        have hn1 : 1 ≤ n0 := by have h1 := HL4.out.X.wf.en; have h2 := HPX.out.2; omega
        obtain ⟨g4, hg4⟩ := HR4.out.at0 (by omega)
        subst hg4
        have hg4n := HNE.out g4 rfl
        have HGO := Aside0.mk (show ¬ own1 g4 ∧ hN ≤ g4 ∧ ∀ k, (Value.slice Al ls.length cl).ownBlock = some k → k ≠ g4 from ⟨HR4.out.r.1 g4 rfl, by have := HL3.out.z; omega, fun k hk e => by have := HA3.out.lt k hk; omega⟩)
        rw [hrl]
        have HPU := Aside0.mk (show PutL ls 0 n0 rd from ⟨hrl, fun j hj => by omega⟩)
        clear hg4n hrl HL3 HA3 HNE
        go_upto_block 2 with (fail)
        go_cut [19] (fun v19 wc => ∃ rd', Aside0 (LW W wc own1 b gb hN s (m : Int) S (pn : Int) true Ag cg ys) ∧ Aside0 (IL wc own1 Al cl ls) ∧ Aside0 (RL wc own1 (some ⟨g4, 0, none⟩) c4 rd') ∧ Aside0 (PutL ls ls.length n0 rd'))
        case first =>
          go_wp2_with (fail)
          go_loopw [19] (fun v19 w' => ∃ (k : Nat) (rd' : List Bool), v19 = .int .i64 (k : Int) ∧ k ≤ ls.length ∧ Aside0 (LW W w' own1 b gb hN s (m : Int) S (pn : Int) true Ag cg ys) ∧ Aside0 (IL w' own1 Al cl ls) ∧ Aside0 (RL w' own1 (some ⟨g4, 0, none⟩) c4 rd') ∧ Aside0 (PutL ls k n0 rd')) (fun v19 _ => ls.length - (intOf v19).toNat)
          case atStart => exact ⟨0, rd, rfl, Nat.zero_le _, HL4, HA4, HR4, HPU⟩
          case round =>
            obtain ⟨k, rd1, rfl, hk, HL5, HA5, HR5, HP5⟩ := hrel
            clear HL4 HA4 HR4 HPU
            by_cases hk2 : k < ls.length
            · obtain ⟨adl, e5, kl⟩ := HA5.out.cell hk2
              subst e5
              obtain ⟨h7, h8⟩ := HLR.out _ (rd_mem hk2)
              have hpp := fun h => HP5.out.put (k := k) h
              obtain ⟨ev, hev⟩ : ∃ ev : Nat, Go.Proofs.YtdaadmjppikebaaW.PrintWords.rd ls k = (ev : Int) := ⟨(Go.Proofs.YtdaadmjppikebaaW.PrintWords.rd ls k).toNat, by omega⟩
              rw [hev] at kl h7 h8 hpp
              rw [Int.toNat_natCast] at hpp
              have hevn : ev < n0 := by omega
              obtain ⟨⟨ov, kc⟩, kf⟩ := HR5.out.cell0 (k := ev) (by rw [HP5.out.l]; exact hevn)
              have HPP := Aside0.mk (hpp hevn)
              clear hpp hev h7 h8
              go_upto_region 19 with (fail)
              have HL6 := Aside0.mk (HL5.out.put HGO.out.1 HGO.out.2.1 ev (.bool true))
              have HA6 := Aside0.mk (HA5.out.put HGO.out.2.2 ev (.bool true))
              have HR6 := Aside0.mk (HR5.out.put1 ev true)
              clear kc kf kl
              go_wp2
              go_roundw
              case rel => exact ⟨k + 1, _, by go_num, by omega, HL6, HA6, HR6, HPP⟩
              case measure => simp [intOf]; omega
            · have HPE := Aside0.mk (show PutL ls ls.length n0 rd1 by have := HP5.out; rwa [show k = ls.length by omega] at this)
              go_wp2
              go_meet
              case rel => exact ⟨rd1, HL5, HA5, HR5, HPE⟩
        case rest =>
          clear HL4 HA4 HR4 HPU
          obtain ⟨rd1, HL5, HA5, HR5, HP5⟩ := hcut
          have hsn : s.now ≤ 1000 := by
            have h1 := HF1.out.f.now
            have h2 := HPX.out.1
            have h3 : ((pn * p + x : Nat) : Int) = (pn : Int) * (p : Int) + (x : Int) := by simp
            omega
          have HTK := Aside0.mk (show Calls Try.prog 18 #[.pointer (some ⟨b, 0, none⟩), .slice (some ⟨g4, 0, none⟩) n0 c4] wc fun x w' => x = .returned (.tuple #[]) ∧ ∃ own', LW W w' own' b gb hN (tickF s rd1) (m : Int) S (pn : Int) true Ag cg ys ∧ Then wc own1 w' own' by
            have := HL5.out.tick (by omega) HR5.out
            rwa [HP5.out.l] at this)
          have HF6 := Aside0.mk (HF1.out.tick HL5.out.X (by omega) rd1 (HP5.out.all HLR.out))
          have HPX6 := Aside0.mk (show i + 1 = pn * (if x + 1 = pn then p + 1 else p) + (if x + 1 = pn then 0 else x + 1) ∧ (tickF s rd1).es.length = n0 from ⟨by
            have h2 := HPX.out.1
            by_cases c : x + 1 = pn
            · rw [if_pos c, if_pos c, Nat.mul_succ]; omega
            · rw [if_neg c, if_neg c]; omega, by rw [(tickF_tf rd1 HL5.out.X.wf (by omega) HL5.out.X.cntC HL5.out.X.cntR).st.el]; exact HPX.out.2⟩)
          clear HR5 HP5 HF1 HPX hsn
          go_wp2_with (go_at_call 18; refine HTK.out.mono ?_; rintro e w37 ⟨rfl, own7, hl7, ht7⟩; have HL7 := Aside0.mk hl7; have HA7 := Aside0.mk (HA5.out.then_ ht7); clear hl7 ht7)
          go_roundw
          case rel => exact ⟨i + 1, _, _, own7, _, by go_num, by omega, HPX6, HL7, HA7, HF6⟩
          case measure => simp [intOf]; omega
    · have hpe : p = kp ∧ x = 0 := by
        have h1 := HPX.out.1
        have h2 := HF1.out.f.xr
        have h3 : (i : Int) = (kp : Int) * (pn : Int) := by omega
        have h4 : pn * p + x = pn * kp := by
          have : ((pn * p + x : Nat) : Int) = ((pn * kp : Nat) : Int) := by rw [← h1, h3, Int.natCast_mul, Int.mul_comm]
          omega
        exact divmod_one (by omega) h4
      obtain ⟨hp1, hp2⟩ := hpe
      rw [hp1, hp2] at HF1
      have HEF := Aside0.mk (fun (k : Nat) (hk : k < ls.length) => (show -(((ls.length : Int) + 1) * ww) ≤ ww * (s.ent (Go.Proofs.YtdaadmjppikebaaW.PrintWords.rd ls k).toNat).rn - (kp : Int) * q * (s.ent (Go.Proofs.YtdaadmjppikebaaW.PrintWords.rd ls k).toNat).wt ∧ ww * (s.ent (Go.Proofs.YtdaadmjppikebaaW.PrintWords.rd ls k).toNat).rn - (kp : Int) * q * (s.ent (Go.Proofs.YtdaadmjppikebaaW.PrintWords.rd ls k).toNat).wt ≤ ((ls.length : Int) + 1) * ww from by
        have := HF1.out.f.E (by rw [HF1.out.l]; omega) rfl (Go.Proofs.YtdaadmjppikebaaW.PrintWords.rd ls k) (by rw [HF1.out.l]; exact rd_mem hk)
        rw [HF1.out.l] at this
        exact this))
      have hnw : s.now ≤ 480 := by
        have h1 := HF1.out.f.now
        have h2 : (pn : Int) * (kp : Int) = (kp : Int) * (pn : Int) := Int.mul_comm _ _
        omega
      have HNW := Aside0.mk hnw
      have HES := Aside0.mk HPX.out.2
      have HSE := Aside0.mk HRG.out
      clear hp1 hp2 hnw HPX
      go_wp2_with (fail)
      go_loopw [20] (fun v20 w' => ∃ k : Nat, v20 = .int .i64 (k : Int) ∧ k ≤ ls.length ∧ Aside0 (LW W w' own1 b gb hN s (m : Int) S (pn : Int) true Ag cg ys) ∧ Aside0 (IL w' own1 Al cl ls)) (fun v20 _ => ls.length - (intOf v20).toNat)
      case atStart => exact ⟨0, rfl, Nat.zero_le _, HL1, HA1⟩
      case round =>
        obtain ⟨k, rfl, hk, HL8, HA8⟩ := hrel
        clear HL1 HA1 k2 ewk hlt
        by_cases hk2 : k < ls.length
        · obtain ⟨adl, e5, kl⟩ := HA8.out.cell hk2
          subst e5
          obtain ⟨h7, h8⟩ := HLR.out _ (rd_mem hk2)
          have hbd := HEF.out k hk2
          obtain ⟨ev, hev⟩ : ∃ ev : Nat, Go.Proofs.YtdaadmjppikebaaW.PrintWords.rd ls k = (ev : Int) := ⟨(Go.Proofs.YtdaadmjppikebaaW.PrintWords.rd ls k).toNat, by omega⟩
          rw [hev] at kl h7 h8 hbd
          rw [Int.toNat_natCast] at hbd
          have hevn : ev < s.es.length := by have := HES.out; omega
          have heg := HL8.out.X.wf.eg ev hevn
          obtain ⟨g, hg⟩ : ∃ g : Nat, (s.ent ev).gu = (g : Int) := ⟨(s.ent ev).gu.toNat, by omega⟩
          have hgl : g < ys.length := by have := HF1.out.n.gl; omega
          have hfw : (s.ent ev).wt = (rd_T29 ys (g : Int)).f1 := by rw [HF1.out.wt ev hevn, hg, Int.toNat_natCast, HF1.out.n.gw]
          have hyq := HRG.out.y (rd_T29 ys (g : Int)) (by unfold rd_T29; rw [Int.toNat_natCast, List.getD_eq_getElem?_getD, List.getElem?_eq_getElem hgl, Option.getD_some]; exact List.getElem_mem hgl)
          have hrn := HL8.out.X.cntR ev hevn
          have hnw := HNW.out
          have hy6 := HRG.out.l6
          have HGU := Aside0.mk (show Calls Try.prog 22 #[.pointer (some ⟨b, 0, none⟩), .int .i64 (ev : Int)] wr fun x w' => x = .returned (.tuple #[.int .i64 (g : Int), .int .i64 (s.ent ev).ix]) ∧ LW W w' own1 b gb hN s (m : Int) S (pn : Int) true Ag cg ys ∧ Below wr.heap.size wr w' by have := HL8.out.guest hevn; rwa [hg] at this)
          obtain ⟨rn, hrne⟩ : ∃ rn, rn = (s.ent ev).rn := ⟨_, rfl⟩
          obtain ⟨fw, hfwe⟩ : ∃ fw, fw = (rd_T29 ys (g : Int)).f1 := ⟨_, rfl⟩
          rw [hfw, ← hfwe, ← hrne] at hbd
          rw [← hrne] at hrn
          rw [← hfwe] at hyq
          have hrnb : 0 ≤ rn ∧ rn ≤ 3840 := by omega
          have hfwb : 1 ≤ fw ∧ fw ≤ 9 := by omega
          have hwwb : 0 ≤ ww ∧ ww ≤ 64000 := by omega
          have m1 : 0 ≤ rn * ww ∧ rn * ww ≤ 245760000 := mulb hrnb.1 hrnb.2 hwwb.1 hwwb.2
          have m2 : 0 ≤ (kp : Int) * q ∧ (kp : Int) * q ≤ 480 := mulb (by omega) (by omega : (kp : Int) ≤ 12) (by omega) hq1.2
          have m3 : 0 ≤ (kp : Int) * q * fw ∧ (kp : Int) * q * fw ≤ 4320 := mulb m2.1 m2.2 (by omega) hfwb.2
          have m4 : 0 ≤ ((ls.length : Int) + 1) * ww ∧ ((ls.length : Int) + 1) * ww ≤ 4160000 := mulb (by omega) (by omega : (ls.length : Int) + 1 ≤ 65) hwwb.1 hwwb.2
          have m5 : -((ls.length : Int) + 1) * ww = -(((ls.length : Int) + 1) * ww) := Int.neg_mul _ _
          have m6 : ww * rn = rn * ww := Int.mul_comm _ _
          rw [m6] at hbd
          have bgt : decide (rn * ww - (kp : Int) * q * fw > ((ls.length : Int) + 1) * ww) = false := by simp; omega
          have blt : decide (rn * ww - (kp : Int) * q * fw < -(((ls.length : Int) + 1) * ww)) = false := by simp; omega
          have b1 : -9223372036854775808 ≤ rn * ww ∧ rn * ww ≤ 9223372036854775807 := by omega
          have b2 : -9223372036854775808 ≤ (kp : Int) * q ∧ (kp : Int) * q ≤ 9223372036854775807 := by omega
          have b3 : -9223372036854775808 ≤ (kp : Int) * q * fw ∧ (kp : Int) * q * fw ≤ 9223372036854775807 := by omega
          have b4 : -9223372036854775808 ≤ rn * ww - (kp : Int) * q * fw ∧ rn * ww - (kp : Int) * q * fw ≤ 9223372036854775807 := by omega
          have b5 : -9223372036854775808 ≤ ((ls.length : Int) + 1) * ww ∧ ((ls.length : Int) + 1) * ww ≤ 9223372036854775807 := by omega
          have b6 : -9223372036854775808 ≤ rn ∧ rn ≤ 9223372036854775807 := by omega
          have b7 : -9223372036854775808 ≤ -(((ls.length : Int) + 1) * ww) ∧ -(((ls.length : Int) + 1) * ww) ≤ 9223372036854775807 := by omega
          obtain ⟨adg, e6, _, kw, _⟩ := PV.at_T29 (Kd.R_reads' HL8.out.C.r).2.2 (g : Int) (by omega) (by omega)
          subst e6
          rw [← hfwe, Int.toNat_natCast] at kw
          clear hev h7 h8 heg hg hfw hyq hrn hnw hfwe hbd m6
          go_upto_region 26 with (go_at_call 22; refine HGU.out.mono ?_; rintro e w72 ⟨rfl, hl9, hb9⟩; have HL9 := Aside0.mk hl9; have HA9 := Aside0.mk (HA8.out.below hb9); have kl9 := pw_cell_below hb9 kl; have kw9 := pw_cell_below hb9 kw; clear hl9 hb9)
          have HL10 := Aside0.mk (HL9.out.below (below_drew (Below.refl _ _)))
          have HA10 := Aside0.mk (HA9.out.below (below_drew (Below.refl _ _)))
          have DW := (below_drew (Below.refl w72.heap.size w72))
          have e0 := pw_cell_below DW kl9
          have e1 := pw_cell_below DW (show w72.cell? ⟨gb, 4, none⟩ = some (.slice (some adg) ys.length cg) from HL9.out.C.b.cell rfl)
          have e2 := pw_cell_below DW kw9
          have HRN := Aside0.mk (show Calls Try.prog 26 #[.pointer (some ⟨b, 0, none⟩), .int .i64 (ev : Int)] w72.drew fun x w' => x = .returned (.int .u64 rn) ∧ w72.drew = w' by have := HL10.out.ran hevn; rwa [← hrne] at this)
          have c1 : IntKind.i64.wrap rn = rn := IntWalk.i64_in _ b6
          have c2 : IntKind.i64.wrap (rn * ww) = rn * ww := IntWalk.i64_in _ b1
          have c3 : IntKind.i64.wrap ((kp : Int) * q) = (kp : Int) * q := IntWalk.i64_in _ b2
          have c4' : IntKind.i64.wrap ((kp : Int) * q * fw) = (kp : Int) * q * fw := IntWalk.i64_in _ b3
          have c5 : IntKind.i64.wrap (rn * ww - (kp : Int) * q * fw) = rn * ww - (kp : Int) * q * fw := IntWalk.i64_in _ b4
          have c6 : IntKind.i64.wrap (((ls.length : Int) + 1) * ww) = ((ls.length : Int) + 1) * ww := IntWalk.i64_in _ b5
          have c7 : IntKind.i64.wrap (-(((ls.length : Int) + 1) * ww)) = -(((ls.length : Int) + 1) * ww) := IntWalk.i64_in _ b7
          have k1 : wrap64 rn = rn := wrap64_id b6.1 b6.2
          have k2 : wrap64 (rn * ww) = rn * ww := wrap64_id b1.1 b1.2
          have k3 : wrap64 ((kp : Int) * q) = (kp : Int) * q := wrap64_id b2.1 b2.2
          have k4 : wrap64 ((kp : Int) * q * fw) = (kp : Int) * q * fw := wrap64_id b3.1 b3.2
          have k5 : wrap64 (rn * ww - (kp : Int) * q * fw) = rn * ww - (kp : Int) * q * fw := wrap64_id b4.1 b4.2
          clear DW hrne b1 b2 b3 b4 b5 b6 b7
          refine start_ (n := 21) (S := fun w' => w'.cell? (adl.add k) = some (.int .i64 (ev : Int)) ∧ w'.cell? ⟨gb, 4, none⟩ = some (.slice (some adg) ys.length cg) ∧ w'.cell? ⟨(adg.add (g * 3)).block, (adg.add (g * 3)).off + 1, none⟩ = some (.int .i64 fw)) (ds := []) #[false, false, false, false, false, false, false, false, false, false, false, false, false, false, false, false, false, false, false, false, false] (by kernel_rfl) rfl rfl ⟨e0, e1, e2⟩ (fun hHeld => ?_)
          refine pure_ (i := 0) (N := some 107) (v := ?_) (a' := ?_) #[true, false, false, false, false, false, false, false, false, false, false, false, false, false, false, false, false, false, false, false, false] rfl rfl (by kernel_rfl) (fun _ _ _ h => h) (Or.inl ⟨by rfl, ?_⟩) ?_ ?_
          rotate_left
          · intro w'
            go_simp
            with_reducible rfl
          rotate_left
          · simp only [Act.put, List.setIfInBounds_toArray, List.set_cons_zero, List.set_cons_succ, i64_w, i32_w]
            rfl
          refine pure_ (i := 1) (N := some 108) (v := ?_) (a' := ?_) #[true, true, false, false, false, false, false, false, false, false, false, false, false, false, false, false, false, false, false, false, false] rfl rfl (by kernel_rfl) (fun _ _ _ h => h) (Or.inl ⟨by rfl, ?_⟩) ?_ ?_
          rotate_left
          · intro w'
            go_simp
            with_reducible rfl
          rotate_left
          · simp only [Act.put, List.setIfInBounds_toArray, List.set_cons_zero, List.set_cons_succ, i64_w, i32_w]
            rfl
          refine pure_ (i := 2) (N := some 109) (v := ?_) (a' := ?_) #[true, true, true, false, false, false, false, false, false, false, false, false, false, false, false, false, false, false, false, false, false] rfl rfl (by kernel_rfl) (fun _ _ _ h => h) (Or.inl ⟨by rfl, ?_⟩) ?_ ?_
          rotate_left
          · intro w'
            go_simp
            with_reducible rfl
          rotate_left
          · simp only [Act.put, List.setIfInBounds_toArray, List.set_cons_zero, List.set_cons_succ, i64_w, i32_w]
            rfl
          refine pure_ (i := 3) (N := some 110) (v := ?_) (a' := ?_) #[true, true, true, true, false, false, false, false, false, false, false, false, false, false, false, false, false, false, false, false, false] rfl rfl (by kernel_rfl) (fun _ _ _ h => h) (Or.inl ⟨by rfl, ?_⟩) ?_ ?_
          rotate_left
          · intro w'
            go_simp
            with_reducible rfl
          rotate_left
          · simp only [Act.put, List.setIfInBounds_toArray, List.set_cons_zero, List.set_cons_succ, i64_w, i32_w]
            rfl
          refine pure_ (i := 7) (N := some 114) (v := ?_) (a' := ?_) #[true, true, true, true, false, false, false, true, false, false, false, false, false, false, false, false, false, false, false, false, false] rfl rfl (by kernel_rfl) (fun _ _ _ h => h) (Or.inl ⟨by rfl, ?_⟩) ?_ ?_
          rotate_left
          · intro w'
            go_simp
            with_reducible rfl
          rotate_left
          · simp only [Act.put, List.setIfInBounds_toArray, List.set_cons_zero, List.set_cons_succ, i64_w, i32_w]
            rfl
          refine pure_ (i := 9) (N := some 116) (v := ?_) (a' := ?_) #[true, true, true, true, false, false, false, true, false, true, false, false, false, false, false, false, false, false, false, false, false] rfl rfl (by kernel_rfl) (fun _ _ _ h => h) (Or.inl ⟨by rfl, ?_⟩) ?_ ?_
          rotate_left
          · intro w'
            go_simp
            with_reducible rfl
          rotate_left
          · simp only [Act.put, List.setIfInBounds_toArray, List.set_cons_zero, List.set_cons_succ, i64_w, i32_w]
            rfl
          refine pure_ (i := 10) (N := some 117) (v := ?_) (a' := ?_) #[true, true, true, true, false, false, false, true, false, true, true, false, false, false, false, false, false, false, false, false, false] rfl rfl (by kernel_rfl) (fun _ _ _ h => h) (Or.inl ⟨by rfl, ?_⟩) ?_ ?_
          rotate_left
          · intro w'
            go_simp
            with_reducible rfl
          rotate_left
          · simp only [Act.put, List.setIfInBounds_toArray, List.set_cons_zero, List.set_cons_succ, i64_w, i32_w]
            rfl
          refine pure_ (i := 11) (N := some 118) (v := ?_) (a' := ?_) #[true, true, true, true, false, false, false, true, false, true, true, true, false, false, false, false, false, false, false, false, false] rfl rfl (by kernel_rfl) (fun _ _ _ h => h) (Or.inl ⟨by rfl, ?_⟩) ?_ ?_
          rotate_left
          · intro w'
            go_simp
            with_reducible rfl
          rotate_left
          · simp only [Act.put, List.setIfInBounds_toArray, List.set_cons_zero, List.set_cons_succ, i64_w, i32_w]
            rfl
          refine pure_ (i := 12) (N := some 119) (v := ?_) (a' := ?_) #[true, true, true, true, false, false, false, true, false, true, true, true, true, false, false, false, false, false, false, false, false] rfl rfl (by kernel_rfl) (fun _ _ _ h => h) (Or.inl ⟨by rfl, ?_⟩) ?_ ?_
          rotate_left
          · intro w'
            go_simp
            with_reducible rfl
          rotate_left
          · simp only [Act.put, List.setIfInBounds_toArray, List.set_cons_zero, List.set_cons_succ, i64_w, i32_w]
            rfl
          refine pure_ (i := 14) (N := some 121) (v := ?_) (a' := ?_) #[true, true, true, true, false, false, false, true, false, true, true, true, true, false, true, false, false, false, false, false, false] rfl rfl (by kernel_rfl) (fun _ _ _ h => h) (Or.inl ⟨by rfl, ?_⟩) ?_ ?_
          rotate_left
          · intro w'
            go_simp
            with_reducible rfl
          rotate_left
          · simp only [Act.put, List.setIfInBounds_toArray, List.set_cons_zero, List.set_cons_succ, i64_w, i32_w]
            rfl
          refine take_ (i := 4) (N := some 111) (v := ?_) (a' := ?_) #[true, true, true, true, true, false, false, true, false, true, true, true, true, false, true, false, false, false, false, false, false] rfl rfl (by kernel_rfl) (fun _ _ _ h => h) (Or.inl ⟨by rfl, ?_⟩) hHeld ?_ ?_
          rotate_left
          · rintro w' ⟨s0, s1, s2⟩
            go_simp
            with_reducible rfl
          rotate_left
          · simp only [Act.put, List.setIfInBounds_toArray, List.set_cons_zero, List.set_cons_succ, i64_w, i32_w]
            rfl
          refine take_ (i := 13) (N := some 120) (v := ?_) (a' := ?_) #[true, true, true, true, true, false, false, true, false, true, true, true, true, true, true, false, false, false, false, false, false] rfl rfl (by kernel_rfl) (fun _ _ _ h => h) (Or.inl ⟨by rfl, ?_⟩) hHeld ?_ ?_
          rotate_left
          · rintro w' ⟨s0, s1, s2⟩
            go_simp
            with_reducible rfl
          rotate_left
          · simp only [Act.put, List.setIfInBounds_toArray, List.set_cons_zero, List.set_cons_succ, i64_w, i32_w]
            rfl
          refine pure_ (i := 15) (N := some 122) (v := ?_) (a' := ?_) #[true, true, true, true, true, false, false, true, false, true, true, true, true, true, true, true, false, false, false, false, false] rfl rfl (by kernel_rfl) (fun _ _ _ h => h) (Or.inl ⟨by rfl, ?_⟩) ?_ ?_
          rotate_left
          · intro w'
            go_simp
            with_reducible rfl
          rotate_left
          · simp only [Act.put, List.setIfInBounds_toArray, List.set_cons_zero, List.set_cons_succ, i64_w, i32_w]
            rfl
          refine pure_ (i := 16) (N := some 123) (v := ?_) (a' := ?_) #[true, true, true, true, true, false, false, true, false, true, true, true, true, true, true, true, true, false, false, false, false] rfl rfl (by kernel_rfl) (fun _ _ _ h => h) (Or.inl ⟨by rfl, ?_⟩) ?_ ?_
          rotate_left
          · intro w'
            go_simp
            with_reducible rfl
          rotate_left
          · simp only [Act.put, List.setIfInBounds_toArray, List.set_cons_zero, List.set_cons_succ, i64_w, i32_w]
            rfl
          refine take_ (i := 17) (N := some 124) (v := ?_) (a' := ?_) #[true, true, true, true, true, false, false, true, false, true, true, true, true, true, true, true, true, true, false, false, false] rfl rfl (by kernel_rfl) (fun _ _ _ h => h) (Or.inl ⟨by rfl, ?_⟩) hHeld ?_ ?_
          rotate_left
          · rintro w' ⟨s0, s1, s2⟩
            go_simp
            with_reducible rfl
          rotate_left
          · simp only [Act.put, List.setIfInBounds_toArray, List.set_cons_zero, List.set_cons_succ, i64_w, i32_w]
            rfl
          refine pure_ (i := 18) (N := some 125) (v := ?_) (a' := ?_) #[true, true, true, true, true, false, false, true, false, true, true, true, true, true, true, true, true, true, true, false, false] rfl rfl (by kernel_rfl) (fun _ _ _ h => h) (Or.inl ⟨by rfl, ?_⟩) ?_ ?_
          rotate_left
          · intro w'
            go_simp
            with_reducible rfl
          rotate_left
          · simp only [Act.put, List.setIfInBounds_toArray, List.set_cons_zero, List.set_cons_succ, i64_w, i32_w]
            rfl
          refine one_ (i := 5) (N := some 112) #[true, true, true, true, true, true, false, true, false, true, true, true, true, true, true, true, true, true, true, false, false] rfl rfl (by kernel_rfl) (by decide) (fun K hK => ?_)
          refine goes_ Try.func26 (by kernel_rfl) rfl #[.pointer (some ⟨b, 0, none⟩), .int .i64 (ev : Int)] (by rfl) rfl rfl (by simp only [List.map_toArray, List.map_cons, List.map_nil]; rfl) ?_
          with_reducible refine (HRN.out).mono ?_
          rintro e w74 ⟨rfl, rfl⟩
          refine ⟨_, rfl, ?_⟩
          refine hK.out _ _ ⟨e0, e1, e2⟩ (fun hHeld => ?_)
          clear hK K
          refine norm_ (a' := ?_) ?_ ?_
          rotate_left
          · show Act.put _ (some 112) _ = _
            simp only [Act.put, List.setIfInBounds_toArray, List.set_cons_zero, List.set_cons_succ, i64_w, i32_w]
            rfl
          refine pure_ (i := 6) (N := some 113) (v := ?_) (a' := ?_) #[true, true, true, true, true, true, true, true, false, true, true, true, true, true, true, true, true, true, true, false, false] rfl rfl (by kernel_rfl) (fun _ _ _ h => h) (Or.inl ⟨by rfl, ?_⟩) ?_ ?_
          rotate_left
          · intro w'
            go_simp
            with_reducible rfl
          rotate_left
          · simp only [Act.put, List.setIfInBounds_toArray, List.set_cons_zero, List.set_cons_succ, i64_w, i32_w]
            rfl
          refine pure_ (i := 8) (N := some 115) (v := ?_) (a' := ?_) #[true, true, true, true, true, true, true, true, true, true, true, true, true, true, true, true, true, true, true, false, false] rfl rfl (by kernel_rfl) (fun _ _ _ h => h) (Or.inl ⟨by rfl, ?_⟩) ?_ ?_
          rotate_left
          · intro w'
            go_simp
            with_reducible rfl
          rotate_left
          · simp only [Act.put, List.setIfInBounds_toArray, List.set_cons_zero, List.set_cons_succ, i64_w, i32_w]
            rfl
          refine pure_ (i := 19) (N := some 126) (v := ?_) (a' := ?_) #[true, true, true, true, true, true, true, true, true, true, true, true, true, true, true, true, true, true, true, true, false] rfl rfl (by kernel_rfl) (fun _ _ _ h => h) (Or.inl ⟨by rfl, ?_⟩) ?_ ?_
          rotate_left
          · intro w'
            go_simp
            with_reducible rfl
          rotate_left
          · simp only [Act.put, List.setIfInBounds_toArray, List.set_cons_zero, List.set_cons_succ, i64_w, i32_w]
            rfl
          refine pure_ (i := 20) (N := some 23) (v := ?_) (a' := ?_) #[true, true, true, true, true, true, true, true, true, true, true, true, true, true, true, true, true, true, true, true, true] rfl rfl (by kernel_rfl) (fun _ _ _ h => h) (Or.inl ⟨by rfl, ?_⟩) ?_ ?_
          rotate_left
          · intro w'
            go_simp
            with_reducible rfl
          rotate_left
          · simp only [Act.put, List.setIfInBounds_toArray, List.set_cons_zero, List.set_cons_succ, i64_w, i32_w]
            rfl
          refine done_ (by kernel_rfl) ?_
          go_upto_if 143 with (fail)
          go_wp2
          go_roundw
          case rel => exact ⟨k + 1, by go_num, by omega, HL10, HA10⟩
          case measure => simp [intOf]; omega
        · go_wp2_with (go_at_call 19; refine (awake_calls _).mono ?_; rintro e w90 ⟨rfl, hb⟩; have HBE := Aside0.mk (below_step HL8.out.B hb); clear hb)
          go_ret
          exact ⟨rfl, HBE.out⟩
end Go.Proofs.Ytdaadmjppikebaa.SC

/- What the readings of a law's arguments (a conf, a script, numbers) say of cells. -/
namespace Go.Proofs.Ytdaadmjppikebaa.SC
open Go.RowKit Go.Proofs.YtdaadmjppikebaaW.PrintWords Go.Proofs.Ytdaadmjppikebaa.Opn Go.WideShapes
open Go.Proofs.Ytdaadmjppikebaa.PV (S29 k29)
set_option linter.unusedVariables false
set_option maxRecDepth 100000

theorem list3 {α : Type} {l : List α} (h : l.length = 3) : ∃ a b c, l = [a, b, c] := by
  match l, h with
  | [a, b, c], _ => exact ⟨a, b, c, rfl⟩
theorem list5 {α : Type} {l : List α} (h : l.length = 5) : ∃ a b c d e, l = [a, b, c, d, e] := by
  match l, h with
  | [a, b, c, d, e], _ => exact ⟨a, b, c, d, e, rfl⟩
theorem cells3 : Try.prog.cellsOf 3 = 1 := by kernel_rfl
theorem cells4 : Try.prog.cellsOf 4 = 1 := by kernel_rfl
theorem cells23 : Try.prog.cellsOf 23 = 1 := by kernel_rfl
theorem cells25 : Try.prog.cellsOf 25 = 1 := by kernel_rfl
theorem cells27 : Try.prog.cellsOf 27 = 5 := by kernel_rfl
theorem cells29 : Try.prog.cellsOf 29 = 3 := by kernel_rfl
theorem fld {H : Type} {enc : TypeId × Value → H} {w : World} {n t off k : Nat} {cs : List Value} {y : DataW H × List MemPlace} (hc : Try.prog.cellsOf t = k) (h : DataW.trod enc Try.prog w 0 (fun _ => true) true n t ((cs.drop off).take (Try.prog.cellsOf t)) = some y) : DataW.trod enc Try.prog w 0 (fun _ => true) true n t ((cs.drop off).take k) = some y := by
  rw [hc] at h; exact h
def G29 (_ : Nat) (_ : S29) : Prop := True
theorem opens29 : Opens Try.prog 29 k29 G29 := by
  intro H enc w fuel cs x h
  obtain ⟨n, hl, hf⟩ := opens_fields Try.underlying29 h
  rw [cells29] at hl
  obtain ⟨c0, c1, c2, rfl⟩ := list3 hl
  obtain ⟨y0, h0, b0⟩ := hf 0 _ rfl
  obtain ⟨y1, h1, b1⟩ := hf 1 _ rfl
  obtain ⟨y2, h2, b2⟩ := hf 2 _ rfl
  have h0 : DataW.trod enc Try.prog w 0 (fun _ => true) true n 3 [c0] = some y0 := fld (t := 3) (off := 0) (cs := [c0, c1, c2]) cells3 h0
  have h1 : DataW.trod enc Try.prog w 0 (fun _ => true) true n 3 [c1] = some y1 := fld (t := 3) (off := 1) (cs := [c0, c1, c2]) cells3 h1
  have h2 : DataW.trod enc Try.prog w 0 (fun _ => true) true n 4 [c2] = some y2 := fld (t := 4) (off := 2) (cs := [c0, c1, c2]) cells4 h2
  obtain ⟨a0, k0, _⟩ := opens_int Try.underlying3 enc w n _ _ h0
  obtain ⟨a1, k1, _⟩ := opens_int Try.underlying3 enc w n _ _ h1
  obtain ⟨a2, k2, _⟩ := opens_bool Try.underlying4 enc w n _ _ h2
  obtain rfl : c0 = .int .i64 a0 := by simpa using (show [c0] = [Value.int .i64 a0] from k0)
  obtain rfl : c1 = .int .i64 a1 := by simpa using (show [c1] = [Value.int .i64 a1] from k1)
  obtain rfl : c2 = .bool a2 := by simpa using (show [c2] = [Value.bool a2] from k2)
  exact ⟨⟨a0, a1, a2⟩, PV.k29_mk w ⟨a0, a1, a2⟩, trivial⟩
/-- A conf that was read. -/
theorem open_C {H : Type} {enc : TypeId × Value → H} {w : World} {v : Value} {d : DataW H} {p : List MemPlace} {r : Reach} {base : Nat} (hv : Value.okWide Try.prog w r base 27 v) (h : DataW.Trod enc Try.prog w 0 (fun _ => true) true 27 v d p) :
    ∃ (a0 a1 a2 : Int) (a3 : Bool) (A : Option Addr) (c : Nat) (l : List S29), v = .agg #[.int .i64 a0, .int .i64 a1, .int .i64 a2, .bool a3, .slice A l.length c] ∧ Kd.C k29 w A l.length l ∧ l.length ≤ c ∧ l.length ≤ Rows.uptoBulk d := by
  obtain ⟨cs, rfl, hsz⟩ := okWide_struct Try.underlying27 hv
  obtain ⟨fuel, h⟩ := h
  have h' : DataW.trod enc Try.prog w 0 (fun _ => true) true fuel 27 cs.toList = some (d, p) := h
  obtain ⟨n, hl, hf⟩ := opens_fields Try.underlying27 h'
  rw [cells27] at hl
  obtain ⟨c0, c1, c2, c3, c4, hcs⟩ := list5 hl
  obtain rfl : cs = #[c0, c1, c2, c3, c4] := by cases cs; simpa using hcs
  obtain ⟨y0, h0, b0⟩ := hf 0 _ rfl
  obtain ⟨y1, h1, b1⟩ := hf 1 _ rfl
  obtain ⟨y2, h2, b2⟩ := hf 2 _ rfl
  obtain ⟨y3, h3, b3⟩ := hf 3 _ rfl
  obtain ⟨y4, h4, b4⟩ := hf 4 _ rfl
  have h0 : DataW.trod enc Try.prog w 0 (fun _ => true) true n 3 [c0] = some y0 := fld (t := 3) (off := 0) (cs := [c0, c1, c2, c3, c4]) cells3 h0
  have h1 : DataW.trod enc Try.prog w 0 (fun _ => true) true n 3 [c1] = some y1 := fld (t := 3) (off := 1) (cs := [c0, c1, c2, c3, c4]) cells3 h1
  have h2 : DataW.trod enc Try.prog w 0 (fun _ => true) true n 3 [c2] = some y2 := fld (t := 3) (off := 2) (cs := [c0, c1, c2, c3, c4]) cells3 h2
  have h3 : DataW.trod enc Try.prog w 0 (fun _ => true) true n 4 [c3] = some y3 := fld (t := 4) (off := 3) (cs := [c0, c1, c2, c3, c4]) cells4 h3
  have h4 : DataW.trod enc Try.prog w 0 (fun _ => true) true n 25 [c4] = some y4 := fld (t := 25) (off := 4) (cs := [c0, c1, c2, c3, c4]) cells25 h4
  obtain ⟨a0, k0, _⟩ := opens_int Try.underlying3 enc w n _ _ h0
  obtain ⟨a1, k1, _⟩ := opens_int Try.underlying3 enc w n _ _ h1
  obtain ⟨a2, k2, _⟩ := opens_int Try.underlying3 enc w n _ _ h2
  obtain ⟨a3, k3, _⟩ := opens_bool Try.underlying4 enc w n _ _ h3
  obtain ⟨A4, x4, l4, e4, q4, C4, g4⟩ := opens_row (d := k29) (G := G29) Try.underlying25 opens29 cells29 h4
  obtain rfl : c0 = .int .i64 a0 := by simpa using (show [c0] = [Value.int .i64 a0] from k0)
  obtain rfl : c1 = .int .i64 a1 := by simpa using (show [c1] = [Value.int .i64 a1] from k1)
  obtain rfl : c2 = .int .i64 a2 := by simpa using (show [c2] = [Value.int .i64 a2] from k2)
  obtain rfl : c3 = .bool a3 := by simpa using (show [c3] = [Value.bool a3] from k3)
  obtain rfl : c4 = .slice A4 l4.length x4 := by simpa using e4
  have z4 := g4.1
  simp only at b4
  exact ⟨a0, a1, a2, a3, A4, x4, l4, rfl, C4, q4, by omega⟩
end Go.Proofs.Ytdaadmjppikebaa.SC

/- SchedFair: whatever the arguments are that read as data, it gives true. -/
namespace Go.Proofs.Ytdaadmjppikebaa.SC
open Go.RowKit Go.Proofs.Ytdaadmjppikebaa.Opn Go.WideShapes Go.Proofs.YtdaadmjppikebaaW.PrintWords
set_option maxRecDepth 100000 in
theorem open_u64s {H : Type} {enc : TypeId × Value → H} {w : World} {v : Value} {d : DataW H} {p : List MemPlace} {r : Reach} {base : Nat} (hv : Value.okWide Try.prog w r base 57 v) (h : DataW.Trod enc Try.prog w 0 (fun _ => true) true 57 v d p) :
    ∃ (A : Option Addr) (c : Nat) (ls : List Int), v = .slice A ls.length c ∧ Kd.C (Kd.int .u64) w A ls.length ls ∧ ls.length ≤ c ∧ ls.length ≤ Rows.uptoBulk d := by
  obtain ⟨a, len, cap, rfl⟩ := okWide_slice Try.underlying57 hv
  obtain ⟨fuel, h⟩ := h
  obtain ⟨A, c, ls, e, l, C, g⟩ := opens_row Try.underlying57 (opens_int Try.underlying23) cells23 h
  have e' : Value.slice a len cap = .slice A ls.length c := by simpa [Value.cells] using e
  exact ⟨A, c, ls, e', C, l, by have := g.1; simp only at this; omega⟩
theorem bulk4f {H : Type} {d0 d1 d2 d3 : DataW H} (h : Rows.uptoBulkAll [d0, d1, d2, d3] ≤ 1048576) : Rows.uptoBulk d3 ≤ 1048576 := by
  simp only [Rows.uptoBulkAll] at h; omega
set_option maxRecDepth 100000 in
theorem schedFair_core (H : Type) (enc : TypeId × Value → H) (W : World) (base : Nat) (v0 v1 v2 v3 : Value) (d0 d1 d2 d3 : DataW H) (p0 p1 p2 p3 : List MemPlace)
    (o0 : Value.okWide Try.prog W .any base 27 v0) (h0 : DataW.Trod enc Try.prog W 0 (fun _ => true) true 27 v0 d0 p0)
    (o1 : Value.okWide Try.prog W .any base 3 v1) (_ : DataW.Trod enc Try.prog W 0 (fun _ => true) true 3 v1 d1 p1)
    (o2 : Value.okWide Try.prog W .any base 3 v2) (_ : DataW.Trod enc Try.prog W 0 (fun _ => true) true 3 v2 d2 p2)
    (o3 : Value.okWide Try.prog W .any base 57 v3) (h3 : DataW.Trod enc Try.prog W 0 (fun _ => true) true 57 v3 d3 p3) (hb : Rows.uptoBulkAll [d0, d1, d2, d3] ≤ 1048576) :
    Calls Try.prog 7 #[v0, v1, v2, v3] W fun e W' => e = .returned (.bool true) ∧ Below W.heap.size W W' := by
  have hb1 := bulk4f hb
  obtain ⟨a0, a1, a2, a3, A, c, l, rfl, hC, hl, _⟩ := open_C o0 h0
  obtain ⟨n1, rfl⟩ := okWide_int Try.underlying3 o1
  obtain ⟨n2, rfl⟩ := okWide_int Try.underlying3 o2
  obtain ⟨A3, c3, l3, rfl, hC3, hl3, hb3⟩ := open_u64s o3 h3
  exact fair_calls hC hl hC3 hl3 (by omega)
end Go.Proofs.Ytdaadmjppikebaa.SC
