/- Parts of the walk of package sched, merged. -/
/- SchedRemoves. -/
import Derived.Test.YtdaadmjppikebaaK15
import Derived.Test.YtdaadmjppikebaaK10
import Derived.Test.YtdaadmjppikebaaOpen
import Derived.WideShapes
namespace Go.Proofs.Ytdaadmjppikebaa.SC
open Go.RowKit Go.Proofs.YtdaadmjppikebaaW.PrintWords Go.Proofs.YtdaadmjppikebaaW.PrintLast
open Go.Proofs.Ytdaadmjppikebaa.PV (S94 k94 S29 k29 rd_T94 rd_T29)
set_option linter.unusedVariables false
set_option linter.unusedSimpArgs false

theorem mk57 (W : World) (n : Nat) : Blk (W.alloc (.cells (madeCells #[.int .u64 0] n) 23)) W.heap.size 23 ((List.replicate n (0 : Int)).map (Value.int .u64)) := by
  have h := make_blk W (Value.agg #[.int .u64 0]).cells 23 n [.int .u64 0] rfl (by decide)
  have e : (List.replicate n [Value.int .u64 0]).flatten = (List.replicate n (0 : Int)).map (Value.int .u64) := by simp
  rw [e, show n * [Value.int .u64 0].length = n by simp] at h; exact h
theorem info23' : (Try.prog.info? 23).map (fun i => (i.zero, i.size, i.bytes)) = some (some (.int .u64 0), 1, 8) := by kernel_rfl
/-- A law's own list of u64, in a block of its own. -/
structure UL (W : World) (own : Nat → Prop) (hN sb : Nat) (sl : List Int) : Prop where
  b : Blk W sb 23 (sl.map (Value.int .u64))
  o : ¬ own sb
  g : hN ≤ sb
section
variable {W w' : World} {own own' : Nat → Prop} {hN sb : Nat} {sl : List Int}
theorem UL.below (h : UL W own hN sb sl) (hb : Below W.heap.size W w') : UL w' own hN sb sl := ⟨h.b.below hb, h.o, h.g⟩
theorem UL.then_ (h : UL W own hN sb sl) (t : Then W own w' own') : UL w' own' hN sb sl :=
  ⟨h.b.mut t.m h.o, fun e => (t.z sb e).elim h.o (fun h2 => by have := h.b.lt; omega), h.g⟩
theorem UL.put (h : UL W own hN sb sl) (q : Nat) (v : Int) : UL (W.setCell ⟨sb, q, none⟩ (.int .u64 v)) own hN sb (sl.set q v) :=
  ⟨by have := h.b.set q (.int .u64 v); rwa [← List.map_set] at this, h.o, h.g⟩
theorem UL.cell (h : UL W own hN sb sl) {q : Nat} (hq : q < sl.length) : W.cell? ⟨sb, q, none⟩ = some (.int .u64 (sl.getD q 0)) :=
  h.b.cell (by rw [List.getElem?_map, List.getElem?_eq_getElem hq, List.getD_eq_getElem?_getD, List.getElem?_eq_getElem hq]; rfl)
end
set_option maxRecDepth 100000 in
set_option maxHeartbeats 3200000 in
theorem removes_calls {W : World} {a0 a1 a2 : Int} {a3 : Bool} {A0 : Option Addr} {c0 : Nat} {l0 : List S29} {A1 A7 : Option Addr} {c1 c7 : Nat} {l1 l7 : List S48} {gst : Int} (hC : Kd.C k29 W A0 l0.length l0) (hc : l0.length ≤ c0) (hS : Kd.C k48 W A1 l1.length l1) (hs : l1.length ≤ c1) (hs2 : l1.length ≤ 1048576) (hS7 : Kd.C k48 W A7 l7.length l7) (hs7 : l7.length ≤ c7) (hs8 : l7.length ≤ 1048576) :
    Calls Try.prog 10 #[.agg #[.int .i64 a0, .int .i64 a1, .int .i64 a2, .bool a3, .slice A0 l0.length c0], .slice A1 l1.length c1, .int .i64 gst, .slice A7 l7.length c7] W fun x w' => x = .returned (.bool true) ∧ Below W.heap.size W w' := by
  have HSC := Aside0.mk hS
  have HSD := Aside0.mk hS7
  clear hS hS7
  obtain ⟨m, S, P, ys, hrt, hm, hS, hP, hrg⟩ := right_plain a0 a1 a2 a3 l0
  have hok := hrg.ok hm hS hP
  have hcf := conf_f ys (by have := hrg.l6; omega) (m : Int) S P a3
  have hrf := right_f (cr := a3) hok
  obtain ⟨gl, hgl⟩ : ∃ gl, gl = confL ys := ⟨_, rfl⟩
  rw [← hgl] at hok hcf hrf
  have HGL := Aside0.mk hgl
  have HRG := Aside0.mk hrg
  have HOK := Aside0.mk hok
  have HCF := Aside0.mk hcf
  have HRF := Aside0.mk hrf
  have HRT := Aside0.mk hrt
  have HC0 := Aside0.mk hC
  have HL0 := Aside0.mk hc
  clear hok hcf hrf hgl hrg hrt hC hc
  go_enter Try.func10, Try.ntmps10
  go_upto_region 2 with (first | ((with_reducible refine gate_dst (N := 4) rfl ?_); (try (refine gate_guard (by rfl) ?_; dsimp only)); refine box_event ?hg (N := 4) ?hd (cs := #[.int .i64 a0, .int .i64 a1, .int .i64 a2, .bool a3, .slice A0 l0.length c0]) (t := 27) ?hr ?_; (case hd => rfl); (case hg => rfl); (case hr => first | (go_simp; done) | (go_simp; rfl)); intro gb hg w1 hbox hb; have z0 : w1.cell? ⟨gb, 0, none⟩ = some (.int .i64 a0) := (blk_cell hbox 0).trans rfl; have z1 : w1.cell? ⟨gb, 1, none⟩ = some (.int .i64 a1) := (blk_cell hbox 1).trans rfl; have z2 : w1.cell? ⟨gb, 2, none⟩ = some (.int .i64 a2) := (blk_cell hbox 2).trans rfl; have z3 : w1.cell? ⟨gb, 3, none⟩ = some (.bool a3) := (blk_cell hbox 3).trans rfl; have z4 : w1.cell? ⟨gb, 4, none⟩ = some (.slice A0 l0.length c0) := (blk_cell hbox 4).trans rfl; have HBX := Aside0.mk hbox; have HGB := Aside0.mk hg; have HB1 := Aside0.mk hb; clear hg hbox hb) | (go_at_call 20; with_reducible refine (PV.citadellaw18_right.calls 20 a0 a1 a2 a3 A0 c0 l0 (m : Int) S P a3 ys _ (Kd.C_below HC0.out HB1.out) HL0.out HRT.out).mono ?_; rintro e w2 ⟨v4, rfl, hs2, hb2⟩; obtain ⟨Ag, cg, e4⟩ := Kd.R_slice hs2; subst e4; have HR2 := Aside0.mk hs2; have HB2 := Aside0.mk hb2; have HBK := Aside0.mk ((blkbox HBX.out).below hb2); have y0 : w2.cell? ⟨gb, 0, none⟩ = some (.int .i64 a0) := HBK.out.cell rfl; have yf0 : w2.frozen? ⟨gb, 0, none⟩ = false := HBK.out.frozen _; have y1 : w2.cell? ⟨gb, 1, none⟩ = some (.int .i64 a1) := HBK.out.cell rfl; have yf1 : w2.frozen? ⟨gb, 1, none⟩ = false := HBK.out.frozen _; have y2 : w2.cell? ⟨gb, 2, none⟩ = some (.int .i64 a2) := HBK.out.cell rfl; have yf2 : w2.frozen? ⟨gb, 2, none⟩ = false := HBK.out.frozen _; have y3 : w2.cell? ⟨gb, 3, none⟩ = some (.bool a3) := HBK.out.cell rfl; have yf3 : w2.frozen? ⟨gb, 3, none⟩ = false := HBK.out.frozen _; have y4 : w2.cell? ⟨gb, 4, none⟩ = some (.slice A0 l0.length c0) := HBK.out.cell rfl; have yf4 : w2.frozen? ⟨gb, 4, none⟩ = false := HBK.out.frozen _; clear hs2 hb2))
  have HCC := Aside0.mk (CC.of (m := (m : Int)) (S := S) (P := P) (cr := a3) HBK.out (by rw [HGB.out]; exact Nat.le_refl _) (below_step HB1.out HB2.out) (Kd.R_lower HR2.out HB1.out.size) (fun k hk e => by have h1 := Kd.R_base HR2.out k hk; have h2 := (blkbox HBX.out).lt; rw [e] at h1; omega))
  obtain ⟨w3, hw3⟩ : ∃ w3, w3 = (((((w2.setCell ⟨gb, 0, none⟩ (.int .i64 (m : Int))).setCell ⟨gb, 1, none⟩ (.int .i64 S)).setCell ⟨gb, 2, none⟩ (.int .i64 P)).setCell ⟨gb, 3, none⟩ (.bool a3)).setCell ⟨gb, 4, none⟩ (.slice Ag ys.length cg)) := ⟨_, rfl⟩
  rw [← hw3] at HCC ⊢
  clear hw3 HBK HR2 HB2 HB1 HGB HBX z0 z1 z2 z3 z4 y0 y1 y2 y3 y4 yf0 yf1 yf2 yf3 yf4
  have d0 : w3.cell? ⟨gb, 0, none⟩ = some (.int .i64 (m : Int)) := HCC.out.b.cell rfl
  have d1 : w3.cell? ⟨gb, 1, none⟩ = some (.int .i64 S) := HCC.out.b.cell rfl
  have d2 : w3.cell? ⟨gb, 2, none⟩ = some (.int .i64 P) := HCC.out.b.cell rfl
  have d3 : w3.cell? ⟨gb, 3, none⟩ = some (.bool a3) := HCC.out.b.cell rfl
  have d4 : w3.cell? ⟨gb, 4, none⟩ = some (.slice Ag ys.length cg) := HCC.out.b.cell rfl
  go_upto_region 3 with (first | (go_at_call 14; with_reducible refine (PV.citadellaw18_C_Conf.calls (ys.length + 1) (m : Int) S P a3 _ _ ys (m : Int) S P a3 gl _ (Kd.R_reads' HCC.out.r).2.2 (Kd.R_reads' HCC.out.r).2.1 HCF.out).mono ?_; rintro e w21 ⟨v2, rfl, hs2, hb2⟩; obtain ⟨A2, c2, e2, hl2, hC2⟩ := Kd.S_reads hs2; subst e2; have HC2 := Aside0.mk hC2; have HL2 := Aside0.mk hl2; have HCB3 := Aside0.mk (HCC.out.below hb2); clear hs2 hl2 hC2 hb2) | (go_at_call 13; refine (new_sb (m := m) (k := 2 * gl.length + 2) rfl HRF.out HC2.out HL2.out HOK.out).mono ?_; rintro e w22 ⟨b, own, rfl, hsb, hown, hb3⟩; obtain ⟨s0, hs0⟩ : ∃ s0, s0 = newF m S P a3 gl := ⟨_, rfl⟩; rw [← hs0] at hsb; have HS0 := Aside0.mk hs0; have HLW := Aside0.mk (LW.of HCB3.out hb3 hsb hown); clear hsb hown hb3 hs0))
  clear d0 d1 d2 d3 d4 HCC HCB3 HC2 HL2 HCF HRF

  have hnp := (by have := HOK.out; rw [HGL.out] at this; exact np_new (cr := a3) this : NP m S P a3 ys (newF m S P a3 (confL ys)))
  have HI := Aside0.mk (show s0.now = ((0 : Nat) : Int) ∧ NP m S P a3 ys s0 from by
    have h2 := (newF_ok (cr := a3) HOK.out).2.2.2.2.1
    rw [← HS0.out] at h2
    rw [← HGL.out, ← HS0.out] at hnp
    exact ⟨h2, hnp⟩)
  clear hnp HS0 HOK HGL HRT HC0 HL0
  obtain ⟨hN, hhN⟩ : ∃ hN, hN = w21.heap.size := ⟨_, rfl⟩
  rw [← hhN] at HLW
  clear hhN
  go_wp2_with (fail)
  go_loopw [11] (fun v11 w' => ∃ (i : Nat) (own : Nat → Prop) (s : SS), v11 = .int .i64 (i : Int) ∧ i ≤ l1.length ∧ Aside0 (LW W w' own b gb hN s (m : Int) S P a3 Ag cg ys) ∧ Aside0 (s.now = (i : Int) ∧ NP m S P a3 ys s)) (fun v11 _ => l1.length - (intOf v11).toNat)
  case atStart => exact ⟨0, own, s0, rfl, Nat.zero_le _, HLW, HI⟩
  case round =>
    obtain ⟨i, own1, s, rfl, hil, HL1, HI1⟩ := hrel
    clear HLW HI
    by_cases hlt : i < l1.length
    · obtain ⟨ad, e0, _, _, hx⟩ := at_T48 (Kd.C_below HSC.out HL1.out.B) (i : Int) (by omega) (by omega)
      subst e0
      obtain ⟨x, hxx⟩ : ∃ x, x = (rd_T48 l1 (i : Int)).f2 := ⟨_, rfl⟩
      rw [← hxx, Int.toNat_natCast] at hx
      have HNW := Aside0.mk (show s.now ≤ 288230376151711744 by have := HI1.out.1; omega)
      have HLd := Aside0.mk (HL1.out.below (below_drew (Below.refl _ _)))
      have zx : wr.drew.cell? ⟨(ad.add (i * 3)).block, (ad.add (i * 3)).off + 2, none⟩ = some (.int .u64 x) := pw_cell_below (below_drew (Below.refl _ _)) hx
      clear hxx
      go_upto_region 8 with (fail)
      refine start_ (n := 10) (S := fun w' => w'.cell? ⟨(ad.add (i * 3)).block, (ad.add (i * 3)).off + 2, none⟩ = some (.int .u64 x)) (ds := [9]) #[false, false, false, false, false, false, false, false, false, false] (by kernel_rfl) rfl rfl (zx) (fun hHeld => ?_)
      refine pure_ (i := 0) (N := some 44) (v := ?_) (a' := ?_) #[true, false, false, false, false, false, false, false, false, false] rfl rfl (by kernel_rfl) (fun _ _ _ h => h) (Or.inl ⟨by rfl, ?_⟩) ?_ ?_
      rotate_left
      · intro w'
        go_simp
        with_reducible rfl
      rotate_left
      · simp only [Act.put, List.setIfInBounds_toArray, List.set_cons_zero, List.set_cons_succ, i64_w, i32_w]
        rfl
      refine pure_ (i := 1) (N := some 45) (v := ?_) (a' := ?_) #[true, true, false, false, false, false, false, false, false, false] rfl rfl (by kernel_rfl) (fun _ _ _ h => h) (Or.inl ⟨by rfl, ?_⟩) ?_ ?_
      rotate_left
      · intro w'
        go_simp
        with_reducible rfl
      rotate_left
      · simp only [Act.put, List.setIfInBounds_toArray, List.set_cons_zero, List.set_cons_succ, i64_w, i32_w]
        rfl
      refine pure_ (i := 2) (N := some 46) (v := ?_) (a' := ?_) #[true, true, true, false, false, false, false, false, false, false] rfl rfl (by kernel_rfl) (fun _ _ _ h => h) (Or.inl ⟨by rfl, ?_⟩) ?_ ?_
      rotate_left
      · intro w'
        go_simp
        with_reducible rfl
      rotate_left
      · simp only [Act.put, List.setIfInBounds_toArray, List.set_cons_zero, List.set_cons_succ, i64_w, i32_w]
        rfl
      refine pure_ (i := 3) (N := some 47) (v := ?_) (a' := ?_) #[true, true, true, true, false, false, false, false, false, false] rfl rfl (by kernel_rfl) (fun _ _ _ h => h) (Or.inl ⟨by rfl, ?_⟩) ?_ ?_
      rotate_left
      · intro w'
        go_simp
        with_reducible rfl
      rotate_left
      · simp only [Act.put, List.setIfInBounds_toArray, List.set_cons_zero, List.set_cons_succ, i64_w, i32_w]
        rfl
      refine pure_ (i := 4) (N := some 48) (v := ?_) (a' := ?_) #[true, true, true, true, true, false, false, false, false, false] rfl rfl (by kernel_rfl) (fun _ _ _ h => h) (Or.inl ⟨by rfl, ?_⟩) ?_ ?_
      rotate_left
      · intro w'
        go_simp
        with_reducible rfl
      rotate_left
      · simp only [Act.put, List.setIfInBounds_toArray, List.set_cons_zero, List.set_cons_succ, i64_w, i32_w]
        rfl
      refine pure_ (i := 6) (N := some 50) (v := ?_) (a' := ?_) #[true, true, true, true, true, false, true, false, false, false] rfl rfl (by kernel_rfl) (fun _ _ _ h => h) (Or.inl ⟨by rfl, ?_⟩) ?_ ?_
      rotate_left
      · intro w'
        go_simp
        with_reducible rfl
      rotate_left
      · simp only [Act.put, List.setIfInBounds_toArray, List.set_cons_zero, List.set_cons_succ, i64_w, i32_w]
        rfl
      refine take_ (i := 5) (N := some 49) (v := ?_) (a' := ?_) #[true, true, true, true, true, true, true, false, false, false] rfl rfl (by kernel_rfl) (fun _ _ _ h => h) (Or.inl ⟨by rfl, ?_⟩) hHeld ?_ ?_
      rotate_left
      · intro w' s0
        go_simp
        with_reducible rfl
      rotate_left
      · simp only [Act.put, List.setIfInBounds_toArray, List.set_cons_zero, List.set_cons_succ, i64_w, i32_w]
        rfl
      refine one_ (i := 7) (N := some 51) #[true, true, true, true, true, true, true, true, false, false] rfl rfl (by kernel_rfl) (by decide) (fun K hK => ?_)
      refine goes_ Try.func15 (by kernel_rfl) rfl #[.pointer (some ⟨b, 0, none⟩)] (by rfl) rfl rfl (by simp only [List.map_toArray, List.map_cons, List.map_nil]; rfl) ?_
      with_reducible refine (HLd.out.X.entities).mono ?_
      rintro e w3 ⟨rfl, rfl⟩
      refine ⟨_, rfl, ?_⟩
      refine hK.out _ _ (zx) (fun hHeld => ?_)
      clear hK K
      refine norm_ (a' := ?_) ?_ ?_
      rotate_left
      · show Act.put _ (some 51) _ = _
        simp only [Act.put, List.setIfInBounds_toArray, List.set_cons_zero, List.set_cons_succ, i64_w, i32_w]
        rfl
      refine one_ (i := 8) (N := some 52) #[true, true, true, true, true, true, true, true, true, false] rfl rfl (by kernel_rfl) (by decide) (fun K hK => ?_)
      refine goes_ Try.func16 (by kernel_rfl) rfl #[.int .u64 x, .int .i64 (s.es.length : Int)] (by rfl) rfl rfl (by simp only [List.map_toArray, List.map_cons, List.map_nil]; rfl) ?_
      with_reducible refine (HLd.out.list x s.es.length rfl).mono ?_
      rintro e w4 ⟨A4, c4, rfl, hrl, hl4, hb4⟩
      refine ⟨_, rfl, ?_⟩
      have HRL := Aside0.mk hrl
      have HL4 := Aside0.mk hl4
      have zx4 := pw_cell_below hb4 zx
      clear hrl hl4 hb4
      refine hK.out _ _ (zx4) (fun hHeld => ?_)
      clear hK K
      refine norm_ (a' := ?_) ?_ ?_
      rotate_left
      · show Act.put _ (some 52) _ = _
        simp only [Act.put, List.setIfInBounds_toArray, List.set_cons_zero, List.set_cons_succ, i64_w, i32_w]
        rfl
      refine last_ (i := 9) (N := some 53) #[true, true, true, true, true, true, true, true, true, true] rfl rfl (by kernel_rfl) (by decide) (fun K hK => ?_)
      refine goes_ Try.func18 (by kernel_rfl) rfl #[.pointer (some ⟨b, 0, none⟩), .slice A4 (bitsL x s.es.length).length c4] (by rfl) rfl rfl (by simp only [List.map_toArray, List.map_cons, List.map_nil]; rfl) ?_
      with_reducible refine (HL4.out.tick HNW.out HRL.out).mono ?_
      rintro e w5 ⟨rfl, own5, hl5, ht5⟩
      refine ⟨_, rfl, ?_⟩
      have HL5 := Aside0.mk hl5
      clear hl5 ht5
      refine hK.out _ _ ?_
      clear hK K
      refine norm_ (a' := ?_) ?_ ?_
      rotate_left
      · show Act.put _ (some 53) _ = _
        simp only [Act.put, List.setIfInBounds_toArray, List.set_cons_zero, List.set_cons_succ, i64_w, i32_w]
        rfl
      refine done_ (by kernel_rfl) ?_
      have HI5 := Aside0.mk (show (tickF s (bitsL x s.es.length)).now = ((i + 1 : Nat) : Int) ∧ NP m S P a3 ys (tickF s (bitsL x s.es.length)) from by
        have hn := HI1.out.1
        have ht := tickF_tf (bitsL x s.es.length) HL1.out.X.wf (by omega) HL1.out.X.cntC HL1.out.X.cntR
        exact ⟨by rw [ht.now, hn]; rfl, HI1.out.2.st ht.st⟩)
      clear hx zx HLd HL4 HRL HNW zx4 HI1
      go_wp2
      go_roundw
      case rel => exact ⟨i + 1, own5, _, by go_num, by omega, HL5, HI5⟩
      case measure => simp [intOf]; omega
    · have hy6 := HRG.out.l6
      have hy1 := HRG.out.l1
      obtain ⟨r, hr, hr1, hr2⟩ := mod_f gst (ys.length : Int) (by omega) (by omega)
      obtain ⟨g, hg⟩ : ∃ g : Nat, r = (g : Int) := ⟨r.toNat, by omega⟩
      subst hg
      have HMD := Aside0.mk hr
      have hgl : g < ys.length := by omega
      have hgs : g < s.gs.length := by rw [HI1.out.2.gl]; exact hgl
      clear hr hr1 hr2
      have k4 : wr.cell? ⟨gb, 4, none⟩ = some (.slice Ag ys.length cg) := HL1.out.C.b.cell rfl
      go_upto_region 10 with (go_at_call 12; with_reducible refine (mod_calls gst (ys.length : Int) (g : Int) _ HMD.out).mono ?_; rintro e w30 ⟨rfl, hb⟩; have HL2 := Aside0.mk (HL1.out.below hb); clear hb)
      clear k4 HL1
      have HRM := Aside0.mk (HL2.out.X.remove g hgs)
      have hre := removeTo_re HL2.out.X.wf g s.es.length (Nat.le_refl _)
      obtain ⟨s2, hs2⟩ : ∃ s2, s2 = removeTo s g s.es.length := ⟨_, rfl⟩
      rw [← hs2] at HRM hre
      clear hs2
      have hes : s2.es.length = s.es.length := hre.1.st.el
      have hem := HL2.out.X.wf.em
      have HNP2 := Aside0.mk (HI1.out.2.st hre.1.st)
      have HGN := Aside0.mk (fun j (hj : j < s2.es.length) (h : (s2.ent j).gu = (g : Int)) => (show (s2.ent j).gn = true by
        rw [hre.2 j, if_pos ⟨by omega, by rw [← (hre.1.st.en j).1]; exact h⟩]))
      have HNO := Aside0.mk (show s2.now = (i : Int) by rw [hre.1.now]; exact HI1.out.1)
      have HES2 := Aside0.mk hes
      have hem2 : s2.es.length ≤ 64 := by omega
      clear HI1 hre hes
      go_upto_region 11 with (go_at_call 30; refine HRM.out.mono ?_; rintro e w31 ⟨rfl, hsb2, hm2⟩; have HL3 := Aside0.mk (HL2.out.then_ hsb2 ⟨hm2, fun _ h => h, fun _ h => .inl h⟩); clear hsb2 hm2)
      have h57 := make_run 57 23 _ 1 8 Try.underlying57 info23' (by decide) s2.es.length (by omega)
      go_upto_region 12 with (go_at_call 15; refine HL3.out.X.entities.mono ?_; rintro e w51 ⟨rfl, rfl⟩)
      have HUL := Aside0.mk (show UL (w31.alloc (.cells (madeCells #[.int .u64 0] s2.es.length) 23)) own1 hN w31.heap.size (List.replicate s2.es.length 0) from ⟨mk57 w31 s2.es.length, fun e => by have := HL3.out.X.lt _ e; omega, HL3.out.z⟩)
      replace HL3 := Aside0.mk (HL3.out.below (below_alloc (Below.refl _ _) (.cells (madeCells #[.int .u64 0] s2.es.length) 23)))
      obtain ⟨sb, hsb⟩ : ∃ sb, sb = w31.heap.size := ⟨_, rfl⟩
      obtain ⟨w5, hw5⟩ : ∃ w5, w5 = w31.alloc (.cells (madeCells #[.int .u64 0] s2.es.length) 23) := ⟨_, rfl⟩
      rw [← hw5, ← hsb] at HUL
      rw [← hw5] at HL3
      rw [← hw5, ← hsb]
      clear hw5 hsb h57 HL2 HRM
      go_wp2_with (fail)
      go_loopw [14] (fun v14 w' => ∃ (k : Nat) (sl : List Int), v14 = .int .i64 (k : Int) ∧ k ≤ s2.es.length ∧ Aside0 (LW W w' own1 b gb hN s2 (m : Int) S P a3 Ag cg ys) ∧ Aside0 (UL w' own1 hN sb sl) ∧ Aside0 (sl.length = s2.es.length ∧ ∀ j, j < k → sl.getD j 0 = (s2.ent j).rn)) (fun v14 _ => s2.es.length - (intOf v14).toNat)
      case atStart => exact ⟨0, _, rfl, Nat.zero_le _, HL3, HUL, ⟨by simp, fun j hj => by omega⟩⟩
      case round =>
        obtain ⟨k, sl, rfl, hk, HL4, HU4, HSL⟩ := hrel
        clear HL3 HUL
        by_cases hk2 : k < s2.es.length
        · have hsl : k < sl.length := by rw [HSL.out.1]; exact hk2
          have ks := HU4.out.cell hsl
          have kf : wr.frozen? ⟨sb, k, none⟩ = false := HU4.out.b.frozen _
          go_upto_region 14 with (first | (go_at_call 15; refine HL4.out.X.entities.mono ?_; rintro e w51 ⟨rfl, rfl⟩) | (go_at_call 26; refine (HL4.out.ran hk2).mono ?_; rintro e w53 ⟨rfl, rfl⟩))
          have HL5 := Aside0.mk (HL4.out.put HU4.out.o HU4.out.g k (.int .u64 (s2.ent k).rn))
          have HU5 := Aside0.mk (HU4.out.put k (s2.ent k).rn)
          have HS5 := Aside0.mk (show (sl.set k (s2.ent k).rn).length = s2.es.length ∧ ∀ j, j < k + 1 → (sl.set k (s2.ent k).rn).getD j 0 = (s2.ent j).rn from ⟨by simp [HSL.out.1], fun j hj => by
            rw [List.getD_eq_getElem?_getD, List.getElem?_set]
            by_cases c : k = j
            · subst c; rw [if_pos rfl, if_pos hsl]; rfl
            · rw [if_neg c, ← List.getD_eq_getElem?_getD]; exact HSL.out.2 j (by omega)⟩)
          clear ks kf
          go_wp2
          go_roundw
          case rel => exact ⟨k + 1, _, by go_num, by omega, HL5, HU5, HS5⟩
          case measure => simp [intOf]; omega
        · have HRP := Aside0.mk (show RmP g sl s2 ((i + 0 : Nat) : Int) from ⟨HNO.out, HSL.out.1.symm, fun j hj hg => ⟨HGN.out j hj hg, (HSL.out.2 j (by omega)).symm⟩⟩)
          have HSLL := Aside0.mk HSL.out.1
          clear HSL HNO HGN
          go_wp2_with (go_at_call 15; refine HL4.out.X.entities.mono ?_; rintro e w51 ⟨rfl, rfl⟩)
          go_loopw [15] (fun v15 w' => ∃ (q : Nat) (own : Nat → Prop) (s3 : SS), v15 = .int .i64 (q : Int) ∧ q ≤ l7.length ∧ Aside0 (LW W w' own b gb hN s3 (m : Int) S P a3 Ag cg ys) ∧ Aside0 (UL w' own hN sb sl) ∧ Aside0 (RmP g sl s3 ((i + q : Nat) : Int) ∧ NP m S P a3 ys s3)) (fun v15 _ => l7.length - (intOf v15).toNat)
          case atStart => exact ⟨0, own1, s2, rfl, Nat.zero_le _, HL4, HU4, ⟨HRP.out, HNP2.out⟩⟩
          case round =>
            obtain ⟨q, own6, s3, rfl, hq, HL6, HU6, HI6⟩ := hrel
            clear HL4 HU4 HRP HNP2
            by_cases hq2 : q < l7.length
            · obtain ⟨ad, e0, _, _, hx⟩ := at_T48 (Kd.C_below HSD.out HL6.out.B) (q : Int) (by omega) (by omega)
              subst e0
              obtain ⟨x, hxx⟩ : ∃ x, x = (rd_T48 l7 (q : Int)).f2 := ⟨_, rfl⟩
              rw [← hxx, Int.toNat_natCast] at hx
              have HLd := Aside0.mk (HL6.out.below (below_drew (Below.refl _ _)))
              have HUd := Aside0.mk (HU6.out.below (below_drew (Below.refl _ _)))
              have zx : wr.drew.cell? ⟨(ad.add (q * 3)).block, (ad.add (q * 3)).off + 2, none⟩ = some (.int .u64 x) := pw_cell_below (below_drew (Below.refl _ _)) hx
              clear hxx
              go_upto_region 19 with (fail)
              refine start_ (n := 9) (S := fun w' => w'.cell? ⟨(ad.add (q * 3)).block, (ad.add (q * 3)).off + 2, none⟩ = some (.int .u64 x)) (ds := []) #[false, false, false, false, false, false, false, false, false] (by kernel_rfl) rfl rfl (zx) (fun hHeld => ?_)
              refine pure_ (i := 0) (N := some 83) (v := ?_) (a' := ?_) #[true, false, false, false, false, false, false, false, false] rfl rfl (by kernel_rfl) (fun _ _ _ h => h) (Or.inl ⟨by rfl, ?_⟩) ?_ ?_
              rotate_left
              · intro w'
                go_simp
                with_reducible rfl
              rotate_left
              · simp only [Act.put, List.setIfInBounds_toArray, List.set_cons_zero, List.set_cons_succ, i64_w, i32_w]
                rfl
              refine pure_ (i := 1) (N := some 84) (v := ?_) (a' := ?_) #[true, true, false, false, false, false, false, false, false] rfl rfl (by kernel_rfl) (fun _ _ _ h => h) (Or.inl ⟨by rfl, ?_⟩) ?_ ?_
              rotate_left
              · intro w'
                go_simp
                with_reducible rfl
              rotate_left
              · simp only [Act.put, List.setIfInBounds_toArray, List.set_cons_zero, List.set_cons_succ, i64_w, i32_w]
                rfl
              refine pure_ (i := 2) (N := some 85) (v := ?_) (a' := ?_) #[true, true, true, false, false, false, false, false, false] rfl rfl (by kernel_rfl) (fun _ _ _ h => h) (Or.inl ⟨by rfl, ?_⟩) ?_ ?_
              rotate_left
              · intro w'
                go_simp
                with_reducible rfl
              rotate_left
              · simp only [Act.put, List.setIfInBounds_toArray, List.set_cons_zero, List.set_cons_succ, i64_w, i32_w]
                rfl
              refine pure_ (i := 3) (N := some 86) (v := ?_) (a' := ?_) #[true, true, true, true, false, false, false, false, false] rfl rfl (by kernel_rfl) (fun _ _ _ h => h) (Or.inl ⟨by rfl, ?_⟩) ?_ ?_
              rotate_left
              · intro w'
                go_simp
                with_reducible rfl
              rotate_left
              · simp only [Act.put, List.setIfInBounds_toArray, List.set_cons_zero, List.set_cons_succ, i64_w, i32_w]
                rfl
              refine pure_ (i := 5) (N := some 88) (v := ?_) (a' := ?_) #[true, true, true, true, false, true, false, false, false] rfl rfl (by kernel_rfl) (fun _ _ _ h => h) (Or.inl ⟨by rfl, ?_⟩) ?_ ?_
              rotate_left
              · intro w'
                go_simp
                with_reducible rfl
              rotate_left
              · simp only [Act.put, List.setIfInBounds_toArray, List.set_cons_zero, List.set_cons_succ, i64_w, i32_w]
                rfl
              refine take_ (i := 4) (N := some 87) (v := ?_) (a' := ?_) #[true, true, true, true, true, true, false, false, false] rfl rfl (by kernel_rfl) (fun _ _ _ h => h) (Or.inl ⟨by rfl, ?_⟩) hHeld ?_ ?_
              rotate_left
              · intro w' s0
                go_simp
                with_reducible rfl
              rotate_left
              · simp only [Act.put, List.setIfInBounds_toArray, List.set_cons_zero, List.set_cons_succ, i64_w, i32_w]
                rfl
              refine one_ (i := 6) (N := some 89) #[true, true, true, true, true, true, true, false, false] rfl rfl (by kernel_rfl) (by decide) (fun K hK => ?_)
              refine goes_ Try.func15 (by kernel_rfl) rfl #[.pointer (some ⟨b, 0, none⟩)] (by rfl) rfl rfl (by simp only [List.map_toArray, List.map_cons, List.map_nil]; rfl) ?_
              with_reducible refine (HLd.out.X.entities).mono ?_
              rintro e w3 ⟨rfl, rfl⟩
              refine ⟨_, rfl, ?_⟩
              refine hK.out _ _ (zx) (fun hHeld => ?_)
              clear hK K
              refine norm_ (a' := ?_) ?_ ?_
              rotate_left
              · show Act.put _ (some 89) _ = _
                simp only [Act.put, List.setIfInBounds_toArray, List.set_cons_zero, List.set_cons_succ, i64_w, i32_w]
                rfl
              refine one_ (i := 7) (N := some 90) #[true, true, true, true, true, true, true, true, false] rfl rfl (by kernel_rfl) (by decide) (fun K hK => ?_)
              refine goes_ Try.func16 (by kernel_rfl) rfl #[.int .u64 x, .int .i64 (s3.es.length : Int)] (by rfl) rfl rfl (by simp only [List.map_toArray, List.map_cons, List.map_nil]; rfl) ?_
              with_reducible refine (HLd.out.list x s3.es.length rfl).mono ?_
              rintro e w4 ⟨A4, c4, rfl, hrl, hl4, hb4⟩
              refine ⟨_, rfl, ?_⟩
              have HRL := Aside0.mk hrl
              have HL7 := Aside0.mk hl4
              have HU7 := Aside0.mk (HUd.out.below hb4)
              have zx7 := pw_cell_below hb4 zx
              clear hrl hl4 hb4
              refine hK.out _ _ (zx7) (fun hHeld => ?_)
              clear hK K
              refine norm_ (a' := ?_) ?_ ?_
              rotate_left
              · show Act.put _ (some 90) _ = _
                simp only [Act.put, List.setIfInBounds_toArray, List.set_cons_zero, List.set_cons_succ, i64_w, i32_w]
                rfl
              refine pure_ (i := 8) (N := some 16) (v := ?_) (a' := ?_) #[true, true, true, true, true, true, true, true, true] rfl rfl (by kernel_rfl) (fun _ _ _ h => h) (Or.inl ⟨by rfl, ?_⟩) ?_ ?_
              rotate_left
              · intro w'
                go_simp
                with_reducible rfl
              rotate_left
              · simp only [Act.put, List.setIfInBounds_toArray, List.set_cons_zero, List.set_cons_succ, i64_w, i32_w]
                rfl
              refine done_ (by kernel_rfl) ?_
              obtain ⟨rd, hrd⟩ : ∃ rd, rd = bitsL x s3.es.length := ⟨_, rfl⟩
              rw [← hrd] at HRL ⊢
              have HP7 := Aside0.mk (show RmP g sl s3 ((i + q : Nat) : Int) ∧ NP m S P a3 ys s3 ∧ s3.es.length = rd.length from ⟨HI6.out.1, HI6.out.2, by rw [hrd, bitsL_len]⟩)
              clear hx zx HLd HUd zx7 hrd HL6 HU6 HI6
              go_upto_block 6 with (fail)
              go_cut [17] (fun v17 wc => ∃ (own' : Nat → Prop) (s' : SS), Aside0 (LW W wc own' b gb hN s' (m : Int) S P a3 Ag cg ys) ∧ Aside0 (UL wc own' hN sb sl) ∧ Aside0 (RL wc own' A4 c4 rd) ∧ Aside0 (RmP g sl s' ((i + q : Nat) : Int) ∧ NP m S P a3 ys s' ∧ s'.es.length = rd.length))
              case first =>
                go_wp2_with (fail)
                go_loopw [17] (fun v17 w' => ∃ (h : Nat) (own' : Nat → Prop) (s' : SS), v17 = .int .i64 (h : Int) ∧ h ≤ m ∧ Aside0 (LW W w' own' b gb hN s' (m : Int) S P a3 Ag cg ys) ∧ Aside0 (UL w' own' hN sb sl) ∧ Aside0 (RL w' own' A4 c4 rd) ∧ Aside0 (RmP g sl s' ((i + q : Nat) : Int) ∧ NP m S P a3 ys s' ∧ s'.es.length = rd.length)) (fun v17 _ => m - (intOf v17).toNat)
                case atStart => exact ⟨0, own6, s3, rfl, Nat.zero_le _, HL7, HU7, HRL, HP7⟩
                case round =>
                  obtain ⟨h, own8, s8, rfl, hhm, HL8, HU8, HR8, HP8⟩ := hrel
                  clear HL7 HU7 HRL HP7
                  have k0 : wr.cell? ⟨gb, 0, none⟩ = some (.int .i64 (m : Int)) := HL8.out.C.b.cell rfl
                  by_cases hlt2 : h < m
                  · obtain ⟨hpn, hpo⟩ := HP8.out.1.pick HL8.out.X.wf (h : Int) rd HP8.out.2.2.symm
                    have HPK := Aside0.mk (HL8.out.pick HR8.out (h : Int))
                    have hst := (pickF_pk HL8.out.X.wf (h : Int) rd).st
                    have hnp := HP8.out.2.1.st hst
                    have hes8 : s8.es.length = rd.length := HP8.out.2.2
                    obtain ⟨sn, hsn⟩ : ∃ sn, sn = (pickF s8 (h : Int) rd).2 := ⟨_, rfl⟩
                    rw [← hsn] at HPK hpn hst hnp
                    have HPN := Aside0.mk (And.intro hpn (And.intro hnp (show sn.es.length = rd.length by rw [hst.el, hes8])))
                    rcases hpo with hp | ⟨p, hp, hp1, hp2, hp5⟩
                    · rw [hp] at HPK
                      clear hsn hpn hst hnp hp hes8
                      go_wp2_with (go_at_call 17; refine HPK.out.mono ?_; rintro e w48 ⟨rfl, own9, hl9, ht9⟩; have HL9 := Aside0.mk hl9; have HU9 := Aside0.mk (HU8.out.then_ ht9); have HR9 := Aside0.mk (HR8.out.then_ ht9); clear hl9 ht9)
                      go_roundw
                      case rel => exact ⟨h + 1, own9, sn, by go_num, by omega, HL9, HU9, HR9, HPN⟩
                      case measure => simp [intOf]; omega
                    · rw [hp] at HPK
                      have hpe : p < sn.es.length := by rw [hst.el]; exact hp1
                      have hpr : p < rd.length := by omega
                      have hgu : (sn.ent p).gu ≠ (g : Int) := by rw [(hst.en p).1]; exact hp2
                      have bgu : ((sn.ent p).gu == (g : Int)) = false := by simpa using hgu
                      have hp6 : rdOf false rd (p : Int) = true := by unfold rdOf; rw [Int.toNat_natCast]; exact hp5
                      clear hsn hpn hst hnp hp hes8 hp1 hp2 hp5 hgu
                      go_wp2_with (first | (go_at_call 17; refine HPK.out.mono ?_; rintro e w48 ⟨rfl, own9, hl9, ht9⟩; have HL9 := Aside0.mk hl9; have HU9 := Aside0.mk (HU8.out.then_ ht9); have HR9 := Aside0.mk (HR8.out.then_ ht9); clear hl9 ht9) | (go_at_call 22; refine (HL9.out.guest hpe).mono ?_; rintro e w49 ⟨rfl, hl10, hb10⟩; have HL10 := Aside0.mk hl10; have HU10 := Aside0.mk (HU9.out.below hb10); have HR10 := Aside0.mk (HR9.out.below hb10); obtain ⟨adr2, er2, kr2⟩ := Kd.at_bool HR10.out.toRD.1 (p : Int) (by omega) (by omega); subst er2; rw [hp6, Int.toNat_natCast] at kr2; clear hl10 hb10))
                      go_roundw
                      case rel => exact ⟨h + 1, own9, sn, by go_num, by omega, HL10, HU10, HR10, HPN⟩
                      case measure => simp [intOf]; omega
                  · go_wp2
                    go_meet
                    case rel => exact ⟨own8, s8, HL8, HU8, HR8, HP8⟩
              case rest =>
                clear HL7 HU7 HRL HP7
                obtain ⟨own8, s8, HL8, HU8, HR8, HP8⟩ := hcut
                have HT8 := Aside0.mk (show RmP g sl (tickF s8 rd) ((i + (q + 1) : Nat) : Int) ∧ NP m S P a3 ys (tickF s8 rd) from by
                  have hn := HP8.out.1.now
                  refine ⟨HP8.out.1.tick HL8.out.X (by omega) rd, HP8.out.2.1.st (tickF_tf rd HL8.out.X.wf (by omega) HL8.out.X.cntC HL8.out.X.cntR).st⟩)
                go_wp2_with (go_at_call 18; with_reducible refine (HL8.out.tick (by have := HP8.out.1.now; omega) HR8.out).mono ?_; rintro e w61 ⟨rfl, own11, hl11, ht11⟩; have HL11 := Aside0.mk hl11; have HU11 := Aside0.mk (HU8.out.then_ ht11); clear hl11 ht11)
                go_roundw
                case rel => exact ⟨q + 1, own11, _, by go_num, by omega, HL11, HU11, HT8⟩
                case measure => simp [intOf]; omega
            · go_wp2_with (fail)
              go_loopw [21] (fun v21 w' => ∃ (k : Nat), v21 = .int .i64 (k : Int) ∧ k ≤ s3.es.length ∧ Aside0 (LW W w' own6 b gb hN s3 (m : Int) S P a3 Ag cg ys) ∧ Aside0 (UL w' own6 hN sb sl)) (fun v21 _ => s3.es.length - (intOf v21).toNat)
              case atStart => exact ⟨0, rfl, Nat.zero_le _, HL6, HU6⟩
              case round =>
                obtain ⟨kk, rfl, hkk, HL12, HU12⟩ := hrel
                clear HL6 HU6
                have hem3 := HL12.out.X.wf.em
                by_cases hkk2 : kk < s3.es.length
                · have hsl : kk < sl.length := by rw [← HI6.out.1.l]; exact hkk2
                  have hrn := fun hg => (HI6.out.1.gn kk hkk2 hg).2
                  have hkk3 : kk < s2.es.length := by rw [← HSLL.out]; exact hsl
                  have hs64 : sl.length ≤ 64 := by rw [HSLL.out]; exact hem2
                  go_upto_region 33 with (first | (go_at_call 15; refine HL12.out.X.entities.mono ?_; rintro e w71 ⟨rfl, rfl⟩) | (go_at_call 22; refine (HL12.out.guest hkk2).mono ?_; rintro e w72 ⟨rfl, hl13, hb13⟩; have HL13 := Aside0.mk hl13; have HU13 := Aside0.mk (HU12.out.below hb13); clear hl13 hb13))
                  have e1 := HU13.out.cell hsl
                  have DW := (below_drew (Below.refl w72.heap.size w72))
                  have e0 := pw_cell_below DW e1
                  have HL14 := Aside0.mk (HL13.out.below DW)
                  have HU14 := Aside0.mk (HU13.out.below DW)
                  clear e1 DW
                  by_cases hgu : (s3.ent kk).gu = (g : Int)
                  · have bgu : ((s3.ent kk).gu == (g : Int)) = true := by rw [hgu]; simp
                    have HRN := Aside0.mk (show Calls Try.prog 26 #[.pointer (some ⟨b, 0, none⟩), .int .i64 (kk : Int)] w72.drew fun x w' => x = .returned (.int .u64 (sl.getD kk 0)) ∧ w72.drew = w' by have := HL14.out.ran hkk2; rwa [hrn hgu] at this)
                    obtain ⟨gu, hgue⟩ : ∃ gu, gu = (s3.ent kk).gu := ⟨_, rfl⟩
                    obtain ⟨wv, hwv⟩ : ∃ wv, wv = sl.getD kk 0 := ⟨_, rfl⟩
                    rw [← hwv] at HRN e0
                    rw [← hgue] at bgu ⊢
                    clear hgue hrn hwv hgu
                    refine start_ (n := 13) (S := fun w' => w'.cell? ⟨sb, kk, none⟩ = some (.int .u64 wv)) (ds := []) #[false, false, false, false, false, false, false, false, false, false, false, false, false] (by kernel_rfl) rfl rfl (e0) (fun hHeld => ?_)
                    refine pure_ (i := 0) (N := some 134) (v := ?_) (a' := ?_) #[true, false, false, false, false, false, false, false, false, false, false, false, false] rfl rfl (by kernel_rfl) (fun _ _ _ h => h) (Or.inl ⟨by rfl, ?_⟩) ?_ ?_
                    rotate_left
                    · intro w'
                      go_simp
                      with_reducible rfl
                    rotate_left
                    · simp only [Act.put, List.setIfInBounds_toArray, List.set_cons_zero, List.set_cons_succ, i64_w, i32_w]
                      rfl
                    refine pure_ (i := 1) (N := some 135) (v := ?_) (a' := ?_) #[true, true, false, false, false, false, false, false, false, false, false, false, false] rfl rfl (by kernel_rfl) (fun _ _ _ h => h) (Or.inl ⟨by rfl, ?_⟩) ?_ ?_
                    rotate_left
                    · intro w'
                      go_simp
                      with_reducible rfl
                    rotate_left
                    · simp only [Act.put, List.setIfInBounds_toArray, List.set_cons_zero, List.set_cons_succ, i64_w, i32_w]
                      rfl
                    refine pure_ (i := 2) (N := some 136) (v := ?_) (a' := ?_) #[true, true, true, false, false, false, false, false, false, false, false, false, false] rfl rfl (by kernel_rfl) (fun _ _ _ h => h) (Or.inl ⟨by rfl, ?_⟩) ?_ ?_
                    rotate_left
                    · intro w'
                      go_simp
                      with_reducible rfl
                    rotate_left
                    · simp only [Act.put, List.setIfInBounds_toArray, List.set_cons_zero, List.set_cons_succ, i64_w, i32_w]
                      rfl
                    refine pure_ (i := 3) (N := some 137) (v := ?_) (a' := ?_) #[true, true, true, true, false, false, false, false, false, false, false, false, false] rfl rfl (by kernel_rfl) (fun _ _ _ h => h) (Or.inl ⟨by rfl, ?_⟩) ?_ ?_
                    rotate_left
                    · intro w'
                      go_simp
                      with_reducible rfl
                    rotate_left
                    · simp only [Act.put, List.setIfInBounds_toArray, List.set_cons_zero, List.set_cons_succ, i64_w, i32_w]
                      rfl
                    refine pure_ (i := 4) (N := some 138) (v := ?_) (a' := ?_) #[true, true, true, true, true, false, false, false, false, false, false, false, false] rfl rfl (by kernel_rfl) (fun _ _ _ h => h) (Or.inl ⟨by rfl, ?_⟩) ?_ ?_
                    rotate_left
                    · intro w'
                      go_simp
                      with_reducible rfl
                    rotate_left
                    · simp only [Act.put, List.setIfInBounds_toArray, List.set_cons_zero, List.set_cons_succ, i64_w, i32_w]
                      rfl
                    refine pure_ (i := 5) (N := some 139) (v := ?_) (a' := ?_) #[true, true, true, true, true, true, false, false, false, false, false, false, false] rfl rfl (by kernel_rfl) (fun _ _ _ h => h) (Or.inl ⟨by rfl, ?_⟩) ?_ ?_
                    rotate_left
                    · intro w'
                      go_simp
                      with_reducible rfl
                    rotate_left
                    · simp only [Act.put, List.setIfInBounds_toArray, List.set_cons_zero, List.set_cons_succ, i64_w, i32_w]
                      rfl
                    refine pure_ (i := 7) (N := some 141) (v := ?_) (a' := ?_) #[true, true, true, true, true, true, false, true, false, false, false, false, false] rfl rfl (by kernel_rfl) (fun _ _ _ h => h) (Or.inl ⟨by rfl, ?_⟩) ?_ ?_
                    rotate_left
                    · intro w'
                      go_simp
                      with_reducible rfl
                    rotate_left
                    · simp only [Act.put, List.setIfInBounds_toArray, List.set_cons_zero, List.set_cons_succ, i64_w, i32_w]
                      rfl
                    refine pure_ (i := 8) (N := some 142) (v := ?_) (a' := ?_) #[true, true, true, true, true, true, false, true, true, false, false, false, false] rfl rfl (by kernel_rfl) (fun _ _ _ h => h) (Or.inl ⟨by rfl, ?_⟩) ?_ ?_
                    rotate_left
                    · intro w'
                      go_simp
                      with_reducible rfl
                    rotate_left
                    · simp only [Act.put, List.setIfInBounds_toArray, List.set_cons_zero, List.set_cons_succ, i64_w, i32_w]
                      rfl
                    refine pure_ (i := 9) (N := some 143) (v := ?_) (a' := ?_) #[true, true, true, true, true, true, false, true, true, true, false, false, false] rfl rfl (by kernel_rfl) (fun _ _ _ h => h) (Or.inl ⟨by rfl, ?_⟩) ?_ ?_
                    rotate_left
                    · intro w'
                      go_simp
                      with_reducible rfl
                    rotate_left
                    · simp only [Act.put, List.setIfInBounds_toArray, List.set_cons_zero, List.set_cons_succ, i64_w, i32_w]
                      rfl
                    refine take_ (i := 10) (N := some 144) (v := ?_) (a' := ?_) #[true, true, true, true, true, true, false, true, true, true, true, false, false] rfl rfl (by kernel_rfl) (fun _ _ _ h => h) (Or.inl ⟨by rfl, ?_⟩) hHeld ?_ ?_
                    rotate_left
                    · intro w' s0
                      go_simp
                      with_reducible rfl
                    rotate_left
                    · simp only [Act.put, List.setIfInBounds_toArray, List.set_cons_zero, List.set_cons_succ, i64_w, i32_w]
                      rfl
                    refine one_ (i := 6) (N := some 140) #[true, true, true, true, true, true, true, true, true, true, true, false, false] rfl rfl (by kernel_rfl) (by decide) (fun K hK => ?_)
                    refine goes_ Try.func26 (by kernel_rfl) rfl #[.pointer (some ⟨b, 0, none⟩), .int .i64 (kk : Int)] (by rfl) rfl rfl (by simp only [List.map_toArray, List.map_cons, List.map_nil]; rfl) ?_
                    with_reducible refine (HRN.out).mono ?_
                    rintro e w74 ⟨rfl, rfl⟩
                    refine ⟨_, rfl, ?_⟩
                    refine hK.out _ _ (e0) (fun hHeld => ?_)
                    clear hK K
                    refine norm_ (a' := ?_) ?_ ?_
                    rotate_left
                    · show Act.put _ (some 140) _ = _
                      simp only [Act.put, List.setIfInBounds_toArray, List.set_cons_zero, List.set_cons_succ, i64_w, i32_w]
                      rfl
                    refine pure_ (i := 11) (N := some 145) (v := ?_) (a' := ?_) #[true, true, true, true, true, true, true, true, true, true, true, true, false] rfl rfl (by kernel_rfl) (fun _ _ _ h => h) (Or.inl ⟨by rfl, ?_⟩) ?_ ?_
                    rotate_left
                    · intro w'
                      go_simp
                      with_reducible rfl
                    rotate_left
                    · simp only [Act.put, List.setIfInBounds_toArray, List.set_cons_zero, List.set_cons_succ, i64_w, i32_w]
                      rfl
                    refine pure_ (i := 12) (N := some 146) (v := ?_) (a' := ?_) #[true, true, true, true, true, true, true, true, true, true, true, true, true] rfl rfl (by kernel_rfl) (fun _ _ _ h => h) (Or.inl ⟨by rfl, ?_⟩) ?_ ?_
                    rotate_left
                    · intro w'
                      go_simp
                      with_reducible rfl
                    rotate_left
                    · simp only [Act.put, List.setIfInBounds_toArray, List.set_cons_zero, List.set_cons_succ, i64_w, i32_w]
                      rfl
                    refine done_ (by kernel_rfl) ?_
                    go_wp2
                    go_roundw
                    case rel => exact ⟨kk + 1, by go_num, by omega, HL14, HU14⟩
                    case measure => simp [intOf]; omega
                  · have bgu : ((s3.ent kk).gu == (g : Int)) = false := by simpa using hgu
                    obtain ⟨gu, hgue⟩ : ∃ gu, gu = (s3.ent kk).gu := ⟨_, rfl⟩
                    obtain ⟨wv, hwv⟩ : ∃ wv, wv = sl.getD kk 0 := ⟨_, rfl⟩
                    rw [← hwv] at e0
                    rw [← hgue] at bgu ⊢
                    clear hgue hrn hgu hwv
                    refine start_ (n := 13) (S := fun w' => w'.cell? ⟨sb, kk, none⟩ = some (.int .u64 wv)) (ds := []) #[false, false, false, false, false, false, false, false, false, false, false, false, false] (by kernel_rfl) rfl rfl (e0) (fun hHeld => ?_)
                    refine pure_ (i := 0) (N := some 134) (v := ?_) (a' := ?_) #[true, false, false, false, false, false, false, false, false, false, false, false, false] rfl rfl (by kernel_rfl) (fun _ _ _ h => h) (Or.inl ⟨by rfl, ?_⟩) ?_ ?_
                    rotate_left
                    · intro w'
                      go_simp
                      with_reducible rfl
                    rotate_left
                    · simp only [Act.put, List.setIfInBounds_toArray, List.set_cons_zero, List.set_cons_succ, i64_w, i32_w]
                      rfl
                    refine pure_ (i := 1) (N := some 135) (v := ?_) (a' := ?_) #[true, true, false, false, false, false, false, false, false, false, false, false, false] rfl rfl (by kernel_rfl) (fun _ _ _ h => h) (Or.inl ⟨by rfl, ?_⟩) ?_ ?_
                    rotate_left
                    · intro w'
                      go_simp
                      with_reducible rfl
                    rotate_left
                    · simp only [Act.put, List.setIfInBounds_toArray, List.set_cons_zero, List.set_cons_succ, i64_w, i32_w]
                      rfl
                    refine pure_ (i := 2) (N := some 136) (v := ?_) (a' := ?_) #[true, true, true, false, false, false, false, false, false, false, false, false, false] rfl rfl (by kernel_rfl) (fun _ _ _ h => h) (Or.inl ⟨by rfl, ?_⟩) ?_ ?_
                    rotate_left
                    · intro w'
                      go_simp
                      with_reducible rfl
                    rotate_left
                    · simp only [Act.put, List.setIfInBounds_toArray, List.set_cons_zero, List.set_cons_succ, i64_w, i32_w]
                      rfl
                    refine pure_ (i := 3) (N := some 137) (v := ?_) (a' := ?_) #[true, true, true, true, false, false, false, false, false, false, false, false, false] rfl rfl (by kernel_rfl) (fun _ _ _ h => h) (Or.inl ⟨by rfl, ?_⟩) ?_ ?_
                    rotate_left
                    · intro w'
                      go_simp
                      with_reducible rfl
                    rotate_left
                    · simp only [Act.put, List.setIfInBounds_toArray, List.set_cons_zero, List.set_cons_succ, i64_w, i32_w]
                      rfl
                    refine pure_ (i := 4) (N := some 138) (v := undef) (a' := ?_) #[true, true, true, true, true, false, false, false, false, false, false, false, false] rfl rfl (by kernel_rfl) (fun _ _ _ h => h) (Or.inr ⟨by rfl, rfl⟩) ?_ ?_
                    rotate_left
                    · simp only [Act.put, List.setIfInBounds_toArray, List.set_cons_zero, List.set_cons_succ, i64_w, i32_w]
                      rfl
                    refine pure_ (i := 5) (N := some 139) (v := undef) (a' := ?_) #[true, true, true, true, true, true, false, false, false, false, false, false, false] rfl rfl (by kernel_rfl) (fun _ _ _ h => h) (Or.inr ⟨by rfl, rfl⟩) ?_ ?_
                    rotate_left
                    · simp only [Act.put, List.setIfInBounds_toArray, List.set_cons_zero, List.set_cons_succ, i64_w, i32_w]
                      rfl
                    refine pure_ (i := 6) (N := some 140) (v := undef) (a' := ?_) #[true, true, true, true, true, true, true, false, false, false, false, false, false] rfl rfl (by kernel_rfl) (fun _ _ _ h => h) (Or.inr ⟨by rfl, rfl⟩) ?_ ?_
                    rotate_left
                    · simp only [Act.put, List.setIfInBounds_toArray, List.set_cons_zero, List.set_cons_succ, i64_w, i32_w]
                      rfl
                    refine pure_ (i := 7) (N := some 141) (v := undef) (a' := ?_) #[true, true, true, true, true, true, true, true, false, false, false, false, false] rfl rfl (by kernel_rfl) (fun _ _ _ h => h) (Or.inr ⟨by rfl, rfl⟩) ?_ ?_
                    rotate_left
                    · simp only [Act.put, List.setIfInBounds_toArray, List.set_cons_zero, List.set_cons_succ, i64_w, i32_w]
                      rfl
                    refine pure_ (i := 8) (N := some 142) (v := undef) (a' := ?_) #[true, true, true, true, true, true, true, true, true, false, false, false, false] rfl rfl (by kernel_rfl) (fun _ _ _ h => h) (Or.inr ⟨by rfl, rfl⟩) ?_ ?_
                    rotate_left
                    · simp only [Act.put, List.setIfInBounds_toArray, List.set_cons_zero, List.set_cons_succ, i64_w, i32_w]
                      rfl
                    refine pure_ (i := 9) (N := some 143) (v := undef) (a' := ?_) #[true, true, true, true, true, true, true, true, true, true, false, false, false] rfl rfl (by kernel_rfl) (fun _ _ _ h => h) (Or.inr ⟨by rfl, rfl⟩) ?_ ?_
                    rotate_left
                    · simp only [Act.put, List.setIfInBounds_toArray, List.set_cons_zero, List.set_cons_succ, i64_w, i32_w]
                      rfl
                    refine pure_ (i := 10) (N := some 144) (v := undef) (a' := ?_) #[true, true, true, true, true, true, true, true, true, true, true, false, false] rfl rfl (by kernel_rfl) (fun _ _ _ h => h) (Or.inr ⟨by rfl, rfl⟩) ?_ ?_
                    rotate_left
                    · simp only [Act.put, List.setIfInBounds_toArray, List.set_cons_zero, List.set_cons_succ, i64_w, i32_w]
                      rfl
                    refine pure_ (i := 11) (N := some 145) (v := undef) (a' := ?_) #[true, true, true, true, true, true, true, true, true, true, true, true, false] rfl rfl (by kernel_rfl) (fun _ _ _ h => h) (Or.inr ⟨by rfl, rfl⟩) ?_ ?_
                    rotate_left
                    · simp only [Act.put, List.setIfInBounds_toArray, List.set_cons_zero, List.set_cons_succ, i64_w, i32_w]
                      rfl
                    refine pure_ (i := 12) (N := some 146) (v := ?_) (a' := ?_) #[true, true, true, true, true, true, true, true, true, true, true, true, true] rfl rfl (by kernel_rfl) (fun _ _ _ h => h) (Or.inl ⟨by rfl, ?_⟩) ?_ ?_
                    rotate_left
                    · intro w'
                      go_simp
                      with_reducible rfl
                    rotate_left
                    · simp only [Act.put, List.setIfInBounds_toArray, List.set_cons_zero, List.set_cons_succ, i64_w, i32_w]
                      rfl
                    refine done_ (by kernel_rfl) ?_
                    go_wp2
                    go_roundw
                    case rel => exact ⟨kk + 1, by go_num, by omega, HL14, HU14⟩
                    case measure => simp [intOf]; omega
                · go_wp2_with (first | (go_at_call 15; refine HL12.out.X.entities.mono ?_; rintro e w71 ⟨rfl, rfl⟩) | (go_at_call 19; refine (awake_calls _).mono ?_; rintro e w90 ⟨rfl, hb⟩; have HBE := Aside0.mk (below_step HL12.out.B hb); clear hb))
                  go_ret
                  exact ⟨rfl, HBE.out⟩
end Go.Proofs.Ytdaadmjppikebaa.SC

/- What the readings of a law's arguments (a conf, a script, numbers) say of cells. -/
namespace Go.Proofs.Ytdaadmjppikebaa.SC
open Go.RowKit Go.Proofs.YtdaadmjppikebaaW.PrintWords Go.Proofs.Ytdaadmjppikebaa.Opn Go.WideShapes
open Go.Proofs.Ytdaadmjppikebaa.PV (S29 k29)
set_option linter.unusedVariables false
set_option maxRecDepth 100000

theorem list3 {α : Type} {l : List α} (h : l.length = 3) : ∃ a b c, l = [a, b, c] := by
  match l, h with
  | [a, b, c], _ => exact ⟨a, b, c, rfl⟩
theorem list5 {α : Type} {l : List α} (h : l.length = 5) : ∃ a b c d e, l = [a, b, c, d, e] := by
  match l, h with
  | [a, b, c, d, e], _ => exact ⟨a, b, c, d, e, rfl⟩
theorem cells3 : Try.prog.cellsOf 3 = 1 := by kernel_rfl
theorem cells4 : Try.prog.cellsOf 4 = 1 := by kernel_rfl
theorem cells23 : Try.prog.cellsOf 23 = 1 := by kernel_rfl
theorem cells25 : Try.prog.cellsOf 25 = 1 := by kernel_rfl
theorem cells27 : Try.prog.cellsOf 27 = 5 := by kernel_rfl
theorem cells29 : Try.prog.cellsOf 29 = 3 := by kernel_rfl
theorem cells48 : Try.prog.cellsOf 48 = 3 := by kernel_rfl
theorem fld {H : Type} {enc : TypeId × Value → H} {w : World} {n t off k : Nat} {cs : List Value} {y : DataW H × List MemPlace} (hc : Try.prog.cellsOf t = k) (h : DataW.trod enc Try.prog w 0 (fun _ => true) true n t ((cs.drop off).take (Try.prog.cellsOf t)) = some y) : DataW.trod enc Try.prog w 0 (fun _ => true) true n t ((cs.drop off).take k) = some y := by
  rw [hc] at h; exact h
def G29 (_ : Nat) (_ : S29) : Prop := True
def G48 (_ : Nat) (x : S48) : Prop := (Lit.int .u64 x.f2).wf = true
theorem opens29 : Opens Try.prog 29 k29 G29 := by
  intro H enc w fuel cs x h
  obtain ⟨n, hl, hf⟩ := opens_fields Try.underlying29 h
  rw [cells29] at hl
  obtain ⟨c0, c1, c2, rfl⟩ := list3 hl
  obtain ⟨y0, h0, b0⟩ := hf 0 _ rfl
  obtain ⟨y1, h1, b1⟩ := hf 1 _ rfl
  obtain ⟨y2, h2, b2⟩ := hf 2 _ rfl
  have h0 : DataW.trod enc Try.prog w 0 (fun _ => true) true n 3 [c0] = some y0 := fld (t := 3) (off := 0) (cs := [c0, c1, c2]) cells3 h0
  have h1 : DataW.trod enc Try.prog w 0 (fun _ => true) true n 3 [c1] = some y1 := fld (t := 3) (off := 1) (cs := [c0, c1, c2]) cells3 h1
  have h2 : DataW.trod enc Try.prog w 0 (fun _ => true) true n 4 [c2] = some y2 := fld (t := 4) (off := 2) (cs := [c0, c1, c2]) cells4 h2
  obtain ⟨a0, k0, _⟩ := opens_int Try.underlying3 enc w n _ _ h0
  obtain ⟨a1, k1, _⟩ := opens_int Try.underlying3 enc w n _ _ h1
  obtain ⟨a2, k2, _⟩ := opens_bool Try.underlying4 enc w n _ _ h2
  obtain rfl : c0 = .int .i64 a0 := by simpa using (show [c0] = [Value.int .i64 a0] from k0)
  obtain rfl : c1 = .int .i64 a1 := by simpa using (show [c1] = [Value.int .i64 a1] from k1)
  obtain rfl : c2 = .bool a2 := by simpa using (show [c2] = [Value.bool a2] from k2)
  exact ⟨⟨a0, a1, a2⟩, PV.k29_mk w ⟨a0, a1, a2⟩, trivial⟩
theorem k48_mk (w : World) (x : S48) : k48.K w x [.int .i64 x.f0, .int .i64 x.f1, .int .u64 x.f2] := ⟨[.int .i64 x.f0], [.int .i64 x.f1, .int .u64 x.f2], rfl, rfl, ⟨[.int .i64 x.f1], [.int .u64 x.f2], rfl, rfl, rfl⟩⟩
theorem opens48 : Opens Try.prog 48 k48 G48 := by
  intro H enc w fuel cs x h
  obtain ⟨n, hl, hf⟩ := opens_fields Try.underlying48 h
  rw [cells48] at hl
  obtain ⟨c0, c1, c2, rfl⟩ := list3 hl
  obtain ⟨y0, h0, b0⟩ := hf 0 _ rfl
  obtain ⟨y1, h1, b1⟩ := hf 1 _ rfl
  obtain ⟨y2, h2, b2⟩ := hf 2 _ rfl
  have h0 : DataW.trod enc Try.prog w 0 (fun _ => true) true n 3 [c0] = some y0 := fld (t := 3) (off := 0) (cs := [c0, c1, c2]) cells3 h0
  have h1 : DataW.trod enc Try.prog w 0 (fun _ => true) true n 3 [c1] = some y1 := fld (t := 3) (off := 1) (cs := [c0, c1, c2]) cells3 h1
  have h2 : DataW.trod enc Try.prog w 0 (fun _ => true) true n 23 [c2] = some y2 := fld (t := 23) (off := 2) (cs := [c0, c1, c2]) cells23 h2
  obtain ⟨a0, k0, _⟩ := opens_int Try.underlying3 enc w n _ _ h0
  obtain ⟨a1, k1, _⟩ := opens_int Try.underlying3 enc w n _ _ h1
  obtain ⟨a2, k2, _, g2⟩ := opens_int Try.underlying23 enc w n _ _ h2
  obtain rfl : c0 = .int .i64 a0 := by simpa using (show [c0] = [Value.int .i64 a0] from k0)
  obtain rfl : c1 = .int .i64 a1 := by simpa using (show [c1] = [Value.int .i64 a1] from k1)
  obtain rfl : c2 = .int .u64 a2 := by simpa using (show [c2] = [Value.int .u64 a2] from k2)
  exact ⟨⟨a0, a1, a2⟩, k48_mk w ⟨a0, a1, a2⟩, g2⟩
/-- A conf that was read. -/
theorem open_C {H : Type} {enc : TypeId × Value → H} {w : World} {v : Value} {d : DataW H} {p : List MemPlace} {r : Reach} {base : Nat} (hv : Value.okWide Try.prog w r base 27 v) (h : DataW.Trod enc Try.prog w 0 (fun _ => true) true 27 v d p) :
    ∃ (a0 a1 a2 : Int) (a3 : Bool) (A : Option Addr) (c : Nat) (l : List S29), v = .agg #[.int .i64 a0, .int .i64 a1, .int .i64 a2, .bool a3, .slice A l.length c] ∧ Kd.C k29 w A l.length l ∧ l.length ≤ c ∧ l.length ≤ Rows.uptoBulk d := by
  obtain ⟨cs, rfl, hsz⟩ := okWide_struct Try.underlying27 hv
  obtain ⟨fuel, h⟩ := h
  have h' : DataW.trod enc Try.prog w 0 (fun _ => true) true fuel 27 cs.toList = some (d, p) := h
  obtain ⟨n, hl, hf⟩ := opens_fields Try.underlying27 h'
  rw [cells27] at hl
  obtain ⟨c0, c1, c2, c3, c4, hcs⟩ := list5 hl
  obtain rfl : cs = #[c0, c1, c2, c3, c4] := by cases cs; simpa using hcs
  obtain ⟨y0, h0, b0⟩ := hf 0 _ rfl
  obtain ⟨y1, h1, b1⟩ := hf 1 _ rfl
  obtain ⟨y2, h2, b2⟩ := hf 2 _ rfl
  obtain ⟨y3, h3, b3⟩ := hf 3 _ rfl
  obtain ⟨y4, h4, b4⟩ := hf 4 _ rfl
  have h0 : DataW.trod enc Try.prog w 0 (fun _ => true) true n 3 [c0] = some y0 := fld (t := 3) (off := 0) (cs := [c0, c1, c2, c3, c4]) cells3 h0
  have h1 : DataW.trod enc Try.prog w 0 (fun _ => true) true n 3 [c1] = some y1 := fld (t := 3) (off := 1) (cs := [c0, c1, c2, c3, c4]) cells3 h1
  have h2 : DataW.trod enc Try.prog w 0 (fun _ => true) true n 3 [c2] = some y2 := fld (t := 3) (off := 2) (cs := [c0, c1, c2, c3, c4]) cells3 h2
  have h3 : DataW.trod enc Try.prog w 0 (fun _ => true) true n 4 [c3] = some y3 := fld (t := 4) (off := 3) (cs := [c0, c1, c2, c3, c4]) cells4 h3
  have h4 : DataW.trod enc Try.prog w 0 (fun _ => true) true n 25 [c4] = some y4 := fld (t := 25) (off := 4) (cs := [c0, c1, c2, c3, c4]) cells25 h4
  obtain ⟨a0, k0, _⟩ := opens_int Try.underlying3 enc w n _ _ h0
  obtain ⟨a1, k1, _⟩ := opens_int Try.underlying3 enc w n _ _ h1
  obtain ⟨a2, k2, _⟩ := opens_int Try.underlying3 enc w n _ _ h2
  obtain ⟨a3, k3, _⟩ := opens_bool Try.underlying4 enc w n _ _ h3
  obtain ⟨A4, x4, l4, e4, q4, C4, g4⟩ := opens_row (d := k29) (G := G29) Try.underlying25 opens29 cells29 h4
  obtain rfl : c0 = .int .i64 a0 := by simpa using (show [c0] = [Value.int .i64 a0] from k0)
  obtain rfl : c1 = .int .i64 a1 := by simpa using (show [c1] = [Value.int .i64 a1] from k1)
  obtain rfl : c2 = .int .i64 a2 := by simpa using (show [c2] = [Value.int .i64 a2] from k2)
  obtain rfl : c3 = .bool a3 := by simpa using (show [c3] = [Value.bool a3] from k3)
  obtain rfl : c4 = .slice A4 l4.length x4 := by simpa using e4
  have z4 := g4.1
  simp only at b4
  exact ⟨a0, a1, a2, a3, A4, x4, l4, rfl, C4, q4, by omega⟩
/-- A script that was read. -/
theorem open_ops {H : Type} {enc : TypeId × Value → H} {w : World} {v : Value} {d : DataW H} {p : List MemPlace} {r : Reach} {base : Nat} (hv : Value.okWide Try.prog w r base 45 v) (h : DataW.Trod enc Try.prog w 0 (fun _ => true) true 45 v d p) :
    ∃ (A : Option Addr) (c : Nat) (ls : List S48), v = .slice A ls.length c ∧ Kd.C k48 w A ls.length ls ∧ ls.length ≤ c ∧ ls.length ≤ Rows.uptoBulk d := by
  obtain ⟨a, len, cap, rfl⟩ := okWide_slice Try.underlying45 hv
  obtain ⟨fuel, h⟩ := h
  obtain ⟨A, c, ls, e, l, C, g⟩ := opens_row (d := k48) (G := G48) Try.underlying45 opens48 cells48 h
  have e' : Value.slice a len cap = .slice A ls.length c := by simpa [Value.cells] using e
  exact ⟨A, c, ls, e', C, l, by have := g.1; simp only at this; omega⟩
end Go.Proofs.Ytdaadmjppikebaa.SC

/- SchedRemoves: whatever the arguments are that read as data, it gives true. -/
namespace Go.Proofs.Ytdaadmjppikebaa.SC
open Go.RowKit Go.Proofs.Ytdaadmjppikebaa.Opn Go.WideShapes Go.Proofs.YtdaadmjppikebaaW.PrintWords
theorem bulk4 {H : Type} {d0 d1 d2 d3 : DataW H} (h : Rows.uptoBulkAll [d0, d1, d2, d3] ≤ 1048576) : Rows.uptoBulk d1 ≤ 1048576 ∧ Rows.uptoBulk d3 ≤ 1048576 := by
  simp only [Rows.uptoBulkAll] at h; omega
set_option maxRecDepth 100000 in
theorem schedRemoves_core (H : Type) (enc : TypeId × Value → H) (W : World) (base : Nat) (v0 v1 v2 v3 : Value) (d0 d1 d2 d3 : DataW H) (p0 p1 p2 p3 : List MemPlace)
    (o0 : Value.okWide Try.prog W .any base 27 v0) (h0 : DataW.Trod enc Try.prog W 0 (fun _ => true) true 27 v0 d0 p0)
    (o1 : Value.okWide Try.prog W .any base 45 v1) (h1 : DataW.Trod enc Try.prog W 0 (fun _ => true) true 45 v1 d1 p1)
    (o2 : Value.okWide Try.prog W .any base 3 v2) (_ : DataW.Trod enc Try.prog W 0 (fun _ => true) true 3 v2 d2 p2)
    (o3 : Value.okWide Try.prog W .any base 45 v3) (h3 : DataW.Trod enc Try.prog W 0 (fun _ => true) true 45 v3 d3 p3) (hb : Rows.uptoBulkAll [d0, d1, d2, d3] ≤ 1048576) :
    Calls Try.prog 10 #[v0, v1, v2, v3] W fun e W' => e = .returned (.bool true) ∧ Below W.heap.size W W' := by
  obtain ⟨hb0, hb1⟩ := bulk4 hb
  obtain ⟨a0, a1, a2, a3, A, c, l, rfl, hC, hl, _⟩ := open_C o0 h0
  obtain ⟨A1, c1, l1, rfl, hC1, hl1, hb2⟩ := open_ops o1 h1
  obtain ⟨n2, rfl⟩ := okWide_int Try.underlying3 o2
  obtain ⟨A3, c3, l3, rfl, hC3, hl3, hb3⟩ := open_ops o3 h3
  exact removes_calls hC hl hC1 hl1 (by omega) hC3 hl3 (by omega)
end Go.Proofs.Ytdaadmjppikebaa.SC
