/- Parts of the walk of package sched, merged. -/
/- SchedPlays: the document's tick. -/
import Derived.Test.YtdaadmjppikebaaK13
namespace Go.Proofs.Ytdaadmjppikebaa.SC
open Go.RowKit Go.Proofs.YtdaadmjppikebaaW.PrintWords Go.Proofs.YtdaadmjppikebaaW.PrintLast
open Go.Proofs.Ytdaadmjppikebaa.PV (S94 k94 S29 k29 rd_T94 rd_T29)
set_option linter.unusedVariables false
set_option linter.unusedSimpArgs false

theorem RPost.of {W W' : World} {own own2 : Nat → Prop} {L : RLy} {s2 : SS} {qs : List Value} {us : List Int} (h : RS W' own2 { L with qs := qs, us := us } s2) (hm : Mut own W W') (h1 : ∀ k, own k → own2 k) (h2 : ∀ k, own2 k → own k ∨ W.heap.size ≤ k) : RPost W own L s2 W' := ⟨own2, qs, us, h, hm, h1, h2⟩
/-- Partitioned, whoever is picked is he whose turn it is. -/
theorem pick_whose {s : SS} {h : Nat} {rb : List Bool} (hh : (h : Int) < s.H) (hg : gangF s < 0) (hcr : s.cr = false) : (pickF s h rb).2 = s ∧ (0 ≤ (pickF s h rb).1 → (pickF s h rb).1 = whoseF s h) := by
  unfold pickF
  rw [if_neg (by omega), if_neg (by omega), if_neg (by rw [hcr]; decide)]
  refine ⟨rfl, fun h0 => ?_⟩
  unfold byTurnF at h0 ⊢
  by_cases c : 0 ≤ whoseF s h ∧ readyF s rb (whoseF s h) = true
  · rw [if_pos c]
  · rw [if_neg c] at h0; have h' : (0 : Int) ≤ -1 := h0; omega
theorem modE_modC (s : SS) (i j : Nat) (f : SE → SE) (g : Int → Int) : (s.modE i f).modC j g = (s.modC j g).modE i f := rfl
theorem credit_cu {s : SS} (hw : Wf s) {h : Nat} {rb : List Bool} (hh : (h : Int) < s.H) (hg : gangF s < 0) (hcr : s.cr = true) (he : 0 ≤ (pickF s h rb).1) : ((pickF s h rb).2.trn h).us < s.S ∧ ((pickF s h rb).2.trn h).cu = (pickF s h rb).1 := by
  have e : pickF s h rb = byCreditF s h rb := by unfold pickF; rw [if_neg (by omega), if_neg (by omega), if_pos hcr, Int.toNat_natCast]
  rw [e] at he ⊢
  exact (byCreditF_pk hw (by have := hw.tn; omega) rb).2 he
set_option maxRecDepth 100000 in
set_option maxHeartbeats 8000000 in
theorem rtick_gang_true {W : World} {own : Nat → Prop} {L : RLy} {s : SS} {rd : List Bool} {A : Option Addr} {c : Nat} (h : RS W own L s) (hw : Wf s) (hq : QX s) (hn : s.now ≤ 288230376151711744) (hcc : CntC s 0) (hcr : CntR s 0) (hr : RD W rd A c) (hno : ∀ ad, A = some ad → ¬ own ad.block ∧ ad.block < W.heap.size) (hcv : s.cr = true) (hg : 0 ≤ gangF s) :
    Calls Try.prog 33 #[.pointer (some ⟨L.b, 0, none⟩), .slice A rd.length c] W fun x w' => x = .returned (.tuple #[]) ∧ RPost W own L (tickF s rd) w' := by
  have HW := Aside0.mk hw
  have HQ := Aside0.mk hq
  have HR := Aside0.mk h
  have HD := Aside0.mk hr
  have HNO := Aside0.mk hno
  have HCV := Aside0.mk hcv
  have HG := Aside0.mk (rgang_calls h hw)
  have HCC := Aside0.mk hcc
  have HCR := Aside0.mk hcr
  have HNN := Aside0.mk hn
  have hH1 := hw.H1
  have hH8 := hw.H8
  have hgr := gangF_range s
  have hgm := hw.gm
  have HLI := Aside0.mk hgr
  obtain ⟨g, hge⟩ : ∃ g, g = gangF s := ⟨_, rfl⟩
  rw [← hge] at HG HLI hg hgr
  have HGE := Aside0.mk hge
  have d1 : decide (0 ≤ g) = true := decide_eq_true hg
  have d2 : decide (g < 0) = false := decide_eq_false (by omega)
  obtain ⟨gi, hgi⟩ := Int.eq_ofNat_of_zero_le hg
  have HGI := Aside0.mk hgi
  have hgl : gi < s.gs.length := by omega
  rw [hgi] at HG d1 d2
  clear hgi
  clear h hw hq hr hno hcv hcc hcr hn hge hgr
  go_enter Try.func33, Try.ntmps33
  go_wp2_with (go_at_call 53; refine HG.out.mono ?_; rintro e w0 ⟨rfl, hb⟩; have HB0 := Aside0.mk hb; clear hb)
  go_loopw [5] (fun v5 w' => ∃ (k : Nat) (sk : SS) (ownk : Nat → Prop) (qsk : List Value) (usk : List Int), v5 = .int .i64 (k : Int) ∧ (k : Int) ≤ s.H ∧ Aside0 (tickFrom g rd (s.H.toNat - k) k sk = tickFrom g rd s.H.toNat 0 s) ∧ Aside0 (TK s sk) ∧ Aside0 (QX sk) ∧ Aside0 (CntC sk k) ∧ Aside0 (CntR sk k) ∧ Aside0 (RS w' ownk { L with qs := qsk, us := usk } sk) ∧ Aside0 (Mut own W w') ∧ Aside0 (∀ k, own k → ownk k) ∧ Aside0 (∀ k, ownk k → own k ∨ W.heap.size ≤ k)) (fun v5 _ => s.H.toNat - (intOf v5).toNat)
  case atStart => exact ⟨0, s, own, L.qs, L.us, rfl, by omega, ⟨rfl⟩, ⟨⟨St.refl s, HW.out, rfl, rfl⟩⟩, HQ, HCC, HCR, ⟨HR.out.below HB0.out⟩, ⟨Mut.of_below HB0.out own⟩, ⟨fun _ h => h⟩, ⟨fun _ h => .inl h⟩⟩
  case round =>
    obtain ⟨k, sk, ownk, qsk, usk, rfl, hk, HT, HTK, HQK, HCK, HRK, HSk, HMk, HO1, HO2⟩ := hrel
    clear HB0 HCC HCR HQ
    have c0 : wr.cell? ⟨L.b, 0, none⟩ = some (.int .i64 s.H) := by have := HSk.out.fld 0 rfl; rw [HTK.out.st.H] at this; exact this
    by_cases hlt : (k : Int) < s.H
    · have HT1 := Aside0.mk ((tickFrom_succ g rd (show k < s.H.toNat by omega) sk).symm.trans HT.out)
      have HDk := Aside0.mk (HD.out.mut HMk.out (fun ad e => (HNO.out ad e).1))
      have HNk := Aside0.mk (show ∀ ad, A = some ad → ¬ ownk ad.block from fun ad e ho => (HO2.out _ ho).elim (HNO.out ad e).1 (fun h => by have := (HNO.out ad e).2; omega))
      have HGK := Aside0.mk (show g = gangF sk by rw [HGE.out, HTK.out.st.gang HTK.out.now])
      have HTT := Aside0.mk (tickH_tk HTK.out.wf HGK.out (h := k) (by rw [HTK.out.st.H]; exact hlt) rd HCK.out HRK.out)
      have HQT := Aside0.mk (tickH_qx HTK.out.wf HGK.out (h := k) (by rw [HTK.out.st.H]; exact hlt) rd HQK.out)
      have HPK := Aside0.mk (show PK sk k (pickF sk k rd).1 (pickF sk k rd).2 by have := pickF_pk HTK.out.wf (k : Int) rd; rwa [Int.toNat_natCast] at this)
      have HTH := Aside0.mk (show tickH sk g k rd = ranF (chargeF (pickF sk k rd).2 g k (pickF sk k rd).1) g k (pickF sk k rd).1 from rfl)
      have hkt : k < sk.ts.length := by have := HTK.out.wf.tn; rw [HTK.out.st.H] at this; omega
      clear HT
      go_upto_region 5 with (go_at_call 34; refine (rpick_calls HSk.out HTK.out.wf HDk.out HNk.out (k : Int)).mono ?_; rintro e w2 ⟨rfl, hp⟩; have HP := Aside0.mk hp; clear hp)
      obtain ⟨e, he⟩ : ∃ e, e = (pickF sk k rd).1 := ⟨_, rfl⟩
      obtain ⟨s2, hs2⟩ : ∃ s2, s2 = (pickF sk k rd).2 := ⟨_, rfl⟩
      rw [← he, ← hs2] at HPK HTH
      rw [← hs2] at HP
      rw [← he]
      have HE := Aside0.mk he
      have HS2E := Aside0.mk hs2
      obtain ⟨own2, qs2, us2, hsr, hmm, ho1, ho2⟩ := HP.out
      have HS2 := Aside0.mk (show RS w2 own2 { L with qs := qs2, us := us2 } s2 from hsr)
      have HM2 := Aside0.mk (HMk.out.trans hmm (fun k hk => HO2.out k hk))
      have HO3 := Aside0.mk (show ∀ k, own k → own2 k from fun k h => ho1 k (HO1.out k h))
      have HO4 := Aside0.mk (show ∀ k, own2 k → own k ∨ W.heap.size ≤ k from fun k h => (ho2 k h).elim (HO2.out k) (fun h => .inr (Nat.le_trans HMk.out.size h)))
      have hch2 : s2.ch.length = s.gs.length := by rw [HPK.out.wf.cn, HPK.out.st.gs, HTK.out.st.gs]
      have hcr2 : s2.cr = true := by rw [HPK.out.st.cr, HTK.out.st.cr]; exact HCV.out
      have hem := HPK.out.wf.em
      have hcap := HS2.out.cap
      have hnow : s2.now = s.now := by rw [HPK.out.now, HTK.out.now]
      have HC2 := Aside0.mk (show CntC s2 k from fun i hi => by rw [HPK.out.ch, HPK.out.now]; exact HCK.out i (by rw [← HPK.out.ch]; exact hi))
      have HR2 := Aside0.mk (show CntR s2 k from fun i hi => by have e : s2.ent i = sk.ent i := by { unfold SS.ent; rw [HPK.out.es] }; rw [e, HPK.out.now]; exact HRK.out i (by rw [← HPK.out.es]; exact hi))
      have HCR2 := Aside0.mk hcr2
      have HNW := Aside0.mk hnow
      clear he hs2 hsr hmm ho1 ho2 HP HSk HMk HO1 HO2 HDk hcr2 hnow c0
      by_cases he0 : 0 ≤ e
      · obtain ⟨en, hen⟩ := Int.eq_ofNat_of_zero_le he0
        have hin : en < s2.es.length := by rw [HPK.out.st.el]; rcases HPK.out.rg with h | h <;> omega
        have HEE := Aside0.mk hen
        rw [hen]
        have e1 : decide (0 ≤ ((en : Nat) : Int)) = true := decide_eq_true (by omega)
        have c5 := HS2.out.fld 5 rfl
        have y6 := HS2.out.ent en 6 hin (by decide) rfl
        have f6 := HS2.out.E.frozen (en * 9 + 6)
        have hrn := HR2.out en hin
        have hrn1 : 0 ≤ (s2.ent en).rn := hrn.1
        have hrn2 : (s2.ent en).rn ≤ 4611686018427387903 := by have := hrn.2; have := HNN.out; rw [HNW.out] at *; omega
        have hs3 := HS2.out.putE en 6 hin (by decide) (.int .u64 ((s2.ent en).rn + 1)) (fun x => { x with rn := x.rn + 1 }) ⟨rfl, rfl⟩ rfl
        obtain ⟨w3, hw3⟩ : ∃ w3, w3 = w2.setCell ⟨L.be, en * 9 + 6, none⟩ (.int .u64 ((s2.ent en).rn + 1)) := ⟨_, rfl⟩
        have HM3 := Aside0.mk (show Mut own W w3 by rw [hw3]; exact HM2.out.setCell (HO4.out _ HS2.out.ob.2.1) _)
        rw [← hw3] at hs3
        obtain ⟨s3, hs3e⟩ : ∃ s3, s3 = s2.modE en (fun x => { x with rn := x.rn + 1 }) := ⟨_, rfl⟩
        rw [← hs3e] at hs3
        have HS3 := Aside0.mk hs3
        have HS3E := Aside0.mk hs3e
        have HST3 := Aside0.mk (show St s2 s3 by rw [hs3e]; exact St.modE s2 en _ (fun _ => ⟨rfl, rfl, rfl⟩))
        have HCH3 := Aside0.mk (show s3.ch = s2.ch by rw [hs3e]; rfl)
        have HTS3 := Aside0.mk (show s3.ts = s2.ts by rw [hs3e]; rfl)
        have HSH3 := Aside0.mk (show s3.sh = s2.sh by rw [hs3e]; rfl)
        have hcr3 : s3.cr = true := by rw [HST3.out.cr]; exact HCR2.out
        have HEN3 := Aside0.mk (show s3.ent en = { s2.ent en with rn := (s2.ent en).rn + 1 } by rw [hs3e, modE_ent _ hin, if_pos rfl])
        have hin3 : en < s3.es.length := by rw [HST3.out.el]; exact hin
        clear hs3 hs3e hrn
        go_upto_region 7 with (fail)
        rw [← hw3]
        have HWF3 := Aside0.mk (show Wf s3 by rw [HS3E.out]; exact HPK.out.wf.modE en hin _ (fun _ => ⟨rfl, rfl, rfl⟩) (HPK.out.wf.ec en hin))
        clear hw3 c5 y6 f6
        have hgc : gi < s3.ch.length := by rw [HCH3.out, hch2]; exact hgl
        have cg := HS3.out.chg gi hgc
        have fg := HS3.out.C.frozen gi
        have c8 := HS3.out.fld 8 rfl
        have hcb := HC2.out gi (by rw [← HCH3.out]; exact hgc)
        rw [← HCH3.out] at hcb
        obtain ⟨cn, hcn⟩ : ∃ cn, cn = s3.ch.getD gi 0 := ⟨_, rfl⟩
        rw [← hcn] at cg hcb
        have hcb1 : 0 ≤ cn := hcb.1
        have hcb2 : cn ≤ 4611686018427387903 := by have := hcb.2; have := HNN.out; rw [HNW.out] at *; omega
        have ec1 : IntKind.u64.wrap (cn + 1) = cn + 1 := IntWalk.u64_in _ ⟨by omega, by omega⟩
        have hcl : s3.ch.length ≤ 8 := by rw [HCH3.out, hch2]; exact hgm
        have hs4 := HS3.out.putC gi hgc (cn + 1) (· + 1) (by rw [← hcn])
        have hm4 : Mut own W ((w3).setCell ⟨L.bc, gi, none⟩ (.int .u64 (cn + 1))) := HM3.out.setCell (HO4.out _ HS2.out.ob.2.2.1) _
        clear hcn hcb
        go_wp2
        have HSF := Aside0.mk hs4
        have HMF := Aside0.mk hm4
        have HFIN := Aside0.mk (show tickH sk g k rd = s3.modC gi (· + 1) by rw [HTH.out, HS3E.out]; unfold ranF chargeF; rw [if_pos hg, HEE.out, if_neg (by omega), if_neg (fun hc => by omega), HGI.out, Int.toNat_natCast, Int.toNat_natCast]; rfl)
        go_roundw
        case rel => exact ⟨k + 1, tickH sk g k rd, own2, qs2, us2, by go_num, by omega, HT1, ⟨HTK.out.trans HTT.out.1⟩, HQT, ⟨by have := HTT.out.2.1; push_cast; exact this⟩, ⟨by have := HTT.out.2.2; push_cast; exact this⟩, ⟨by rw [HFIN.out]; exact HSF.out⟩, HMF, HO3, HO4⟩
        case measure => (simp [intOf] <;> omega)
      · have e1 : decide (0 ≤ e) = false := decide_eq_false he0
        have HEN0 := Aside0.mk (show e < 0 by omega)
        obtain ⟨w3, hw3⟩ : ∃ w3, w3 = w2 := ⟨_, rfl⟩
        obtain ⟨s3, hs3⟩ : ∃ s3, s3 = s2 := ⟨_, rfl⟩
        have HS3 := Aside0.mk (show RS w3 own2 { L with qs := qs2, us := us2 } s3 by rw [hw3, hs3]; exact HS2.out)
        have HM3 := Aside0.mk (show Mut own W w3 by rw [hw3]; exact HM2.out)
        have HS3E := Aside0.mk hs3
        have HST3 := Aside0.mk (show St s2 s3 by rw [hs3]; exact St.refl _)
        have HCH3 := Aside0.mk (show s3.ch = s2.ch by rw [hs3])
        have HSH3 := Aside0.mk (show s3.sh = s2.sh by rw [hs3])
        have hcr3 : s3.cr = true := by rw [hs3]; exact HCR2.out
        have HWF3 := Aside0.mk (show Wf s3 by rw [hs3]; exact HPK.out.wf)
        go_upto_region 7 with (fail)
        rw [← hw3]
        clear hw3 hs3
        have hgc : gi < s3.ch.length := by rw [HCH3.out, hch2]; exact hgl
        have cg := HS3.out.chg gi hgc
        have fg := HS3.out.C.frozen gi
        have c8 := HS3.out.fld 8 rfl
        have hcb := HC2.out gi (by rw [← HCH3.out]; exact hgc)
        rw [← HCH3.out] at hcb
        obtain ⟨cn, hcn⟩ : ∃ cn, cn = s3.ch.getD gi 0 := ⟨_, rfl⟩
        rw [← hcn] at cg hcb
        have hcb1 : 0 ≤ cn := hcb.1
        have hcb2 : cn ≤ 4611686018427387903 := by have := hcb.2; have := HNN.out; rw [HNW.out] at *; omega
        have ec1 : IntKind.u64.wrap (cn + 1) = cn + 1 := IntWalk.u64_in _ ⟨by omega, by omega⟩
        have hcl : s3.ch.length ≤ 8 := by rw [HCH3.out, hch2]; exact hgm
        have hs4 := HS3.out.putC gi hgc (cn + 1) (· + 1) (by rw [← hcn])
        have hm4 : Mut own W ((w3).setCell ⟨L.bc, gi, none⟩ (.int .u64 (cn + 1))) := HM3.out.setCell (HO4.out _ HS2.out.ob.2.2.1) _
        clear hcn hcb
        go_wp2
        have HSF := Aside0.mk hs4
        have HMF := Aside0.mk hm4
        have HFIN := Aside0.mk (show tickH sk g k rd = s3.modC gi (· + 1) by rw [HTH.out, HS3E.out]; unfold ranF chargeF; rw [if_pos HEN0.out, if_pos hg, HGI.out, Int.toNat_natCast])
        go_roundw
        case rel => exact ⟨k + 1, tickH sk g k rd, own2, qs2, us2, by go_num, by omega, HT1, ⟨HTK.out.trans HTT.out.1⟩, HQT, ⟨by have := HTT.out.2.1; push_cast; exact this⟩, ⟨by have := HTT.out.2.2; push_cast; exact this⟩, ⟨by rw [HFIN.out]; exact HSF.out⟩, HMF, HO3, HO4⟩
        case measure => (simp [intOf] <;> omega)
    · have HTF := Aside0.mk (show tickFrom g rd s.H.toNat 0 s = sk by have := HT.out; rw [show s.H.toNat - k = 0 by omega] at this; exact this.symm)
      have HTU := Aside0.mk (show tickF s rd = if (tickE sk g).now % (tickE sk g).P = 0 ∧ (tickE sk g).cr = true then giveF (tickE sk g) else tickE sk g by unfold tickF; rw [← HGE.out, HTF.out])
      have HWE := Aside0.mk (tickE_wf HTK.out.wf g (by rw [HTK.out.now]; have := HNN.out; omega))
      have hnk : sk.now ≤ 288230376151711744 := by rw [HTK.out.now]; exact HNN.out
      have hn0 := HTK.out.wf.nw.1
      have hsw := HTK.out.wf.sw
      have hP1 := HTK.out.wf.P1
      have hP2 := HTK.out.wf.P2
      have c6 : wr.cell? ⟨L.b, 6, none⟩ = some (.int .u64 sk.now) := HSk.out.fld 6 rfl
      have c7 : wr.cell? ⟨L.b, 7, none⟩ = some (.int .u64 sk.sh) := HSk.out.fld 7 rfl
      have f6 : wr.frozen? ⟨L.b, 6, none⟩ = false := HSk.out.S.frozen _
      have f7 : wr.frozen? ⟨L.b, 7, none⟩ = false := HSk.out.S.frozen _
      have hsh1 : 0 ≤ sk.sh := hsw.1
      have hsh2 : sk.sh ≤ 288230376151711744 := by have := hsw.2; omega
      clear hsw
      obtain ⟨wa, hwa⟩ : ∃ wa, wa = wr := ⟨_, rfl⟩
      obtain ⟨sa, hsa⟩ : ∃ sa, sa = sk := ⟨_, rfl⟩
      have HSA := Aside0.mk (show RS wa ownk { L with qs := qsk, us := usk } sa by rw [hwa, hsa]; exact HSk.out)
      have HMA := Aside0.mk (show Mut own W wa by rw [hwa]; exact HMk.out)
      have HTE := Aside0.mk (show ({ sa with now := sk.now + 1 } : SS) = tickE sk g by unfold tickE; rw [hsa, if_neg (by omega)])
      go_upto_region 19 with (fail)
      rw [← hwa]
      have q6 : wa.cell? ⟨L.b, 6, none⟩ = some (.int .u64 sk.now) := by have := HSA.out.fld 6 rfl; rw [show sa.now = sk.now by rw [hsa]] at this; exact this
      have g6 : wa.frozen? ⟨L.b, 6, none⟩ = false := HSA.out.S.frozen _
      have hsb := HSA.out.putN (sk.now + 1)
      rw [HTE.out] at hsb
      obtain ⟨wb, hwb⟩ : ∃ wb, wb = wa.setCell ⟨L.b, 6, none⟩ (.int .u64 (sk.now + 1)) := ⟨_, rfl⟩
      rw [← hwb] at hsb
      have HMB := Aside0.mk (show Mut own W wb by rw [hwb]; exact HMA.out.setCell (HO2.out _ HSk.out.ob.1) _)
      have HSB := Aside0.mk hsb
      clear hsb hwa hsa HSA HMA HTE c6 c7 f6 f7
      go_upto_region 20 with (fail)
      rw [← hwb]
      clear hwb q6 g6
      have r6 : wb.cell? ⟨L.b, 6, none⟩ = some (.int .u64 (sk.now + 1)) := HSB.out.fld 6 rfl
      have r2 : wb.cell? ⟨L.b, 2, none⟩ = some (.int .i64 sk.P) := HSB.out.fld 2 rfl
      have wu : IntKind.u64.wrap sk.P = sk.P := IntWalk.u64_in _ ⟨by omega, by omega⟩
      have hpz : ¬ sk.P = 0 := by omega
      have r1 : 0 ≤ (sk.now + 1) % sk.P := Int.emod_nonneg _ hpz
      have HKE := Aside0.mk (show (tickE sk g).now = sk.now + 1 ∧ (tickE sk g).P = sk.P ∧ (tickE sk g).cr = true from ⟨rfl, rfl, by show sk.cr = _; rw [HTK.out.st.cr]; exact HCV.out⟩)
      go_quiet (fail)
      have HSC := Aside0.mk (HSB.out.drewN nq)
      have HMC := Aside0.mk (HMB.out.below (pw_below_drewN (Below.refl _ _) nq))
      obtain ⟨wc, hwc⟩ : ∃ wc, wc = wb.drewN nq := ⟨_, rfl⟩
      rw [← hwc] at HSC HMC ⊢
      clear hwc r6 r2 HSB HMB
      by_cases hz : (sk.now + 1) % sk.P = 0
      · have bz : ((sk.now + 1) % sk.P == 0) = true := by simpa using hz
        have bz2 : ((sk.now + 1).tmod sk.P == 0) = true := by rw [Int.tmod_eq_emod_of_nonneg (by omega)]; exact bz
        have HZ := Aside0.mk hz
        clear hz
        have HQE := Aside0.mk (show CI (tickE sk g) from HQK.out.c)
        go_wp2_with (go_at_call 52; refine (rgive_calls HSC.out HWE.out.1 HQE.out HKE.out.2.2).mono ?_; rintro e0 w10 ⟨rfl, hs10, hm10⟩; have HS10 := Aside0.mk hs10; have HM10 := Aside0.mk hm10; clear hs10 hm10)
        go_end0
        refine ⟨rfl, ?_⟩
        rw [HTU.out, if_pos ⟨by rw [HKE.out.1, HKE.out.2.1]; exact HZ.out, HKE.out.2.2⟩]
        exact RPost.of HS10.out (HMC.out.trans HM10.out (fun k hk => HO2.out k hk)) HO1.out HO2.out
      · have bz : ((sk.now + 1) % sk.P == 0) = false := by simpa using hz
        have bz2 : ((sk.now + 1).tmod sk.P == 0) = false := by rw [Int.tmod_eq_emod_of_nonneg (by omega)]; exact bz
        have HZ := Aside0.mk hz
        clear hz
        go_wp2
        go_end0
        refine ⟨rfl, ?_⟩
        rw [HTU.out, if_neg (fun hc => by rw [HKE.out.1, HKE.out.2.1] at hc; exact HZ.out hc.1)]
        exact RPost.of HSC.out HMC.out HO1.out HO2.out
end Go.Proofs.Ytdaadmjppikebaa.SC

/- SchedPlays: the document's tick. -/
namespace Go.Proofs.Ytdaadmjppikebaa.SC
open Go.RowKit Go.Proofs.YtdaadmjppikebaaW.PrintWords Go.Proofs.YtdaadmjppikebaaW.PrintLast
open Go.Proofs.Ytdaadmjppikebaa.PV (S94 k94 S29 k29 rd_T94 rd_T29)
set_option linter.unusedVariables false
set_option linter.unusedSimpArgs false

set_option maxRecDepth 100000 in
set_option maxHeartbeats 8000000 in
theorem rtick_gang_false {W : World} {own : Nat → Prop} {L : RLy} {s : SS} {rd : List Bool} {A : Option Addr} {c : Nat} (h : RS W own L s) (hw : Wf s) (hq : QX s) (hn : s.now ≤ 288230376151711744) (hcc : CntC s 0) (hcr : CntR s 0) (hr : RD W rd A c) (hno : ∀ ad, A = some ad → ¬ own ad.block ∧ ad.block < W.heap.size) (hcv : s.cr = false) (hg : 0 ≤ gangF s) :
    Calls Try.prog 33 #[.pointer (some ⟨L.b, 0, none⟩), .slice A rd.length c] W fun x w' => x = .returned (.tuple #[]) ∧ RPost W own L (tickF s rd) w' := by
  have HW := Aside0.mk hw
  have HQ := Aside0.mk hq
  have HR := Aside0.mk h
  have HD := Aside0.mk hr
  have HNO := Aside0.mk hno
  have HCV := Aside0.mk hcv
  have HG := Aside0.mk (rgang_calls h hw)
  have HCC := Aside0.mk hcc
  have HCR := Aside0.mk hcr
  have HNN := Aside0.mk hn
  have hH1 := hw.H1
  have hH8 := hw.H8
  have hgr := gangF_range s
  have hgm := hw.gm
  have HLI := Aside0.mk hgr
  obtain ⟨g, hge⟩ : ∃ g, g = gangF s := ⟨_, rfl⟩
  rw [← hge] at HG HLI hg hgr
  have HGE := Aside0.mk hge
  have d1 : decide (0 ≤ g) = true := decide_eq_true hg
  have d2 : decide (g < 0) = false := decide_eq_false (by omega)
  obtain ⟨gi, hgi⟩ := Int.eq_ofNat_of_zero_le hg
  have HGI := Aside0.mk hgi
  have hgl : gi < s.gs.length := by omega
  rw [hgi] at HG d1 d2
  clear hgi
  clear h hw hq hr hno hcv hcc hcr hn hge hgr
  go_enter Try.func33, Try.ntmps33
  go_wp2_with (go_at_call 53; refine HG.out.mono ?_; rintro e w0 ⟨rfl, hb⟩; have HB0 := Aside0.mk hb; clear hb)
  go_loopw [5] (fun v5 w' => ∃ (k : Nat) (sk : SS) (ownk : Nat → Prop) (qsk : List Value) (usk : List Int), v5 = .int .i64 (k : Int) ∧ (k : Int) ≤ s.H ∧ Aside0 (tickFrom g rd (s.H.toNat - k) k sk = tickFrom g rd s.H.toNat 0 s) ∧ Aside0 (TK s sk) ∧ Aside0 (QX sk) ∧ Aside0 (CntC sk k) ∧ Aside0 (CntR sk k) ∧ Aside0 (RS w' ownk { L with qs := qsk, us := usk } sk) ∧ Aside0 (Mut own W w') ∧ Aside0 (∀ k, own k → ownk k) ∧ Aside0 (∀ k, ownk k → own k ∨ W.heap.size ≤ k)) (fun v5 _ => s.H.toNat - (intOf v5).toNat)
  case atStart => exact ⟨0, s, own, L.qs, L.us, rfl, by omega, ⟨rfl⟩, ⟨⟨St.refl s, HW.out, rfl, rfl⟩⟩, HQ, HCC, HCR, ⟨HR.out.below HB0.out⟩, ⟨Mut.of_below HB0.out own⟩, ⟨fun _ h => h⟩, ⟨fun _ h => .inl h⟩⟩
  case round =>
    obtain ⟨k, sk, ownk, qsk, usk, rfl, hk, HT, HTK, HQK, HCK, HRK, HSk, HMk, HO1, HO2⟩ := hrel
    clear HB0 HCC HCR HQ
    have c0 : wr.cell? ⟨L.b, 0, none⟩ = some (.int .i64 s.H) := by have := HSk.out.fld 0 rfl; rw [HTK.out.st.H] at this; exact this
    by_cases hlt : (k : Int) < s.H
    · have HT1 := Aside0.mk ((tickFrom_succ g rd (show k < s.H.toNat by omega) sk).symm.trans HT.out)
      have HDk := Aside0.mk (HD.out.mut HMk.out (fun ad e => (HNO.out ad e).1))
      have HNk := Aside0.mk (show ∀ ad, A = some ad → ¬ ownk ad.block from fun ad e ho => (HO2.out _ ho).elim (HNO.out ad e).1 (fun h => by have := (HNO.out ad e).2; omega))
      have HGK := Aside0.mk (show g = gangF sk by rw [HGE.out, HTK.out.st.gang HTK.out.now])
      have HTT := Aside0.mk (tickH_tk HTK.out.wf HGK.out (h := k) (by rw [HTK.out.st.H]; exact hlt) rd HCK.out HRK.out)
      have HQT := Aside0.mk (tickH_qx HTK.out.wf HGK.out (h := k) (by rw [HTK.out.st.H]; exact hlt) rd HQK.out)
      have HPK := Aside0.mk (show PK sk k (pickF sk k rd).1 (pickF sk k rd).2 by have := pickF_pk HTK.out.wf (k : Int) rd; rwa [Int.toNat_natCast] at this)
      have HTH := Aside0.mk (show tickH sk g k rd = ranF (chargeF (pickF sk k rd).2 g k (pickF sk k rd).1) g k (pickF sk k rd).1 from rfl)
      have hkt : k < sk.ts.length := by have := HTK.out.wf.tn; rw [HTK.out.st.H] at this; omega
      clear HT
      go_upto_region 5 with (go_at_call 34; refine (rpick_calls HSk.out HTK.out.wf HDk.out HNk.out (k : Int)).mono ?_; rintro e w2 ⟨rfl, hp⟩; have HP := Aside0.mk hp; clear hp)
      obtain ⟨e, he⟩ : ∃ e, e = (pickF sk k rd).1 := ⟨_, rfl⟩
      obtain ⟨s2, hs2⟩ : ∃ s2, s2 = (pickF sk k rd).2 := ⟨_, rfl⟩
      rw [← he, ← hs2] at HPK HTH
      rw [← hs2] at HP
      rw [← he]
      have HE := Aside0.mk he
      have HS2E := Aside0.mk hs2
      obtain ⟨own2, qs2, us2, hsr, hmm, ho1, ho2⟩ := HP.out
      have HS2 := Aside0.mk (show RS w2 own2 { L with qs := qs2, us := us2 } s2 from hsr)
      have HM2 := Aside0.mk (HMk.out.trans hmm (fun k hk => HO2.out k hk))
      have HO3 := Aside0.mk (show ∀ k, own k → own2 k from fun k h => ho1 k (HO1.out k h))
      have HO4 := Aside0.mk (show ∀ k, own2 k → own k ∨ W.heap.size ≤ k from fun k h => (ho2 k h).elim (HO2.out k) (fun h => .inr (Nat.le_trans HMk.out.size h)))
      have hch2 : s2.ch.length = s.gs.length := by rw [HPK.out.wf.cn, HPK.out.st.gs, HTK.out.st.gs]
      have hcr2 : s2.cr = false := by rw [HPK.out.st.cr, HTK.out.st.cr]; exact HCV.out
      have hem := HPK.out.wf.em
      have hcap := HS2.out.cap
      have hnow : s2.now = s.now := by rw [HPK.out.now, HTK.out.now]
      have HC2 := Aside0.mk (show CntC s2 k from fun i hi => by rw [HPK.out.ch, HPK.out.now]; exact HCK.out i (by rw [← HPK.out.ch]; exact hi))
      have HR2 := Aside0.mk (show CntR s2 k from fun i hi => by have e : s2.ent i = sk.ent i := by { unfold SS.ent; rw [HPK.out.es] }; rw [e, HPK.out.now]; exact HRK.out i (by rw [← HPK.out.es]; exact hi))
      have HCR2 := Aside0.mk hcr2
      have HNW := Aside0.mk hnow
      clear he hs2 hsr hmm ho1 ho2 HP HSk HMk HO1 HO2 HDk hcr2 hnow c0
      by_cases he0 : 0 ≤ e
      · obtain ⟨en, hen⟩ := Int.eq_ofNat_of_zero_le he0
        have hin : en < s2.es.length := by rw [HPK.out.st.el]; rcases HPK.out.rg with h | h <;> omega
        have HEE := Aside0.mk hen
        rw [hen]
        have e1 : decide (0 ≤ ((en : Nat) : Int)) = true := decide_eq_true (by omega)
        have c5 := HS2.out.fld 5 rfl
        have y6 := HS2.out.ent en 6 hin (by decide) rfl
        have f6 := HS2.out.E.frozen (en * 9 + 6)
        have hrn := HR2.out en hin
        have hrn1 : 0 ≤ (s2.ent en).rn := hrn.1
        have hrn2 : (s2.ent en).rn ≤ 4611686018427387903 := by have := hrn.2; have := HNN.out; rw [HNW.out] at *; omega
        have hs3 := HS2.out.putE en 6 hin (by decide) (.int .u64 ((s2.ent en).rn + 1)) (fun x => { x with rn := x.rn + 1 }) ⟨rfl, rfl⟩ rfl
        obtain ⟨w3, hw3⟩ : ∃ w3, w3 = w2.setCell ⟨L.be, en * 9 + 6, none⟩ (.int .u64 ((s2.ent en).rn + 1)) := ⟨_, rfl⟩
        have HM3 := Aside0.mk (show Mut own W w3 by rw [hw3]; exact HM2.out.setCell (HO4.out _ HS2.out.ob.2.1) _)
        rw [← hw3] at hs3
        obtain ⟨s3, hs3e⟩ : ∃ s3, s3 = s2.modE en (fun x => { x with rn := x.rn + 1 }) := ⟨_, rfl⟩
        rw [← hs3e] at hs3
        have HS3 := Aside0.mk hs3
        have HS3E := Aside0.mk hs3e
        have HST3 := Aside0.mk (show St s2 s3 by rw [hs3e]; exact St.modE s2 en _ (fun _ => ⟨rfl, rfl, rfl⟩))
        have HCH3 := Aside0.mk (show s3.ch = s2.ch by rw [hs3e]; rfl)
        have HTS3 := Aside0.mk (show s3.ts = s2.ts by rw [hs3e]; rfl)
        have HSH3 := Aside0.mk (show s3.sh = s2.sh by rw [hs3e]; rfl)
        have hcr3 : s3.cr = false := by rw [HST3.out.cr]; exact HCR2.out
        have HEN3 := Aside0.mk (show s3.ent en = { s2.ent en with rn := (s2.ent en).rn + 1 } by rw [hs3e, modE_ent _ hin, if_pos rfl])
        have hin3 : en < s3.es.length := by rw [HST3.out.el]; exact hin
        clear hs3 hs3e hrn
        go_upto_region 7 with (fail)
        rw [← hw3]
        have HWF3 := Aside0.mk (show Wf s3 by rw [HS3E.out]; exact HPK.out.wf.modE en hin _ (fun _ => ⟨rfl, rfl, rfl⟩) (HPK.out.wf.ec en hin))
        clear hw3 c5 y6 f6
        have hgc : gi < s3.ch.length := by rw [HCH3.out, hch2]; exact hgl
        have cg := HS3.out.chg gi hgc
        have fg := HS3.out.C.frozen gi
        have c8 := HS3.out.fld 8 rfl
        have hcb := HC2.out gi (by rw [← HCH3.out]; exact hgc)
        rw [← HCH3.out] at hcb
        obtain ⟨cn, hcn⟩ : ∃ cn, cn = s3.ch.getD gi 0 := ⟨_, rfl⟩
        rw [← hcn] at cg hcb
        have hcb1 : 0 ≤ cn := hcb.1
        have hcb2 : cn ≤ 4611686018427387903 := by have := hcb.2; have := HNN.out; rw [HNW.out] at *; omega
        have ec1 : IntKind.u64.wrap (cn + 1) = cn + 1 := IntWalk.u64_in _ ⟨by omega, by omega⟩
        have hcl : s3.ch.length ≤ 8 := by rw [HCH3.out, hch2]; exact hgm
        have hs4 := HS3.out.putC gi hgc (cn + 1) (· + 1) (by rw [← hcn])
        have hm4 : Mut own W ((w3).setCell ⟨L.bc, gi, none⟩ (.int .u64 (cn + 1))) := HM3.out.setCell (HO4.out _ HS2.out.ob.2.2.1) _
        clear hcn hcb
        go_wp2
        have HSF := Aside0.mk hs4
        have HMF := Aside0.mk hm4
        have HFIN := Aside0.mk (show tickH sk g k rd = s3.modC gi (· + 1) by rw [HTH.out, HS3E.out]; unfold ranF chargeF; rw [if_pos hg, HEE.out, if_neg (by omega), if_neg (fun hc => by omega), HGI.out, Int.toNat_natCast, Int.toNat_natCast]; rfl)
        go_roundw
        case rel => exact ⟨k + 1, tickH sk g k rd, own2, qs2, us2, by go_num, by omega, HT1, ⟨HTK.out.trans HTT.out.1⟩, HQT, ⟨by have := HTT.out.2.1; push_cast; exact this⟩, ⟨by have := HTT.out.2.2; push_cast; exact this⟩, ⟨by rw [HFIN.out]; exact HSF.out⟩, HMF, HO3, HO4⟩
        case measure => (simp [intOf] <;> omega)
      · have e1 : decide (0 ≤ e) = false := decide_eq_false he0
        have HEN0 := Aside0.mk (show e < 0 by omega)
        obtain ⟨w3, hw3⟩ : ∃ w3, w3 = w2 := ⟨_, rfl⟩
        obtain ⟨s3, hs3⟩ : ∃ s3, s3 = s2 := ⟨_, rfl⟩
        have HS3 := Aside0.mk (show RS w3 own2 { L with qs := qs2, us := us2 } s3 by rw [hw3, hs3]; exact HS2.out)
        have HM3 := Aside0.mk (show Mut own W w3 by rw [hw3]; exact HM2.out)
        have HS3E := Aside0.mk hs3
        have HST3 := Aside0.mk (show St s2 s3 by rw [hs3]; exact St.refl _)
        have HCH3 := Aside0.mk (show s3.ch = s2.ch by rw [hs3])
        have HSH3 := Aside0.mk (show s3.sh = s2.sh by rw [hs3])
        have hcr3 : s3.cr = false := by rw [hs3]; exact HCR2.out
        have HWF3 := Aside0.mk (show Wf s3 by rw [hs3]; exact HPK.out.wf)
        go_upto_region 7 with (fail)
        rw [← hw3]
        clear hw3 hs3
        have hgc : gi < s3.ch.length := by rw [HCH3.out, hch2]; exact hgl
        have cg := HS3.out.chg gi hgc
        have fg := HS3.out.C.frozen gi
        have c8 := HS3.out.fld 8 rfl
        have hcb := HC2.out gi (by rw [← HCH3.out]; exact hgc)
        rw [← HCH3.out] at hcb
        obtain ⟨cn, hcn⟩ : ∃ cn, cn = s3.ch.getD gi 0 := ⟨_, rfl⟩
        rw [← hcn] at cg hcb
        have hcb1 : 0 ≤ cn := hcb.1
        have hcb2 : cn ≤ 4611686018427387903 := by have := hcb.2; have := HNN.out; rw [HNW.out] at *; omega
        have ec1 : IntKind.u64.wrap (cn + 1) = cn + 1 := IntWalk.u64_in _ ⟨by omega, by omega⟩
        have hcl : s3.ch.length ≤ 8 := by rw [HCH3.out, hch2]; exact hgm
        have hs4 := HS3.out.putC gi hgc (cn + 1) (· + 1) (by rw [← hcn])
        have hm4 : Mut own W ((w3).setCell ⟨L.bc, gi, none⟩ (.int .u64 (cn + 1))) := HM3.out.setCell (HO4.out _ HS2.out.ob.2.2.1) _
        clear hcn hcb
        go_wp2
        have HSF := Aside0.mk hs4
        have HMF := Aside0.mk hm4
        have HFIN := Aside0.mk (show tickH sk g k rd = s3.modC gi (· + 1) by rw [HTH.out, HS3E.out]; unfold ranF chargeF; rw [if_pos HEN0.out, if_pos hg, HGI.out, Int.toNat_natCast])
        go_roundw
        case rel => exact ⟨k + 1, tickH sk g k rd, own2, qs2, us2, by go_num, by omega, HT1, ⟨HTK.out.trans HTT.out.1⟩, HQT, ⟨by have := HTT.out.2.1; push_cast; exact this⟩, ⟨by have := HTT.out.2.2; push_cast; exact this⟩, ⟨by rw [HFIN.out]; exact HSF.out⟩, HMF, HO3, HO4⟩
        case measure => (simp [intOf] <;> omega)
    · have HTF := Aside0.mk (show tickFrom g rd s.H.toNat 0 s = sk by have := HT.out; rw [show s.H.toNat - k = 0 by omega] at this; exact this.symm)
      have HTU := Aside0.mk (show tickF s rd = if (tickE sk g).now % (tickE sk g).P = 0 ∧ (tickE sk g).cr = true then giveF (tickE sk g) else tickE sk g by unfold tickF; rw [← HGE.out, HTF.out])
      have HWE := Aside0.mk (tickE_wf HTK.out.wf g (by rw [HTK.out.now]; have := HNN.out; omega))
      have hnk : sk.now ≤ 288230376151711744 := by rw [HTK.out.now]; exact HNN.out
      have hn0 := HTK.out.wf.nw.1
      have hsw := HTK.out.wf.sw
      have hP1 := HTK.out.wf.P1
      have hP2 := HTK.out.wf.P2
      have c6 : wr.cell? ⟨L.b, 6, none⟩ = some (.int .u64 sk.now) := HSk.out.fld 6 rfl
      have c7 : wr.cell? ⟨L.b, 7, none⟩ = some (.int .u64 sk.sh) := HSk.out.fld 7 rfl
      have f6 : wr.frozen? ⟨L.b, 6, none⟩ = false := HSk.out.S.frozen _
      have f7 : wr.frozen? ⟨L.b, 7, none⟩ = false := HSk.out.S.frozen _
      have hsh1 : 0 ≤ sk.sh := hsw.1
      have hsh2 : sk.sh ≤ 288230376151711744 := by have := hsw.2; omega
      clear hsw
      obtain ⟨wa, hwa⟩ : ∃ wa, wa = wr := ⟨_, rfl⟩
      obtain ⟨sa, hsa⟩ : ∃ sa, sa = sk := ⟨_, rfl⟩
      have HSA := Aside0.mk (show RS wa ownk { L with qs := qsk, us := usk } sa by rw [hwa, hsa]; exact HSk.out)
      have HMA := Aside0.mk (show Mut own W wa by rw [hwa]; exact HMk.out)
      have HTE := Aside0.mk (show ({ sa with now := sk.now + 1 } : SS) = tickE sk g by unfold tickE; rw [hsa, if_neg (by omega)])
      go_upto_region 19 with (fail)
      rw [← hwa]
      have q6 : wa.cell? ⟨L.b, 6, none⟩ = some (.int .u64 sk.now) := by have := HSA.out.fld 6 rfl; rw [show sa.now = sk.now by rw [hsa]] at this; exact this
      have g6 : wa.frozen? ⟨L.b, 6, none⟩ = false := HSA.out.S.frozen _
      have hsb := HSA.out.putN (sk.now + 1)
      rw [HTE.out] at hsb
      obtain ⟨wb, hwb⟩ : ∃ wb, wb = wa.setCell ⟨L.b, 6, none⟩ (.int .u64 (sk.now + 1)) := ⟨_, rfl⟩
      rw [← hwb] at hsb
      have HMB := Aside0.mk (show Mut own W wb by rw [hwb]; exact HMA.out.setCell (HO2.out _ HSk.out.ob.1) _)
      have HSB := Aside0.mk hsb
      clear hsb hwa hsa HSA HMA HTE c6 c7 f6 f7
      go_upto_region 20 with (fail)
      rw [← hwb]
      clear hwb q6 g6
      have r6 : wb.cell? ⟨L.b, 6, none⟩ = some (.int .u64 (sk.now + 1)) := HSB.out.fld 6 rfl
      have r2 : wb.cell? ⟨L.b, 2, none⟩ = some (.int .i64 sk.P) := HSB.out.fld 2 rfl
      have wu : IntKind.u64.wrap sk.P = sk.P := IntWalk.u64_in _ ⟨by omega, by omega⟩
      have hpz : ¬ sk.P = 0 := by omega
      have r1 : 0 ≤ (sk.now + 1) % sk.P := Int.emod_nonneg _ hpz
      have HKE := Aside0.mk (show (tickE sk g).now = sk.now + 1 ∧ (tickE sk g).P = sk.P ∧ (tickE sk g).cr = false from ⟨rfl, rfl, by show sk.cr = _; rw [HTK.out.st.cr]; exact HCV.out⟩)
      go_quiet (fail)
      have HSC := Aside0.mk (HSB.out.drewN nq)
      have HMC := Aside0.mk (HMB.out.below (pw_below_drewN (Below.refl _ _) nq))
      obtain ⟨wc, hwc⟩ : ∃ wc, wc = wb.drewN nq := ⟨_, rfl⟩
      rw [← hwc] at HSC HMC ⊢
      clear hwc r6 r2 HSB HMB
      by_cases hz : (sk.now + 1) % sk.P = 0
      · have bz : ((sk.now + 1) % sk.P == 0) = true := by simpa using hz
        have bz2 : ((sk.now + 1).tmod sk.P == 0) = true := by rw [Int.tmod_eq_emod_of_nonneg (by omega)]; exact bz
        have HZ := Aside0.mk hz
        clear hz
        go_wp2_with (go_at_call 52; refine (rgive_none HSC.out HKE.out.2.2).mono ?_; rintro e0 w10 ⟨rfl, rfl⟩)
        go_end0
        refine ⟨rfl, ?_⟩
        rw [HTU.out, if_neg (fun hc => by rw [HKE.out.2.2] at hc; exact absurd hc.2 (by decide))]
        exact RPost.of HSC.out HMC.out HO1.out HO2.out
      · have bz : ((sk.now + 1) % sk.P == 0) = false := by simpa using hz
        have bz2 : ((sk.now + 1).tmod sk.P == 0) = false := by rw [Int.tmod_eq_emod_of_nonneg (by omega)]; exact bz
        have HZ := Aside0.mk hz
        clear hz
        go_wp2
        go_end0
        refine ⟨rfl, ?_⟩
        rw [HTU.out, if_neg (fun hc => by rw [HKE.out.1, HKE.out.2.1] at hc; exact HZ.out hc.1)]
        exact RPost.of HSC.out HMC.out HO1.out HO2.out
end Go.Proofs.Ytdaadmjppikebaa.SC

/- SchedPlays: the document's tick. -/
namespace Go.Proofs.Ytdaadmjppikebaa.SC
open Go.RowKit Go.Proofs.YtdaadmjppikebaaW.PrintWords Go.Proofs.YtdaadmjppikebaaW.PrintLast
open Go.Proofs.Ytdaadmjppikebaa.PV (S94 k94 S29 k29 rd_T94 rd_T29)
set_option linter.unusedVariables false
set_option linter.unusedSimpArgs false

set_option maxRecDepth 100000 in
set_option maxHeartbeats 8000000 in
theorem rtick_free_false {W : World} {own : Nat → Prop} {L : RLy} {s : SS} {rd : List Bool} {A : Option Addr} {c : Nat} (h : RS W own L s) (hw : Wf s) (hq : QX s) (hn : s.now ≤ 288230376151711744) (hcc : CntC s 0) (hcr : CntR s 0) (hr : RD W rd A c) (hno : ∀ ad, A = some ad → ¬ own ad.block ∧ ad.block < W.heap.size) (hcv : s.cr = false) (hg : gangF s < 0) :
    Calls Try.prog 33 #[.pointer (some ⟨L.b, 0, none⟩), .slice A rd.length c] W fun x w' => x = .returned (.tuple #[]) ∧ RPost W own L (tickF s rd) w' := by
  have HW := Aside0.mk hw
  have HQ := Aside0.mk hq
  have HR := Aside0.mk h
  have HD := Aside0.mk hr
  have HNO := Aside0.mk hno
  have HCV := Aside0.mk hcv
  have HG := Aside0.mk (rgang_calls h hw)
  have HCC := Aside0.mk hcc
  have HCR := Aside0.mk hcr
  have HNN := Aside0.mk hn
  have hH1 := hw.H1
  have hH8 := hw.H8
  have hgr := gangF_range s
  have hgm := hw.gm
  have HLI := Aside0.mk hgr
  obtain ⟨g, hge⟩ : ∃ g, g = gangF s := ⟨_, rfl⟩
  rw [← hge] at HG HLI hg hgr
  have HGE := Aside0.mk hge
  have d1 : decide (0 ≤ g) = false := decide_eq_false (by omega)
  have d2 : decide (g < 0) = true := decide_eq_true hg
  clear h hw hq hr hno hcv hcc hcr hn hge hgr
  go_enter Try.func33, Try.ntmps33
  go_wp2_with (go_at_call 53; refine HG.out.mono ?_; rintro e w0 ⟨rfl, hb⟩; have HB0 := Aside0.mk hb; clear hb)
  go_loopw [5] (fun v5 w' => ∃ (k : Nat) (sk : SS) (ownk : Nat → Prop) (qsk : List Value) (usk : List Int), v5 = .int .i64 (k : Int) ∧ (k : Int) ≤ s.H ∧ Aside0 (tickFrom g rd (s.H.toNat - k) k sk = tickFrom g rd s.H.toNat 0 s) ∧ Aside0 (TK s sk) ∧ Aside0 (QX sk) ∧ Aside0 (CntC sk k) ∧ Aside0 (CntR sk k) ∧ Aside0 (RS w' ownk { L with qs := qsk, us := usk } sk) ∧ Aside0 (Mut own W w') ∧ Aside0 (∀ k, own k → ownk k) ∧ Aside0 (∀ k, ownk k → own k ∨ W.heap.size ≤ k)) (fun v5 _ => s.H.toNat - (intOf v5).toNat)
  case atStart => exact ⟨0, s, own, L.qs, L.us, rfl, by omega, ⟨rfl⟩, ⟨⟨St.refl s, HW.out, rfl, rfl⟩⟩, HQ, HCC, HCR, ⟨HR.out.below HB0.out⟩, ⟨Mut.of_below HB0.out own⟩, ⟨fun _ h => h⟩, ⟨fun _ h => .inl h⟩⟩
  case round =>
    obtain ⟨k, sk, ownk, qsk, usk, rfl, hk, HT, HTK, HQK, HCK, HRK, HSk, HMk, HO1, HO2⟩ := hrel
    clear HB0 HCC HCR HQ
    have c0 : wr.cell? ⟨L.b, 0, none⟩ = some (.int .i64 s.H) := by have := HSk.out.fld 0 rfl; rw [HTK.out.st.H] at this; exact this
    by_cases hlt : (k : Int) < s.H
    · have HT1 := Aside0.mk ((tickFrom_succ g rd (show k < s.H.toNat by omega) sk).symm.trans HT.out)
      have HDk := Aside0.mk (HD.out.mut HMk.out (fun ad e => (HNO.out ad e).1))
      have HNk := Aside0.mk (show ∀ ad, A = some ad → ¬ ownk ad.block from fun ad e ho => (HO2.out _ ho).elim (HNO.out ad e).1 (fun h => by have := (HNO.out ad e).2; omega))
      have HGK := Aside0.mk (show g = gangF sk by rw [HGE.out, HTK.out.st.gang HTK.out.now])
      have HTT := Aside0.mk (tickH_tk HTK.out.wf HGK.out (h := k) (by rw [HTK.out.st.H]; exact hlt) rd HCK.out HRK.out)
      have HQT := Aside0.mk (tickH_qx HTK.out.wf HGK.out (h := k) (by rw [HTK.out.st.H]; exact hlt) rd HQK.out)
      have HPK := Aside0.mk (show PK sk k (pickF sk k rd).1 (pickF sk k rd).2 by have := pickF_pk HTK.out.wf (k : Int) rd; rwa [Int.toNat_natCast] at this)
      have HTH := Aside0.mk (show tickH sk g k rd = ranF (chargeF (pickF sk k rd).2 g k (pickF sk k rd).1) g k (pickF sk k rd).1 from rfl)
      have HPW := Aside0.mk (pick_whose (rb := rd) (show (k : Int) < sk.H by rw [HTK.out.st.H]; exact hlt) (by rw [← HGK.out]; exact hg) (by rw [HTK.out.st.cr]; exact HCV.out))
      have hkt : k < sk.ts.length := by have := HTK.out.wf.tn; rw [HTK.out.st.H] at this; omega
      clear HT
      go_upto_region 5 with (go_at_call 34; refine (rpick_calls HSk.out HTK.out.wf HDk.out HNk.out (k : Int)).mono ?_; rintro e w2 ⟨rfl, hp⟩; have HP := Aside0.mk hp; clear hp)
      obtain ⟨e, he⟩ : ∃ e, e = (pickF sk k rd).1 := ⟨_, rfl⟩
      obtain ⟨s2, hs2⟩ : ∃ s2, s2 = (pickF sk k rd).2 := ⟨_, rfl⟩
      rw [← he, ← hs2] at HPK HTH HPW
      rw [← hs2] at HP
      rw [← he]
      have HE := Aside0.mk he
      have HS2E := Aside0.mk hs2
      obtain ⟨own2, qs2, us2, hsr, hmm, ho1, ho2⟩ := HP.out
      have HS2 := Aside0.mk (show RS w2 own2 { L with qs := qs2, us := us2 } s2 from hsr)
      have HM2 := Aside0.mk (HMk.out.trans hmm (fun k hk => HO2.out k hk))
      have HO3 := Aside0.mk (show ∀ k, own k → own2 k from fun k h => ho1 k (HO1.out k h))
      have HO4 := Aside0.mk (show ∀ k, own2 k → own k ∨ W.heap.size ≤ k from fun k h => (ho2 k h).elim (HO2.out k) (fun h => .inr (Nat.le_trans HMk.out.size h)))
      have hch2 : s2.ch.length = s.gs.length := by rw [HPK.out.wf.cn, HPK.out.st.gs, HTK.out.st.gs]
      have hcr2 : s2.cr = false := by rw [HPK.out.st.cr, HTK.out.st.cr]; exact HCV.out
      have hem := HPK.out.wf.em
      have hcap := HS2.out.cap
      have hnow : s2.now = s.now := by rw [HPK.out.now, HTK.out.now]
      have HC2 := Aside0.mk (show CntC s2 k from fun i hi => by rw [HPK.out.ch, HPK.out.now]; exact HCK.out i (by rw [← HPK.out.ch]; exact hi))
      have HR2 := Aside0.mk (show CntR s2 k from fun i hi => by have e : s2.ent i = sk.ent i := by { unfold SS.ent; rw [HPK.out.es] }; rw [e, HPK.out.now]; exact HRK.out i (by rw [← HPK.out.es]; exact hi))
      have HCR2 := Aside0.mk hcr2
      have HNW := Aside0.mk hnow
      clear he hs2 hsr hmm ho1 ho2 HP HSk HMk HO1 HO2 HDk hcr2 hnow c0
      by_cases he0 : 0 ≤ e
      · obtain ⟨en, hen⟩ := Int.eq_ofNat_of_zero_le he0
        have hin : en < s2.es.length := by rw [HPK.out.st.el]; rcases HPK.out.rg with h | h <;> omega
        have HEE := Aside0.mk hen
        rw [hen]
        have e1 : decide (0 ≤ ((en : Nat) : Int)) = true := decide_eq_true (by omega)
        have c5 := HS2.out.fld 5 rfl
        have y6 := HS2.out.ent en 6 hin (by decide) rfl
        have f6 := HS2.out.E.frozen (en * 9 + 6)
        have hrn := HR2.out en hin
        have hrn1 : 0 ≤ (s2.ent en).rn := hrn.1
        have hrn2 : (s2.ent en).rn ≤ 4611686018427387903 := by have := hrn.2; have := HNN.out; rw [HNW.out] at *; omega
        have hs3 := HS2.out.putE en 6 hin (by decide) (.int .u64 ((s2.ent en).rn + 1)) (fun x => { x with rn := x.rn + 1 }) ⟨rfl, rfl⟩ rfl
        obtain ⟨w3, hw3⟩ : ∃ w3, w3 = w2.setCell ⟨L.be, en * 9 + 6, none⟩ (.int .u64 ((s2.ent en).rn + 1)) := ⟨_, rfl⟩
        have HM3 := Aside0.mk (show Mut own W w3 by rw [hw3]; exact HM2.out.setCell (HO4.out _ HS2.out.ob.2.1) _)
        rw [← hw3] at hs3
        obtain ⟨s3, hs3e⟩ : ∃ s3, s3 = s2.modE en (fun x => { x with rn := x.rn + 1 }) := ⟨_, rfl⟩
        rw [← hs3e] at hs3
        have HS3 := Aside0.mk hs3
        have HS3E := Aside0.mk hs3e
        have HST3 := Aside0.mk (show St s2 s3 by rw [hs3e]; exact St.modE s2 en _ (fun _ => ⟨rfl, rfl, rfl⟩))
        have HCH3 := Aside0.mk (show s3.ch = s2.ch by rw [hs3e]; rfl)
        have HTS3 := Aside0.mk (show s3.ts = s2.ts by rw [hs3e]; rfl)
        have HSH3 := Aside0.mk (show s3.sh = s2.sh by rw [hs3e]; rfl)
        have hcr3 : s3.cr = false := by rw [HST3.out.cr]; exact HCR2.out
        have HEN3 := Aside0.mk (show s3.ent en = { s2.ent en with rn := (s2.ent en).rn + 1 } by rw [hs3e, modE_ent _ hin, if_pos rfl])
        have hin3 : en < s3.es.length := by rw [HST3.out.el]; exact hin
        clear hs3 hs3e hrn
        go_upto_region 7 with (fail)
        rw [← hw3]
        have HWF3 := Aside0.mk (show Wf s3 by rw [HS3E.out]; exact HPK.out.wf.modE en hin _ (fun _ => ⟨rfl, rfl, rfl⟩) (HPK.out.wf.ec en hin))
        clear hw3 c5 y6 f6
        have c3 : w3.cell? ⟨L.b, 3, none⟩ = some (.bool false) := by have := HS3.out.fld 3 rfl; rw [hcr3] at this; exact this
        have HTN := Aside0.mk (rturn_calls HS3.out HWF3.out (k : Int))
        have HWH := Aside0.mk (show whoseF s3 (k : Int) = whoseF s2 (k : Int) from HST3.out.whose HSH3.out _)
        have HWE2 := Aside0.mk (show whoseF s3 (k : Int) = (en : Int) by rw [HWH.out, HPW.out.1, ← HPW.out.2 he0]; exact HEE.out)
        rw [HWE2.out] at HTN
        go_upto_region 12 with (go_at_call 54; refine HTN.out.mono ?_; rintro e0 w4 ⟨rfl, hb4⟩; have HS4 := Aside0.mk (HS3.out.below hb4); have HM4 := Aside0.mk (HM3.out.below hb4); clear hb4)
        have hx3 := hin3
        have hgu := HWF3.out.eg en hx3
        obtain ⟨gi, hgi⟩ := Int.eq_ofNat_of_zero_le hgu.1
        have HGI := Aside0.mk hgi
        have hgl : gi < s.gs.length := by have h1 := hgu.2.1; rw [HST3.out.gs, HPK.out.st.gs, HTK.out.st.gs] at h1; omega
        have HSd := Aside0.mk (HS4.out.below (below_drew (Below.refl _ _)))
        have HMd := Aside0.mk (HM4.out.below (below_drew (Below.refl _ _)))
        have hcap3 := HSd.out.cap
        have hem3 := HWF3.out.em
        have k5 : w4.drew.cell? ⟨L.b, 5, none⟩ = some (.slice (some ⟨L.be, 0, none⟩) s3.es.length L.ce) := HSd.out.fld 5 rfl
        have k0 : w4.drew.cell? ⟨L.be, en * 9, none⟩ = some (.int .i64 (gi : Int)) := by have := HSd.out.ent en 0 hx3 (by decide) rfl; rw [HGI.out] at this; exact this
        clear hgu hgi
        have hgc : gi < s3.ch.length := by rw [HCH3.out, hch2]; exact hgl
        have cg := HSd.out.chg gi hgc
        have fg := HSd.out.C.frozen gi
        have c8 := HSd.out.fld 8 rfl
        have hcb := HC2.out gi (by rw [← HCH3.out]; exact hgc)
        rw [← HCH3.out] at hcb
        obtain ⟨cn, hcn⟩ : ∃ cn, cn = s3.ch.getD gi 0 := ⟨_, rfl⟩
        rw [← hcn] at cg hcb
        have hcb1 : 0 ≤ cn := hcb.1
        have hcb2 : cn ≤ 4611686018427387903 := by have := hcb.2; have := HNN.out; rw [HNW.out] at *; omega
        have ec1 : IntKind.u64.wrap (cn + 1) = cn + 1 := IntWalk.u64_in _ ⟨by omega, by omega⟩
        have hcl : s3.ch.length ≤ 8 := by rw [HCH3.out, hch2]; exact hgm
        have hs4 := HSd.out.putC gi hgc (cn + 1) (· + 1) (by rw [← hcn])
        have hm4 : Mut own W ((w4.drew).setCell ⟨L.bc, gi, none⟩ (.int .u64 (cn + 1))) := HMd.out.setCell (HO4.out _ HS2.out.ob.2.2.1) _
        clear hcn hcb
        have k8 : w4.drew.cell? ⟨L.b, 8, none⟩ = some (.slice (some ⟨L.bc, 0, none⟩) s3.ch.length s3.ch.length) := c8
        have kc : w4.drew.cell? ⟨L.bc, gi, none⟩ = some (.int .u64 cn) := cg
        refine start_ (n := 17) (S := fun w' => w'.cell? ⟨L.b, 8, none⟩ = some (.slice (some ⟨L.bc, 0, none⟩) s3.ch.length s3.ch.length) ∧ w'.cell? ⟨L.b, 5, none⟩ = some (.slice (some ⟨L.be, 0, none⟩) s3.es.length L.ce) ∧ w'.cell? ⟨L.be, en * 9, none⟩ = some (.int .i64 (gi : Int)) ∧ w'.cell? ⟨L.bc, gi, none⟩ = some (.int .u64 cn)) (ds := [16]) (bl 17 0) (by kernel_rfl) rfl rfl ⟨k8, k5, k0, kc⟩ (fun hHeld => ?_)
        refine pure_ (i := 0) (N := some 60) (v := ?_) (a' := ?_) (bl 17 1) rfl rfl (by kernel_rfl) (fun _ _ _ h => h) (Or.inl ⟨by rfl, ?_⟩) ?_ ?_
        rotate_left
        · intro w'
          go_simp
          with_reducible rfl
        rotate_left
        · simp only [Act.put, lsa, lsz, lsc, i64_w, i32_w]
          rfl
        refine pure_ (i := 1) (N := some 61) (v := ?_) (a' := ?_) (bl 17 3) rfl rfl (by kernel_rfl) (fun _ _ _ h => h) (Or.inl ⟨by rfl, ?_⟩) ?_ ?_
        rotate_left
        · intro w'
          go_simp
          with_reducible rfl
        rotate_left
        · simp only [Act.put, lsa, lsz, lsc, i64_w, i32_w]
          rfl
        refine pure_ (i := 2) (N := some 62) (v := ?_) (a' := ?_) (bl 17 7) rfl rfl (by kernel_rfl) (fun _ _ _ h => h) (Or.inl ⟨by rfl, ?_⟩) ?_ ?_
        rotate_left
        · intro w'
          go_simp
          with_reducible rfl
        rotate_left
        · simp only [Act.put, lsa, lsz, lsc, i64_w, i32_w]
          rfl
        refine pure_ (i := 4) (N := some 64) (v := ?_) (a' := ?_) (bl 17 23) rfl rfl (by kernel_rfl) (fun _ _ _ h => h) (Or.inl ⟨by rfl, ?_⟩) ?_ ?_
        rotate_left
        · intro w'
          go_simp
          with_reducible rfl
        rotate_left
        · simp only [Act.put, lsa, lsz, lsc, i64_w, i32_w]
          rfl
        refine pure_ (i := 5) (N := some 65) (v := ?_) (a' := ?_) (bl 17 55) rfl rfl (by kernel_rfl) (fun _ _ _ h => h) (Or.inl ⟨by rfl, ?_⟩) ?_ ?_
        rotate_left
        · intro w'
          go_simp
          with_reducible rfl
        rotate_left
        · simp only [Act.put, lsa, lsz, lsc, i64_w, i32_w]
          rfl
        refine pure_ (i := 6) (N := some 66) (v := ?_) (a' := ?_) (bl 17 119) rfl rfl (by kernel_rfl) (fun _ _ _ h => h) (Or.inl ⟨by rfl, ?_⟩) ?_ ?_
        rotate_left
        · intro w'
          go_simp
          with_reducible rfl
        rotate_left
        · simp only [Act.put, lsa, lsz, lsc, i64_w, i32_w]
          rfl
        refine pure_ (i := 8) (N := some 68) (v := ?_) (a' := ?_) (bl 17 375) rfl rfl (by kernel_rfl) (fun _ _ _ h => h) (Or.inl ⟨by rfl, ?_⟩) ?_ ?_
        rotate_left
        · intro w'
          go_simp
          with_reducible rfl
        rotate_left
        · simp only [Act.put, lsa, lsz, lsc, i64_w, i32_w]
          rfl
        refine take_ (i := 3) (N := some 63) (v := ?_) (a' := ?_) (bl 17 383) rfl rfl (by kernel_rfl) (fun _ _ _ h => h) (Or.inl ⟨by rfl, ?_⟩) hHeld ?_ ?_
        rotate_left
        · rintro w' ⟨s0, s1, s2, s3⟩
          go_simp
          with_reducible rfl
        rotate_left
        · simp only [Act.put, lsa, lsz, lsc, i64_w, i32_w]
          rfl
        refine take_ (i := 7) (N := some 67) (v := ?_) (a' := ?_) (bl 17 511) rfl rfl (by kernel_rfl) (fun _ _ _ h => h) (Or.inl ⟨by rfl, ?_⟩) hHeld ?_ ?_
        rotate_left
        · rintro w' ⟨s0, s1, s2, s3⟩
          go_simp
          with_reducible rfl
        rotate_left
        · simp only [Act.put, lsa, lsz, lsc, i64_w, i32_w]
          rfl
        refine pure_ (i := 9) (N := some 69) (v := ?_) (a' := ?_) (bl 17 1023) rfl rfl (by kernel_rfl) (fun _ _ _ h => h) (Or.inl ⟨by rfl, ?_⟩) ?_ ?_
        rotate_left
        · intro w'
          go_simp
          with_reducible rfl
        rotate_left
        · simp only [Act.put, lsa, lsz, lsc, i64_w, i32_w]
          rfl
        refine pure_ (i := 10) (N := some 70) (v := ?_) (a' := ?_) (bl 17 2047) rfl rfl (by kernel_rfl) (fun _ _ _ h => h) (Or.inl ⟨by rfl, ?_⟩) ?_ ?_
        rotate_left
        · intro w'
          go_simp
          with_reducible rfl
        rotate_left
        · simp only [Act.put, lsa, lsz, lsc, i64_w, i32_w]
          rfl
        refine take_ (i := 11) (N := some 71) (v := ?_) (a' := ?_) (bl 17 4095) rfl rfl (by kernel_rfl) (fun _ _ _ h => h) (Or.inl ⟨by rfl, ?_⟩) hHeld ?_ ?_
        rotate_left
        · rintro w' ⟨s0, s1, s2, s3⟩
          go_simp
          with_reducible rfl
        rotate_left
        · simp only [Act.put, lsa, lsz, lsc, i64_w, i32_w]
          rfl
        refine pure_ (i := 12) (N := some 72) (v := ?_) (a' := ?_) (bl 17 8191) rfl rfl (by kernel_rfl) (fun _ _ _ h => h) (Or.inl ⟨by rfl, ?_⟩) ?_ ?_
        rotate_left
        · intro w'
          go_simp
          with_reducible rfl
        rotate_left
        · simp only [Act.put, lsa, lsz, lsc, i64_w, i32_w]
          rfl
        refine take_ (i := 13) (N := some 73) (v := ?_) (a' := ?_) (bl 17 16383) rfl rfl (by kernel_rfl) (fun _ _ _ h => h) (Or.inl ⟨by rfl, ?_⟩) hHeld ?_ ?_
        rotate_left
        · rintro w' ⟨s0, s1, s2, s3⟩
          go_simp
          with_reducible rfl
        rotate_left
        · simp only [Act.put, lsa, lsz, lsc, i64_w, i32_w]
          rfl
        refine pure_ (i := 14) (N := some 74) (v := ?_) (a' := ?_) (bl 17 32767) rfl rfl (by kernel_rfl) (fun _ _ _ h => h) (Or.inl ⟨by rfl, ?_⟩) ?_ ?_
        rotate_left
        · intro w'
          go_simp
          with_reducible rfl
        rotate_left
        · simp only [Act.put, lsa, lsz, lsc, i64_w, i32_w]
          rfl
        refine pure_ (i := 15) (N := some 75) (v := ?_) (a' := ?_) (bl 17 65535) rfl rfl (by kernel_rfl) (fun _ _ _ h => h) (Or.inl ⟨by rfl, ?_⟩) ?_ ?_
        rotate_left
        · intro w'
          go_simp
          with_reducible rfl
        rotate_left
        · simp only [Act.put, lsa, lsz, lsc, i64_w, i32_w]
          rfl
        refine last_ (i := 16) (N := none) (bl 17 131071) rfl rfl (by kernel_rfl) (by decide) (fun K hK => ?_)
        refine skip_ (w1 := ?_) (by rfl) rfl ?_ ?_
        rotate_left
        · go_simp
          rfl
        refine hK.out _ _ ?_
        clear hK K
        refine done_ (by kernel_rfl) ?_
        have HSF := Aside0.mk hs4
        have HMF := Aside0.mk hm4
        have HFIN := Aside0.mk (show tickH sk g k rd = s3.modC gi (· + 1) by
          have hgi2 : (s2.ent en).gu = (gi : Int) := by rw [← HGI.out, HEN3.out]
          have hch : chargeF s2 g k (en : Int) = s2.modC gi (· + 1) := by
            unfold chargeF
            rw [if_neg (by omega), if_pos (by omega), Int.toNat_natCast, hgi2, Int.toNat_natCast]
          rw [HTH.out, HS3E.out, HEE.out, hch]
          unfold ranF
          rw [if_neg (by omega), if_neg (fun hc => by have h1 : (s2.modC gi fun x => x + 1).cr = false := HCR2.out; rw [h1] at hc; exact absurd hc.1 (by decide)), Int.toNat_natCast]
          rfl)
        go_wp2
        go_roundw
        case rel => exact ⟨k + 1, tickH sk g k rd, own2, qs2, us2, by go_num, by omega, HT1, ⟨HTK.out.trans HTT.out.1⟩, HQT, ⟨by have := HTT.out.2.1; push_cast; exact this⟩, ⟨by have := HTT.out.2.2; push_cast; exact this⟩, ⟨by rw [HFIN.out]; exact HSF.out⟩, HMF, HO3, HO4⟩
        case measure => (simp [intOf] <;> omega)
      · have e1 : decide (0 ≤ e) = false := decide_eq_false he0
        have HEN0 := Aside0.mk (show e < 0 by omega)
        obtain ⟨w3, hw3⟩ : ∃ w3, w3 = w2 := ⟨_, rfl⟩
        obtain ⟨s3, hs3⟩ : ∃ s3, s3 = s2 := ⟨_, rfl⟩
        have HS3 := Aside0.mk (show RS w3 own2 { L with qs := qs2, us := us2 } s3 by rw [hw3, hs3]; exact HS2.out)
        have HM3 := Aside0.mk (show Mut own W w3 by rw [hw3]; exact HM2.out)
        have HS3E := Aside0.mk hs3
        have HST3 := Aside0.mk (show St s2 s3 by rw [hs3]; exact St.refl _)
        have HCH3 := Aside0.mk (show s3.ch = s2.ch by rw [hs3])
        have HSH3 := Aside0.mk (show s3.sh = s2.sh by rw [hs3])
        have hcr3 : s3.cr = false := by rw [hs3]; exact HCR2.out
        have HWF3 := Aside0.mk (show Wf s3 by rw [hs3]; exact HPK.out.wf)
        go_upto_region 7 with (fail)
        rw [← hw3]
        clear hw3 hs3
        have c3 : w3.cell? ⟨L.b, 3, none⟩ = some (.bool false) := by have := HS3.out.fld 3 rfl; rw [hcr3] at this; exact this
        have HTN := Aside0.mk (rturn_calls HS3.out HWF3.out (k : Int))
        have HWH := Aside0.mk (show whoseF s3 (k : Int) = whoseF s2 (k : Int) from HST3.out.whose HSH3.out _)
        rcases whoseF_range s3 (k : Int) with hwv | ⟨tn, hwv, hx3, _, _⟩
        · rw [hwv] at HTN
          have HFIN := Aside0.mk (show tickH sk g k rd = s3 by rw [HTH.out, HS3E.out]; unfold ranF chargeF; rw [if_pos HEN0.out, if_neg (by omega), if_neg (show ¬ 0 ≤ e by omega), if_neg (fun hc => by have h1 := hc.2; rw [← HWH.out, hwv] at h1; omega)])
          clear hwv
          go_wp2_with (go_at_call 54; refine HTN.out.mono ?_; rintro e0 w4 ⟨rfl, hb4⟩; have HS4 := Aside0.mk (HS3.out.below hb4); have HM4 := Aside0.mk (HM3.out.below hb4); clear hb4)
          have HSF := HS4
          have HMF := HM4
          go_roundw
          case rel => exact ⟨k + 1, tickH sk g k rd, own2, qs2, us2, by go_num, by omega, HT1, ⟨HTK.out.trans HTT.out.1⟩, HQT, ⟨by have := HTT.out.2.1; push_cast; exact this⟩, ⟨by have := HTT.out.2.2; push_cast; exact this⟩, ⟨by rw [HFIN.out]; exact HSF.out⟩, HMF, HO3, HO4⟩
          case measure => (simp [intOf] <;> omega)
        · rw [hwv] at HTN
          have HWV := Aside0.mk hwv
          have e9 : decide (0 ≤ ((tn : Nat) : Int)) = true := decide_eq_true (by omega)
          clear hwv
          go_upto_region 12 with (go_at_call 54; refine HTN.out.mono ?_; rintro e0 w4 ⟨rfl, hb4⟩; have HS4 := Aside0.mk (HS3.out.below hb4); have HM4 := Aside0.mk (HM3.out.below hb4); clear hb4)
          have hgu := HWF3.out.eg tn hx3
          obtain ⟨gi, hgi⟩ := Int.eq_ofNat_of_zero_le hgu.1
          have HGI := Aside0.mk hgi
          have hgl : gi < s.gs.length := by have h1 := hgu.2.1; rw [HST3.out.gs, HPK.out.st.gs, HTK.out.st.gs] at h1; omega
          have HSd := Aside0.mk (HS4.out.below (below_drew (Below.refl _ _)))
          have HMd := Aside0.mk (HM4.out.below (below_drew (Below.refl _ _)))
          have hcap3 := HSd.out.cap
          have hem3 := HWF3.out.em
          have k5 : w4.drew.cell? ⟨L.b, 5, none⟩ = some (.slice (some ⟨L.be, 0, none⟩) s3.es.length L.ce) := HSd.out.fld 5 rfl
          have k0 : w4.drew.cell? ⟨L.be, tn * 9, none⟩ = some (.int .i64 (gi : Int)) := by have := HSd.out.ent tn 0 hx3 (by decide) rfl; rw [HGI.out] at this; exact this
          clear hgu hgi
          have hgc : gi < s3.ch.length := by rw [HCH3.out, hch2]; exact hgl
          have cg := HSd.out.chg gi hgc
          have fg := HSd.out.C.frozen gi
          have c8 := HSd.out.fld 8 rfl
          have hcb := HC2.out gi (by rw [← HCH3.out]; exact hgc)
          rw [← HCH3.out] at hcb
          obtain ⟨cn, hcn⟩ : ∃ cn, cn = s3.ch.getD gi 0 := ⟨_, rfl⟩
          rw [← hcn] at cg hcb
          have hcb1 : 0 ≤ cn := hcb.1
          have hcb2 : cn ≤ 4611686018427387903 := by have := hcb.2; have := HNN.out; rw [HNW.out] at *; omega
          have ec1 : IntKind.u64.wrap (cn + 1) = cn + 1 := IntWalk.u64_in _ ⟨by omega, by omega⟩
          have hcl : s3.ch.length ≤ 8 := by rw [HCH3.out, hch2]; exact hgm
          have hs4 := HSd.out.putC gi hgc (cn + 1) (· + 1) (by rw [← hcn])
          have hm4 : Mut own W ((w4.drew).setCell ⟨L.bc, gi, none⟩ (.int .u64 (cn + 1))) := HMd.out.setCell (HO4.out _ HS2.out.ob.2.2.1) _
          clear hcn hcb
          have k8 : w4.drew.cell? ⟨L.b, 8, none⟩ = some (.slice (some ⟨L.bc, 0, none⟩) s3.ch.length s3.ch.length) := c8
          have kc : w4.drew.cell? ⟨L.bc, gi, none⟩ = some (.int .u64 cn) := cg
          refine start_ (n := 17) (S := fun w' => w'.cell? ⟨L.b, 8, none⟩ = some (.slice (some ⟨L.bc, 0, none⟩) s3.ch.length s3.ch.length) ∧ w'.cell? ⟨L.b, 5, none⟩ = some (.slice (some ⟨L.be, 0, none⟩) s3.es.length L.ce) ∧ w'.cell? ⟨L.be, tn * 9, none⟩ = some (.int .i64 (gi : Int)) ∧ w'.cell? ⟨L.bc, gi, none⟩ = some (.int .u64 cn)) (ds := [16]) (bl 17 0) (by kernel_rfl) rfl rfl ⟨k8, k5, k0, kc⟩ (fun hHeld => ?_)
          refine pure_ (i := 0) (N := some 60) (v := ?_) (a' := ?_) (bl 17 1) rfl rfl (by kernel_rfl) (fun _ _ _ h => h) (Or.inl ⟨by rfl, ?_⟩) ?_ ?_
          rotate_left
          · intro w'
            go_simp
            with_reducible rfl
          rotate_left
          · simp only [Act.put, lsa, lsz, lsc, i64_w, i32_w]
            rfl
          refine pure_ (i := 1) (N := some 61) (v := ?_) (a' := ?_) (bl 17 3) rfl rfl (by kernel_rfl) (fun _ _ _ h => h) (Or.inl ⟨by rfl, ?_⟩) ?_ ?_
          rotate_left
          · intro w'
            go_simp
            with_reducible rfl
          rotate_left
          · simp only [Act.put, lsa, lsz, lsc, i64_w, i32_w]
            rfl
          refine pure_ (i := 2) (N := some 62) (v := ?_) (a' := ?_) (bl 17 7) rfl rfl (by kernel_rfl) (fun _ _ _ h => h) (Or.inl ⟨by rfl, ?_⟩) ?_ ?_
          rotate_left
          · intro w'
            go_simp
            with_reducible rfl
          rotate_left
          · simp only [Act.put, lsa, lsz, lsc, i64_w, i32_w]
            rfl
          refine pure_ (i := 4) (N := some 64) (v := ?_) (a' := ?_) (bl 17 23) rfl rfl (by kernel_rfl) (fun _ _ _ h => h) (Or.inl ⟨by rfl, ?_⟩) ?_ ?_
          rotate_left
          · intro w'
            go_simp
            with_reducible rfl
          rotate_left
          · simp only [Act.put, lsa, lsz, lsc, i64_w, i32_w]
            rfl
          refine pure_ (i := 5) (N := some 65) (v := ?_) (a' := ?_) (bl 17 55) rfl rfl (by kernel_rfl) (fun _ _ _ h => h) (Or.inl ⟨by rfl, ?_⟩) ?_ ?_
          rotate_left
          · intro w'
            go_simp
            with_reducible rfl
          rotate_left
          · simp only [Act.put, lsa, lsz, lsc, i64_w, i32_w]
            rfl
          refine pure_ (i := 6) (N := some 66) (v := ?_) (a' := ?_) (bl 17 119) rfl rfl (by kernel_rfl) (fun _ _ _ h => h) (Or.inl ⟨by rfl, ?_⟩) ?_ ?_
          rotate_left
          · intro w'
            go_simp
            with_reducible rfl
          rotate_left
          · simp only [Act.put, lsa, lsz, lsc, i64_w, i32_w]
            rfl
          refine pure_ (i := 8) (N := some 68) (v := ?_) (a' := ?_) (bl 17 375) rfl rfl (by kernel_rfl) (fun _ _ _ h => h) (Or.inl ⟨by rfl, ?_⟩) ?_ ?_
          rotate_left
          · intro w'
            go_simp
            with_reducible rfl
          rotate_left
          · simp only [Act.put, lsa, lsz, lsc, i64_w, i32_w]
            rfl
          refine take_ (i := 3) (N := some 63) (v := ?_) (a' := ?_) (bl 17 383) rfl rfl (by kernel_rfl) (fun _ _ _ h => h) (Or.inl ⟨by rfl, ?_⟩) hHeld ?_ ?_
          rotate_left
          · rintro w' ⟨s0, s1, s2, s3⟩
            go_simp
            with_reducible rfl
          rotate_left
          · simp only [Act.put, lsa, lsz, lsc, i64_w, i32_w]
            rfl
          refine take_ (i := 7) (N := some 67) (v := ?_) (a' := ?_) (bl 17 511) rfl rfl (by kernel_rfl) (fun _ _ _ h => h) (Or.inl ⟨by rfl, ?_⟩) hHeld ?_ ?_
          rotate_left
          · rintro w' ⟨s0, s1, s2, s3⟩
            go_simp
            with_reducible rfl
          rotate_left
          · simp only [Act.put, lsa, lsz, lsc, i64_w, i32_w]
            rfl
          refine pure_ (i := 9) (N := some 69) (v := ?_) (a' := ?_) (bl 17 1023) rfl rfl (by kernel_rfl) (fun _ _ _ h => h) (Or.inl ⟨by rfl, ?_⟩) ?_ ?_
          rotate_left
          · intro w'
            go_simp
            with_reducible rfl
          rotate_left
          · simp only [Act.put, lsa, lsz, lsc, i64_w, i32_w]
            rfl
          refine pure_ (i := 10) (N := some 70) (v := ?_) (a' := ?_) (bl 17 2047) rfl rfl (by kernel_rfl) (fun _ _ _ h => h) (Or.inl ⟨by rfl, ?_⟩) ?_ ?_
          rotate_left
          · intro w'
            go_simp
            with_reducible rfl
          rotate_left
          · simp only [Act.put, lsa, lsz, lsc, i64_w, i32_w]
            rfl
          refine take_ (i := 11) (N := some 71) (v := ?_) (a' := ?_) (bl 17 4095) rfl rfl (by kernel_rfl) (fun _ _ _ h => h) (Or.inl ⟨by rfl, ?_⟩) hHeld ?_ ?_
          rotate_left
          · rintro w' ⟨s0, s1, s2, s3⟩
            go_simp
            with_reducible rfl
          rotate_left
          · simp only [Act.put, lsa, lsz, lsc, i64_w, i32_w]
            rfl
          refine pure_ (i := 12) (N := some 72) (v := ?_) (a' := ?_) (bl 17 8191) rfl rfl (by kernel_rfl) (fun _ _ _ h => h) (Or.inl ⟨by rfl, ?_⟩) ?_ ?_
          rotate_left
          · intro w'
            go_simp
            with_reducible rfl
          rotate_left
          · simp only [Act.put, lsa, lsz, lsc, i64_w, i32_w]
            rfl
          refine take_ (i := 13) (N := some 73) (v := ?_) (a' := ?_) (bl 17 16383) rfl rfl (by kernel_rfl) (fun _ _ _ h => h) (Or.inl ⟨by rfl, ?_⟩) hHeld ?_ ?_
          rotate_left
          · rintro w' ⟨s0, s1, s2, s3⟩
            go_simp
            with_reducible rfl
          rotate_left
          · simp only [Act.put, lsa, lsz, lsc, i64_w, i32_w]
            rfl
          refine pure_ (i := 14) (N := some 74) (v := ?_) (a' := ?_) (bl 17 32767) rfl rfl (by kernel_rfl) (fun _ _ _ h => h) (Or.inl ⟨by rfl, ?_⟩) ?_ ?_
          rotate_left
          · intro w'
            go_simp
            with_reducible rfl
          rotate_left
          · simp only [Act.put, lsa, lsz, lsc, i64_w, i32_w]
            rfl
          refine pure_ (i := 15) (N := some 75) (v := ?_) (a' := ?_) (bl 17 65535) rfl rfl (by kernel_rfl) (fun _ _ _ h => h) (Or.inl ⟨by rfl, ?_⟩) ?_ ?_
          rotate_left
          · intro w'
            go_simp
            with_reducible rfl
          rotate_left
          · simp only [Act.put, lsa, lsz, lsc, i64_w, i32_w]
            rfl
          refine last_ (i := 16) (N := none) (bl 17 131071) rfl rfl (by kernel_rfl) (by decide) (fun K hK => ?_)
          refine skip_ (w1 := ?_) (by rfl) rfl ?_ ?_
          rotate_left
          · go_simp
            rfl
          refine hK.out _ _ ?_
          clear hK K
          refine done_ (by kernel_rfl) ?_
          have HSF := Aside0.mk hs4
          have HMF := Aside0.mk hm4
          have HFIN := Aside0.mk (show tickH sk g k rd = s3.modC gi (· + 1) by
            have h0 : 0 ≤ whoseF s2 (k : Int) := by rw [← HWH.out, HWV.out]; omega
            have hgi2 : (s2.ent (whoseF s2 (k : Int)).toNat).gu = (gi : Int) := by rw [← HWH.out, HWV.out, Int.toNat_natCast, ← HGI.out, HS3E.out]
            rw [HTH.out, HS3E.out]
            unfold ranF chargeF
            rw [if_pos HEN0.out, if_neg (by omega), if_neg (show ¬ 0 ≤ e by omega), if_pos ⟨HCR2.out, h0⟩, hgi2, Int.toNat_natCast])
          go_wp2
          go_roundw
          case rel => exact ⟨k + 1, tickH sk g k rd, own2, qs2, us2, by go_num, by omega, HT1, ⟨HTK.out.trans HTT.out.1⟩, HQT, ⟨by have := HTT.out.2.1; push_cast; exact this⟩, ⟨by have := HTT.out.2.2; push_cast; exact this⟩, ⟨by rw [HFIN.out]; exact HSF.out⟩, HMF, HO3, HO4⟩
          case measure => (simp [intOf] <;> omega)
    · have HTF := Aside0.mk (show tickFrom g rd s.H.toNat 0 s = sk by have := HT.out; rw [show s.H.toNat - k = 0 by omega] at this; exact this.symm)
      have HTU := Aside0.mk (show tickF s rd = if (tickE sk g).now % (tickE sk g).P = 0 ∧ (tickE sk g).cr = true then giveF (tickE sk g) else tickE sk g by unfold tickF; rw [← HGE.out, HTF.out])
      have HWE := Aside0.mk (tickE_wf HTK.out.wf g (by rw [HTK.out.now]; have := HNN.out; omega))
      have hnk : sk.now ≤ 288230376151711744 := by rw [HTK.out.now]; exact HNN.out
      have hn0 := HTK.out.wf.nw.1
      have hsw := HTK.out.wf.sw
      have hP1 := HTK.out.wf.P1
      have hP2 := HTK.out.wf.P2
      have c6 : wr.cell? ⟨L.b, 6, none⟩ = some (.int .u64 sk.now) := HSk.out.fld 6 rfl
      have c7 : wr.cell? ⟨L.b, 7, none⟩ = some (.int .u64 sk.sh) := HSk.out.fld 7 rfl
      have f6 : wr.frozen? ⟨L.b, 6, none⟩ = false := HSk.out.S.frozen _
      have f7 : wr.frozen? ⟨L.b, 7, none⟩ = false := HSk.out.S.frozen _
      have hsh1 : 0 ≤ sk.sh := hsw.1
      have hsh2 : sk.sh ≤ 288230376151711744 := by have := hsw.2; omega
      clear hsw
      obtain ⟨wa, hwa⟩ : ∃ wa, wa = wr.setCell ⟨L.b, 7, none⟩ (.int .u64 (sk.sh + 1)) := ⟨_, rfl⟩
      obtain ⟨sa, hsa⟩ : ∃ sa : SS, sa = { sk with sh := sk.sh + 1 } := ⟨_, rfl⟩
      have HSA := Aside0.mk (show RS wa ownk { L with qs := qsk, us := usk } sa by rw [hwa, hsa]; exact HSk.out.putS (sk.sh + 1))
      have HMA := Aside0.mk (show Mut own W wa by rw [hwa]; exact HMk.out.setCell (HO2.out _ HSk.out.ob.1) _)
      have HTE := Aside0.mk (show ({ sa with now := sk.now + 1 } : SS) = tickE sk g by unfold tickE; rw [hsa, if_pos hg])
      go_upto_region 19 with (fail)
      rw [← hwa]
      have q6 : wa.cell? ⟨L.b, 6, none⟩ = some (.int .u64 sk.now) := by have := HSA.out.fld 6 rfl; rw [show sa.now = sk.now by rw [hsa]] at this; exact this
      have g6 : wa.frozen? ⟨L.b, 6, none⟩ = false := HSA.out.S.frozen _
      have hsb := HSA.out.putN (sk.now + 1)
      rw [HTE.out] at hsb
      obtain ⟨wb, hwb⟩ : ∃ wb, wb = wa.setCell ⟨L.b, 6, none⟩ (.int .u64 (sk.now + 1)) := ⟨_, rfl⟩
      rw [← hwb] at hsb
      have HMB := Aside0.mk (show Mut own W wb by rw [hwb]; exact HMA.out.setCell (HO2.out _ HSk.out.ob.1) _)
      have HSB := Aside0.mk hsb
      clear hsb hwa hsa HSA HMA HTE c6 c7 f6 f7
      go_upto_region 20 with (fail)
      rw [← hwb]
      clear hwb q6 g6
      have r6 : wb.cell? ⟨L.b, 6, none⟩ = some (.int .u64 (sk.now + 1)) := HSB.out.fld 6 rfl
      have r2 : wb.cell? ⟨L.b, 2, none⟩ = some (.int .i64 sk.P) := HSB.out.fld 2 rfl
      have wu : IntKind.u64.wrap sk.P = sk.P := IntWalk.u64_in _ ⟨by omega, by omega⟩
      have hpz : ¬ sk.P = 0 := by omega
      have r1 : 0 ≤ (sk.now + 1) % sk.P := Int.emod_nonneg _ hpz
      have HKE := Aside0.mk (show (tickE sk g).now = sk.now + 1 ∧ (tickE sk g).P = sk.P ∧ (tickE sk g).cr = false from ⟨rfl, rfl, by show sk.cr = _; rw [HTK.out.st.cr]; exact HCV.out⟩)
      go_quiet (fail)
      have HSC := Aside0.mk (HSB.out.drewN nq)
      have HMC := Aside0.mk (HMB.out.below (pw_below_drewN (Below.refl _ _) nq))
      obtain ⟨wc, hwc⟩ : ∃ wc, wc = wb.drewN nq := ⟨_, rfl⟩
      rw [← hwc] at HSC HMC ⊢
      clear hwc r6 r2 HSB HMB
      by_cases hz : (sk.now + 1) % sk.P = 0
      · have bz : ((sk.now + 1) % sk.P == 0) = true := by simpa using hz
        have bz2 : ((sk.now + 1).tmod sk.P == 0) = true := by rw [Int.tmod_eq_emod_of_nonneg (by omega)]; exact bz
        have HZ := Aside0.mk hz
        clear hz
        go_wp2_with (go_at_call 52; refine (rgive_none HSC.out HKE.out.2.2).mono ?_; rintro e0 w10 ⟨rfl, rfl⟩)
        go_end0
        refine ⟨rfl, ?_⟩
        rw [HTU.out, if_neg (fun hc => by rw [HKE.out.2.2] at hc; exact absurd hc.2 (by decide))]
        exact RPost.of HSC.out HMC.out HO1.out HO2.out
      · have bz : ((sk.now + 1) % sk.P == 0) = false := by simpa using hz
        have bz2 : ((sk.now + 1).tmod sk.P == 0) = false := by rw [Int.tmod_eq_emod_of_nonneg (by omega)]; exact bz
        have HZ := Aside0.mk hz
        clear hz
        go_wp2
        go_end0
        refine ⟨rfl, ?_⟩
        rw [HTU.out, if_neg (fun hc => by rw [HKE.out.1, HKE.out.2.1] at hc; exact HZ.out hc.1)]
        exact RPost.of HSC.out HMC.out HO1.out HO2.out
end Go.Proofs.Ytdaadmjppikebaa.SC

/- SchedPlays: the document's tick. -/
namespace Go.Proofs.Ytdaadmjppikebaa.SC
open Go.RowKit Go.Proofs.YtdaadmjppikebaaW.PrintWords Go.Proofs.YtdaadmjppikebaaW.PrintLast
open Go.Proofs.Ytdaadmjppikebaa.PV (S94 k94 S29 k29 rd_T94 rd_T29)
set_option linter.unusedVariables false
set_option linter.unusedSimpArgs false

set_option maxRecDepth 100000 in
set_option maxHeartbeats 8000000 in
theorem rtick_free_true {W : World} {own : Nat → Prop} {L : RLy} {s : SS} {rd : List Bool} {A : Option Addr} {c : Nat} (h : RS W own L s) (hw : Wf s) (hq : QX s) (hn : s.now ≤ 288230376151711744) (hcc : CntC s 0) (hcr : CntR s 0) (hr : RD W rd A c) (hno : ∀ ad, A = some ad → ¬ own ad.block ∧ ad.block < W.heap.size) (hcv : s.cr = true) (hg : gangF s < 0) :
    Calls Try.prog 33 #[.pointer (some ⟨L.b, 0, none⟩), .slice A rd.length c] W fun x w' => x = .returned (.tuple #[]) ∧ RPost W own L (tickF s rd) w' := by
  have HW := Aside0.mk hw
  have HQ := Aside0.mk hq
  have HR := Aside0.mk h
  have HD := Aside0.mk hr
  have HNO := Aside0.mk hno
  have HCV := Aside0.mk hcv
  have HG := Aside0.mk (rgang_calls h hw)
  have HCC := Aside0.mk hcc
  have HCR := Aside0.mk hcr
  have HNN := Aside0.mk hn
  have hH1 := hw.H1
  have hH8 := hw.H8
  have hgr := gangF_range s
  have hgm := hw.gm
  have HLI := Aside0.mk hgr
  obtain ⟨g, hge⟩ : ∃ g, g = gangF s := ⟨_, rfl⟩
  rw [← hge] at HG HLI hg hgr
  have HGE := Aside0.mk hge
  have d1 : decide (0 ≤ g) = false := decide_eq_false (by omega)
  have d2 : decide (g < 0) = true := decide_eq_true hg
  clear h hw hq hr hno hcv hcc hcr hn hge hgr
  go_enter Try.func33, Try.ntmps33
  go_wp2_with (go_at_call 53; refine HG.out.mono ?_; rintro e w0 ⟨rfl, hb⟩; have HB0 := Aside0.mk hb; clear hb)
  go_loopw [5] (fun v5 w' => ∃ (k : Nat) (sk : SS) (ownk : Nat → Prop) (qsk : List Value) (usk : List Int), v5 = .int .i64 (k : Int) ∧ (k : Int) ≤ s.H ∧ Aside0 (tickFrom g rd (s.H.toNat - k) k sk = tickFrom g rd s.H.toNat 0 s) ∧ Aside0 (TK s sk) ∧ Aside0 (QX sk) ∧ Aside0 (CntC sk k) ∧ Aside0 (CntR sk k) ∧ Aside0 (RS w' ownk { L with qs := qsk, us := usk } sk) ∧ Aside0 (Mut own W w') ∧ Aside0 (∀ k, own k → ownk k) ∧ Aside0 (∀ k, ownk k → own k ∨ W.heap.size ≤ k)) (fun v5 _ => s.H.toNat - (intOf v5).toNat)
  case atStart => exact ⟨0, s, own, L.qs, L.us, rfl, by omega, ⟨rfl⟩, ⟨⟨St.refl s, HW.out, rfl, rfl⟩⟩, HQ, HCC, HCR, ⟨HR.out.below HB0.out⟩, ⟨Mut.of_below HB0.out own⟩, ⟨fun _ h => h⟩, ⟨fun _ h => .inl h⟩⟩
  case round =>
    obtain ⟨k, sk, ownk, qsk, usk, rfl, hk, HT, HTK, HQK, HCK, HRK, HSk, HMk, HO1, HO2⟩ := hrel
    clear HB0 HCC HCR HQ
    have c0 : wr.cell? ⟨L.b, 0, none⟩ = some (.int .i64 s.H) := by have := HSk.out.fld 0 rfl; rw [HTK.out.st.H] at this; exact this
    by_cases hlt : (k : Int) < s.H
    · have HT1 := Aside0.mk ((tickFrom_succ g rd (show k < s.H.toNat by omega) sk).symm.trans HT.out)
      have HDk := Aside0.mk (HD.out.mut HMk.out (fun ad e => (HNO.out ad e).1))
      have HNk := Aside0.mk (show ∀ ad, A = some ad → ¬ ownk ad.block from fun ad e ho => (HO2.out _ ho).elim (HNO.out ad e).1 (fun h => by have := (HNO.out ad e).2; omega))
      have HGK := Aside0.mk (show g = gangF sk by rw [HGE.out, HTK.out.st.gang HTK.out.now])
      have HTT := Aside0.mk (tickH_tk HTK.out.wf HGK.out (h := k) (by rw [HTK.out.st.H]; exact hlt) rd HCK.out HRK.out)
      have HQT := Aside0.mk (tickH_qx HTK.out.wf HGK.out (h := k) (by rw [HTK.out.st.H]; exact hlt) rd HQK.out)
      have HPK := Aside0.mk (show PK sk k (pickF sk k rd).1 (pickF sk k rd).2 by have := pickF_pk HTK.out.wf (k : Int) rd; rwa [Int.toNat_natCast] at this)
      have HTH := Aside0.mk (show tickH sk g k rd = ranF (chargeF (pickF sk k rd).2 g k (pickF sk k rd).1) g k (pickF sk k rd).1 from rfl)
      have HPU := Aside0.mk (fun he => credit_cu (rb := rd) HTK.out.wf (h := k) (by rw [HTK.out.st.H]; exact hlt) (by rw [← HGK.out]; exact hg) (by rw [HTK.out.st.cr]; exact HCV.out) he)
      have hkt : k < sk.ts.length := by have := HTK.out.wf.tn; rw [HTK.out.st.H] at this; omega
      clear HT
      go_upto_region 5 with (go_at_call 34; refine (rpick_calls HSk.out HTK.out.wf HDk.out HNk.out (k : Int)).mono ?_; rintro e w2 ⟨rfl, hp⟩; have HP := Aside0.mk hp; clear hp)
      obtain ⟨e, he⟩ : ∃ e, e = (pickF sk k rd).1 := ⟨_, rfl⟩
      obtain ⟨s2, hs2⟩ : ∃ s2, s2 = (pickF sk k rd).2 := ⟨_, rfl⟩
      rw [← he, ← hs2] at HPK HTH HPU
      rw [← hs2] at HP
      rw [← he]
      have HE := Aside0.mk he
      have HS2E := Aside0.mk hs2
      obtain ⟨own2, qs2, us2, hsr, hmm, ho1, ho2⟩ := HP.out
      have HS2 := Aside0.mk (show RS w2 own2 { L with qs := qs2, us := us2 } s2 from hsr)
      have HM2 := Aside0.mk (HMk.out.trans hmm (fun k hk => HO2.out k hk))
      have HO3 := Aside0.mk (show ∀ k, own k → own2 k from fun k h => ho1 k (HO1.out k h))
      have HO4 := Aside0.mk (show ∀ k, own2 k → own k ∨ W.heap.size ≤ k from fun k h => (ho2 k h).elim (HO2.out k) (fun h => .inr (Nat.le_trans HMk.out.size h)))
      have hch2 : s2.ch.length = s.gs.length := by rw [HPK.out.wf.cn, HPK.out.st.gs, HTK.out.st.gs]
      have hcr2 : s2.cr = true := by rw [HPK.out.st.cr, HTK.out.st.cr]; exact HCV.out
      have hem := HPK.out.wf.em
      have hcap := HS2.out.cap
      have hnow : s2.now = s.now := by rw [HPK.out.now, HTK.out.now]
      have HC2 := Aside0.mk (show CntC s2 k from fun i hi => by rw [HPK.out.ch, HPK.out.now]; exact HCK.out i (by rw [← HPK.out.ch]; exact hi))
      have HR2 := Aside0.mk (show CntR s2 k from fun i hi => by have e : s2.ent i = sk.ent i := by { unfold SS.ent; rw [HPK.out.es] }; rw [e, HPK.out.now]; exact HRK.out i (by rw [← HPK.out.es]; exact hi))
      have HCR2 := Aside0.mk hcr2
      have HNW := Aside0.mk hnow
      clear he hs2 hsr hmm ho1 ho2 HP HSk HMk HO1 HO2 HDk hcr2 hnow c0
      by_cases he0 : 0 ≤ e
      · replace HPU := Aside0.mk (HPU.out he0)
        obtain ⟨en, hen⟩ := Int.eq_ofNat_of_zero_le he0
        have hin : en < s2.es.length := by rw [HPK.out.st.el]; rcases HPK.out.rg with h | h <;> omega
        have HEE := Aside0.mk hen
        rw [hen]
        have e1 : decide (0 ≤ ((en : Nat) : Int)) = true := decide_eq_true (by omega)
        have c5 := HS2.out.fld 5 rfl
        have y6 := HS2.out.ent en 6 hin (by decide) rfl
        have f6 := HS2.out.E.frozen (en * 9 + 6)
        have hrn := HR2.out en hin
        have hrn1 : 0 ≤ (s2.ent en).rn := hrn.1
        have hrn2 : (s2.ent en).rn ≤ 4611686018427387903 := by have := hrn.2; have := HNN.out; rw [HNW.out] at *; omega
        have hs3 := HS2.out.putE en 6 hin (by decide) (.int .u64 ((s2.ent en).rn + 1)) (fun x => { x with rn := x.rn + 1 }) ⟨rfl, rfl⟩ rfl
        obtain ⟨w3, hw3⟩ : ∃ w3, w3 = w2.setCell ⟨L.be, en * 9 + 6, none⟩ (.int .u64 ((s2.ent en).rn + 1)) := ⟨_, rfl⟩
        have HM3 := Aside0.mk (show Mut own W w3 by rw [hw3]; exact HM2.out.setCell (HO4.out _ HS2.out.ob.2.1) _)
        rw [← hw3] at hs3
        obtain ⟨s3, hs3e⟩ : ∃ s3, s3 = s2.modE en (fun x => { x with rn := x.rn + 1 }) := ⟨_, rfl⟩
        rw [← hs3e] at hs3
        have HS3 := Aside0.mk hs3
        have HS3E := Aside0.mk hs3e
        have HST3 := Aside0.mk (show St s2 s3 by rw [hs3e]; exact St.modE s2 en _ (fun _ => ⟨rfl, rfl, rfl⟩))
        have HCH3 := Aside0.mk (show s3.ch = s2.ch by rw [hs3e]; rfl)
        have HTS3 := Aside0.mk (show s3.ts = s2.ts by rw [hs3e]; rfl)
        have HSH3 := Aside0.mk (show s3.sh = s2.sh by rw [hs3e]; rfl)
        have hcr3 : s3.cr = true := by rw [HST3.out.cr]; exact HCR2.out
        have HEN3 := Aside0.mk (show s3.ent en = { s2.ent en with rn := (s2.ent en).rn + 1 } by rw [hs3e, modE_ent _ hin, if_pos rfl])
        have hin3 : en < s3.es.length := by rw [HST3.out.el]; exact hin
        clear hs3 hs3e hrn
        go_upto_region 7 with (fail)
        rw [← hw3]
        have HWF3 := Aside0.mk (show Wf s3 by rw [HS3E.out]; exact HPK.out.wf.modE en hin _ (fun _ => ⟨rfl, rfl, rfl⟩) (HPK.out.wf.ec en hin))
        clear hw3 c5 y6 f6
        have c3 : w3.cell? ⟨L.b, 3, none⟩ = some (.bool true) := by have := HS3.out.fld 3 rfl; rw [hcr3] at this; exact this
        go_upto_region 14 with (fail)
        have hx3 := hin3
        have hgu := HWF3.out.eg en hx3
        obtain ⟨gi, hgi⟩ := Int.eq_ofNat_of_zero_le hgu.1
        have HGI := Aside0.mk hgi
        have hgl : gi < s.gs.length := by have h1 := hgu.2.1; rw [HST3.out.gs, HPK.out.st.gs, HTK.out.st.gs] at h1; omega
        have HSd := Aside0.mk (HS3.out.below (below_drew (Below.refl _ _)))
        have HMd := Aside0.mk (HM3.out.below (below_drew (Below.refl _ _)))
        have hcap3 := HSd.out.cap
        have hem3 := HWF3.out.em
        have k5 : w3.drew.cell? ⟨L.b, 5, none⟩ = some (.slice (some ⟨L.be, 0, none⟩) s3.es.length L.ce) := HSd.out.fld 5 rfl
        have k0 : w3.drew.cell? ⟨L.be, en * 9, none⟩ = some (.int .i64 (gi : Int)) := by have := HSd.out.ent en 0 hx3 (by decide) rfl; rw [HGI.out] at this; exact this
        clear hgu hgi
        have hgc : gi < s3.ch.length := by rw [HCH3.out, hch2]; exact hgl
        have cg := HSd.out.chg gi hgc
        have fg := HSd.out.C.frozen gi
        have c8 := HSd.out.fld 8 rfl
        have hcb := HC2.out gi (by rw [← HCH3.out]; exact hgc)
        rw [← HCH3.out] at hcb
        obtain ⟨cn, hcn⟩ : ∃ cn, cn = s3.ch.getD gi 0 := ⟨_, rfl⟩
        rw [← hcn] at cg hcb
        have hcb1 : 0 ≤ cn := hcb.1
        have hcb2 : cn ≤ 4611686018427387903 := by have := hcb.2; have := HNN.out; rw [HNW.out] at *; omega
        have ec1 : IntKind.u64.wrap (cn + 1) = cn + 1 := IntWalk.u64_in _ ⟨by omega, by omega⟩
        have hcl : s3.ch.length ≤ 8 := by rw [HCH3.out, hch2]; exact hgm
        have hs4 := HSd.out.putC gi hgc (cn + 1) (· + 1) (by rw [← hcn])
        have hm4 : Mut own W ((w3.drew).setCell ⟨L.bc, gi, none⟩ (.int .u64 (cn + 1))) := HMd.out.setCell (HO4.out _ HS2.out.ob.2.2.1) _
        clear hcn hcb
        have k8 : w3.drew.cell? ⟨L.b, 8, none⟩ = some (.slice (some ⟨L.bc, 0, none⟩) s3.ch.length s3.ch.length) := c8
        have kc : w3.drew.cell? ⟨L.bc, gi, none⟩ = some (.int .u64 cn) := cg
        refine start_ (n := 17) (S := fun w' => w'.cell? ⟨L.b, 8, none⟩ = some (.slice (some ⟨L.bc, 0, none⟩) s3.ch.length s3.ch.length) ∧ w'.cell? ⟨L.b, 5, none⟩ = some (.slice (some ⟨L.be, 0, none⟩) s3.es.length L.ce) ∧ w'.cell? ⟨L.be, en * 9, none⟩ = some (.int .i64 (gi : Int)) ∧ w'.cell? ⟨L.bc, gi, none⟩ = some (.int .u64 cn)) (ds := [16]) (bl 17 0) (by kernel_rfl) rfl rfl ⟨k8, k5, k0, kc⟩ (fun hHeld => ?_)
        refine pure_ (i := 0) (N := some 79) (v := ?_) (a' := ?_) (bl 17 1) rfl rfl (by kernel_rfl) (fun _ _ _ h => h) (Or.inl ⟨by rfl, ?_⟩) ?_ ?_
        rotate_left
        · intro w'
          go_simp
          with_reducible rfl
        rotate_left
        · simp only [Act.put, lsa, lsz, lsc, i64_w, i32_w]
          rfl
        refine pure_ (i := 1) (N := some 80) (v := ?_) (a' := ?_) (bl 17 3) rfl rfl (by kernel_rfl) (fun _ _ _ h => h) (Or.inl ⟨by rfl, ?_⟩) ?_ ?_
        rotate_left
        · intro w'
          go_simp
          with_reducible rfl
        rotate_left
        · simp only [Act.put, lsa, lsz, lsc, i64_w, i32_w]
          rfl
        refine pure_ (i := 2) (N := some 81) (v := ?_) (a' := ?_) (bl 17 7) rfl rfl (by kernel_rfl) (fun _ _ _ h => h) (Or.inl ⟨by rfl, ?_⟩) ?_ ?_
        rotate_left
        · intro w'
          go_simp
          with_reducible rfl
        rotate_left
        · simp only [Act.put, lsa, lsz, lsc, i64_w, i32_w]
          rfl
        refine pure_ (i := 4) (N := some 83) (v := ?_) (a' := ?_) (bl 17 23) rfl rfl (by kernel_rfl) (fun _ _ _ h => h) (Or.inl ⟨by rfl, ?_⟩) ?_ ?_
        rotate_left
        · intro w'
          go_simp
          with_reducible rfl
        rotate_left
        · simp only [Act.put, lsa, lsz, lsc, i64_w, i32_w]
          rfl
        refine pure_ (i := 5) (N := some 84) (v := ?_) (a' := ?_) (bl 17 55) rfl rfl (by kernel_rfl) (fun _ _ _ h => h) (Or.inl ⟨by rfl, ?_⟩) ?_ ?_
        rotate_left
        · intro w'
          go_simp
          with_reducible rfl
        rotate_left
        · simp only [Act.put, lsa, lsz, lsc, i64_w, i32_w]
          rfl
        refine pure_ (i := 6) (N := some 85) (v := ?_) (a' := ?_) (bl 17 119) rfl rfl (by kernel_rfl) (fun _ _ _ h => h) (Or.inl ⟨by rfl, ?_⟩) ?_ ?_
        rotate_left
        · intro w'
          go_simp
          with_reducible rfl
        rotate_left
        · simp only [Act.put, lsa, lsz, lsc, i64_w, i32_w]
          rfl
        refine pure_ (i := 8) (N := some 87) (v := ?_) (a' := ?_) (bl 17 375) rfl rfl (by kernel_rfl) (fun _ _ _ h => h) (Or.inl ⟨by rfl, ?_⟩) ?_ ?_
        rotate_left
        · intro w'
          go_simp
          with_reducible rfl
        rotate_left
        · simp only [Act.put, lsa, lsz, lsc, i64_w, i32_w]
          rfl
        refine take_ (i := 3) (N := some 82) (v := ?_) (a' := ?_) (bl 17 383) rfl rfl (by kernel_rfl) (fun _ _ _ h => h) (Or.inl ⟨by rfl, ?_⟩) hHeld ?_ ?_
        rotate_left
        · rintro w' ⟨s0, s1, s2, s3⟩
          go_simp
          with_reducible rfl
        rotate_left
        · simp only [Act.put, lsa, lsz, lsc, i64_w, i32_w]
          rfl
        refine take_ (i := 7) (N := some 86) (v := ?_) (a' := ?_) (bl 17 511) rfl rfl (by kernel_rfl) (fun _ _ _ h => h) (Or.inl ⟨by rfl, ?_⟩) hHeld ?_ ?_
        rotate_left
        · rintro w' ⟨s0, s1, s2, s3⟩
          go_simp
          with_reducible rfl
        rotate_left
        · simp only [Act.put, lsa, lsz, lsc, i64_w, i32_w]
          rfl
        refine pure_ (i := 9) (N := some 88) (v := ?_) (a' := ?_) (bl 17 1023) rfl rfl (by kernel_rfl) (fun _ _ _ h => h) (Or.inl ⟨by rfl, ?_⟩) ?_ ?_
        rotate_left
        · intro w'
          go_simp
          with_reducible rfl
        rotate_left
        · simp only [Act.put, lsa, lsz, lsc, i64_w, i32_w]
          rfl
        refine pure_ (i := 10) (N := some 89) (v := ?_) (a' := ?_) (bl 17 2047) rfl rfl (by kernel_rfl) (fun _ _ _ h => h) (Or.inl ⟨by rfl, ?_⟩) ?_ ?_
        rotate_left
        · intro w'
          go_simp
          with_reducible rfl
        rotate_left
        · simp only [Act.put, lsa, lsz, lsc, i64_w, i32_w]
          rfl
        refine take_ (i := 11) (N := some 90) (v := ?_) (a' := ?_) (bl 17 4095) rfl rfl (by kernel_rfl) (fun _ _ _ h => h) (Or.inl ⟨by rfl, ?_⟩) hHeld ?_ ?_
        rotate_left
        · rintro w' ⟨s0, s1, s2, s3⟩
          go_simp
          with_reducible rfl
        rotate_left
        · simp only [Act.put, lsa, lsz, lsc, i64_w, i32_w]
          rfl
        refine pure_ (i := 12) (N := some 91) (v := ?_) (a' := ?_) (bl 17 8191) rfl rfl (by kernel_rfl) (fun _ _ _ h => h) (Or.inl ⟨by rfl, ?_⟩) ?_ ?_
        rotate_left
        · intro w'
          go_simp
          with_reducible rfl
        rotate_left
        · simp only [Act.put, lsa, lsz, lsc, i64_w, i32_w]
          rfl
        refine take_ (i := 13) (N := some 92) (v := ?_) (a' := ?_) (bl 17 16383) rfl rfl (by kernel_rfl) (fun _ _ _ h => h) (Or.inl ⟨by rfl, ?_⟩) hHeld ?_ ?_
        rotate_left
        · rintro w' ⟨s0, s1, s2, s3⟩
          go_simp
          with_reducible rfl
        rotate_left
        · simp only [Act.put, lsa, lsz, lsc, i64_w, i32_w]
          rfl
        refine pure_ (i := 14) (N := some 93) (v := ?_) (a' := ?_) (bl 17 32767) rfl rfl (by kernel_rfl) (fun _ _ _ h => h) (Or.inl ⟨by rfl, ?_⟩) ?_ ?_
        rotate_left
        · intro w'
          go_simp
          with_reducible rfl
        rotate_left
        · simp only [Act.put, lsa, lsz, lsc, i64_w, i32_w]
          rfl
        refine pure_ (i := 15) (N := some 94) (v := ?_) (a' := ?_) (bl 17 65535) rfl rfl (by kernel_rfl) (fun _ _ _ h => h) (Or.inl ⟨by rfl, ?_⟩) ?_ ?_
        rotate_left
        · intro w'
          go_simp
          with_reducible rfl
        rotate_left
        · simp only [Act.put, lsa, lsz, lsc, i64_w, i32_w]
          rfl
        refine last_ (i := 16) (N := none) (bl 17 131071) rfl rfl (by kernel_rfl) (by decide) (fun K hK => ?_)
        refine skip_ (w1 := ?_) (by rfl) rfl ?_ ?_
        rotate_left
        · go_simp
          rfl
        refine hK.out _ _ ?_
        clear hK K
        refine done_ (by kernel_rfl) ?_
        have HC3E := Aside0.mk (show chargeF s2 g k (en : Int) = s2.modC gi (· + 1) by
          have hgi2 : (s2.ent en).gu = (gi : Int) := by rw [← HGI.out, HEN3.out]
          unfold chargeF
          rw [if_neg (by omega), if_pos (by omega), Int.toNat_natCast, hgi2, Int.toNat_natCast])
        obtain ⟨s4, hs4e⟩ : ∃ s4, s4 = s3.modC gi (· + 1) := ⟨_, rfl⟩
        obtain ⟨w4, hw4⟩ : ∃ w4, w4 = w3.drew.setCell ⟨L.bc, gi, none⟩ (.int .u64 (cn + 1)) := ⟨_, rfl⟩
        rw [← hs4e, ← hw4] at hs4
        rw [← hw4] at hm4
        first | rw [← hw4] | rw [show (w3.setCell ⟨L.bc, gi, none⟩ (.int .u64 (cn + 1))).drew = w4 from hw4.symm]
        have HS4 := Aside0.mk hs4
        have HM4 := Aside0.mk hm4
        have HS4E := Aside0.mk hs4e
        have HST4 := Aside0.mk (show St s2 s4 from HST3.out.trans (by rw [hs4e]; exact St.modC _ _ _))
        have HW4 := Aside0.mk (HPK.out.wf.toS.st HST4.out)
        have hin4 : en < s4.es.length := by rw [HST4.out.el]; exact hin
        have HEN4 := Aside0.mk (show s4.ent en = { s2.ent en with rn := (s2.ent en).rn + 1 } by rw [hs4e]; exact HEN3.out)
        have HTS4 := Aside0.mk (show s4.ts = s2.ts by rw [hs4e]; exact HTS3.out)
        clear hs4 hm4 hs4e hw4 k5 k0 k8 kc c8 cg fg HSd HMd HS3 HM3 c3
        obtain ⟨lim, hlim⟩ : ∃ lim, lim = limitF s2 := ⟨_, rfl⟩
        have HLM := Aside0.mk hlim
        have hlr := limitF_range HPK.out.wf
        rw [← hlim] at hlr
        obtain ⟨cd, hcd⟩ : ∃ cd, cd = (s2.ent en).cd := ⟨_, rfl⟩
        have hec := HPK.out.wf.ec en hin
        rw [← hcd] at hec
        have HCD := Aside0.mk hcd
        have hcu : cd ≤ lim := by
          have h1 := (HQK.out.c en (by rw [← HPK.out.es]; exact hin)).2.1
          rw [hcd, hlim, HPK.out.st.limit]
          have e : s2.ent en = sk.ent en := by unfold SS.ent; rw [HPK.out.es]
          rw [e]; exact h1
        have HCP := Aside0.mk (rcap_calls (HS4.out.below (below_drew (Below.refl _ _))) HW4.out (cd - 1))
        rw [HST4.out.limit, ← hlim] at HCP
        have hc1 := hec.1
        have hc2 := hec.2.1
        have hl1 := hlr.1
        have hl2 := hlr.2
        clear hlim hcd hec hlr
        obtain ⟨c1, hc1e⟩ : ∃ c1, c1 = max (min (cd - 1) lim) (-lim) := ⟨_, rfl⟩
        have HMX := Aside0.mk (show c1 = max (cd - 1) (-lim) by rw [hc1e]; omega)
        rw [← hc1e] at HCP
        clear hc1e hcu
        have hcap4 := HS4.out.cap
        have hem4 : s4.es.length ≤ 64 := by rw [HST4.out.el]; exact hem
        have m5 : w4.drew.cell? ⟨L.b, 5, none⟩ = some (.slice (some ⟨L.be, 0, none⟩) s4.es.length L.ce) := (HS4.out.below (below_drew (Below.refl _ _))).fld 5 rfl
        have m7 : w4.drew.cell? ⟨L.be, en * 9 + 7, none⟩ = some (.int .i64 cd) := (HS4.out.below (below_drew (Below.refl _ _))).ent en 7 hin4 (by decide) (by unfold entR; rw [HEN4.out, HCD.out]; rfl)
        have mf : w4.drew.frozen? ⟨L.be, en * 9 + 7, none⟩ = false := (HS4.out.below (below_drew (Below.refl _ _))).E.frozen _
        go_upto_region 15 with (fail)
        have es1 : IntKind.i64.wrap (cd - 1) = cd - 1 := IntWalk.i64_in _ (by omega)
        refine start_ (n := 19) (S := fun w' => w'.cell? ⟨L.b, 5, none⟩ = some (.slice (some ⟨L.be, 0, none⟩) s4.es.length L.ce) ∧ w'.cell? ⟨L.be, en * 9 + 7, none⟩ = some (.int .i64 cd)) (ds := [18]) (bl 19 0) (by kernel_rfl) rfl rfl ⟨m5, m7⟩ (fun hHeld => ?_)
        refine pure_ (i := 0) (N := some 95) (v := ?_) (a' := ?_) (bl 19 1) rfl rfl (by kernel_rfl) (fun _ _ _ h => h) (Or.inl ⟨by rfl, ?_⟩) ?_ ?_
        rotate_left
        · intro w'
          go_simp
          with_reducible rfl
        rotate_left
        · simp only [Act.put, lsa, lsz, lsc, i64_w, i32_w]
          rfl
        refine pure_ (i := 1) (N := some 96) (v := ?_) (a' := ?_) (bl 19 3) rfl rfl (by kernel_rfl) (fun _ _ _ h => h) (Or.inl ⟨by rfl, ?_⟩) ?_ ?_
        rotate_left
        · intro w'
          go_simp
          with_reducible rfl
        rotate_left
        · simp only [Act.put, lsa, lsz, lsc, i64_w, i32_w]
          rfl
        refine pure_ (i := 2) (N := some 97) (v := ?_) (a' := ?_) (bl 19 7) rfl rfl (by kernel_rfl) (fun _ _ _ h => h) (Or.inl ⟨by rfl, ?_⟩) ?_ ?_
        rotate_left
        · intro w'
          go_simp
          with_reducible rfl
        rotate_left
        · simp only [Act.put, lsa, lsz, lsc, i64_w, i32_w]
          rfl
        refine pure_ (i := 4) (N := some 99) (v := ?_) (a' := ?_) (bl 19 23) rfl rfl (by kernel_rfl) (fun _ _ _ h => h) (Or.inl ⟨by rfl, ?_⟩) ?_ ?_
        rotate_left
        · intro w'
          go_simp
          with_reducible rfl
        rotate_left
        · simp only [Act.put, lsa, lsz, lsc, i64_w, i32_w]
          rfl
        refine pure_ (i := 5) (N := some 100) (v := ?_) (a' := ?_) (bl 19 55) rfl rfl (by kernel_rfl) (fun _ _ _ h => h) (Or.inl ⟨by rfl, ?_⟩) ?_ ?_
        rotate_left
        · intro w'
          go_simp
          with_reducible rfl
        rotate_left
        · simp only [Act.put, lsa, lsz, lsc, i64_w, i32_w]
          rfl
        refine pure_ (i := 6) (N := some 101) (v := ?_) (a' := ?_) (bl 19 119) rfl rfl (by kernel_rfl) (fun _ _ _ h => h) (Or.inl ⟨by rfl, ?_⟩) ?_ ?_
        rotate_left
        · intro w'
          go_simp
          with_reducible rfl
        rotate_left
        · simp only [Act.put, lsa, lsz, lsc, i64_w, i32_w]
          rfl
        refine pure_ (i := 7) (N := some 102) (v := ?_) (a' := ?_) (bl 19 247) rfl rfl (by kernel_rfl) (fun _ _ _ h => h) (Or.inl ⟨by rfl, ?_⟩) ?_ ?_
        rotate_left
        · intro w'
          go_simp
          with_reducible rfl
        rotate_left
        · simp only [Act.put, lsa, lsz, lsc, i64_w, i32_w]
          rfl
        refine pure_ (i := 8) (N := some 103) (v := ?_) (a' := ?_) (bl 19 503) rfl rfl (by kernel_rfl) (fun _ _ _ h => h) (Or.inl ⟨by rfl, ?_⟩) ?_ ?_
        rotate_left
        · intro w'
          go_simp
          with_reducible rfl
        rotate_left
        · simp only [Act.put, lsa, lsz, lsc, i64_w, i32_w]
          rfl
        refine pure_ (i := 10) (N := some 105) (v := ?_) (a' := ?_) (bl 19 1527) rfl rfl (by kernel_rfl) (fun _ _ _ h => h) (Or.inl ⟨by rfl, ?_⟩) ?_ ?_
        rotate_left
        · intro w'
          go_simp
          with_reducible rfl
        rotate_left
        · simp only [Act.put, lsa, lsz, lsc, i64_w, i32_w]
          rfl
        refine take_ (i := 3) (N := some 98) (v := ?_) (a' := ?_) (bl 19 1535) rfl rfl (by kernel_rfl) (fun _ _ _ h => h) (Or.inl ⟨by rfl, ?_⟩) hHeld ?_ ?_
        rotate_left
        · rintro w' ⟨s0, s1⟩
          go_simp
          with_reducible rfl
        rotate_left
        · simp only [Act.put, lsa, lsz, lsc, i64_w, i32_w]
          rfl
        refine take_ (i := 9) (N := some 104) (v := ?_) (a' := ?_) (bl 19 2047) rfl rfl (by kernel_rfl) (fun _ _ _ h => h) (Or.inl ⟨by rfl, ?_⟩) hHeld ?_ ?_
        rotate_left
        · rintro w' ⟨s0, s1⟩
          go_simp
          with_reducible rfl
        rotate_left
        · simp only [Act.put, lsa, lsz, lsc, i64_w, i32_w]
          rfl
        refine pure_ (i := 11) (N := some 106) (v := ?_) (a' := ?_) (bl 19 4095) rfl rfl (by kernel_rfl) (fun _ _ _ h => h) (Or.inl ⟨by rfl, ?_⟩) ?_ ?_
        rotate_left
        · intro w'
          go_simp
          with_reducible rfl
        rotate_left
        · simp only [Act.put, lsa, lsz, lsc, i64_w, i32_w]
          rfl
        refine pure_ (i := 12) (N := some 107) (v := ?_) (a' := ?_) (bl 19 8191) rfl rfl (by kernel_rfl) (fun _ _ _ h => h) (Or.inl ⟨by rfl, ?_⟩) ?_ ?_
        rotate_left
        · intro w'
          go_simp
          with_reducible rfl
        rotate_left
        · simp only [Act.put, lsa, lsz, lsc, i64_w, i32_w]
          rfl
        refine take_ (i := 13) (N := some 108) (v := ?_) (a' := ?_) (bl 19 16383) rfl rfl (by kernel_rfl) (fun _ _ _ h => h) (Or.inl ⟨by rfl, ?_⟩) hHeld ?_ ?_
        rotate_left
        · rintro w' ⟨s0, s1⟩
          go_simp
          with_reducible rfl
        rotate_left
        · simp only [Act.put, lsa, lsz, lsc, i64_w, i32_w]
          rfl
        refine pure_ (i := 14) (N := some 109) (v := ?_) (a' := ?_) (bl 19 32767) rfl rfl (by kernel_rfl) (fun _ _ _ h => h) (Or.inl ⟨by rfl, ?_⟩) ?_ ?_
        rotate_left
        · intro w'
          go_simp
          with_reducible rfl
        rotate_left
        · simp only [Act.put, lsa, lsz, lsc, i64_w, i32_w]
          rfl
        refine one_ (i := 15) (N := some 110) (bl 19 65535) rfl rfl (by kernel_rfl) (by decide) (fun K hK => ?_)
        refine goes_ Try.func55 (by kernel_rfl) rfl #[.pointer (some ⟨L.b, 0, none⟩), .int .i64 (cd - 1)] (by rfl) rfl rfl (by simp only [List.map_toArray, List.map_cons, List.map_nil]; rfl) ?_
        refine HCP.out.mono ?_
        rintro e0 w7 ⟨rfl, rfl⟩
        refine ⟨_, rfl, ?_⟩
        refine hK.out _ _ ⟨m5, m7⟩ (fun hHeld => ?_)
        clear hK K
        refine norm_ (a' := ?_) ?_ ?_
        rotate_left
        · show Act.put _ (some 110) _ = _
          simp only [Act.put, lsa, lsz, lsc, i64_w, i32_w]
          rfl
        refine pure_ (i := 16) (N := some 111) (v := ?_) (a' := ?_) (bl 19 131071) rfl rfl (by kernel_rfl) (fun _ _ _ h => h) (Or.inl ⟨by rfl, ?_⟩) ?_ ?_
        rotate_left
        · intro w'
          go_simp
          with_reducible rfl
        rotate_left
        · simp only [Act.put, lsa, lsz, lsc, i64_w, i32_w]
          rfl
        refine pure_ (i := 17) (N := some 112) (v := ?_) (a' := ?_) (bl 19 262143) rfl rfl (by kernel_rfl) (fun _ _ _ h => h) (Or.inl ⟨by rfl, ?_⟩) ?_ ?_
        rotate_left
        · intro w'
          go_simp
          with_reducible rfl
        rotate_left
        · simp only [Act.put, lsa, lsz, lsc, i64_w, i32_w]
          rfl
        refine last_ (i := 18) (N := none) (bl 19 524287) rfl rfl (by kernel_rfl) (by decide) (fun K hK => ?_)
        refine skip_ (w1 := ?_) (by rfl) rfl ?_ ?_
        rotate_left
        · go_simp
          rfl
        refine hK.out _ _ ?_
        clear hK K
        refine done_ (by kernel_rfl) ?_
        have hs5 := (HS4.out.below (below_drew (Below.refl _ _))).putE en 7 hin4 (by decide) (.int .i64 c1) (fun x => { x with cd := c1 }) ⟨rfl, rfl⟩ rfl
        obtain ⟨w5, hw5⟩ : ∃ w5, w5 = w4.drew.setCell ⟨L.be, en * 9 + 7, none⟩ (.int .i64 c1) := ⟨_, rfl⟩
        have HM5 := Aside0.mk (show Mut own W w5 by rw [hw5]; exact (HM4.out.below (below_drew (Below.refl _ _))).setCell (HO4.out _ HS2.out.ob.2.1) _)
        rw [← hw5] at hs5
        first | rw [← hw5] | rw [show (w4.setCell ⟨L.be, en * 9 + 7, none⟩ (.int .i64 c1)).drew = w5 from hw5.symm]
        obtain ⟨s5, hs5e⟩ : ∃ s5, s5 = s4.modE en (fun x => { x with cd := c1 }) := ⟨_, rfl⟩
        rw [← hs5e] at hs5
        have HS5 := Aside0.mk hs5
        have HS5E := Aside0.mk hs5e
        have HTR5 := Aside0.mk (show s5.trn k = s2.trn k by rw [hs5e]; show s4.trn k = _; unfold SS.trn; rw [HTS4.out])
        have hk5 : k < s5.ts.length := by rw [hs5e]; show k < s4.ts.length; rw [HTS4.out, HPK.out.st.tl]; exact hkt
        clear hs5 hs5e hw5 m5 m7 mf HCP HS4 HM4 es1
        have n11 := HS5.out.fld 11 rfl
        have nu := HS5.out.used k hk5
        have nf := HS5.out.U.frozen k
        have hus : us2.getD k 0 = (s2.trn k).us := by have := HS5.out.uv k hk5 (by rw [HTR5.out, HPU.out.2]; omega); rw [HTR5.out] at this; exact this
        have nu' : w5.cell? ⟨L.bu, k, none⟩ = some (.int .i64 (s2.trn k).us) := by rw [← hus]; exact nu
        have htl5 : s5.ts.length ≤ 8 := by have h1 := HTK.out.wf.tn; have h2 := HTK.out.st.H; have h3 := HPK.out.st.tl; have h4 : s5.ts.length = s2.ts.length := by { rw [HS5E.out]; show s4.ts.length = _; rw [HTS4.out] }; omega
        have htq := HPK.out.wf.tq k (by rw [HPK.out.st.tl]; exact hkt)
        have hu1 : 0 ≤ (s2.trn k).us := htq.2.2.2.2.2.1
        have hu2 : (s2.trn k).us ≤ 1000 := Int.le_trans htq.2.2.2.2.2.2.1 HPK.out.wf.S2
        have HSF := Aside0.mk (HS5.out.putU k hk5 ((s2.trn k).us + 1) (fun t => { t with us := t.us + 1 }) rfl rfl (fun _ => by rw [HTR5.out]))
        have HMF := Aside0.mk (show Mut own W (w5.setCell ⟨L.bu, k, none⟩ (.int .i64 ((s2.trn k).us + 1))) from HM5.out.setCell (HO4.out _ HS2.out.ob.2.2.2.2.2) _)
        have HFIN := Aside0.mk (show tickH sk g k rd = s5.modT k (fun t => { t with us := t.us + 1 }) by
          have hcr3 : (s2.modC gi (· + 1)).cr = true := HCR2.out
          have hl : limitF (s2.modC gi (· + 1)) = lim := by rw [(St.modC s2 gi (· + 1)).limit, HLM.out]
          rw [HTH.out, HEE.out, HC3E.out]
          unfold ranF
          rw [if_neg (by omega), if_pos ⟨hcr3, hg⟩, Int.toNat_natCast, HS5E.out, HS4E.out, HS3E.out, modE_modC, modE_modE]
          congr 1
          exact modE_congr hin (by
            have h2 : ((s2.modC gi (· + 1)).ent en).cd = cd := by rw [HCD.out]; rfl
            simp only [hl, h2, HMX.out]))
        clear nu hus htq
        go_wp2
        go_roundw
        case rel => exact ⟨k + 1, tickH sk g k rd, own2, qs2, (us2.set k ((s2.trn k).us + 1)), by go_num, by omega, HT1, ⟨HTK.out.trans HTT.out.1⟩, HQT, ⟨by have := HTT.out.2.1; push_cast; exact this⟩, ⟨by have := HTT.out.2.2; push_cast; exact this⟩, ⟨by rw [HFIN.out]; exact HSF.out⟩, HMF, HO3, HO4⟩
        case measure => (simp [intOf] <;> omega)
      · have e1 : decide (0 ≤ e) = false := decide_eq_false he0
        have HEN0 := Aside0.mk (show e < 0 by omega)
        obtain ⟨w3, hw3⟩ : ∃ w3, w3 = w2 := ⟨_, rfl⟩
        obtain ⟨s3, hs3⟩ : ∃ s3, s3 = s2 := ⟨_, rfl⟩
        have HS3 := Aside0.mk (show RS w3 own2 { L with qs := qs2, us := us2 } s3 by rw [hw3, hs3]; exact HS2.out)
        have HM3 := Aside0.mk (show Mut own W w3 by rw [hw3]; exact HM2.out)
        have HS3E := Aside0.mk hs3
        have HST3 := Aside0.mk (show St s2 s3 by rw [hs3]; exact St.refl _)
        have HCH3 := Aside0.mk (show s3.ch = s2.ch by rw [hs3])
        have HSH3 := Aside0.mk (show s3.sh = s2.sh by rw [hs3])
        have hcr3 : s3.cr = true := by rw [hs3]; exact HCR2.out
        have HWF3 := Aside0.mk (show Wf s3 by rw [hs3]; exact HPK.out.wf)
        go_upto_region 7 with (fail)
        rw [← hw3]
        clear hw3 hs3
        have c3 : w3.cell? ⟨L.b, 3, none⟩ = some (.bool true) := by have := HS3.out.fld 3 rfl; rw [hcr3] at this; exact this
        go_wp2
        have HFIN := Aside0.mk (show tickH sk g k rd = s3 by rw [HTH.out, HS3E.out]; unfold ranF chargeF; rw [if_pos HEN0.out, if_neg (by omega), if_neg (show ¬ 0 ≤ e by omega), if_neg (fun hc => by rw [HCR2.out] at hc; exact absurd hc.1 (by decide))])
        have HSF := HS3
        have HMF := HM3
        go_roundw
        case rel => exact ⟨k + 1, tickH sk g k rd, own2, qs2, us2, by go_num, by omega, HT1, ⟨HTK.out.trans HTT.out.1⟩, HQT, ⟨by have := HTT.out.2.1; push_cast; exact this⟩, ⟨by have := HTT.out.2.2; push_cast; exact this⟩, ⟨by rw [HFIN.out]; exact HSF.out⟩, HMF, HO3, HO4⟩
        case measure => (simp [intOf] <;> omega)
    · have HTF := Aside0.mk (show tickFrom g rd s.H.toNat 0 s = sk by have := HT.out; rw [show s.H.toNat - k = 0 by omega] at this; exact this.symm)
      have HTU := Aside0.mk (show tickF s rd = if (tickE sk g).now % (tickE sk g).P = 0 ∧ (tickE sk g).cr = true then giveF (tickE sk g) else tickE sk g by unfold tickF; rw [← HGE.out, HTF.out])
      have HWE := Aside0.mk (tickE_wf HTK.out.wf g (by rw [HTK.out.now]; have := HNN.out; omega))
      have hnk : sk.now ≤ 288230376151711744 := by rw [HTK.out.now]; exact HNN.out
      have hn0 := HTK.out.wf.nw.1
      have hsw := HTK.out.wf.sw
      have hP1 := HTK.out.wf.P1
      have hP2 := HTK.out.wf.P2
      have c6 : wr.cell? ⟨L.b, 6, none⟩ = some (.int .u64 sk.now) := HSk.out.fld 6 rfl
      have c7 : wr.cell? ⟨L.b, 7, none⟩ = some (.int .u64 sk.sh) := HSk.out.fld 7 rfl
      have f6 : wr.frozen? ⟨L.b, 6, none⟩ = false := HSk.out.S.frozen _
      have f7 : wr.frozen? ⟨L.b, 7, none⟩ = false := HSk.out.S.frozen _
      have hsh1 : 0 ≤ sk.sh := hsw.1
      have hsh2 : sk.sh ≤ 288230376151711744 := by have := hsw.2; omega
      clear hsw
      obtain ⟨wa, hwa⟩ : ∃ wa, wa = wr.setCell ⟨L.b, 7, none⟩ (.int .u64 (sk.sh + 1)) := ⟨_, rfl⟩
      obtain ⟨sa, hsa⟩ : ∃ sa : SS, sa = { sk with sh := sk.sh + 1 } := ⟨_, rfl⟩
      have HSA := Aside0.mk (show RS wa ownk { L with qs := qsk, us := usk } sa by rw [hwa, hsa]; exact HSk.out.putS (sk.sh + 1))
      have HMA := Aside0.mk (show Mut own W wa by rw [hwa]; exact HMk.out.setCell (HO2.out _ HSk.out.ob.1) _)
      have HTE := Aside0.mk (show ({ sa with now := sk.now + 1 } : SS) = tickE sk g by unfold tickE; rw [hsa, if_pos hg])
      go_upto_region 19 with (fail)
      rw [← hwa]
      have q6 : wa.cell? ⟨L.b, 6, none⟩ = some (.int .u64 sk.now) := by have := HSA.out.fld 6 rfl; rw [show sa.now = sk.now by rw [hsa]] at this; exact this
      have g6 : wa.frozen? ⟨L.b, 6, none⟩ = false := HSA.out.S.frozen _
      have hsb := HSA.out.putN (sk.now + 1)
      rw [HTE.out] at hsb
      obtain ⟨wb, hwb⟩ : ∃ wb, wb = wa.setCell ⟨L.b, 6, none⟩ (.int .u64 (sk.now + 1)) := ⟨_, rfl⟩
      rw [← hwb] at hsb
      have HMB := Aside0.mk (show Mut own W wb by rw [hwb]; exact HMA.out.setCell (HO2.out _ HSk.out.ob.1) _)
      have HSB := Aside0.mk hsb
      clear hsb hwa hsa HSA HMA HTE c6 c7 f6 f7
      go_upto_region 20 with (fail)
      rw [← hwb]
      clear hwb q6 g6
      have r6 : wb.cell? ⟨L.b, 6, none⟩ = some (.int .u64 (sk.now + 1)) := HSB.out.fld 6 rfl
      have r2 : wb.cell? ⟨L.b, 2, none⟩ = some (.int .i64 sk.P) := HSB.out.fld 2 rfl
      have wu : IntKind.u64.wrap sk.P = sk.P := IntWalk.u64_in _ ⟨by omega, by omega⟩
      have hpz : ¬ sk.P = 0 := by omega
      have r1 : 0 ≤ (sk.now + 1) % sk.P := Int.emod_nonneg _ hpz
      have HKE := Aside0.mk (show (tickE sk g).now = sk.now + 1 ∧ (tickE sk g).P = sk.P ∧ (tickE sk g).cr = true from ⟨rfl, rfl, by show sk.cr = _; rw [HTK.out.st.cr]; exact HCV.out⟩)
      go_quiet (fail)
      have HSC := Aside0.mk (HSB.out.drewN nq)
      have HMC := Aside0.mk (HMB.out.below (pw_below_drewN (Below.refl _ _) nq))
      obtain ⟨wc, hwc⟩ : ∃ wc, wc = wb.drewN nq := ⟨_, rfl⟩
      rw [← hwc] at HSC HMC ⊢
      clear hwc r6 r2 HSB HMB
      by_cases hz : (sk.now + 1) % sk.P = 0
      · have bz : ((sk.now + 1) % sk.P == 0) = true := by simpa using hz
        have bz2 : ((sk.now + 1).tmod sk.P == 0) = true := by rw [Int.tmod_eq_emod_of_nonneg (by omega)]; exact bz
        have HZ := Aside0.mk hz
        clear hz
        have HQE := Aside0.mk (show CI (tickE sk g) from HQK.out.c)
        go_wp2_with (go_at_call 52; refine (rgive_calls HSC.out HWE.out.1 HQE.out HKE.out.2.2).mono ?_; rintro e0 w10 ⟨rfl, hs10, hm10⟩; have HS10 := Aside0.mk hs10; have HM10 := Aside0.mk hm10; clear hs10 hm10)
        go_end0
        refine ⟨rfl, ?_⟩
        rw [HTU.out, if_pos ⟨by rw [HKE.out.1, HKE.out.2.1]; exact HZ.out, HKE.out.2.2⟩]
        exact RPost.of HS10.out (HMC.out.trans HM10.out (fun k hk => HO2.out k hk)) HO1.out HO2.out
      · have bz : ((sk.now + 1) % sk.P == 0) = false := by simpa using hz
        have bz2 : ((sk.now + 1).tmod sk.P == 0) = false := by rw [Int.tmod_eq_emod_of_nonneg (by omega)]; exact bz
        have HZ := Aside0.mk hz
        clear hz
        go_wp2
        go_end0
        refine ⟨rfl, ?_⟩
        rw [HTU.out, if_neg (fun hc => by rw [HKE.out.1, HKE.out.2.1] at hc; exact HZ.out hc.1)]
        exact RPost.of HSC.out HMC.out HO1.out HO2.out
end Go.Proofs.Ytdaadmjppikebaa.SC
