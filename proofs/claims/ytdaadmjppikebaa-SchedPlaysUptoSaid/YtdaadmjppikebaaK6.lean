import Derived.Test.YtdaadmjppikebaaK3
/- Parts of the walk of package sched, merged. -/
/- A tick. -/
namespace Go.Proofs.Ytdaadmjppikebaa.SC
open Go.RowKit Go.Proofs.YtdaadmjppikebaaW.PrintWords Go.Proofs.YtdaadmjppikebaaW.PrintLast
set_option linter.unusedVariables false
set_option linter.unusedSimpArgs false

set_option maxRecDepth 100000 in
set_option maxHeartbeats 8000000 in
theorem tick_free_false {W : World} {own : Nat → Prop} {L : Lay} {s : SS} {rd : List Bool} {A : Option Addr} {c : Nat} (h : SR W own L s) (hpv : L.pv = pickV L s) (hw : Wf s) (hn : s.now ≤ 288230376151711744) (hcc : CntC s 0) (hcr : CntR s 0) (hr : RD W rd A c) (hno : ∀ ad, A = some ad → ¬ own ad.block ∧ ad.block < W.heap.size) (hcv : s.cr = false) (hg : gangF s < 0) :
    Calls Try.prog 18 #[.pointer (some ⟨L.b, 0, none⟩), .slice A rd.length c] W fun x w' => x = .returned (.tuple #[]) ∧ Post W own L (tickF s rd) w' := by
  have HW := Aside0.mk hw
  have HPV := Aside0.mk hpv
  have HR := Aside0.mk h
  have HD := Aside0.mk hr
  have HNO := Aside0.mk hno
  have HCV := Aside0.mk hcv
  have HG := Aside0.mk (gang_calls h hw)
  have HCC := Aside0.mk hcc
  have HCR := Aside0.mk hcr
  have HNN := Aside0.mk hn
  have hH1 := hw.H1
  have hH8 := hw.H8
  have hgr := gangF_range s
  have hgm := hw.gm
  have HLI := Aside0.mk hgr
  obtain ⟨g, hge⟩ : ∃ g, g = gangF s := ⟨_, rfl⟩
  rw [← hge] at HG HLI hg hgr
  have HGE := Aside0.mk hge
  have d1 : decide (0 ≤ g) = false := decide_eq_false (by omega)
  have d2 : decide (g < 0) = true := decide_eq_true hg
  clear h hw hpv hr hno hcv hcc hcr hn hge hgr
  go_enter Try.func18, Try.ntmps18
  go_wp2_with (go_at_call 21; refine HG.out.mono ?_; rintro e w0 ⟨rfl, hb⟩; have HB0 := Aside0.mk hb; have c0 := (HR.out.below hb).fld 0 rfl; clear hb)
  go_loopw [14] (fun v14 w' => ∃ (k : Nat) (sk : SS) (ownk : Nat → Prop) (qsk : List Value), v14 = .int .i64 (k : Int) ∧ (k : Int) ≤ s.H ∧ Aside0 (tickFrom g rd (s.H.toNat - k) k sk = tickFrom g rd s.H.toNat 0 s) ∧ Aside0 (TK s sk) ∧ Aside0 (CntC sk k) ∧ Aside0 (CntR sk k) ∧ Aside0 (SR w' ownk { L with qs := qsk } sk) ∧ Aside0 (Mut own W w') ∧ Aside0 (∀ k, own k → ownk k) ∧ Aside0 (∀ k, ownk k → own k ∨ W.heap.size ≤ k)) (fun v14 _ => s.H.toNat - (intOf v14).toNat)
  case atStart => exact ⟨0, s, own, L.qs, rfl, by omega, ⟨rfl⟩, ⟨⟨St.refl s, HW.out, rfl, rfl⟩⟩, HCC, HCR, ⟨HR.out.below HB0.out⟩, ⟨Mut.of_below HB0.out own⟩, ⟨fun _ h => h⟩, ⟨fun _ h => .inl h⟩⟩
  case round =>
    obtain ⟨k, sk, ownk, qsk, rfl, hk, HT, HTK, HCK, HRK, HSk, HMk, HO1, HO2⟩ := hrel
    clear HB0 c0 HCC HCR
    by_cases hlt : (k : Int) < s.H
    · have HT1 := Aside0.mk ((tickFrom_succ g rd (show k < s.H.toNat by omega) sk).symm.trans HT.out)
      have HDk := Aside0.mk (HD.out.mut HMk.out (fun ad e => (HNO.out ad e).1))
      have HNk := Aside0.mk (show ∀ ad, A = some ad → ¬ ownk ad.block from fun ad e ho => (HO2.out _ ho).elim (HNO.out ad e).1 (fun h => by have := (HNO.out ad e).2; omega))
      have HTT := Aside0.mk (tickH_tk HTK.out.wf (g := g) (by rw [HGE.out, HTK.out.st.gang HTK.out.now]) (h := k) (by rw [HTK.out.st.H]; exact hlt) rd HCK.out HRK.out)
      have HPK := Aside0.mk (show PK sk k (pickF sk k rd).1 (pickF sk k rd).2 by have := pickF_pk HTK.out.wf (k : Int) rd; rwa [Int.toNat_natCast] at this)
      have HTH := Aside0.mk (show tickH sk g k rd = ranF (chargeF (pickF sk k rd).2 g k (pickF sk k rd).1) g k (pickF sk k rd).1 from rfl)
      have hkt : k < sk.ts.length := by have := HTK.out.wf.tn; rw [HTK.out.st.H] at this; omega
      clear HT
      go_upto_region 5 with (go_at_call 17; refine (pick_calls HSk.out (by show L.pv = _; rw [HPV.out]; unfold pickV; rw [HTK.out.st.cr]) HTK.out.wf HDk.out HNk.out (k : Int)).mono ?_; rintro e w2 ⟨rfl, hp⟩; have HP := Aside0.mk hp; clear hp)
      obtain ⟨e, he⟩ : ∃ e, e = (pickF sk k rd).1 := ⟨_, rfl⟩
      obtain ⟨s2, hs2⟩ : ∃ s2, s2 = (pickF sk k rd).2 := ⟨_, rfl⟩
      rw [← he, ← hs2] at HPK HTH
      rw [← hs2] at HP
      rw [← he]
      have HE := Aside0.mk he
      have HS2E := Aside0.mk hs2
      obtain ⟨own2, qs2, hsr, hmm, ho1, ho2⟩ := HP.out
      have HS2 := Aside0.mk (show SR w2 own2 { L with qs := qs2 } s2 from hsr)
      have HM2 := Aside0.mk (HMk.out.trans hmm (fun k hk => HO2.out k hk))
      have HO3 := Aside0.mk (show ∀ k, own k → own2 k from fun k h => ho1 k (HO1.out k h))
      have HO4 := Aside0.mk (show ∀ k, own2 k → own k ∨ W.heap.size ≤ k from fun k h => (ho2 k h).elim (HO2.out k) (fun h => .inr (Nat.le_trans HMk.out.size h)))
      have hch2 : s2.ch.length = s.gs.length := by rw [HPK.out.wf.cn, HPK.out.st.gs, HTK.out.st.gs]
      have hcr2 : s2.cr = false := by rw [HPK.out.st.cr, HTK.out.st.cr]; exact HCV.out
      have c9 := hsr.fld 9 rfl
      have c5 := hsr.fld 5 rfl
      have c3 : w2.cell? ⟨L.b, 3, none⟩ = some (.bool false) := by have := hsr.fld 3 rfl; rw [hcr2] at this; exact this
      have c6 := hsr.fld 6 rfl
      have hcap := hsr.cap.2.1
      have hem := HPK.out.wf.em
      have hnow : s2.now = s.now := by rw [HPK.out.now, HTK.out.now]
      have HC2 := Aside0.mk (show CntC s2 k from fun i hi => by rw [HPK.out.ch, HPK.out.now]; exact HCK.out i (by rw [← HPK.out.ch]; exact hi))
      have HR2 := Aside0.mk (show CntR s2 k from fun i hi => by have e : s2.ent i = sk.ent i := by { unfold SS.ent; rw [HPK.out.es] }; rw [e, HPK.out.now]; exact HRK.out i (by rw [← HPK.out.es]; exact hi))
      have HCR2 := Aside0.mk hcr2
      have HNW := Aside0.mk hnow
      clear he hs2 hsr hmm ho1 ho2 HP HSk HMk HO1 HO2 HDk hcr2 hnow
      by_cases he0 : 0 ≤ e
      · obtain ⟨en, hen⟩ := Int.eq_ofNat_of_zero_le he0
        have hin : en < s2.es.length := by rw [HPK.out.st.el]; rcases HPK.out.rg with h | h <;> omega
        have HEE := Aside0.mk hen
        rw [hen]
        have e1 : decide (0 ≤ ((en : Nat) : Int)) = true := decide_eq_true (by omega)
        have e2 : decide (((en : Nat) : Int) < 0) = false := decide_eq_false (by omega)
        have hgu := HPK.out.wf.eg en (by exact hin)
        obtain ⟨gi, hgi⟩ := Int.eq_ofNat_of_zero_le hgu.1
        have HGI := Aside0.mk hgi
        have hgl : gi < s.gs.length := by have h1 := hgu.2.1; rw [HPK.out.st.gs, HTK.out.st.gs] at h1; omega
        have HS2d := Aside0.mk (HS2.out.below (below_drew (Below.refl _ _)))
        have HM2d := Aside0.mk (HM2.out.below (below_drew (Below.refl _ _)))
        have k9 : w2.drew.cell? ⟨L.b, 9, none⟩ = some (.slice (some ⟨L.bc, 0, none⟩) s2.ch.length s2.ch.length) := HS2d.out.fld 9 rfl
        have k5 : w2.drew.cell? ⟨L.b, 5, none⟩ = some (.slice (some ⟨L.be, 0, none⟩) s2.es.length L.ce) := HS2d.out.fld 5 rfl
        have k0 : w2.drew.cell? ⟨L.be, en * 7, none⟩ = some (.int .i64 (gi : Int)) := by have := HS2d.out.ent en 0 hin (by decide) rfl; rw [HGI.out] at this; exact this
        clear hgu hgi
        have hgc : gi < s2.ch.length := by rw [hch2]; exact hgl
        have cg := HS2d.out.chg gi hgc
        have fg : w2.drew.frozen? ⟨L.bc, gi, none⟩ = false := HS2d.out.C.frozen _
        have hcb := HC2.out gi hgc
        obtain ⟨cn, hcn⟩ : ∃ cn, cn = s2.ch.getD gi 0 := ⟨_, rfl⟩
        rw [← hcn] at cg hcb
        have hcb1 : 0 ≤ cn := hcb.1
        have hcb2 : cn ≤ 4611686018427387903 := by have := hcb.2; have := HNN.out; rw [HNW.out] at *; omega
        have HS3 := Aside0.mk (HS2d.out.putC gi hgc (cn + 1) (· + 1) (by rw [← hcn]))
        have HM3 := Aside0.mk (show Mut own W (w2.drew.setCell ⟨L.bc, gi, none⟩ (.int .u64 (cn + 1))) from HM2d.out.setCell (HO4.out _ HS2d.out.ob.2.2.2.2.1) _)
        have HCH := Aside0.mk (show chargeF s2 g k e = s2.modC gi (· + 1) by unfold chargeF; rw [if_neg (by omega), if_pos he0, HEE.out, Int.toNat_natCast, HGI.out, Int.toNat_natCast])
        clear hcn
        obtain ⟨s3, hs3⟩ : ∃ s3, s3 = s2.modC gi (· + 1) := ⟨_, rfl⟩
        obtain ⟨w3, hw3⟩ : ∃ w3, w3 = w2.drew.setCell ⟨L.bc, gi, none⟩ (.int .u64 (cn + 1)) := ⟨_, rfl⟩
        rw [← hs3] at HS3 HCH
        rw [← hw3] at HS3 HM3
        have c53 : w3.cell? ⟨L.b, 5, none⟩ = some (.slice (some ⟨L.be, 0, none⟩) s2.es.length L.ce) := by have := HS3.out.fld 5 rfl; rw [hs3] at this; exact this
        have c33 : w3.cell? ⟨L.b, 3, none⟩ = some (.bool false) := by have := HS3.out.fld 3 rfl; rw [hs3] at this; have e : (s2.modC gi (· + 1)).cr = false := HCR2.out; rw [e] at this; exact this
        have hen3 : ∀ j, s3.ent j = s2.ent j := fun j => by rw [hs3]; rfl
        have hel3 : s3.es.length = s2.es.length := by rw [hs3]; rfl
        have HEN3 := Aside0.mk hen3
        have HEL3 := Aside0.mk hel3
        have HW3 := Aside0.mk hw3
        have HS3W := Aside0.mk hs3
        clear hs3 hen3 hel3 hcb hw3
        have hin3 : en < s3.es.length := by rw [HEL3.out]; exact hin
        have y5 : w3.cell? ⟨L.be, en * 7 + 5, none⟩ = some (.int .u64 (s2.ent en).rn) := HS3.out.ent en 5 hin3 (by decide) (by rw [HEN3.out]; rfl)
        have f5 : w3.frozen? ⟨L.be, en * 7 + 5, none⟩ = false := HS3.out.E.frozen _
        have hrn := HR2.out en hin
        have hrn1 : 0 ≤ (s2.ent en).rn := hrn.1
        have hrn2 : (s2.ent en).rn ≤ 4611686018427387903 := by have := hrn.2; have := HNN.out; rw [HNW.out] at *; omega
        have HS4 := Aside0.mk (HS3.out.putE en 5 hin3 (by decide) (.int .u64 ((s2.ent en).rn + 1)) (fun x => { x with rn := x.rn + 1 }) (by rw [HEN3.out]; rfl) ⟨rfl, rfl⟩)
        have HM4 := Aside0.mk (show Mut own W (w3.setCell ⟨L.be, en * 7 + 5, none⟩ (.int .u64 ((s2.ent en).rn + 1))) from HM3.out.setCell (HO4.out _ HS3.out.ob.2.2.1) _)
        go_upto_region 8 with (fail)
        refine start_ (n := 14) (S := fun w' => w'.cell? ⟨L.b, 9, none⟩ = some (.slice (some ⟨L.bc, 0, none⟩) s2.ch.length s2.ch.length) ∧ w'.cell? ⟨L.b, 5, none⟩ = some (.slice (some ⟨L.be, 0, none⟩) s2.es.length L.ce) ∧ w'.cell? ⟨L.be, en * 7, none⟩ = some (.int .i64 (gi : Int))) (ds := [13]) (bl 14 0) (by kernel_rfl) rfl rfl ⟨k9, k5, k0⟩ (fun hHeld => ?_)
        refine pure_ (i := 0) (N := some 34) (v := ?_) (a' := ?_) (bl 14 1) rfl rfl (by kernel_rfl) (fun _ _ _ h => h) (Or.inl ⟨by rfl, ?_⟩) ?_ ?_
        rotate_left
        · intro w'
          go_simp
          with_reducible rfl
        rotate_left
        · simp only [Act.put, lsa, lsz, lsc, i64_w, i32_w]
          rfl
        refine pure_ (i := 1) (N := some 35) (v := ?_) (a' := ?_) (bl 14 3) rfl rfl (by kernel_rfl) (fun _ _ _ h => h) (Or.inl ⟨by rfl, ?_⟩) ?_ ?_
        rotate_left
        · intro w'
          go_simp
          with_reducible rfl
        rotate_left
        · simp only [Act.put, lsa, lsz, lsc, i64_w, i32_w]
          rfl
        refine pure_ (i := 2) (N := some 36) (v := ?_) (a' := ?_) (bl 14 7) rfl rfl (by kernel_rfl) (fun _ _ _ h => h) (Or.inl ⟨by rfl, ?_⟩) ?_ ?_
        rotate_left
        · intro w'
          go_simp
          with_reducible rfl
        rotate_left
        · simp only [Act.put, lsa, lsz, lsc, i64_w, i32_w]
          rfl
        refine pure_ (i := 4) (N := some 38) (v := ?_) (a' := ?_) (bl 14 23) rfl rfl (by kernel_rfl) (fun _ _ _ h => h) (Or.inl ⟨by rfl, ?_⟩) ?_ ?_
        rotate_left
        · intro w'
          go_simp
          with_reducible rfl
        rotate_left
        · simp only [Act.put, lsa, lsz, lsc, i64_w, i32_w]
          rfl
        refine pure_ (i := 5) (N := some 39) (v := ?_) (a' := ?_) (bl 14 55) rfl rfl (by kernel_rfl) (fun _ _ _ h => h) (Or.inl ⟨by rfl, ?_⟩) ?_ ?_
        rotate_left
        · intro w'
          go_simp
          with_reducible rfl
        rotate_left
        · simp only [Act.put, lsa, lsz, lsc, i64_w, i32_w]
          rfl
        refine pure_ (i := 6) (N := some 40) (v := ?_) (a' := ?_) (bl 14 119) rfl rfl (by kernel_rfl) (fun _ _ _ h => h) (Or.inl ⟨by rfl, ?_⟩) ?_ ?_
        rotate_left
        · intro w'
          go_simp
          with_reducible rfl
        rotate_left
        · simp only [Act.put, lsa, lsz, lsc, i64_w, i32_w]
          rfl
        refine pure_ (i := 8) (N := some 42) (v := ?_) (a' := ?_) (bl 14 375) rfl rfl (by kernel_rfl) (fun _ _ _ h => h) (Or.inl ⟨by rfl, ?_⟩) ?_ ?_
        rotate_left
        · intro w'
          go_simp
          with_reducible rfl
        rotate_left
        · simp only [Act.put, lsa, lsz, lsc, i64_w, i32_w]
          rfl
        refine take_ (i := 3) (N := some 37) (v := ?_) (a' := ?_) (bl 14 383) rfl rfl (by kernel_rfl) (fun _ _ _ h => h) (Or.inl ⟨by rfl, ?_⟩) hHeld ?_ ?_
        rotate_left
        · rintro w' ⟨s0, s1, s2⟩
          go_simp
          with_reducible rfl
        rotate_left
        · simp only [Act.put, lsa, lsz, lsc, i64_w, i32_w]
          rfl
        refine take_ (i := 7) (N := some 41) (v := ?_) (a' := ?_) (bl 14 511) rfl rfl (by kernel_rfl) (fun _ _ _ h => h) (Or.inl ⟨by rfl, ?_⟩) hHeld ?_ ?_
        rotate_left
        · rintro w' ⟨s0, s1, s2⟩
          go_simp
          with_reducible rfl
        rotate_left
        · simp only [Act.put, lsa, lsz, lsc, i64_w, i32_w]
          rfl
        refine pure_ (i := 9) (N := some 43) (v := ?_) (a' := ?_) (bl 14 1023) rfl rfl (by kernel_rfl) (fun _ _ _ h => h) (Or.inl ⟨by rfl, ?_⟩) ?_ ?_
        rotate_left
        · intro w'
          go_simp
          with_reducible rfl
        rotate_left
        · simp only [Act.put, lsa, lsz, lsc, i64_w, i32_w]
          rfl
        refine pure_ (i := 10) (N := some 44) (v := ?_) (a' := ?_) (bl 14 2047) rfl rfl (by kernel_rfl) (fun _ _ _ h => h) (Or.inl ⟨by rfl, ?_⟩) ?_ ?_
        rotate_left
        · intro w'
          go_simp
          with_reducible rfl
        rotate_left
        · simp only [Act.put, lsa, lsz, lsc, i64_w, i32_w]
          rfl
        refine take_ (i := 11) (N := some 45) (v := ?_) (a' := ?_) (bl 14 4095) rfl rfl (by kernel_rfl) (fun _ _ _ h => h) (Or.inl ⟨by rfl, ?_⟩) hHeld ?_ ?_
        rotate_left
        · rintro w' ⟨s0, s1, s2⟩
          go_simp
          with_reducible rfl
        rotate_left
        · simp only [Act.put, lsa, lsz, lsc, i64_w, i32_w]
          rfl
        refine pure_ (i := 12) (N := some 46) (v := ?_) (a' := ?_) (bl 14 8191) rfl rfl (by kernel_rfl) (fun _ _ _ h => h) (Or.inl ⟨by rfl, ?_⟩) ?_ ?_
        rotate_left
        · intro w'
          go_simp
          with_reducible rfl
        rotate_left
        · simp only [Act.put, lsa, lsz, lsc, i64_w, i32_w]
          rfl
        refine last_ (i := 13) (N := some 47) (bl 14 16383) rfl rfl (by kernel_rfl) (by decide) (fun K hK => ?_)
        refine goes_ Try.func43 (by kernel_rfl) rfl #[.pointer (some ⟨L.bc, gi, none⟩), .int .u64 1] (by rfl) rfl rfl (by simp only [List.map_toArray, List.map_cons, List.map_nil]; rfl) ?_
        refine (add_calls cg fg hcb1 (by omega)).mono ?_
        rintro e0 w9 ⟨rfl, rfl⟩
        refine ⟨_, rfl, ?_⟩
        refine hK.out _ _ ?_
        clear hK K
        refine norm_ (a' := ?_) ?_ ?_
        rotate_left
        · show Act.put _ (some 47) _ = _
          simp only [Act.put, lsa, lsz, lsc, i64_w, i32_w]
          rfl
        refine done_ (by kernel_rfl) ?_
        rw [← HW3.out]
        go_wp2
        have HFIN := Aside0.mk (show tickH sk g k rd = s3.modE en (fun x => { x with rn := x.rn + 1 }) by rw [HTH.out, HCH.out]; unfold ranF; rw [HEE.out, if_neg (by omega), if_neg (fun hc => by have h1 : s3.cr = false := by { rw [HS3W.out]; exact HCR2.out }; rw [h1] at hc; exact absurd hc.1 (by decide)), Int.toNat_natCast])
        have HSF := Aside0.mk (HS4.out)
        have HMF := Aside0.mk (HM4.out)
        go_roundw
        case rel => exact ⟨k + 1, tickH sk g k rd, own2, qs2, by go_num, by omega, HT1, ⟨HTK.out.trans HTT.out.1⟩, ⟨by have := HTT.out.2.1; push_cast; exact this⟩, ⟨by have := HTT.out.2.2; push_cast; exact this⟩, ⟨by rw [HFIN.out]; exact HSF.out⟩, HMF, HO3, HO4⟩
        case measure => simp [intOf]; omega
      · have e1 : decide (0 ≤ e) = false := decide_eq_false he0
        have e2 : decide (e < 0) = true := decide_eq_true (by omega)
        have HEN0 := Aside0.mk (show e < 0 by omega)
        rcases whoseF_range s2 (k : Int) with hwv | ⟨en, hwv, hin, _, _⟩
        · have HWC := Aside0.mk (whose_calls HS2.out HPK.out.wf (k : Int))
          rw [hwv] at HWC
          have HFIN := Aside0.mk (show tickH sk g k rd = s2 by rw [HTH.out]; unfold ranF chargeF; rw [if_pos HEN0.out, if_neg (by omega), if_neg he0, if_neg (fun hc => by have h1 := hc.2; rw [hwv] at h1; omega)])
          clear hwv
          go_wp2_with (go_at_call 44; refine HWC.out.mono ?_; rintro e0 w3 ⟨rfl, hb3⟩; have HSF := Aside0.mk (HS2.out.below hb3); have HMF := Aside0.mk (HM2.out.below hb3); clear hb3)
          go_roundw
          case rel => exact ⟨k + 1, tickH sk g k rd, own2, qs2, by go_num, by omega, HT1, ⟨HTK.out.trans HTT.out.1⟩, ⟨by have := HTT.out.2.1; push_cast; exact this⟩, ⟨by have := HTT.out.2.2; push_cast; exact this⟩, ⟨by rw [HFIN.out]; exact HSF.out⟩, HMF, HO3, HO4⟩
          case measure => simp [intOf]; omega
        · have HWC := Aside0.mk (whose_calls HS2.out HPK.out.wf (k : Int))
          rw [hwv] at HWC
          have HWV := Aside0.mk hwv
          clear hwv
          go_upto_region 10 with (go_at_call 44; refine HWC.out.mono ?_; rintro e0 w2b ⟨rfl, hb3⟩; have HS2b := Aside0.mk (HS2.out.below hb3); have HM2b := Aside0.mk (HM2.out.below hb3); clear hb3)
          clear HS2 HM2 HWC c9 c5 c3 c6
          have hgu := HPK.out.wf.eg en (by exact hin)
          obtain ⟨gi, hgi⟩ := Int.eq_ofNat_of_zero_le hgu.1
          have HGI := Aside0.mk hgi
          have hgl : gi < s.gs.length := by have h1 := hgu.2.1; rw [HPK.out.st.gs, HTK.out.st.gs] at h1; omega
          have HS2d := Aside0.mk (HS2b.out.below (below_drew (Below.refl _ _)))
          have HM2d := Aside0.mk (HM2b.out.below (below_drew (Below.refl _ _)))
          have k9 : w2b.drew.cell? ⟨L.b, 9, none⟩ = some (.slice (some ⟨L.bc, 0, none⟩) s2.ch.length s2.ch.length) := HS2d.out.fld 9 rfl
          have k5 : w2b.drew.cell? ⟨L.b, 5, none⟩ = some (.slice (some ⟨L.be, 0, none⟩) s2.es.length L.ce) := HS2d.out.fld 5 rfl
          have k0 : w2b.drew.cell? ⟨L.be, en * 7, none⟩ = some (.int .i64 (gi : Int)) := by have := HS2d.out.ent en 0 hin (by decide) rfl; rw [HGI.out] at this; exact this
          clear hgu hgi

          refine start_ (n := 16) (S := fun w' => w'.cell? ⟨L.b, 9, none⟩ = some (.slice (some ⟨L.bc, 0, none⟩) s2.ch.length s2.ch.length) ∧ w'.cell? ⟨L.b, 5, none⟩ = some (.slice (some ⟨L.be, 0, none⟩) s2.es.length L.ce) ∧ w'.cell? ⟨L.be, en * 7, none⟩ = some (.int .i64 (gi : Int))) (ds := [15]) (bl 16 0) (by kernel_rfl) rfl rfl ⟨k9, k5, k0⟩ (fun hHeld => ?_)
          refine pure_ (i := 0) (N := some 60) (v := ?_) (a' := ?_) (bl 16 1) rfl rfl (by kernel_rfl) (fun _ _ _ h => h) (Or.inl ⟨by rfl, ?_⟩) ?_ ?_
          rotate_left
          · intro w'
            go_simp
            with_reducible rfl
          rotate_left
          · simp only [Act.put, lsa, lsz, lsc, i64_w, i32_w]
            rfl
          refine pure_ (i := 1) (N := some 61) (v := ?_) (a' := ?_) (bl 16 3) rfl rfl (by kernel_rfl) (fun _ _ _ h => h) (Or.inl ⟨by rfl, ?_⟩) ?_ ?_
          rotate_left
          · intro w'
            go_simp
            with_reducible rfl
          rotate_left
          · simp only [Act.put, lsa, lsz, lsc, i64_w, i32_w]
            rfl
          refine pure_ (i := 2) (N := some 62) (v := ?_) (a' := ?_) (bl 16 7) rfl rfl (by kernel_rfl) (fun _ _ _ h => h) (Or.inl ⟨by rfl, ?_⟩) ?_ ?_
          rotate_left
          · intro w'
            go_simp
            with_reducible rfl
          rotate_left
          · simp only [Act.put, lsa, lsz, lsc, i64_w, i32_w]
            rfl
          refine pure_ (i := 4) (N := some 64) (v := ?_) (a' := ?_) (bl 16 23) rfl rfl (by kernel_rfl) (fun _ _ _ h => h) (Or.inl ⟨by rfl, ?_⟩) ?_ ?_
          rotate_left
          · intro w'
            go_simp
            with_reducible rfl
          rotate_left
          · simp only [Act.put, lsa, lsz, lsc, i64_w, i32_w]
            rfl
          refine pure_ (i := 5) (N := some 65) (v := ?_) (a' := ?_) (bl 16 55) rfl rfl (by kernel_rfl) (fun _ _ _ h => h) (Or.inl ⟨by rfl, ?_⟩) ?_ ?_
          rotate_left
          · intro w'
            go_simp
            with_reducible rfl
          rotate_left
          · simp only [Act.put, lsa, lsz, lsc, i64_w, i32_w]
            rfl
          refine pure_ (i := 6) (N := some 66) (v := ?_) (a' := ?_) (bl 16 119) rfl rfl (by kernel_rfl) (fun _ _ _ h => h) (Or.inl ⟨by rfl, ?_⟩) ?_ ?_
          rotate_left
          · intro w'
            go_simp
            with_reducible rfl
          rotate_left
          · simp only [Act.put, lsa, lsz, lsc, i64_w, i32_w]
            rfl
          refine pure_ (i := 8) (N := some 68) (v := ?_) (a' := ?_) (bl 16 375) rfl rfl (by kernel_rfl) (fun _ _ _ h => h) (Or.inl ⟨by rfl, ?_⟩) ?_ ?_
          rotate_left
          · intro w'
            go_simp
            with_reducible rfl
          rotate_left
          · simp only [Act.put, lsa, lsz, lsc, i64_w, i32_w]
            rfl
          refine pure_ (i := 9) (N := some 69) (v := ?_) (a' := ?_) (bl 16 887) rfl rfl (by kernel_rfl) (fun _ _ _ h => h) (Or.inl ⟨by rfl, ?_⟩) ?_ ?_
          rotate_left
          · intro w'
            go_simp
            with_reducible rfl
          rotate_left
          · simp only [Act.put, lsa, lsz, lsc, i64_w, i32_w]
            rfl
          refine take_ (i := 3) (N := some 63) (v := ?_) (a' := ?_) (bl 16 895) rfl rfl (by kernel_rfl) (fun _ _ _ h => h) (Or.inl ⟨by rfl, ?_⟩) hHeld ?_ ?_
          rotate_left
          · rintro w' ⟨s0, s1, s2⟩
            go_simp
            with_reducible rfl
          rotate_left
          · simp only [Act.put, lsa, lsz, lsc, i64_w, i32_w]
            rfl
          refine take_ (i := 7) (N := some 67) (v := ?_) (a' := ?_) (bl 16 1023) rfl rfl (by kernel_rfl) (fun _ _ _ h => h) (Or.inl ⟨by rfl, ?_⟩) hHeld ?_ ?_
          rotate_left
          · rintro w' ⟨s0, s1, s2⟩
            go_simp
            with_reducible rfl
          rotate_left
          · simp only [Act.put, lsa, lsz, lsc, i64_w, i32_w]
            rfl
          refine one_ (i := 10) (N := some 70) (bl 16 2047) rfl rfl (by kernel_rfl) (by decide) (fun K hK => ?_)
          refine goes_ Try.func44 (by kernel_rfl) rfl #[.pointer (some ⟨L.b, 0, none⟩), .int .i64 (k : Int)] (by rfl) rfl rfl (by simp only [List.map_toArray, List.map_cons, List.map_nil]; rfl) ?_
          have hwc := whose_calls HS2d.out HPK.out.wf (k : Int)
          rw [HWV.out] at hwc
          refine hwc.mono ?_
          rintro e0 w2c ⟨rfl, hb4⟩
          refine ⟨_, rfl, ?_⟩
          have m9 := pw_cell_below hb4 k9
          have m5 := pw_cell_below hb4 k5
          have m0 := pw_cell_below hb4 k0
          have HS2c := Aside0.mk (HS2d.out.below hb4)
          have HM2c := Aside0.mk (HM2d.out.below hb4)
          clear hb4 hwc
          have hgc : gi < s2.ch.length := by rw [hch2]; exact hgl
          have cg := HS2c.out.chg gi hgc
          have fg : w2c.frozen? ⟨L.bc, gi, none⟩ = false := HS2c.out.C.frozen _
          have hcb := HC2.out gi hgc
          obtain ⟨cn, hcn⟩ : ∃ cn, cn = s2.ch.getD gi 0 := ⟨_, rfl⟩
          rw [← hcn] at cg hcb
          have hcb1 : 0 ≤ cn := hcb.1
          have hcb2 : cn ≤ 4611686018427387903 := by have := hcb.2; have := HNN.out; rw [HNW.out] at *; omega
          have HS3 := Aside0.mk (HS2c.out.putC gi hgc (cn + 1) (· + 1) (by rw [← hcn]))
          have HM3 := Aside0.mk (show Mut own W (w2c.setCell ⟨L.bc, gi, none⟩ (.int .u64 (cn + 1))) from HM2c.out.setCell (HO4.out _ HS2c.out.ob.2.2.2.2.1) _)
          have HCH := Aside0.mk (show chargeF s2 g k e = s2.modC gi (· + 1) by unfold chargeF; rw [if_neg (by omega), if_neg (show ¬ 0 ≤ e by have := HEN0.out; omega), if_pos ⟨HCR2.out, by rw [HWV.out]; omega⟩, HWV.out, Int.toNat_natCast, HGI.out, Int.toNat_natCast])
          clear hcn
          obtain ⟨s3, hs3⟩ : ∃ s3, s3 = s2.modC gi (· + 1) := ⟨_, rfl⟩
          obtain ⟨w3, hw3⟩ : ∃ w3, w3 = w2c.setCell ⟨L.bc, gi, none⟩ (.int .u64 (cn + 1)) := ⟨_, rfl⟩
          rw [← hs3] at HS3 HCH
          rw [← hw3] at HS3 HM3
          have c53 : w3.cell? ⟨L.b, 5, none⟩ = some (.slice (some ⟨L.be, 0, none⟩) s2.es.length L.ce) := by have := HS3.out.fld 5 rfl; rw [hs3] at this; exact this
          have c33 : w3.cell? ⟨L.b, 3, none⟩ = some (.bool false) := by have := HS3.out.fld 3 rfl; rw [hs3] at this; have e : (s2.modC gi (· + 1)).cr = false := HCR2.out; rw [e] at this; exact this
          have hen3 : ∀ j, s3.ent j = s2.ent j := fun j => by rw [hs3]; rfl
          have hel3 : s3.es.length = s2.es.length := by rw [hs3]; rfl
          have HEN3 := Aside0.mk hen3
          have HEL3 := Aside0.mk hel3
          have HW3 := Aside0.mk hw3
          clear hs3 hen3 hel3 hcb hw3
          refine hK.out _ _ ⟨m9, m5, m0⟩ (fun hHeld => ?_)
          clear hK K
          refine norm_ (a' := ?_) ?_ ?_
          rotate_left
          · show Act.put _ (some 70) _ = _
            simp only [Act.put, lsa, lsz, lsc, i64_w, i32_w]
            rfl
          refine pure_ (i := 11) (N := some 71) (v := ?_) (a' := ?_) (bl 16 4095) rfl rfl (by kernel_rfl) (fun _ _ _ h => h) (Or.inl ⟨by rfl, ?_⟩) ?_ ?_
          rotate_left
          · intro w'
            go_simp
            with_reducible rfl
          rotate_left
          · simp only [Act.put, lsa, lsz, lsc, i64_w, i32_w]
            rfl
          refine pure_ (i := 12) (N := some 72) (v := ?_) (a' := ?_) (bl 16 8191) rfl rfl (by kernel_rfl) (fun _ _ _ h => h) (Or.inl ⟨by rfl, ?_⟩) ?_ ?_
          rotate_left
          · intro w'
            go_simp
            with_reducible rfl
          rotate_left
          · simp only [Act.put, lsa, lsz, lsc, i64_w, i32_w]
            rfl
          refine take_ (i := 13) (N := some 73) (v := ?_) (a' := ?_) (bl 16 16383) rfl rfl (by kernel_rfl) (fun _ _ _ h => h) (Or.inl ⟨by rfl, ?_⟩) hHeld ?_ ?_
          rotate_left
          · rintro w' ⟨s0, s1, s2⟩
            go_simp
            with_reducible rfl
          rotate_left
          · simp only [Act.put, lsa, lsz, lsc, i64_w, i32_w]
            rfl
          refine pure_ (i := 14) (N := some 74) (v := ?_) (a' := ?_) (bl 16 32767) rfl rfl (by kernel_rfl) (fun _ _ _ h => h) (Or.inl ⟨by rfl, ?_⟩) ?_ ?_
          rotate_left
          · intro w'
            go_simp
            with_reducible rfl
          rotate_left
          · simp only [Act.put, lsa, lsz, lsc, i64_w, i32_w]
            rfl
          refine last_ (i := 15) (N := some 75) (bl 16 65535) rfl rfl (by kernel_rfl) (by decide) (fun K hK => ?_)
          refine goes_ Try.func43 (by kernel_rfl) rfl #[.pointer (some ⟨L.bc, gi, none⟩), .int .u64 1] (by rfl) rfl rfl (by simp only [List.map_toArray, List.map_cons, List.map_nil]; rfl) ?_
          refine (add_calls cg fg hcb1 (by omega)).mono ?_
          rintro e0 w9 ⟨rfl, rfl⟩
          refine ⟨_, rfl, ?_⟩
          refine hK.out _ _ ?_
          clear hK K
          refine norm_ (a' := ?_) ?_ ?_
          rotate_left
          · show Act.put _ (some 75) _ = _
            simp only [Act.put, lsa, lsz, lsc, i64_w, i32_w]
            rfl
          refine done_ (by kernel_rfl) ?_
          rw [← HW3.out]
          clear k9 k5 k0
          go_wp2
          have HFIN := Aside0.mk (show tickH sk g k rd = s3 by rw [HTH.out, HCH.out]; unfold ranF; rw [if_pos HEN0.out])
          have HSF := HS3
          have HMF := HM3
          go_roundw
          case rel => exact ⟨k + 1, tickH sk g k rd, own2, qs2, by go_num, by omega, HT1, ⟨HTK.out.trans HTT.out.1⟩, ⟨by have := HTT.out.2.1; push_cast; exact this⟩, ⟨by have := HTT.out.2.2; push_cast; exact this⟩, ⟨by rw [HFIN.out]; exact HSF.out⟩, HMF, HO3, HO4⟩
          case measure => simp [intOf]; omega
    · have HTF := Aside0.mk (show tickFrom g rd s.H.toNat 0 s = sk by have := HT.out; rw [show s.H.toNat - k = 0 by omega] at this; exact this.symm)
      have HTU := Aside0.mk (show tickF s rd = if (tickE sk g).now % (tickE sk g).P = 0 ∧ (tickE sk g).cr = true then giveF (tickE sk g) else tickE sk g by unfold tickF; rw [← HGE.out, HTF.out])
      have HWE := Aside0.mk (tickE_wf HTK.out.wf g (by rw [HTK.out.now]; have := HNN.out; omega))
      have hnk : sk.now ≤ 288230376151711744 := by rw [HTK.out.now]; exact HNN.out
      have hn0 := HTK.out.wf.nw.1
      have hsw := HTK.out.wf.sw
      have hP1 := HTK.out.wf.P1
      have hP2 := HTK.out.wf.P2
      have c2 : wr.cell? ⟨L.b, 2, none⟩ = some (.int .i64 sk.P) := HSk.out.fld 2 rfl
      have c3 : wr.cell? ⟨L.b, 3, none⟩ = some (.bool false) := by have := HSk.out.fld 3 rfl; rw [HTK.out.st.cr, HCV.out] at this; exact this
      have c7 : wr.cell? ⟨L.b, 7, none⟩ = some (.int .u64 sk.now) := HSk.out.fld 7 rfl
      have c8 : wr.cell? ⟨L.b, 8, none⟩ = some (.int .u64 sk.sh) := HSk.out.fld 8 rfl
      have f7 : wr.frozen? ⟨L.b, 7, none⟩ = false := HSk.out.S.frozen _
      have f8 : wr.frozen? ⟨L.b, 8, none⟩ = false := HSk.out.S.frozen _
      have hsh1 : 0 ≤ sk.sh := hsw.1
      have hsh2 : sk.sh ≤ 288230376151711744 := by have := hsw.2; omega
      clear hsw
      obtain ⟨wa, hwa⟩ : ∃ wa, wa = wr.setCell ⟨L.b, 8, none⟩ (.int .u64 (sk.sh + 1)) := ⟨_, rfl⟩
      obtain ⟨sa, hsa⟩ : ∃ sa : SS, sa = { sk with sh := sk.sh + 1 } := ⟨_, rfl⟩
      have HSA := Aside0.mk (show SR wa ownk { L with qs := qsk } sa by rw [hwa, hsa]; exact HSk.out.putS (sk.sh + 1))
      have HMA := Aside0.mk (show Mut own W wa by rw [hwa]; exact HMk.out.setCell (HO2.out _ HSk.out.ob.1) _)
      have HTE := Aside0.mk (show ({ sa with now := sk.now + 1 } : SS) = tickE sk g by unfold tickE; rw [hsa, if_pos hg])
      go_upto_region 20 with (fail)
      rw [← hwa]
      have HNA := Aside0.mk (show sa.now = sk.now by rw [hsa])
      have HPA := Aside0.mk (show sa.P = sk.P by rw [hsa])
      have HCA := Aside0.mk (show sa.cr = false by rw [hsa]; show sk.cr = _; rw [HTK.out.st.cr]; exact HCV.out)
      have q7 : wa.drew.cell? ⟨L.b, 7, none⟩ = some (.int .u64 sk.now) := by have := (HSA.out.below (below_drew (Below.refl _ _))).fld 7 rfl; rw [HNA.out] at this; exact this
      have q2 : wa.drew.cell? ⟨L.b, 2, none⟩ = some (.int .i64 sk.P) := by have := (HSA.out.below (below_drew (Below.refl _ _))).fld 2 rfl; rw [HPA.out] at this; exact this
      have q3 : wa.drew.cell? ⟨L.b, 3, none⟩ = some (.bool false) := by have := (HSA.out.below (below_drew (Below.refl _ _))).fld 3 rfl; rw [HCA.out] at this; exact this
      have qf : wa.drew.frozen? ⟨L.b, 7, none⟩ = false := (HSA.out.below (below_drew (Below.refl _ _))).S.frozen _
      have HSB := Aside0.mk (show SR (wa.drew.setCell ⟨L.b, 7, none⟩ (.int .u64 (sk.now + 1))) ownk { L with qs := qsk } (tickE sk g) by rw [← HTE.out]; exact (HSA.out.below (below_drew (Below.refl _ _))).putN (sk.now + 1))
      have HMB := Aside0.mk (show Mut own W (wa.drew.setCell ⟨L.b, 7, none⟩ (.int .u64 (sk.now + 1))) from (HMA.out.below (below_drew (Below.refl _ _))).setCell (HO2.out _ HSk.out.ob.1) _)
      have wu : IntKind.u64.wrap sk.P = sk.P := IntWalk.u64_in _ ⟨by omega, by omega⟩
      have hpz : ¬ sk.P = 0 := by omega
      have r1 : 0 ≤ (sk.now + 1) % sk.P := Int.emod_nonneg _ hpz
      have HKE := Aside0.mk (show (tickE sk g).now = sk.now + 1 ∧ (tickE sk g).P = sk.P ∧ (tickE sk g).cr = false from ⟨rfl, rfl, by show sk.cr = _; rw [HTK.out.st.cr]; exact HCV.out⟩)
      clear hwa hsa HTE
      by_cases hz : (sk.now + 1) % sk.P = 0
      · have bz : ((sk.now + 1).tmod sk.P == 0) = true := by rw [Int.tmod_eq_emod_of_nonneg (by omega)]; simpa using hz
        have HZ := Aside0.mk hz
        clear hz
        refine start_ (n := 17) (S := fun w' => w'.cell? ⟨L.b, 2, none⟩ = some (.int .i64 sk.P) ∧ w'.cell? ⟨L.b, 3, none⟩ = some (.bool false)) (ds := []) (bl 17 0) (by kernel_rfl) rfl rfl ⟨q2, q3⟩ (fun hHeld => ?_)
        refine pure_ (i := 0) (N := some 132) (v := ?_) (a' := ?_) (bl 17 1) rfl rfl (by kernel_rfl) (fun _ _ _ h => h) (Or.inl ⟨by rfl, ?_⟩) ?_ ?_
        rotate_left
        · intro w'
          go_simp
          with_reducible rfl
        rotate_left
        · simp only [Act.put, lsa, lsz, lsc, i64_w, i32_w]
          rfl
        refine pure_ (i := 1) (N := some 133) (v := ?_) (a' := ?_) (bl 17 3) rfl rfl (by kernel_rfl) (fun _ _ _ h => h) (Or.inl ⟨by rfl, ?_⟩) ?_ ?_
        rotate_left
        · intro w'
          go_simp
          with_reducible rfl
        rotate_left
        · simp only [Act.put, lsa, lsz, lsc, i64_w, i32_w]
          rfl
        refine pure_ (i := 2) (N := some 134) (v := ?_) (a' := ?_) (bl 17 7) rfl rfl (by kernel_rfl) (fun _ _ _ h => h) (Or.inl ⟨by rfl, ?_⟩) ?_ ?_
        rotate_left
        · intro w'
          go_simp
          with_reducible rfl
        rotate_left
        · simp only [Act.put, lsa, lsz, lsc, i64_w, i32_w]
          rfl
        refine pure_ (i := 4) (N := some 136) (v := ?_) (a' := ?_) (bl 17 23) rfl rfl (by kernel_rfl) (fun _ _ _ h => h) (Or.inl ⟨by rfl, ?_⟩) ?_ ?_
        rotate_left
        · intro w'
          go_simp
          with_reducible rfl
        rotate_left
        · simp only [Act.put, lsa, lsz, lsc, i64_w, i32_w]
          rfl
        refine pure_ (i := 5) (N := some 137) (v := ?_) (a' := ?_) (bl 17 55) rfl rfl (by kernel_rfl) (fun _ _ _ h => h) (Or.inl ⟨by rfl, ?_⟩) ?_ ?_
        rotate_left
        · intro w'
          go_simp
          with_reducible rfl
        rotate_left
        · simp only [Act.put, lsa, lsz, lsc, i64_w, i32_w]
          rfl
        refine pure_ (i := 6) (N := some 138) (v := ?_) (a' := ?_) (bl 17 119) rfl rfl (by kernel_rfl) (fun _ _ _ h => h) (Or.inl ⟨by rfl, ?_⟩) ?_ ?_
        rotate_left
        · intro w'
          go_simp
          with_reducible rfl
        rotate_left
        · simp only [Act.put, lsa, lsz, lsc, i64_w, i32_w]
          rfl
        refine take_ (i := 7) (N := some 139) (v := ?_) (a' := ?_) (bl 17 247) rfl rfl (by kernel_rfl) (fun _ _ _ h => h) (Or.inl ⟨by rfl, ?_⟩) hHeld ?_ ?_
        rotate_left
        · rintro w' ⟨s0, s1⟩
          go_simp
          with_reducible rfl
        rotate_left
        · simp only [Act.put, lsa, lsz, lsc, i64_w, i32_w]
          rfl
        refine pure_ (i := 8) (N := some 140) (v := ?_) (a' := ?_) (bl 17 503) rfl rfl (by kernel_rfl) (fun _ _ _ h => h) (Or.inl ⟨by rfl, ?_⟩) ?_ ?_
        rotate_left
        · intro w'
          go_simp
          with_reducible rfl
        rotate_left
        · simp only [Act.put, lsa, lsz, lsc, i64_w, i32_w]
          rfl
        refine one_ (i := 3) (N := some 135) (bl 17 511) rfl rfl (by kernel_rfl) (by decide) (fun K hK => ?_)
        refine goes_ Try.func43 (by kernel_rfl) rfl #[.pointer (some ⟨L.b, 7, none⟩), .int .u64 1] (by rfl) rfl rfl (by simp only [List.map_toArray, List.map_cons, List.map_nil]; rfl) ?_
        refine (add_calls q7 qf hn0 (by omega)).mono ?_
        rintro e0 w9 ⟨rfl, rfl⟩
        refine ⟨_, rfl, ?_⟩
        have q22 : (wa.drew.setCell ⟨L.b, 7, none⟩ (.int .u64 (sk.now + 1))).cell? ⟨L.b, 2, none⟩ = some (.int .i64 sk.P) := (World.cell?_setCell_other _ _ _ _ (by simp)).trans q2
        have q33 : (wa.drew.setCell ⟨L.b, 7, none⟩ (.int .u64 (sk.now + 1))).cell? ⟨L.b, 3, none⟩ = some (.bool false) := (World.cell?_setCell_other _ _ _ _ (by simp)).trans q3
        refine hK.out _ _ ⟨q22, q33⟩ (fun hHeld => ?_)
        clear hK K
        refine norm_ (a' := ?_) ?_ ?_
        rotate_left
        · show Act.put _ (some 135) _ = _
          simp only [Act.put, lsa, lsz, lsc, i64_w, i32_w]
          rfl
        refine pure_ (i := 9) (N := some 141) (v := ?_) (a' := ?_) (bl 17 1023) rfl rfl (by kernel_rfl) (fun _ _ _ h => h) (Or.inl ⟨by rfl, ?_⟩) ?_ ?_
        rotate_left
        · intro w'
          go_simp
          with_reducible rfl
        rotate_left
        · simp only [Act.put, lsa, lsz, lsc, i64_w, i32_w]
          rfl
        refine pure_ (i := 10) (N := some 142) (v := ?_) (a' := ?_) (bl 17 2047) rfl rfl (by kernel_rfl) (fun _ _ _ h => h) (Or.inl ⟨by rfl, ?_⟩) ?_ ?_
        rotate_left
        · intro w'
          go_simp
          with_reducible rfl
        rotate_left
        · simp only [Act.put, lsa, lsz, lsc, i64_w, i32_w]
          rfl
        refine pure_ (i := 11) (N := some 143) (v := ?_) (a' := ?_) (bl 17 4095) rfl rfl (by kernel_rfl) (fun _ _ _ h => h) (Or.inl ⟨by rfl, ?_⟩) ?_ ?_
        rotate_left
        · intro w'
          go_simp
          with_reducible rfl
        rotate_left
        · simp only [Act.put, lsa, lsz, lsc, i64_w, i32_w]
          rfl
        refine pure_ (i := 12) (N := some 144) (v := ?_) (a' := ?_) (bl 17 8191) rfl rfl (by kernel_rfl) (fun _ _ _ h => h) (Or.inl ⟨by rfl, ?_⟩) ?_ ?_
        rotate_left
        · intro w'
          go_simp
          with_reducible rfl
        rotate_left
        · simp only [Act.put, lsa, lsz, lsc, i64_w, i32_w]
          rfl
        refine pure_ (i := 13) (N := some 145) (v := ?_) (a' := ?_) (bl 17 16383) rfl rfl (by kernel_rfl) (fun _ _ _ h => h) (Or.inl ⟨by rfl, ?_⟩) ?_ ?_
        rotate_left
        · intro w'
          go_simp
          with_reducible rfl
        rotate_left
        · simp only [Act.put, lsa, lsz, lsc, i64_w, i32_w]
          rfl
        refine pure_ (i := 14) (N := some 146) (v := ?_) (a' := ?_) (bl 17 32767) rfl rfl (by kernel_rfl) (fun _ _ _ h => h) (Or.inl ⟨by rfl, ?_⟩) ?_ ?_
        rotate_left
        · intro w'
          go_simp
          with_reducible rfl
        rotate_left
        · simp only [Act.put, lsa, lsz, lsc, i64_w, i32_w]
          rfl
        refine take_ (i := 15) (N := some 147) (v := ?_) (a' := ?_) (bl 17 65535) rfl rfl (by kernel_rfl) (fun _ _ _ h => h) (Or.inl ⟨by rfl, ?_⟩) hHeld ?_ ?_
        rotate_left
        · rintro w' ⟨s0, s1⟩
          go_simp
          with_reducible rfl
        rotate_left
        · simp only [Act.put, lsa, lsz, lsc, i64_w, i32_w]
          rfl
        refine pure_ (i := 16) (N := some 148) (v := ?_) (a' := ?_) (bl 17 131071) rfl rfl (by kernel_rfl) (fun _ _ _ h => h) (Or.inl ⟨by rfl, ?_⟩) ?_ ?_
        rotate_left
        · intro w'
          go_simp
          with_reducible rfl
        rotate_left
        · simp only [Act.put, lsa, lsz, lsc, i64_w, i32_w]
          rfl
        refine done_ (by kernel_rfl) ?_
        obtain ⟨wb, hwb⟩ : ∃ wb, wb = wa.drew.setCell ⟨L.b, 7, none⟩ (.int .u64 (sk.now + 1)) := ⟨_, rfl⟩
        rw [← hwb] at HSB HMB ⊢
        clear hwb
        go_wp2
        go_end0
        refine ⟨rfl, ?_⟩
        rw [HTU.out, if_neg (fun hc => by rw [HKE.out.2.2] at hc; exact absurd hc.2 (by decide))]
        exact Post.of HSB.out HMB.out HO1.out HO2.out
      · have bz : ((sk.now + 1).tmod sk.P == 0) = false := by rw [Int.tmod_eq_emod_of_nonneg (by omega)]; simpa using hz
        have HZ := Aside0.mk hz
        clear hz
        refine start_ (n := 17) (S := fun w' => w'.cell? ⟨L.b, 2, none⟩ = some (.int .i64 sk.P) ∧ w'.cell? ⟨L.b, 3, none⟩ = some (.bool false)) (ds := []) (bl 17 0) (by kernel_rfl) rfl rfl ⟨q2, q3⟩ (fun hHeld => ?_)
        refine pure_ (i := 0) (N := some 132) (v := ?_) (a' := ?_) (bl 17 1) rfl rfl (by kernel_rfl) (fun _ _ _ h => h) (Or.inl ⟨by rfl, ?_⟩) ?_ ?_
        rotate_left
        · intro w'
          go_simp
          with_reducible rfl
        rotate_left
        · simp only [Act.put, lsa, lsz, lsc, i64_w, i32_w]
          rfl
        refine pure_ (i := 1) (N := some 133) (v := ?_) (a' := ?_) (bl 17 3) rfl rfl (by kernel_rfl) (fun _ _ _ h => h) (Or.inl ⟨by rfl, ?_⟩) ?_ ?_
        rotate_left
        · intro w'
          go_simp
          with_reducible rfl
        rotate_left
        · simp only [Act.put, lsa, lsz, lsc, i64_w, i32_w]
          rfl
        refine pure_ (i := 2) (N := some 134) (v := ?_) (a' := ?_) (bl 17 7) rfl rfl (by kernel_rfl) (fun _ _ _ h => h) (Or.inl ⟨by rfl, ?_⟩) ?_ ?_
        rotate_left
        · intro w'
          go_simp
          with_reducible rfl
        rotate_left
        · simp only [Act.put, lsa, lsz, lsc, i64_w, i32_w]
          rfl
        refine pure_ (i := 4) (N := some 136) (v := ?_) (a' := ?_) (bl 17 23) rfl rfl (by kernel_rfl) (fun _ _ _ h => h) (Or.inl ⟨by rfl, ?_⟩) ?_ ?_
        rotate_left
        · intro w'
          go_simp
          with_reducible rfl
        rotate_left
        · simp only [Act.put, lsa, lsz, lsc, i64_w, i32_w]
          rfl
        refine pure_ (i := 5) (N := some 137) (v := ?_) (a' := ?_) (bl 17 55) rfl rfl (by kernel_rfl) (fun _ _ _ h => h) (Or.inl ⟨by rfl, ?_⟩) ?_ ?_
        rotate_left
        · intro w'
          go_simp
          with_reducible rfl
        rotate_left
        · simp only [Act.put, lsa, lsz, lsc, i64_w, i32_w]
          rfl
        refine pure_ (i := 6) (N := some 138) (v := ?_) (a' := ?_) (bl 17 119) rfl rfl (by kernel_rfl) (fun _ _ _ h => h) (Or.inl ⟨by rfl, ?_⟩) ?_ ?_
        rotate_left
        · intro w'
          go_simp
          with_reducible rfl
        rotate_left
        · simp only [Act.put, lsa, lsz, lsc, i64_w, i32_w]
          rfl
        refine take_ (i := 7) (N := some 139) (v := ?_) (a' := ?_) (bl 17 247) rfl rfl (by kernel_rfl) (fun _ _ _ h => h) (Or.inl ⟨by rfl, ?_⟩) hHeld ?_ ?_
        rotate_left
        · rintro w' ⟨s0, s1⟩
          go_simp
          with_reducible rfl
        rotate_left
        · simp only [Act.put, lsa, lsz, lsc, i64_w, i32_w]
          rfl
        refine pure_ (i := 8) (N := some 140) (v := ?_) (a' := ?_) (bl 17 503) rfl rfl (by kernel_rfl) (fun _ _ _ h => h) (Or.inl ⟨by rfl, ?_⟩) ?_ ?_
        rotate_left
        · intro w'
          go_simp
          with_reducible rfl
        rotate_left
        · simp only [Act.put, lsa, lsz, lsc, i64_w, i32_w]
          rfl
        refine one_ (i := 3) (N := some 135) (bl 17 511) rfl rfl (by kernel_rfl) (by decide) (fun K hK => ?_)
        refine goes_ Try.func43 (by kernel_rfl) rfl #[.pointer (some ⟨L.b, 7, none⟩), .int .u64 1] (by rfl) rfl rfl (by simp only [List.map_toArray, List.map_cons, List.map_nil]; rfl) ?_
        refine (add_calls q7 qf hn0 (by omega)).mono ?_
        rintro e0 w9 ⟨rfl, rfl⟩
        refine ⟨_, rfl, ?_⟩
        have q22 : (wa.drew.setCell ⟨L.b, 7, none⟩ (.int .u64 (sk.now + 1))).cell? ⟨L.b, 2, none⟩ = some (.int .i64 sk.P) := (World.cell?_setCell_other _ _ _ _ (by simp)).trans q2
        have q33 : (wa.drew.setCell ⟨L.b, 7, none⟩ (.int .u64 (sk.now + 1))).cell? ⟨L.b, 3, none⟩ = some (.bool false) := (World.cell?_setCell_other _ _ _ _ (by simp)).trans q3
        refine hK.out _ _ ⟨q22, q33⟩ (fun hHeld => ?_)
        clear hK K
        refine norm_ (a' := ?_) ?_ ?_
        rotate_left
        · show Act.put _ (some 135) _ = _
          simp only [Act.put, lsa, lsz, lsc, i64_w, i32_w]
          rfl
        refine pure_ (i := 9) (N := some 141) (v := ?_) (a' := ?_) (bl 17 1023) rfl rfl (by kernel_rfl) (fun _ _ _ h => h) (Or.inl ⟨by rfl, ?_⟩) ?_ ?_
        rotate_left
        · intro w'
          go_simp
          with_reducible rfl
        rotate_left
        · simp only [Act.put, lsa, lsz, lsc, i64_w, i32_w]
          rfl
        refine pure_ (i := 10) (N := some 142) (v := ?_) (a' := ?_) (bl 17 2047) rfl rfl (by kernel_rfl) (fun _ _ _ h => h) (Or.inl ⟨by rfl, ?_⟩) ?_ ?_
        rotate_left
        · intro w'
          go_simp
          with_reducible rfl
        rotate_left
        · simp only [Act.put, lsa, lsz, lsc, i64_w, i32_w]
          rfl
        refine pure_ (i := 11) (N := some 143) (v := ?_) (a' := ?_) (bl 17 4095) rfl rfl (by kernel_rfl) (fun _ _ _ h => h) (Or.inl ⟨by rfl, ?_⟩) ?_ ?_
        rotate_left
        · intro w'
          go_simp
          with_reducible rfl
        rotate_left
        · simp only [Act.put, lsa, lsz, lsc, i64_w, i32_w]
          rfl
        refine pure_ (i := 12) (N := some 144) (v := undef) (a' := ?_) (bl 17 8191) rfl rfl (by kernel_rfl) (fun _ _ _ h => h) (Or.inr ⟨by rfl, rfl⟩) ?_ ?_
        rotate_left
        · simp only [Act.put, lsa, lsz, lsc, i64_w, i32_w]
          rfl
        refine pure_ (i := 13) (N := some 145) (v := undef) (a' := ?_) (bl 17 16383) rfl rfl (by kernel_rfl) (fun _ _ _ h => h) (Or.inr ⟨by rfl, rfl⟩) ?_ ?_
        rotate_left
        · simp only [Act.put, lsa, lsz, lsc, i64_w, i32_w]
          rfl
        refine pure_ (i := 14) (N := some 146) (v := undef) (a' := ?_) (bl 17 32767) rfl rfl (by kernel_rfl) (fun _ _ _ h => h) (Or.inr ⟨by rfl, rfl⟩) ?_ ?_
        rotate_left
        · simp only [Act.put, lsa, lsz, lsc, i64_w, i32_w]
          rfl
        refine pure_ (i := 15) (N := some 147) (v := undef) (a' := ?_) (bl 17 65535) rfl rfl (by kernel_rfl) (fun _ _ _ h => h) (Or.inr ⟨by rfl, rfl⟩) ?_ ?_
        rotate_left
        · simp only [Act.put, lsa, lsz, lsc, i64_w, i32_w]
          rfl
        refine pure_ (i := 16) (N := some 148) (v := ?_) (a' := ?_) (bl 17 131071) rfl rfl (by kernel_rfl) (fun _ _ _ h => h) (Or.inl ⟨by rfl, ?_⟩) ?_ ?_
        rotate_left
        · intro w'
          go_simp
          with_reducible rfl
        rotate_left
        · simp only [Act.put, lsa, lsz, lsc, i64_w, i32_w]
          rfl
        refine done_ (by kernel_rfl) ?_
        obtain ⟨wb, hwb⟩ : ∃ wb, wb = wa.drew.setCell ⟨L.b, 7, none⟩ (.int .u64 (sk.now + 1)) := ⟨_, rfl⟩
        rw [← hwb] at HSB HMB ⊢
        clear hwb
        go_wp2
        go_end0
        refine ⟨rfl, ?_⟩
        rw [HTU.out, if_neg (fun hc => by rw [HKE.out.1, HKE.out.2.1] at hc; exact HZ.out hc.1)]
        exact Post.of HSB.out HMB.out HO1.out HO2.out
end Go.Proofs.Ytdaadmjppikebaa.SC
