import Derived.Test.YtdaadmjppikebaaK1
/- Parts of the walk of package sched, merged. -/
namespace Go.Proofs.Ytdaadmjppikebaa.SC
open Go.RowKit Go.Proofs.YtdaadmjppikebaaW.PrintWords
set_option linter.unusedVariables false
set_option linter.unusedSimpArgs false

set_option maxRecDepth 100000 in
set_option maxHeartbeats 3200000 in
theorem byCredit_none_true {W : World} {own : Nat → Prop} {L : Lay} {s : SS} {rd : List Bool} {A : Option Addr} {c : Nat} (h : SR W own L s) (hw : Wf s) (hr : RD W rd A c) (hno : ∀ ad, A = some ad → ¬ own ad.block) (i : Nat) (hi : i < s.ts.length) (hcu : (s.trn i).cu < 0) (hsm : (s.trn i).q.any (richF s rd) = true) :
    Calls Try.prog 39 #[.pointer (some ⟨L.b, 0, none⟩), .int .i64 (i : Int), .slice A rd.length c] W fun x w' => x = .returned (.int .i64 (byCreditF s i rd).1) ∧ Post W own L (byCreditF s i rd).2 w' := by
  have hmf := hmf
  obtain ⟨q, hq⟩ := h.qs i hi
  have hRq := h.Q i q hq
  obtain ⟨Aq, cq, rfl, hcq, _⟩ := Kd.R_reads hRq
  obtain ⟨tq1, tq2, tq3, tq4, tq5, tq6, tq7, tq8⟩ := hw.tq i hi
  have hbw : Below W.heap.size W ((W.alloc (.cells #[.pointer (some ⟨L.b, 0, none⟩)] 30)).alloc (.cells #[.slice A rd.length c] 39)) := below_alloc (below_alloc (Below.refl _ _) _) _
  have HBW := Aside0.mk hbw
  have HRB := Aside0.mk (h.below hbw)
  have HDB := Aside0.mk (hr.below hbw)
  have HD0 := Aside0.mk hr
  have HNO := Aside0.mk hno
  have p3 : ((W.alloc (.cells #[.pointer (some ⟨L.b, 0, none⟩)] 30)).alloc (.cells #[.slice A rd.length c] 39)).cell? ⟨W.heap.size, 0, none⟩ = some (.pointer (some ⟨L.b, 0, none⟩)) := (World.cell?_alloc_lt _ _ _ (by simp)).trans ((blk_cell (blk_new _ _) 0).trans rfl)
  have p5 : ((W.alloc (.cells #[.pointer (some ⟨L.b, 0, none⟩)] 30)).alloc (.cells #[.slice A rd.length c] 39)).cell? ⟨W.heap.size + 1, 0, none⟩ = some (.slice A rd.length c) := by
    have e := (blk_cell (blk_new (W.alloc (.cells #[.pointer (some ⟨L.b, 0, none⟩)] 30)) (.cells #[.slice A rd.length c] 39)) 0)
    have e2 : (W.alloc (.cells #[.pointer (some ⟨L.b, 0, none⟩)] 30)).heap.size = W.heap.size + 1 := by simp
    rw [e2] at e
    exact e.trans rfl
  have c6 : ((W.alloc (.cells #[.pointer (some ⟨L.b, 0, none⟩)] 30)).alloc (.cells #[.slice A rd.length c] 39)).cell? ⟨L.b, 6, none⟩ = some (.slice (some ⟨L.bt, 0, none⟩) s.ts.length s.ts.length) := HRB.out.fld 6 rfl
  have u0 : ((W.alloc (.cells #[.pointer (some ⟨L.b, 0, none⟩)] 30)).alloc (.cells #[.slice A rd.length c] 39)).cell? ⟨L.bt, i * 3, none⟩ = some (.slice Aq (s.trn i).q.length cq) := HRB.out.trn i 0 hi (by decide) hq rfl
  have u1 : ((W.alloc (.cells #[.pointer (some ⟨L.b, 0, none⟩)] 30)).alloc (.cells #[.slice A rd.length c] 39)).cell? ⟨L.bt, i * 3 + 1, none⟩ = some (.int .i64 (s.trn i).cu) := HRB.out.trn i 1 hi (by decide) hq rfl
  have u2 : ((W.alloc (.cells #[.pointer (some ⟨L.b, 0, none⟩)] 30)).alloc (.cells #[.slice A rd.length c] 39)).cell? ⟨L.bt, i * 3 + 2, none⟩ = some (.int .i64 (s.trn i).us) := HRB.out.trn i 2 hi (by decide) hq rfl
  have HSM := Aside0.mk hsm
  have HCT := Aside0.mk (containsRich HRB.out HDB.out p3 p5 tq1 (Kd.R_reads' (HRB.out.Q i _ hq)).2.2 hcq (b := true) hsm)
  have HRQ := Aside0.mk hRq
  have HQI := Aside0.mk hq
  have HW := Aside0.mk hw
  have HH := Aside0.mk h
  have HTL := Aside0.mk tq1
  have HTN := Aside0.mk tq2
  have HP3 := Aside0.mk p3
  have HP5 := Aside0.mk p5
  have htn := hw.tn
  have hH8 := hw.H8
  have hes := hw.em
  clear h hr hno hbw hRq hq hsm tq1 tq2 tq3 tq8 hw
  have d0 : decide (0 ≤ (s.trn i).cu) = false := decide_eq_false (by omega)
  have HFC := Aside0.mk (show byCreditF s i rd = creditF2 s i rd true by unfold byCreditF; rw [if_neg (by omega)]; unfold someF; rw [HSM.out])
  go_enter Try.func39, Try.ntmps39
  go_upto_region 11 with (go_at_call 60; refine HCT.out.mono ?_; rintro e w' ⟨rfl, rfl⟩)
  obtain ⟨sc, hsc⟩ : ∃ sc, sc = s := ⟨_, rfl⟩
  obtain ⟨wc, hwc⟩ : ∃ wc, wc = ((W.alloc (.cells #[.pointer (some ⟨L.b, 0, none⟩)] 30)).alloc (.cells #[.slice A rd.length c] 39)) := ⟨_, rfl⟩
  have HPc := Aside0.mk (show Post W own L sc wc by rw [hwc, hsc]; exact Post.same HH.out HBW.out)
  have HDc := Aside0.mk (show RD wc rd A c by rw [hwc]; exact HDB.out)
  have HP3c := Aside0.mk (show wc.cell? ⟨W.heap.size, 0, none⟩ = some (.pointer (some ⟨L.b, 0, none⟩)) by rw [hwc]; exact HP3.out)
  have HP5c := Aside0.mk (show wc.cell? ⟨W.heap.size + 1, 0, none⟩ = some (.slice A rd.length c) by rw [hwc]; exact HP5.out)
  have hic : i < sc.ts.length := by rw [hsc]; exact hi
  have HNc := Aside0.mk (show (sc.trn i).q.length ≤ 64 by rw [hsc]; exact HTN.out)
  have HLc := Aside0.mk (show ∀ e ∈ (sc.trn i).q, 0 ≤ e ∧ e < sc.es.length by rw [hsc]; exact HTL.out)
  have HFC := Aside0.mk (show byCreditF s i rd = creditF2 sc i rd true by rw [hsc]; exact HFC.out)
  rw [← hwc]
  clear hwc hsc p3 p5 c6 u0 u1 u2 d0 hcu HSM HCT HRQ HQI HRB HDB
  obtain ⟨ownc, qsc, hsr, hmc, ho1, ho2⟩ := HPc.out
  have HRc := Aside0.mk hsr
  have HMc := Aside0.mk hmc
  have HO1 := Aside0.mk ho1
  have HO2 := Aside0.mk ho2
  obtain ⟨qc, hqc⟩ := hsr.qs i hic
  have hRc := hsr.Q i qc hqc
  obtain ⟨A2, c2, rfl, hc2, hC2⟩ := Kd.R_reads hRc
  have HC2r := Aside0.mk hC2
  have v0 : wc.cell? ⟨L.bt, i * 3, none⟩ = some (.slice A2 (sc.trn i).q.length c2) := hsr.trn i 0 hic (by decide) hqc rfl
  have v1 : wc.cell? ⟨L.bt, i * 3 + 1, none⟩ = some (.int .i64 (sc.trn i).cu) := hsr.trn i 1 hic (by decide) hqc rfl
  have v2 : wc.cell? ⟨L.bt, i * 3 + 2, none⟩ = some (.int .i64 (sc.trn i).us) := hsr.trn i 2 hic (by decide) hqc rfl
  have f1 : wc.frozen? ⟨L.bt, i * 3 + 1, none⟩ = false := hsr.T.frozen _
  have f2 : wc.frozen? ⟨L.bt, i * 3 + 2, none⟩ = false := hsr.T.frozen _
  have hlen := HNc.out
  have hp3 := HP3c.out
  have hp5 := HP5c.out
  clear hsr hmc ho1 ho2 hRc hC2 hqc
  go_wp2
  go_loop [78] (fun v78 => ∃ (k : Nat), v78 = .int .i64 (k : Int) ∧ k ≤ (sc.trn i).q.length ∧ Aside0 (findQ sc rd true ((sc.trn i).q.drop k) = findQ sc rd true (sc.trn i).q)) (fun v78 => (sc.trn i).q.length - (intOf v78).toNat)
  case atStart => exact ⟨0, rfl, by omega, ⟨rfl⟩⟩
  case round =>
    obtain ⟨k, rfl, hk, HT⟩ := hrel
    by_cases hlt : k < (sc.trn i).q.length
    · obtain ⟨ad, rfl, hcell⟩ := Kd.at_int HC2r.out (k : Int) (by omega) (by omega)
      rw [Int.toNat_natCast] at hcell
      have HS := Aside0.mk (show (if (richF sc rd (Go.Proofs.YtdaadmjppikebaaW.PrintWords.rd (sc.trn i).q k) || (!true && readyF sc rd (Go.Proofs.YtdaadmjppikebaaW.PrintWords.rd (sc.trn i).q k))) = true then Go.Proofs.YtdaadmjppikebaaW.PrintWords.rd (sc.trn i).q k else findQ sc rd true ((sc.trn i).q.drop (k + 1))) = findQ sc rd true (sc.trn i).q by have := HT.out; rw [drop_int hlt] at this; exact this)
      have HX := Aside0.mk (HLc.out _ (rd_mem hlt))
      clear HT
      obtain ⟨x, hx⟩ : ∃ x, x = Go.Proofs.YtdaadmjppikebaaW.PrintWords.rd (sc.trn i).q k := ⟨_, rfl⟩
      rw [← hx] at hcell HS HX
      clear hx
      cases hb1 : richF sc rd x with
      | true =>
        have HB1 := Aside0.mk hb1
        clear hb1
        have HFN := Aside0.mk (show findQ sc rd true (sc.trn i).q = x by have := HS.out; rw [if_pos (by rw [HB1.out]; rfl)] at this; exact this.symm)
        have HFX := Aside0.mk (show byCreditF s i rd = (x, sc.modT i fun t => { t with cu := x, us := 0 }) by rw [HFC.out]; unfold creditF2; rw [HFN.out, if_neg (by have := HX.out; omega)])
        go_wp2_with (first | (go_at_call 59; refine (rich_int HRc.out HDc.out HP3c.out HP5c.out x HX.out HB1.out).mono ?_; rintro e w' ⟨rfl, rfl⟩) | (go_at_call 58; refine (ready_int HRc.out HDc.out x HX.out HB2.out).mono ?_; rintro e w' ⟨rfl, rfl⟩))
        go_ret
        refine ⟨ret_int (by rw [HFX.out]), ?_⟩
        rw [HFX.out]
        have h1 := HRc.out.putT i 1 hic (by decide) (.int .i64 x) (fun t => { t with cu := x }) (fun _ => rfl) rfl
        have h2 := h1.putT i 2 (by rw [modT_len]; exact hic) (by decide) (.int .i64 0) (fun t => { t with us := 0 }) (fun _ => rfl) rfl
        rw [modT_modT] at h2
        exact Post.of h2 (((HMc.out.setCell (HO2.out _ HRc.out.ob.2.2.2.1) _).setCell (HO2.out _ HRc.out.ob.2.2.2.1) _)) HO1.out HO2.out
      | false =>
        have HB1 := Aside0.mk hb1
        clear hb1
        have HQQ := Aside0.mk (show findQ sc rd true ((sc.trn i).q.drop (k + 1)) = findQ sc rd true (sc.trn i).q by have := HS.out; rw [if_neg (by rw [HB1.out]; simp)] at this; exact this)
        go_wp2_with (first | (go_at_call 59; refine (rich_int HRc.out HDc.out HP3c.out HP5c.out x HX.out HB1.out).mono ?_; rintro e w' ⟨rfl, rfl⟩) | (go_at_call 58; refine (ready_int HRc.out HDc.out x HX.out HB2.out).mono ?_; rintro e w' ⟨rfl, rfl⟩))
        go_round
        case rel => exact ⟨k + 1, by go_num, by omega, HQQ⟩
        case measure => simp [intOf]; omega
    · have HE := Aside0.mk (show -1 = findQ sc rd true (sc.trn i).q by have := HT.out; rw [drop_end hlt] at this; exact this)
      have HFX := Aside0.mk (show byCreditF s i rd = (-1, sc) by rw [HFC.out]; unfold creditF2; rw [← HE.out, if_pos rfl])
      clear HT
      go_wp2
      go_ret
      refine ⟨ret_int (by rw [HFX.out]), ?_⟩
      rw [HFX.out]
      exact HPc.out
end Go.Proofs.Ytdaadmjppikebaa.SC

namespace Go.Proofs.Ytdaadmjppikebaa.SC
open Go.RowKit Go.Proofs.YtdaadmjppikebaaW.PrintWords
set_option linter.unusedVariables false
set_option linter.unusedSimpArgs false

set_option maxRecDepth 100000 in
set_option maxHeartbeats 3200000 in
theorem byCredit_none_false {W : World} {own : Nat → Prop} {L : Lay} {s : SS} {rd : List Bool} {A : Option Addr} {c : Nat} (h : SR W own L s) (hw : Wf s) (hr : RD W rd A c) (hno : ∀ ad, A = some ad → ¬ own ad.block) (i : Nat) (hi : i < s.ts.length) (hcu : (s.trn i).cu < 0) (hsm : (s.trn i).q.any (richF s rd) = false) :
    Calls Try.prog 39 #[.pointer (some ⟨L.b, 0, none⟩), .int .i64 (i : Int), .slice A rd.length c] W fun x w' => x = .returned (.int .i64 (byCreditF s i rd).1) ∧ Post W own L (byCreditF s i rd).2 w' := by
  have hmf := hmf
  obtain ⟨q, hq⟩ := h.qs i hi
  have hRq := h.Q i q hq
  obtain ⟨Aq, cq, rfl, hcq, _⟩ := Kd.R_reads hRq
  obtain ⟨tq1, tq2, tq3, tq4, tq5, tq6, tq7, tq8⟩ := hw.tq i hi
  have hbw : Below W.heap.size W ((W.alloc (.cells #[.pointer (some ⟨L.b, 0, none⟩)] 30)).alloc (.cells #[.slice A rd.length c] 39)) := below_alloc (below_alloc (Below.refl _ _) _) _
  have HBW := Aside0.mk hbw
  have HRB := Aside0.mk (h.below hbw)
  have HDB := Aside0.mk (hr.below hbw)
  have HD0 := Aside0.mk hr
  have HNO := Aside0.mk hno
  have p3 : ((W.alloc (.cells #[.pointer (some ⟨L.b, 0, none⟩)] 30)).alloc (.cells #[.slice A rd.length c] 39)).cell? ⟨W.heap.size, 0, none⟩ = some (.pointer (some ⟨L.b, 0, none⟩)) := (World.cell?_alloc_lt _ _ _ (by simp)).trans ((blk_cell (blk_new _ _) 0).trans rfl)
  have p5 : ((W.alloc (.cells #[.pointer (some ⟨L.b, 0, none⟩)] 30)).alloc (.cells #[.slice A rd.length c] 39)).cell? ⟨W.heap.size + 1, 0, none⟩ = some (.slice A rd.length c) := by
    have e := (blk_cell (blk_new (W.alloc (.cells #[.pointer (some ⟨L.b, 0, none⟩)] 30)) (.cells #[.slice A rd.length c] 39)) 0)
    have e2 : (W.alloc (.cells #[.pointer (some ⟨L.b, 0, none⟩)] 30)).heap.size = W.heap.size + 1 := by simp
    rw [e2] at e
    exact e.trans rfl
  have c6 : ((W.alloc (.cells #[.pointer (some ⟨L.b, 0, none⟩)] 30)).alloc (.cells #[.slice A rd.length c] 39)).cell? ⟨L.b, 6, none⟩ = some (.slice (some ⟨L.bt, 0, none⟩) s.ts.length s.ts.length) := HRB.out.fld 6 rfl
  have u0 : ((W.alloc (.cells #[.pointer (some ⟨L.b, 0, none⟩)] 30)).alloc (.cells #[.slice A rd.length c] 39)).cell? ⟨L.bt, i * 3, none⟩ = some (.slice Aq (s.trn i).q.length cq) := HRB.out.trn i 0 hi (by decide) hq rfl
  have u1 : ((W.alloc (.cells #[.pointer (some ⟨L.b, 0, none⟩)] 30)).alloc (.cells #[.slice A rd.length c] 39)).cell? ⟨L.bt, i * 3 + 1, none⟩ = some (.int .i64 (s.trn i).cu) := HRB.out.trn i 1 hi (by decide) hq rfl
  have u2 : ((W.alloc (.cells #[.pointer (some ⟨L.b, 0, none⟩)] 30)).alloc (.cells #[.slice A rd.length c] 39)).cell? ⟨L.bt, i * 3 + 2, none⟩ = some (.int .i64 (s.trn i).us) := HRB.out.trn i 2 hi (by decide) hq rfl
  have HSM := Aside0.mk hsm
  have HCT := Aside0.mk (containsRich HRB.out HDB.out p3 p5 tq1 (Kd.R_reads' (HRB.out.Q i _ hq)).2.2 hcq (b := false) hsm)
  have HRQ := Aside0.mk hRq
  have HQI := Aside0.mk hq
  have HW := Aside0.mk hw
  have HH := Aside0.mk h
  have HTL := Aside0.mk tq1
  have HTN := Aside0.mk tq2
  have HP3 := Aside0.mk p3
  have HP5 := Aside0.mk p5
  have htn := hw.tn
  have hH8 := hw.H8
  have hes := hw.em
  clear h hr hno hbw hRq hq hsm tq1 tq2 tq3 tq8 hw
  have d0 : decide (0 ≤ (s.trn i).cu) = false := decide_eq_false (by omega)
  have HFC := Aside0.mk (show byCreditF s i rd = creditF2 s i rd false by unfold byCreditF; rw [if_neg (by omega)]; unfold someF; rw [HSM.out])
  go_enter Try.func39, Try.ntmps39
  go_upto_region 11 with (go_at_call 60; refine HCT.out.mono ?_; rintro e w' ⟨rfl, rfl⟩)
  obtain ⟨sc, hsc⟩ : ∃ sc, sc = s := ⟨_, rfl⟩
  obtain ⟨wc, hwc⟩ : ∃ wc, wc = ((W.alloc (.cells #[.pointer (some ⟨L.b, 0, none⟩)] 30)).alloc (.cells #[.slice A rd.length c] 39)) := ⟨_, rfl⟩
  have HPc := Aside0.mk (show Post W own L sc wc by rw [hwc, hsc]; exact Post.same HH.out HBW.out)
  have HDc := Aside0.mk (show RD wc rd A c by rw [hwc]; exact HDB.out)
  have HP3c := Aside0.mk (show wc.cell? ⟨W.heap.size, 0, none⟩ = some (.pointer (some ⟨L.b, 0, none⟩)) by rw [hwc]; exact HP3.out)
  have HP5c := Aside0.mk (show wc.cell? ⟨W.heap.size + 1, 0, none⟩ = some (.slice A rd.length c) by rw [hwc]; exact HP5.out)
  have hic : i < sc.ts.length := by rw [hsc]; exact hi
  have HNc := Aside0.mk (show (sc.trn i).q.length ≤ 64 by rw [hsc]; exact HTN.out)
  have HLc := Aside0.mk (show ∀ e ∈ (sc.trn i).q, 0 ≤ e ∧ e < sc.es.length by rw [hsc]; exact HTL.out)
  have HFC := Aside0.mk (show byCreditF s i rd = creditF2 sc i rd false by rw [hsc]; exact HFC.out)
  rw [← hwc]
  clear hwc hsc p3 p5 c6 u0 u1 u2 d0 hcu HSM HCT HRQ HQI HRB HDB
  obtain ⟨ownc, qsc, hsr, hmc, ho1, ho2⟩ := HPc.out
  have HRc := Aside0.mk hsr
  have HMc := Aside0.mk hmc
  have HO1 := Aside0.mk ho1
  have HO2 := Aside0.mk ho2
  obtain ⟨qc, hqc⟩ := hsr.qs i hic
  have hRc := hsr.Q i qc hqc
  obtain ⟨A2, c2, rfl, hc2, hC2⟩ := Kd.R_reads hRc
  have HC2r := Aside0.mk hC2
  have v0 : wc.cell? ⟨L.bt, i * 3, none⟩ = some (.slice A2 (sc.trn i).q.length c2) := hsr.trn i 0 hic (by decide) hqc rfl
  have v1 : wc.cell? ⟨L.bt, i * 3 + 1, none⟩ = some (.int .i64 (sc.trn i).cu) := hsr.trn i 1 hic (by decide) hqc rfl
  have v2 : wc.cell? ⟨L.bt, i * 3 + 2, none⟩ = some (.int .i64 (sc.trn i).us) := hsr.trn i 2 hic (by decide) hqc rfl
  have f1 : wc.frozen? ⟨L.bt, i * 3 + 1, none⟩ = false := hsr.T.frozen _
  have f2 : wc.frozen? ⟨L.bt, i * 3 + 2, none⟩ = false := hsr.T.frozen _
  have hlen := HNc.out
  have hp3 := HP3c.out
  have hp5 := HP5c.out
  clear hsr hmc ho1 ho2 hRc hC2 hqc
  go_wp2
  go_loop [78] (fun v78 => ∃ (k : Nat), v78 = .int .i64 (k : Int) ∧ k ≤ (sc.trn i).q.length ∧ Aside0 (findQ sc rd false ((sc.trn i).q.drop k) = findQ sc rd false (sc.trn i).q)) (fun v78 => (sc.trn i).q.length - (intOf v78).toNat)
  case atStart => exact ⟨0, rfl, by omega, ⟨rfl⟩⟩
  case round =>
    obtain ⟨k, rfl, hk, HT⟩ := hrel
    by_cases hlt : k < (sc.trn i).q.length
    · obtain ⟨ad, rfl, hcell⟩ := Kd.at_int HC2r.out (k : Int) (by omega) (by omega)
      rw [Int.toNat_natCast] at hcell
      have HS := Aside0.mk (show (if (richF sc rd (Go.Proofs.YtdaadmjppikebaaW.PrintWords.rd (sc.trn i).q k) || (!false && readyF sc rd (Go.Proofs.YtdaadmjppikebaaW.PrintWords.rd (sc.trn i).q k))) = true then Go.Proofs.YtdaadmjppikebaaW.PrintWords.rd (sc.trn i).q k else findQ sc rd false ((sc.trn i).q.drop (k + 1))) = findQ sc rd false (sc.trn i).q by have := HT.out; rw [drop_int hlt] at this; exact this)
      have HX := Aside0.mk (HLc.out _ (rd_mem hlt))
      clear HT
      obtain ⟨x, hx⟩ : ∃ x, x = Go.Proofs.YtdaadmjppikebaaW.PrintWords.rd (sc.trn i).q k := ⟨_, rfl⟩
      rw [← hx] at hcell HS HX
      clear hx
      cases hb1 : richF sc rd x with
      | true =>
        have HB1 := Aside0.mk hb1
        clear hb1
        have HFN := Aside0.mk (show findQ sc rd false (sc.trn i).q = x by have := HS.out; rw [if_pos (by rw [HB1.out]; rfl)] at this; exact this.symm)
        have HFX := Aside0.mk (show byCreditF s i rd = (x, sc.modT i fun t => { t with cu := x, us := 0 }) by rw [HFC.out]; unfold creditF2; rw [HFN.out, if_neg (by have := HX.out; omega)])
        go_wp2_with (first | (go_at_call 59; refine (rich_int HRc.out HDc.out HP3c.out HP5c.out x HX.out HB1.out).mono ?_; rintro e w' ⟨rfl, rfl⟩) | (go_at_call 58; refine (ready_int HRc.out HDc.out x HX.out HB2.out).mono ?_; rintro e w' ⟨rfl, rfl⟩))
        go_ret
        refine ⟨ret_int (by rw [HFX.out]), ?_⟩
        rw [HFX.out]
        have h1 := HRc.out.putT i 1 hic (by decide) (.int .i64 x) (fun t => { t with cu := x }) (fun _ => rfl) rfl
        have h2 := h1.putT i 2 (by rw [modT_len]; exact hic) (by decide) (.int .i64 0) (fun t => { t with us := 0 }) (fun _ => rfl) rfl
        rw [modT_modT] at h2
        exact Post.of h2 (((HMc.out.setCell (HO2.out _ HRc.out.ob.2.2.2.1) _).setCell (HO2.out _ HRc.out.ob.2.2.2.1) _)) HO1.out HO2.out
      | false =>
        have HB1 := Aside0.mk hb1
        clear hb1
        cases hb2 : readyF sc rd x with
        | true =>
          have HB2 := Aside0.mk hb2
          clear hb2
          have HFN := Aside0.mk (show findQ sc rd false (sc.trn i).q = x by have := HS.out; rw [if_pos (by rw [HB1.out]; rw [HB2.out]; rfl)] at this; exact this.symm)
          have HFX := Aside0.mk (show byCreditF s i rd = (x, sc.modT i fun t => { t with cu := x, us := 0 }) by rw [HFC.out]; unfold creditF2; rw [HFN.out, if_neg (by have := HX.out; omega)])
          go_wp2_with (first | (go_at_call 59; refine (rich_int HRc.out HDc.out HP3c.out HP5c.out x HX.out HB1.out).mono ?_; rintro e w' ⟨rfl, rfl⟩) | (go_at_call 58; refine (ready_int HRc.out HDc.out x HX.out HB2.out).mono ?_; rintro e w' ⟨rfl, rfl⟩))
          go_ret
          refine ⟨ret_int (by rw [HFX.out]), ?_⟩
          rw [HFX.out]
          have h1 := HRc.out.putT i 1 hic (by decide) (.int .i64 x) (fun t => { t with cu := x }) (fun _ => rfl) rfl
          have h2 := h1.putT i 2 (by rw [modT_len]; exact hic) (by decide) (.int .i64 0) (fun t => { t with us := 0 }) (fun _ => rfl) rfl
          rw [modT_modT] at h2
          exact Post.of h2 (((HMc.out.setCell (HO2.out _ HRc.out.ob.2.2.2.1) _).setCell (HO2.out _ HRc.out.ob.2.2.2.1) _)) HO1.out HO2.out
        | false =>
          have HB2 := Aside0.mk hb2
          clear hb2
          have HQQ := Aside0.mk (show findQ sc rd false ((sc.trn i).q.drop (k + 1)) = findQ sc rd false (sc.trn i).q by have := HS.out; rw [if_neg (by rw [HB1.out]; rw [HB2.out]; simp)] at this; exact this)
          go_wp2_with (first | (go_at_call 59; refine (rich_int HRc.out HDc.out HP3c.out HP5c.out x HX.out HB1.out).mono ?_; rintro e w' ⟨rfl, rfl⟩) | (go_at_call 58; refine (ready_int HRc.out HDc.out x HX.out HB2.out).mono ?_; rintro e w' ⟨rfl, rfl⟩))
          go_round
          case rel => exact ⟨k + 1, by go_num, by omega, HQQ⟩
          case measure => simp [intOf]; omega
    · have HE := Aside0.mk (show -1 = findQ sc rd false (sc.trn i).q by have := HT.out; rw [drop_end hlt] at this; exact this)
      have HFX := Aside0.mk (show byCreditF s i rd = (-1, sc) by rw [HFC.out]; unfold creditF2; rw [← HE.out, if_pos rfl])
      clear HT
      go_wp2
      go_ret
      refine ⟨ret_int (by rw [HFX.out]), ?_⟩
      rw [HFX.out]
      exact HPc.out
end Go.Proofs.Ytdaadmjppikebaa.SC

namespace Go.Proofs.Ytdaadmjppikebaa.SC
open Go.RowKit Go.Proofs.YtdaadmjppikebaaW.PrintWords
set_option linter.unusedVariables false
set_option linter.unusedSimpArgs false

set_option maxRecDepth 100000 in
set_option maxHeartbeats 3200000 in
theorem byCredit_on_c_true {W : World} {own : Nat → Prop} {L : Lay} {s : SS} {rd : List Bool} {A : Option Addr} {c : Nat} (h : SR W own L s) (hw : Wf s) (hr : RD W rd A c) (hno : ∀ ad, A = some ad → ¬ own ad.block) (i : Nat) (hi : i < s.ts.length) (hcu : 0 ≤ (s.trn i).cu) (h1 : readyF s rd (s.trn i).cu = true) (h2 : decide ((s.trn i).us < s.S) = true) (h3 : richF s rd (s.trn i).cu = true) (hsm : (s.trn i).q.any (richF s rd) = true) :
    Calls Try.prog 39 #[.pointer (some ⟨L.b, 0, none⟩), .int .i64 (i : Int), .slice A rd.length c] W fun x w' => x = .returned (.int .i64 (byCreditF s i rd).1) ∧ Post W own L (byCreditF s i rd).2 w' := by
  have hmf := hmf
  obtain ⟨q, hq⟩ := h.qs i hi
  have hRq := h.Q i q hq
  obtain ⟨Aq, cq, rfl, hcq, _⟩ := Kd.R_reads hRq
  obtain ⟨tq1, tq2, tq3, tq4, tq5, tq6, tq7, tq8⟩ := hw.tq i hi
  have hbw : Below W.heap.size W ((W.alloc (.cells #[.pointer (some ⟨L.b, 0, none⟩)] 30)).alloc (.cells #[.slice A rd.length c] 39)) := below_alloc (below_alloc (Below.refl _ _) _) _
  have HBW := Aside0.mk hbw
  have HRB := Aside0.mk (h.below hbw)
  have HDB := Aside0.mk (hr.below hbw)
  have HD0 := Aside0.mk hr
  have HNO := Aside0.mk hno
  have p3 : ((W.alloc (.cells #[.pointer (some ⟨L.b, 0, none⟩)] 30)).alloc (.cells #[.slice A rd.length c] 39)).cell? ⟨W.heap.size, 0, none⟩ = some (.pointer (some ⟨L.b, 0, none⟩)) := (World.cell?_alloc_lt _ _ _ (by simp)).trans ((blk_cell (blk_new _ _) 0).trans rfl)
  have p5 : ((W.alloc (.cells #[.pointer (some ⟨L.b, 0, none⟩)] 30)).alloc (.cells #[.slice A rd.length c] 39)).cell? ⟨W.heap.size + 1, 0, none⟩ = some (.slice A rd.length c) := by
    have e := (blk_cell (blk_new (W.alloc (.cells #[.pointer (some ⟨L.b, 0, none⟩)] 30)) (.cells #[.slice A rd.length c] 39)) 0)
    have e2 : (W.alloc (.cells #[.pointer (some ⟨L.b, 0, none⟩)] 30)).heap.size = W.heap.size + 1 := by simp
    rw [e2] at e
    exact e.trans rfl
  have c6 : ((W.alloc (.cells #[.pointer (some ⟨L.b, 0, none⟩)] 30)).alloc (.cells #[.slice A rd.length c] 39)).cell? ⟨L.b, 6, none⟩ = some (.slice (some ⟨L.bt, 0, none⟩) s.ts.length s.ts.length) := HRB.out.fld 6 rfl
  have u0 : ((W.alloc (.cells #[.pointer (some ⟨L.b, 0, none⟩)] 30)).alloc (.cells #[.slice A rd.length c] 39)).cell? ⟨L.bt, i * 3, none⟩ = some (.slice Aq (s.trn i).q.length cq) := HRB.out.trn i 0 hi (by decide) hq rfl
  have u1 : ((W.alloc (.cells #[.pointer (some ⟨L.b, 0, none⟩)] 30)).alloc (.cells #[.slice A rd.length c] 39)).cell? ⟨L.bt, i * 3 + 1, none⟩ = some (.int .i64 (s.trn i).cu) := HRB.out.trn i 1 hi (by decide) hq rfl
  have u2 : ((W.alloc (.cells #[.pointer (some ⟨L.b, 0, none⟩)] 30)).alloc (.cells #[.slice A rd.length c] 39)).cell? ⟨L.bt, i * 3 + 2, none⟩ = some (.int .i64 (s.trn i).us) := HRB.out.trn i 2 hi (by decide) hq rfl
  have HSM := Aside0.mk hsm
  have HCT := Aside0.mk (containsRich HRB.out HDB.out p3 p5 tq1 (Kd.R_reads' (HRB.out.Q i _ hq)).2.2 hcq (b := true) hsm)
  have HRQ := Aside0.mk hRq
  have HQI := Aside0.mk hq
  have HW := Aside0.mk hw
  have HH := Aside0.mk h
  have HTL := Aside0.mk tq1
  have HTN := Aside0.mk tq2
  have HP3 := Aside0.mk p3
  have HP5 := Aside0.mk p5
  have htn := hw.tn
  have hH8 := hw.H8
  have hes := hw.em
  clear h hr hno hbw hRq hq hsm tq1 tq2 tq3 tq8 hw
  have d0 : decide (0 ≤ (s.trn i).cu) = true := decide_eq_true hcu
  have HCR := Aside0.mk (show 0 ≤ (s.trn i).cu ∧ (s.trn i).cu < s.es.length from ⟨hcu, tq5⟩)
  have c1 : ((W.alloc (.cells #[.pointer (some ⟨L.b, 0, none⟩)] 30)).alloc (.cells #[.slice A rd.length c] 39)).cell? ⟨L.b, 1, none⟩ = some (.int .i64 s.S) := HRB.out.fld 1 rfl
  have HC1 := Aside0.mk h1
  have HC2 := Aside0.mk h3
  have HGO := Aside0.mk (show goesOn s i rd = true by unfold goesOn someF; rw [h1, h2, h3, HSM.out]; rfl)
  clear h1 h3 tq6 tq7
  go_enter Try.func39, Try.ntmps39
  go_upto_region 6 with (go_at_call 60; refine HCT.out.mono ?_; rintro e w' ⟨rfl, rfl⟩)
  go_quiet ((first | (go_at_call 58; exact Calls.quiet_of_same (same_of (ready_int (HRB.out.drewN _) (HDB.out.drewN _) _ HCR.out HC1.out))) | (go_at_call 59; exact Calls.quiet_of_same (same_of (rich_int (HRB.out.drewN _) (HDB.out.drewN _) (cell_drewN HP3.out _) (cell_drewN HP5.out _) _ HCR.out HC2.out)))))
  have HFX := Aside0.mk (show byCreditF s i rd = ((s.trn i).cu, s) by unfold byCreditF; rw [if_pos hcu, if_pos HGO.out])
  go_wp2
  go_ret
  refine ⟨ret_int (by rw [HFX.out]), ?_⟩
  rw [HFX.out]
  exact Post.same HH.out (pw_below_drewN HBW.out _)
set_option maxRecDepth 100000 in
set_option maxHeartbeats 3200000 in
theorem byCredit_on_c_false {W : World} {own : Nat → Prop} {L : Lay} {s : SS} {rd : List Bool} {A : Option Addr} {c : Nat} (h : SR W own L s) (hw : Wf s) (hr : RD W rd A c) (hno : ∀ ad, A = some ad → ¬ own ad.block) (i : Nat) (hi : i < s.ts.length) (hcu : 0 ≤ (s.trn i).cu) (h1 : readyF s rd (s.trn i).cu = true) (h2 : decide ((s.trn i).us < s.S) = true) (h3 : richF s rd (s.trn i).cu = true) (hsm : (s.trn i).q.any (richF s rd) = false) :
    Calls Try.prog 39 #[.pointer (some ⟨L.b, 0, none⟩), .int .i64 (i : Int), .slice A rd.length c] W fun x w' => x = .returned (.int .i64 (byCreditF s i rd).1) ∧ Post W own L (byCreditF s i rd).2 w' := by
  have hmf := hmf
  obtain ⟨q, hq⟩ := h.qs i hi
  have hRq := h.Q i q hq
  obtain ⟨Aq, cq, rfl, hcq, _⟩ := Kd.R_reads hRq
  obtain ⟨tq1, tq2, tq3, tq4, tq5, tq6, tq7, tq8⟩ := hw.tq i hi
  have hbw : Below W.heap.size W ((W.alloc (.cells #[.pointer (some ⟨L.b, 0, none⟩)] 30)).alloc (.cells #[.slice A rd.length c] 39)) := below_alloc (below_alloc (Below.refl _ _) _) _
  have HBW := Aside0.mk hbw
  have HRB := Aside0.mk (h.below hbw)
  have HDB := Aside0.mk (hr.below hbw)
  have HD0 := Aside0.mk hr
  have HNO := Aside0.mk hno
  have p3 : ((W.alloc (.cells #[.pointer (some ⟨L.b, 0, none⟩)] 30)).alloc (.cells #[.slice A rd.length c] 39)).cell? ⟨W.heap.size, 0, none⟩ = some (.pointer (some ⟨L.b, 0, none⟩)) := (World.cell?_alloc_lt _ _ _ (by simp)).trans ((blk_cell (blk_new _ _) 0).trans rfl)
  have p5 : ((W.alloc (.cells #[.pointer (some ⟨L.b, 0, none⟩)] 30)).alloc (.cells #[.slice A rd.length c] 39)).cell? ⟨W.heap.size + 1, 0, none⟩ = some (.slice A rd.length c) := by
    have e := (blk_cell (blk_new (W.alloc (.cells #[.pointer (some ⟨L.b, 0, none⟩)] 30)) (.cells #[.slice A rd.length c] 39)) 0)
    have e2 : (W.alloc (.cells #[.pointer (some ⟨L.b, 0, none⟩)] 30)).heap.size = W.heap.size + 1 := by simp
    rw [e2] at e
    exact e.trans rfl
  have c6 : ((W.alloc (.cells #[.pointer (some ⟨L.b, 0, none⟩)] 30)).alloc (.cells #[.slice A rd.length c] 39)).cell? ⟨L.b, 6, none⟩ = some (.slice (some ⟨L.bt, 0, none⟩) s.ts.length s.ts.length) := HRB.out.fld 6 rfl
  have u0 : ((W.alloc (.cells #[.pointer (some ⟨L.b, 0, none⟩)] 30)).alloc (.cells #[.slice A rd.length c] 39)).cell? ⟨L.bt, i * 3, none⟩ = some (.slice Aq (s.trn i).q.length cq) := HRB.out.trn i 0 hi (by decide) hq rfl
  have u1 : ((W.alloc (.cells #[.pointer (some ⟨L.b, 0, none⟩)] 30)).alloc (.cells #[.slice A rd.length c] 39)).cell? ⟨L.bt, i * 3 + 1, none⟩ = some (.int .i64 (s.trn i).cu) := HRB.out.trn i 1 hi (by decide) hq rfl
  have u2 : ((W.alloc (.cells #[.pointer (some ⟨L.b, 0, none⟩)] 30)).alloc (.cells #[.slice A rd.length c] 39)).cell? ⟨L.bt, i * 3 + 2, none⟩ = some (.int .i64 (s.trn i).us) := HRB.out.trn i 2 hi (by decide) hq rfl
  have HSM := Aside0.mk hsm
  have HCT := Aside0.mk (containsRich HRB.out HDB.out p3 p5 tq1 (Kd.R_reads' (HRB.out.Q i _ hq)).2.2 hcq (b := false) hsm)
  have HRQ := Aside0.mk hRq
  have HQI := Aside0.mk hq
  have HW := Aside0.mk hw
  have HH := Aside0.mk h
  have HTL := Aside0.mk tq1
  have HTN := Aside0.mk tq2
  have HP3 := Aside0.mk p3
  have HP5 := Aside0.mk p5
  have htn := hw.tn
  have hH8 := hw.H8
  have hes := hw.em
  clear h hr hno hbw hRq hq hsm tq1 tq2 tq3 tq8 hw
  have d0 : decide (0 ≤ (s.trn i).cu) = true := decide_eq_true hcu
  have HCR := Aside0.mk (show 0 ≤ (s.trn i).cu ∧ (s.trn i).cu < s.es.length from ⟨hcu, tq5⟩)
  have c1 : ((W.alloc (.cells #[.pointer (some ⟨L.b, 0, none⟩)] 30)).alloc (.cells #[.slice A rd.length c] 39)).cell? ⟨L.b, 1, none⟩ = some (.int .i64 s.S) := HRB.out.fld 1 rfl
  have HC1 := Aside0.mk h1
  have HC2 := Aside0.mk h3
  have HGO := Aside0.mk (show goesOn s i rd = true by unfold goesOn someF; rw [h1, h2, h3, HSM.out]; rfl)
  clear h1 h3 tq6 tq7
  go_enter Try.func39, Try.ntmps39
  go_upto_region 6 with (go_at_call 60; refine HCT.out.mono ?_; rintro e w' ⟨rfl, rfl⟩)
  go_quiet ((first | (go_at_call 58; exact Calls.quiet_of_same (same_of (ready_int (HRB.out.drewN _) (HDB.out.drewN _) _ HCR.out HC1.out))) | (go_at_call 59; exact Calls.quiet_of_same (same_of (rich_int (HRB.out.drewN _) (HDB.out.drewN _) (cell_drewN HP3.out _) (cell_drewN HP5.out _) _ HCR.out HC2.out)))))
  have HFX := Aside0.mk (show byCreditF s i rd = ((s.trn i).cu, s) by unfold byCreditF; rw [if_pos hcu, if_pos HGO.out])
  go_wp2
  go_ret
  refine ⟨ret_int (by rw [HFX.out]), ?_⟩
  rw [HFX.out]
  exact Post.same HH.out (pw_below_drewN HBW.out _)
end Go.Proofs.Ytdaadmjppikebaa.SC

namespace Go.Proofs.Ytdaadmjppikebaa.SC
open Go.RowKit Go.Proofs.YtdaadmjppikebaaW.PrintWords
set_option linter.unusedVariables false
set_option linter.unusedSimpArgs false

set_option maxRecDepth 100000 in
set_option maxHeartbeats 3200000 in
theorem byCredit_on_d_false {W : World} {own : Nat → Prop} {L : Lay} {s : SS} {rd : List Bool} {A : Option Addr} {c : Nat} (h : SR W own L s) (hw : Wf s) (hr : RD W rd A c) (hno : ∀ ad, A = some ad → ¬ own ad.block) (i : Nat) (hi : i < s.ts.length) (hcu : 0 ≤ (s.trn i).cu) (h1 : readyF s rd (s.trn i).cu = true) (h2 : decide ((s.trn i).us < s.S) = true) (h3 : richF s rd (s.trn i).cu = false) (hsm : (s.trn i).q.any (richF s rd) = false) :
    Calls Try.prog 39 #[.pointer (some ⟨L.b, 0, none⟩), .int .i64 (i : Int), .slice A rd.length c] W fun x w' => x = .returned (.int .i64 (byCreditF s i rd).1) ∧ Post W own L (byCreditF s i rd).2 w' := by
  have hmf := hmf
  obtain ⟨q, hq⟩ := h.qs i hi
  have hRq := h.Q i q hq
  obtain ⟨Aq, cq, rfl, hcq, _⟩ := Kd.R_reads hRq
  obtain ⟨tq1, tq2, tq3, tq4, tq5, tq6, tq7, tq8⟩ := hw.tq i hi
  have hbw : Below W.heap.size W ((W.alloc (.cells #[.pointer (some ⟨L.b, 0, none⟩)] 30)).alloc (.cells #[.slice A rd.length c] 39)) := below_alloc (below_alloc (Below.refl _ _) _) _
  have HBW := Aside0.mk hbw
  have HRB := Aside0.mk (h.below hbw)
  have HDB := Aside0.mk (hr.below hbw)
  have HD0 := Aside0.mk hr
  have HNO := Aside0.mk hno
  have p3 : ((W.alloc (.cells #[.pointer (some ⟨L.b, 0, none⟩)] 30)).alloc (.cells #[.slice A rd.length c] 39)).cell? ⟨W.heap.size, 0, none⟩ = some (.pointer (some ⟨L.b, 0, none⟩)) := (World.cell?_alloc_lt _ _ _ (by simp)).trans ((blk_cell (blk_new _ _) 0).trans rfl)
  have p5 : ((W.alloc (.cells #[.pointer (some ⟨L.b, 0, none⟩)] 30)).alloc (.cells #[.slice A rd.length c] 39)).cell? ⟨W.heap.size + 1, 0, none⟩ = some (.slice A rd.length c) := by
    have e := (blk_cell (blk_new (W.alloc (.cells #[.pointer (some ⟨L.b, 0, none⟩)] 30)) (.cells #[.slice A rd.length c] 39)) 0)
    have e2 : (W.alloc (.cells #[.pointer (some ⟨L.b, 0, none⟩)] 30)).heap.size = W.heap.size + 1 := by simp
    rw [e2] at e
    exact e.trans rfl
  have c6 : ((W.alloc (.cells #[.pointer (some ⟨L.b, 0, none⟩)] 30)).alloc (.cells #[.slice A rd.length c] 39)).cell? ⟨L.b, 6, none⟩ = some (.slice (some ⟨L.bt, 0, none⟩) s.ts.length s.ts.length) := HRB.out.fld 6 rfl
  have u0 : ((W.alloc (.cells #[.pointer (some ⟨L.b, 0, none⟩)] 30)).alloc (.cells #[.slice A rd.length c] 39)).cell? ⟨L.bt, i * 3, none⟩ = some (.slice Aq (s.trn i).q.length cq) := HRB.out.trn i 0 hi (by decide) hq rfl
  have u1 : ((W.alloc (.cells #[.pointer (some ⟨L.b, 0, none⟩)] 30)).alloc (.cells #[.slice A rd.length c] 39)).cell? ⟨L.bt, i * 3 + 1, none⟩ = some (.int .i64 (s.trn i).cu) := HRB.out.trn i 1 hi (by decide) hq rfl
  have u2 : ((W.alloc (.cells #[.pointer (some ⟨L.b, 0, none⟩)] 30)).alloc (.cells #[.slice A rd.length c] 39)).cell? ⟨L.bt, i * 3 + 2, none⟩ = some (.int .i64 (s.trn i).us) := HRB.out.trn i 2 hi (by decide) hq rfl
  have HSM := Aside0.mk hsm
  have HCT := Aside0.mk (containsRich HRB.out HDB.out p3 p5 tq1 (Kd.R_reads' (HRB.out.Q i _ hq)).2.2 hcq (b := false) hsm)
  have HRQ := Aside0.mk hRq
  have HQI := Aside0.mk hq
  have HW := Aside0.mk hw
  have HH := Aside0.mk h
  have HTL := Aside0.mk tq1
  have HTN := Aside0.mk tq2
  have HP3 := Aside0.mk p3
  have HP5 := Aside0.mk p5
  have htn := hw.tn
  have hH8 := hw.H8
  have hes := hw.em
  clear h hr hno hbw hRq hq hsm tq1 tq2 tq3 tq8 hw
  have d0 : decide (0 ≤ (s.trn i).cu) = true := decide_eq_true hcu
  have HCR := Aside0.mk (show 0 ≤ (s.trn i).cu ∧ (s.trn i).cu < s.es.length from ⟨hcu, tq5⟩)
  have c1 : ((W.alloc (.cells #[.pointer (some ⟨L.b, 0, none⟩)] 30)).alloc (.cells #[.slice A rd.length c] 39)).cell? ⟨L.b, 1, none⟩ = some (.int .i64 s.S) := HRB.out.fld 1 rfl
  have HC1 := Aside0.mk h1
  have HC2 := Aside0.mk h3
  have HGO := Aside0.mk (show goesOn s i rd = true by unfold goesOn someF; rw [h1, h2, h3, HSM.out]; rfl)
  clear h1 h3 tq6 tq7
  go_enter Try.func39, Try.ntmps39
  go_upto_region 6 with (go_at_call 60; refine HCT.out.mono ?_; rintro e w' ⟨rfl, rfl⟩)
  go_quiet ((first | (go_at_call 58; exact Calls.quiet_of_same (same_of (ready_int (HRB.out.drewN _) (HDB.out.drewN _) _ HCR.out HC1.out))) | (go_at_call 59; exact Calls.quiet_of_same (same_of (rich_int (HRB.out.drewN _) (HDB.out.drewN _) (cell_drewN HP3.out _) (cell_drewN HP5.out _) _ HCR.out HC2.out)))))
  have HFX := Aside0.mk (show byCreditF s i rd = ((s.trn i).cu, s) by unfold byCreditF; rw [if_pos hcu, if_pos HGO.out])
  go_wp2
  go_ret
  refine ⟨ret_int (by rw [HFX.out]), ?_⟩
  rw [HFX.out]
  exact Post.same HH.out (pw_below_drewN HBW.out _)
end Go.Proofs.Ytdaadmjppikebaa.SC

namespace Go.Proofs.Ytdaadmjppikebaa.SC
open Go.RowKit Go.Proofs.YtdaadmjppikebaaW.PrintWords
set_option linter.unusedVariables false
set_option linter.unusedSimpArgs false

set_option maxRecDepth 100000 in
set_option maxHeartbeats 3200000 in
theorem byCredit_off_a_true {W : World} {own : Nat → Prop} {L : Lay} {s : SS} {rd : List Bool} {A : Option Addr} {c : Nat} (h : SR W own L s) (hw : Wf s) (hr : RD W rd A c) (hno : ∀ ad, A = some ad → ¬ own ad.block) (i : Nat) (hi : i < s.ts.length) (hcu : 0 ≤ (s.trn i).cu) (h1 : readyF s rd (s.trn i).cu = false) (hsm : (s.trn i).q.any (richF s rd) = true) :
    Calls Try.prog 39 #[.pointer (some ⟨L.b, 0, none⟩), .int .i64 (i : Int), .slice A rd.length c] W fun x w' => x = .returned (.int .i64 (byCreditF s i rd).1) ∧ Post W own L (byCreditF s i rd).2 w' := by
  have hmf := hmf
  obtain ⟨q, hq⟩ := h.qs i hi
  have hRq := h.Q i q hq
  obtain ⟨Aq, cq, rfl, hcq, _⟩ := Kd.R_reads hRq
  obtain ⟨tq1, tq2, tq3, tq4, tq5, tq6, tq7, tq8⟩ := hw.tq i hi
  have hbw : Below W.heap.size W ((W.alloc (.cells #[.pointer (some ⟨L.b, 0, none⟩)] 30)).alloc (.cells #[.slice A rd.length c] 39)) := below_alloc (below_alloc (Below.refl _ _) _) _
  have HBW := Aside0.mk hbw
  have HRB := Aside0.mk (h.below hbw)
  have HDB := Aside0.mk (hr.below hbw)
  have HD0 := Aside0.mk hr
  have HNO := Aside0.mk hno
  have p3 : ((W.alloc (.cells #[.pointer (some ⟨L.b, 0, none⟩)] 30)).alloc (.cells #[.slice A rd.length c] 39)).cell? ⟨W.heap.size, 0, none⟩ = some (.pointer (some ⟨L.b, 0, none⟩)) := (World.cell?_alloc_lt _ _ _ (by simp)).trans ((blk_cell (blk_new _ _) 0).trans rfl)
  have p5 : ((W.alloc (.cells #[.pointer (some ⟨L.b, 0, none⟩)] 30)).alloc (.cells #[.slice A rd.length c] 39)).cell? ⟨W.heap.size + 1, 0, none⟩ = some (.slice A rd.length c) := by
    have e := (blk_cell (blk_new (W.alloc (.cells #[.pointer (some ⟨L.b, 0, none⟩)] 30)) (.cells #[.slice A rd.length c] 39)) 0)
    have e2 : (W.alloc (.cells #[.pointer (some ⟨L.b, 0, none⟩)] 30)).heap.size = W.heap.size + 1 := by simp
    rw [e2] at e
    exact e.trans rfl
  have c6 : ((W.alloc (.cells #[.pointer (some ⟨L.b, 0, none⟩)] 30)).alloc (.cells #[.slice A rd.length c] 39)).cell? ⟨L.b, 6, none⟩ = some (.slice (some ⟨L.bt, 0, none⟩) s.ts.length s.ts.length) := HRB.out.fld 6 rfl
  have u0 : ((W.alloc (.cells #[.pointer (some ⟨L.b, 0, none⟩)] 30)).alloc (.cells #[.slice A rd.length c] 39)).cell? ⟨L.bt, i * 3, none⟩ = some (.slice Aq (s.trn i).q.length cq) := HRB.out.trn i 0 hi (by decide) hq rfl
  have u1 : ((W.alloc (.cells #[.pointer (some ⟨L.b, 0, none⟩)] 30)).alloc (.cells #[.slice A rd.length c] 39)).cell? ⟨L.bt, i * 3 + 1, none⟩ = some (.int .i64 (s.trn i).cu) := HRB.out.trn i 1 hi (by decide) hq rfl
  have u2 : ((W.alloc (.cells #[.pointer (some ⟨L.b, 0, none⟩)] 30)).alloc (.cells #[.slice A rd.length c] 39)).cell? ⟨L.bt, i * 3 + 2, none⟩ = some (.int .i64 (s.trn i).us) := HRB.out.trn i 2 hi (by decide) hq rfl
  have HSM := Aside0.mk hsm
  have HCT := Aside0.mk (containsRich HRB.out HDB.out p3 p5 tq1 (Kd.R_reads' (HRB.out.Q i _ hq)).2.2 hcq (b := true) hsm)
  have HRQ := Aside0.mk hRq
  have HQI := Aside0.mk hq
  have HW := Aside0.mk hw
  have HH := Aside0.mk h
  have HTL := Aside0.mk tq1
  have HTN := Aside0.mk tq2
  have HP3 := Aside0.mk p3
  have HP5 := Aside0.mk p5
  have htn := hw.tn
  have hH8 := hw.H8
  have hes := hw.em
  clear h hr hno hbw hRq hq hsm tq1 tq2 tq3 tq8 hw
  have d0 : decide (0 ≤ (s.trn i).cu) = true := decide_eq_true hcu
  have HCR := Aside0.mk (show 0 ≤ (s.trn i).cu ∧ (s.trn i).cu < s.es.length from ⟨hcu, tq5⟩)
  have c1 : ((W.alloc (.cells #[.pointer (some ⟨L.b, 0, none⟩)] 30)).alloc (.cells #[.slice A rd.length c] 39)).cell? ⟨L.b, 1, none⟩ = some (.int .i64 s.S) := HRB.out.fld 1 rfl
  have HC1 := Aside0.mk h1
  have HGO := Aside0.mk (show goesOn s i rd = false by unfold goesOn someF; rw [h1, HSM.out]; simp)
  clear h1 tq6 tq7
  go_enter Try.func39, Try.ntmps39
  go_upto_region 6 with (go_at_call 60; refine HCT.out.mono ?_; rintro e w' ⟨rfl, rfl⟩)
  go_quiet ((first | (go_at_call 58; exact Calls.quiet_of_same (same_of (ready_int (HRB.out.drewN _) (HDB.out.drewN _) _ HCR.out HC1.out)))))
  obtain ⟨wq, hwq⟩ : ∃ wq, wq = ((W.alloc (.cells #[.pointer (some ⟨L.b, 0, none⟩)] 30)).alloc (.cells #[.slice A rd.length c] 39)).drewN nq := ⟨_, rfl⟩
  have HRq := Aside0.mk (show SR wq own L s by rw [hwq]; exact HRB.out.drewN nq)
  have HBq := Aside0.mk (show Below W.heap.size W wq by rw [hwq]; exact pw_below_drewN HBW.out nq)
  have HDq := Aside0.mk (show RD wq rd A c by rw [hwq]; exact HDB.out.drewN nq)
  have HP3q := Aside0.mk (show wq.cell? ⟨W.heap.size, 0, none⟩ = some (.pointer (some ⟨L.b, 0, none⟩)) by rw [hwq]; exact cell_drewN HP3.out nq)
  have HP5q := Aside0.mk (show wq.cell? ⟨W.heap.size + 1, 0, none⟩ = some (.slice A rd.length c) by rw [hwq]; exact cell_drewN HP5.out nq)
  rw [← hwq]
  clear hwq p3 p5 c6 u0 u1 u2 c1 HCT HRB HDB
  go_upto_region 9 with (go_at_call 49; refine (leave_calls HRq.out i hi HTN.out (s.trn i).cu).mono ?_; rintro e w2 ⟨rfl, q2, hs2, hm2⟩; have HS2 := Aside0.mk hs2; have HM2 := Aside0.mk hm2; clear hs2 hm2)
  obtain ⟨s1, hs1⟩ : ∃ s1, s1 = s.modT i (fun t => { t with q := t.q.filter fun x => x != (s.trn i).cu }) := ⟨_, rfl⟩
  rw [← hs1] at HS2
  have hl1 : s1.ts.length = s.ts.length := by rw [hs1]; simp
  have HT1 := Aside0.mk (show s1.trn i = { s.trn i with q := (s.trn i).q.filter fun x => x != (s.trn i).cu } by rw [hs1, modT_trn _ hi, if_pos rfl])
  have HL1 := Aside0.mk hl1
  have HQ2 := Aside0.mk (show (L.qs.set i q2)[i]? = some q2 from List.getElem?_set_self (by have := HRq.out.ql; omega))
  have hR2 := HS2.out.Q i q2 HQ2.out
  obtain ⟨A2, c2, rfl, hc2, _⟩ := Kd.R_reads hR2
  have HR2 := Aside0.mk (R_ok hR2 (ok' := fun _ => True) (fun _ _ => trivial))
  have e0 : w2.cell? ⟨L.bt, i * 3, none⟩ = some (.slice A2 (s1.trn i).q.length c2) := HS2.out.trn i 0 (by omega) (by decide) HQ2.out rfl
  have HN2 := Aside0.mk (show (s1.trn i).q.length ≤ 64 by rw [HT1.out]; exact Nat.le_trans (List.length_filter_le _ _) HTN.out)
  have HS1 := Aside0.mk hs1
  obtain ⟨cu, hcue⟩ : ∃ cu, cu = (s.trn i).cu := ⟨_, rfl⟩
  have HCE := Aside0.mk hcue
  rw [← hcue]
  clear hl1 hR2 hs1 hcue d0
  go_upto_region 11 with (first | (((with_reducible refine gate_builtin (b := .append) (xs := #[.tmp 64, .tmp 66]) rfl ?_); go_loud (at_builtin; refine Kd.R_append (Kd.int .i64) (w0 := w2) 0 rfl (.tmp 64) (.tmp 66) 22 3 (.int .i64 0) 8 rfl Try.underlying22 info3 rfl (by decide) (by omega) (.slice A2 (s1.trn i).q.length c2) ((s1.trn i).q) (cu) [.int .i64 (cu)] (fun _ => True) (fun _ => False) rfl rfl ?aP (fun _ hk => hk.elim) ?aF ?aO ?aB ?aS ?aL ?_; (case aP => exact rfl); (case aF => exact (fun _ _ => trivial)); (case aO => exact HR2.out); (case aB => exact (Below.refl 0 w2)); (case aS => exact Nat.zero_le _); (case aL => have := HN2.out; omega); intro v3 w3 ho hbb hg hat; obtain ⟨A3, n3, q3, hv3⟩ : ∃ (A3 : Option Addr) (n3 q3 : Nat), v3 = .slice A3 n3 q3 := (by obtain ⟨A, c, e⟩ := Kd.R_slice ho; exact ⟨_, _, _, e⟩); subst hv3; have HO2 := Aside0.mk ho; have HB2 := Aside0.mk hbb; have HG3 := Aside0.mk hg; have HA3 := Aside0.mk hat; clear ho hbb hg hat)); have hT3 := HS2.out.T.mut (below_mut0 HG3.out) (fun hk => (HS2.out.qne HQ2.out hk).2.2.2.1 rfl); have f3 := hT3.frozen (i * 3); have f4 := hT3.frozen (i * 3 + 1); have e3 : w3.cell? ⟨L.bt, i * 3, none⟩ = some (.slice A2 (s1.trn i).q.length c2) := hT3.cell (i := i * 3) ((flat_get trnC 3 (fun _ => rfl) (((L.qs.set i (.slice A2 (s1.trn i).q.length c2))).zip s1.ts) i 0 (by decide) (.slice A2 (s1.trn i).q.length c2, s1.trn i) (by rw [List.getElem?_zip_eq_some]; exact ⟨HQ2.out, trn_some (by rw [HL1.out]; exact hi)⟩)).trans rfl); have e4 : w3.cell? ⟨L.bt, i * 3 + 1, none⟩ = some (.int .i64 (s1.trn i).cu) := hT3.cell (i := i * 3 + 1) ((flat_get trnC 3 (fun _ => rfl) (((L.qs.set i (.slice A2 (s1.trn i).q.length c2))).zip s1.ts) i 1 (by decide) (.slice A2 (s1.trn i).q.length c2, s1.trn i) (by rw [List.getElem?_zip_eq_some]; exact ⟨HQ2.out, trn_some (by rw [HL1.out]; exact hi)⟩)).trans rfl); clear hT3) | fail)
  have hs3 := HS2.out.putQ i (by rw [HL1.out]; exact hi) _ (.slice A3 n3 q3) HQ2.out (below_mut0 HG3.out) _ (fun t => { t with q := t.q ++ [cu] }) rfl HO2.out (fun k hk => by rcases HA3.out with h | ⟨b, h, hb⟩; exact .inl (by rw [← h]; exact hk); rw [h] at hk; injection hk with hk; exact .inr (by omega))
  have hs4 := hs3.putT i 1 (by rw [modT_len, HL1.out]; exact hi) (by decide) (.int .i64 (-1)) (fun t => { t with cu := -1 }) (fun _ => rfl) rfl
  have hbk := backF_eq (s := s) hi
  rw [← HS1.out, ← HCE.out] at hbk
  rw [hbk] at hs4
  have hmm : Mut own W (((w3.setCell ⟨L.bt, i * 3, none⟩ (.slice A3 n3 q3))).setCell ⟨L.bt, i * 3 + 1, none⟩ (.int .i64 (-1))) :=
    ((((Mut.of_below HBq.out own).trans HM2.out (fun k hk => .inl hk)).trans (below_mut0 HG3.out) (fun k hk => .inl (HS2.out.qne HQ2.out hk).2.2.2.2.2.2)).setCell (.inl HH.out.ob.2.2.2.1) _).setCell (.inl HH.out.ob.2.2.2.1) _
  obtain ⟨sc, hsc⟩ : ∃ sc, sc = s.modT i backF := ⟨_, rfl⟩
  obtain ⟨wc, hwc⟩ : ∃ wc, wc = (((w3.setCell ⟨L.bt, i * 3, none⟩ (.slice A3 n3 q3))).setCell ⟨L.bt, i * 3 + 1, none⟩ (.int .i64 (-1))) := ⟨_, rfl⟩
  rw [← hwc] at hs4 hmm ⊢
  rw [← hsc] at hs4
  have hbe : ∀ (p : Addr) (v : Value), wq.cell? p = some v → ¬ own p.block → wc.cell? p = some v := fun p v hc hn => by
    have h1 := cell_kept hc HM2.out.kept hn
    have h2 := cell_kept h1 (below_mut0 HG3.out).kept (fun hk => hn (HS2.out.qne HQ2.out hk).2.2.2.2.2.2)
    rw [hwc]
    have hnb : p.block ≠ L.bt := fun e => hn (by rw [e]; exact HH.out.ob.2.2.2.1)
    rw [World.cell?_of_block (w := w3.setCell ⟨L.bt, i * 3, none⟩ (.slice A3 n3 q3)) (Below.heap_setCell _ _ _ _ hnb), World.cell?_of_block (w := w3) (Below.heap_setCell _ _ _ _ hnb)]
    exact h2
  have hown : ∀ k, own k → k < W.heap.size := HH.out.lt
  have hqown : ∀ k, (Value.slice A2 (s1.trn i).q.length c2).ownBlock = some k → own k := fun k hk => (HS2.out.qne HQ2.out hk).2.2.2.2.2.2
  have HPc := Aside0.mk (show Post W own L sc wc from Post.of hs4 hmm (fun _ h => .inl h) (fun k hk => hk.elim .inl (fun h => by
    rcases HA3.out with h1 | ⟨b, h1, hb⟩
    · exact .inl (hqown k (by rw [← h1]; exact h))
    · rw [h1] at h; injection h with h; exact .inr (by have := HBq.out.size; have := HM2.out.size; omega))))
  have HP3c := Aside0.mk (show wc.cell? ⟨W.heap.size, 0, none⟩ = some (.pointer (some ⟨L.b, 0, none⟩)) from hbe _ _ HP3q.out (fun hk => by have := hown _ hk; simp at this))
  have HP5c := Aside0.mk (show wc.cell? ⟨W.heap.size + 1, 0, none⟩ = some (.slice A rd.length c) from hbe _ _ HP5q.out (fun hk => by have := hown _ hk; simp at this; omega))
  have HDc := Aside0.mk (show RD wc rd A c from HD0.out.mut hmm HNO.out)
  have hic : i < sc.ts.length := by rw [hsc]; simpa using hi
  have htr : sc.trn i = backF (s.trn i) := by rw [hsc, modT_trn _ hi, if_pos rfl]
  have HNc := Aside0.mk (show (sc.trn i).q.length ≤ 64 by rw [htr]; exact back_len HW.out hi hcu)
  have HLc := Aside0.mk (show ∀ e ∈ (sc.trn i).q, 0 ≤ e ∧ e < sc.es.length by
    rw [htr, hsc]
    intro e he
    rcases List.mem_append.1 he with h | h
    · exact HTL.out e (List.mem_filter.1 h).1
    · rw [List.mem_singleton.1 h]; exact HCR.out)
  have HFC := Aside0.mk (show byCreditF s i rd = creditF2 sc i rd true by unfold byCreditF; rw [if_pos hcu, if_neg (by rw [HGO.out]; decide)]; unfold someF; rw [HSM.out, hsc])
  clear hs3 hs4 hmm hwc hsc hbk hbe hown hqown htr hcu e0 e3 e4 f3 f4 HS2 HM2 HR2 HA3 HG3 HO2 HB2 HT1 HL1 HQ2 HN2 HS1 HCE HRq HBq HDq HP3q HP5q
  obtain ⟨ownc, qsc, hsr, hmc, ho1, ho2⟩ := HPc.out
  have HRc := Aside0.mk hsr
  have HMc := Aside0.mk hmc
  have HO1 := Aside0.mk ho1
  have HO2 := Aside0.mk ho2
  obtain ⟨qc, hqc⟩ := hsr.qs i hic
  have hRc := hsr.Q i qc hqc
  obtain ⟨A2, c2, rfl, hc2, hC2⟩ := Kd.R_reads hRc
  have HC2r := Aside0.mk hC2
  have v0 : wc.cell? ⟨L.bt, i * 3, none⟩ = some (.slice A2 (sc.trn i).q.length c2) := hsr.trn i 0 hic (by decide) hqc rfl
  have v1 : wc.cell? ⟨L.bt, i * 3 + 1, none⟩ = some (.int .i64 (sc.trn i).cu) := hsr.trn i 1 hic (by decide) hqc rfl
  have v2 : wc.cell? ⟨L.bt, i * 3 + 2, none⟩ = some (.int .i64 (sc.trn i).us) := hsr.trn i 2 hic (by decide) hqc rfl
  have f1 : wc.frozen? ⟨L.bt, i * 3 + 1, none⟩ = false := hsr.T.frozen _
  have f2 : wc.frozen? ⟨L.bt, i * 3 + 2, none⟩ = false := hsr.T.frozen _
  have hlen := HNc.out
  have hp3 := HP3c.out
  have hp5 := HP5c.out
  clear hsr hmc ho1 ho2 hRc hC2 hqc
  go_wp2
  go_loop [78] (fun v78 => ∃ (k : Nat), v78 = .int .i64 (k : Int) ∧ k ≤ (sc.trn i).q.length ∧ Aside0 (findQ sc rd true ((sc.trn i).q.drop k) = findQ sc rd true (sc.trn i).q)) (fun v78 => (sc.trn i).q.length - (intOf v78).toNat)
  case atStart => exact ⟨0, rfl, by omega, ⟨rfl⟩⟩
  case round =>
    obtain ⟨k, rfl, hk, HT⟩ := hrel
    by_cases hlt : k < (sc.trn i).q.length
    · obtain ⟨ad, rfl, hcell⟩ := Kd.at_int HC2r.out (k : Int) (by omega) (by omega)
      rw [Int.toNat_natCast] at hcell
      have HS := Aside0.mk (show (if (richF sc rd (Go.Proofs.YtdaadmjppikebaaW.PrintWords.rd (sc.trn i).q k) || (!true && readyF sc rd (Go.Proofs.YtdaadmjppikebaaW.PrintWords.rd (sc.trn i).q k))) = true then Go.Proofs.YtdaadmjppikebaaW.PrintWords.rd (sc.trn i).q k else findQ sc rd true ((sc.trn i).q.drop (k + 1))) = findQ sc rd true (sc.trn i).q by have := HT.out; rw [drop_int hlt] at this; exact this)
      have HX := Aside0.mk (HLc.out _ (rd_mem hlt))
      clear HT
      obtain ⟨x, hx⟩ : ∃ x, x = Go.Proofs.YtdaadmjppikebaaW.PrintWords.rd (sc.trn i).q k := ⟨_, rfl⟩
      rw [← hx] at hcell HS HX
      clear hx
      cases hb1 : richF sc rd x with
      | true =>
        have HB1 := Aside0.mk hb1
        clear hb1
        have HFN := Aside0.mk (show findQ sc rd true (sc.trn i).q = x by have := HS.out; rw [if_pos (by rw [HB1.out]; rfl)] at this; exact this.symm)
        have HFX := Aside0.mk (show byCreditF s i rd = (x, sc.modT i fun t => { t with cu := x, us := 0 }) by rw [HFC.out]; unfold creditF2; rw [HFN.out, if_neg (by have := HX.out; omega)])
        go_wp2_with (first | (go_at_call 59; refine (rich_int HRc.out HDc.out HP3c.out HP5c.out x HX.out HB1.out).mono ?_; rintro e w' ⟨rfl, rfl⟩) | (go_at_call 58; refine (ready_int HRc.out HDc.out x HX.out HB2.out).mono ?_; rintro e w' ⟨rfl, rfl⟩))
        go_ret
        refine ⟨ret_int (by rw [HFX.out]), ?_⟩
        rw [HFX.out]
        have h1 := HRc.out.putT i 1 hic (by decide) (.int .i64 x) (fun t => { t with cu := x }) (fun _ => rfl) rfl
        have h2 := h1.putT i 2 (by rw [modT_len]; exact hic) (by decide) (.int .i64 0) (fun t => { t with us := 0 }) (fun _ => rfl) rfl
        rw [modT_modT] at h2
        exact Post.of h2 (((HMc.out.setCell (HO2.out _ HRc.out.ob.2.2.2.1) _).setCell (HO2.out _ HRc.out.ob.2.2.2.1) _)) HO1.out HO2.out
      | false =>
        have HB1 := Aside0.mk hb1
        clear hb1
        have HQQ := Aside0.mk (show findQ sc rd true ((sc.trn i).q.drop (k + 1)) = findQ sc rd true (sc.trn i).q by have := HS.out; rw [if_neg (by rw [HB1.out]; simp)] at this; exact this)
        go_wp2_with (first | (go_at_call 59; refine (rich_int HRc.out HDc.out HP3c.out HP5c.out x HX.out HB1.out).mono ?_; rintro e w' ⟨rfl, rfl⟩) | (go_at_call 58; refine (ready_int HRc.out HDc.out x HX.out HB2.out).mono ?_; rintro e w' ⟨rfl, rfl⟩))
        go_round
        case rel => exact ⟨k + 1, by go_num, by omega, HQQ⟩
        case measure => simp [intOf]; omega
    · have HE := Aside0.mk (show -1 = findQ sc rd true (sc.trn i).q by have := HT.out; rw [drop_end hlt] at this; exact this)
      have HFX := Aside0.mk (show byCreditF s i rd = (-1, sc) by rw [HFC.out]; unfold creditF2; rw [← HE.out, if_pos rfl])
      clear HT
      go_wp2
      go_ret
      refine ⟨ret_int (by rw [HFX.out]), ?_⟩
      rw [HFX.out]
      exact HPc.out
end Go.Proofs.Ytdaadmjppikebaa.SC

namespace Go.Proofs.Ytdaadmjppikebaa.SC
open Go.RowKit Go.Proofs.YtdaadmjppikebaaW.PrintWords
set_option linter.unusedVariables false
set_option linter.unusedSimpArgs false

set_option maxRecDepth 100000 in
set_option maxHeartbeats 3200000 in
theorem byCredit_off_a_false {W : World} {own : Nat → Prop} {L : Lay} {s : SS} {rd : List Bool} {A : Option Addr} {c : Nat} (h : SR W own L s) (hw : Wf s) (hr : RD W rd A c) (hno : ∀ ad, A = some ad → ¬ own ad.block) (i : Nat) (hi : i < s.ts.length) (hcu : 0 ≤ (s.trn i).cu) (h1 : readyF s rd (s.trn i).cu = false) (hsm : (s.trn i).q.any (richF s rd) = false) :
    Calls Try.prog 39 #[.pointer (some ⟨L.b, 0, none⟩), .int .i64 (i : Int), .slice A rd.length c] W fun x w' => x = .returned (.int .i64 (byCreditF s i rd).1) ∧ Post W own L (byCreditF s i rd).2 w' := by
  have hmf := hmf
  obtain ⟨q, hq⟩ := h.qs i hi
  have hRq := h.Q i q hq
  obtain ⟨Aq, cq, rfl, hcq, _⟩ := Kd.R_reads hRq
  obtain ⟨tq1, tq2, tq3, tq4, tq5, tq6, tq7, tq8⟩ := hw.tq i hi
  have hbw : Below W.heap.size W ((W.alloc (.cells #[.pointer (some ⟨L.b, 0, none⟩)] 30)).alloc (.cells #[.slice A rd.length c] 39)) := below_alloc (below_alloc (Below.refl _ _) _) _
  have HBW := Aside0.mk hbw
  have HRB := Aside0.mk (h.below hbw)
  have HDB := Aside0.mk (hr.below hbw)
  have HD0 := Aside0.mk hr
  have HNO := Aside0.mk hno
  have p3 : ((W.alloc (.cells #[.pointer (some ⟨L.b, 0, none⟩)] 30)).alloc (.cells #[.slice A rd.length c] 39)).cell? ⟨W.heap.size, 0, none⟩ = some (.pointer (some ⟨L.b, 0, none⟩)) := (World.cell?_alloc_lt _ _ _ (by simp)).trans ((blk_cell (blk_new _ _) 0).trans rfl)
  have p5 : ((W.alloc (.cells #[.pointer (some ⟨L.b, 0, none⟩)] 30)).alloc (.cells #[.slice A rd.length c] 39)).cell? ⟨W.heap.size + 1, 0, none⟩ = some (.slice A rd.length c) := by
    have e := (blk_cell (blk_new (W.alloc (.cells #[.pointer (some ⟨L.b, 0, none⟩)] 30)) (.cells #[.slice A rd.length c] 39)) 0)
    have e2 : (W.alloc (.cells #[.pointer (some ⟨L.b, 0, none⟩)] 30)).heap.size = W.heap.size + 1 := by simp
    rw [e2] at e
    exact e.trans rfl
  have c6 : ((W.alloc (.cells #[.pointer (some ⟨L.b, 0, none⟩)] 30)).alloc (.cells #[.slice A rd.length c] 39)).cell? ⟨L.b, 6, none⟩ = some (.slice (some ⟨L.bt, 0, none⟩) s.ts.length s.ts.length) := HRB.out.fld 6 rfl
  have u0 : ((W.alloc (.cells #[.pointer (some ⟨L.b, 0, none⟩)] 30)).alloc (.cells #[.slice A rd.length c] 39)).cell? ⟨L.bt, i * 3, none⟩ = some (.slice Aq (s.trn i).q.length cq) := HRB.out.trn i 0 hi (by decide) hq rfl
  have u1 : ((W.alloc (.cells #[.pointer (some ⟨L.b, 0, none⟩)] 30)).alloc (.cells #[.slice A rd.length c] 39)).cell? ⟨L.bt, i * 3 + 1, none⟩ = some (.int .i64 (s.trn i).cu) := HRB.out.trn i 1 hi (by decide) hq rfl
  have u2 : ((W.alloc (.cells #[.pointer (some ⟨L.b, 0, none⟩)] 30)).alloc (.cells #[.slice A rd.length c] 39)).cell? ⟨L.bt, i * 3 + 2, none⟩ = some (.int .i64 (s.trn i).us) := HRB.out.trn i 2 hi (by decide) hq rfl
  have HSM := Aside0.mk hsm
  have HCT := Aside0.mk (containsRich HRB.out HDB.out p3 p5 tq1 (Kd.R_reads' (HRB.out.Q i _ hq)).2.2 hcq (b := false) hsm)
  have HRQ := Aside0.mk hRq
  have HQI := Aside0.mk hq
  have HW := Aside0.mk hw
  have HH := Aside0.mk h
  have HTL := Aside0.mk tq1
  have HTN := Aside0.mk tq2
  have HP3 := Aside0.mk p3
  have HP5 := Aside0.mk p5
  have htn := hw.tn
  have hH8 := hw.H8
  have hes := hw.em
  clear h hr hno hbw hRq hq hsm tq1 tq2 tq3 tq8 hw
  have d0 : decide (0 ≤ (s.trn i).cu) = true := decide_eq_true hcu
  have HCR := Aside0.mk (show 0 ≤ (s.trn i).cu ∧ (s.trn i).cu < s.es.length from ⟨hcu, tq5⟩)
  have c1 : ((W.alloc (.cells #[.pointer (some ⟨L.b, 0, none⟩)] 30)).alloc (.cells #[.slice A rd.length c] 39)).cell? ⟨L.b, 1, none⟩ = some (.int .i64 s.S) := HRB.out.fld 1 rfl
  have HC1 := Aside0.mk h1
  have HGO := Aside0.mk (show goesOn s i rd = false by unfold goesOn someF; rw [h1, HSM.out]; simp)
  clear h1 tq6 tq7
  go_enter Try.func39, Try.ntmps39
  go_upto_region 6 with (go_at_call 60; refine HCT.out.mono ?_; rintro e w' ⟨rfl, rfl⟩)
  go_quiet ((first | (go_at_call 58; exact Calls.quiet_of_same (same_of (ready_int (HRB.out.drewN _) (HDB.out.drewN _) _ HCR.out HC1.out)))))
  obtain ⟨wq, hwq⟩ : ∃ wq, wq = ((W.alloc (.cells #[.pointer (some ⟨L.b, 0, none⟩)] 30)).alloc (.cells #[.slice A rd.length c] 39)).drewN nq := ⟨_, rfl⟩
  have HRq := Aside0.mk (show SR wq own L s by rw [hwq]; exact HRB.out.drewN nq)
  have HBq := Aside0.mk (show Below W.heap.size W wq by rw [hwq]; exact pw_below_drewN HBW.out nq)
  have HDq := Aside0.mk (show RD wq rd A c by rw [hwq]; exact HDB.out.drewN nq)
  have HP3q := Aside0.mk (show wq.cell? ⟨W.heap.size, 0, none⟩ = some (.pointer (some ⟨L.b, 0, none⟩)) by rw [hwq]; exact cell_drewN HP3.out nq)
  have HP5q := Aside0.mk (show wq.cell? ⟨W.heap.size + 1, 0, none⟩ = some (.slice A rd.length c) by rw [hwq]; exact cell_drewN HP5.out nq)
  rw [← hwq]
  clear hwq p3 p5 c6 u0 u1 u2 c1 HCT HRB HDB
  go_upto_region 9 with (go_at_call 49; refine (leave_calls HRq.out i hi HTN.out (s.trn i).cu).mono ?_; rintro e w2 ⟨rfl, q2, hs2, hm2⟩; have HS2 := Aside0.mk hs2; have HM2 := Aside0.mk hm2; clear hs2 hm2)
  obtain ⟨s1, hs1⟩ : ∃ s1, s1 = s.modT i (fun t => { t with q := t.q.filter fun x => x != (s.trn i).cu }) := ⟨_, rfl⟩
  rw [← hs1] at HS2
  have hl1 : s1.ts.length = s.ts.length := by rw [hs1]; simp
  have HT1 := Aside0.mk (show s1.trn i = { s.trn i with q := (s.trn i).q.filter fun x => x != (s.trn i).cu } by rw [hs1, modT_trn _ hi, if_pos rfl])
  have HL1 := Aside0.mk hl1
  have HQ2 := Aside0.mk (show (L.qs.set i q2)[i]? = some q2 from List.getElem?_set_self (by have := HRq.out.ql; omega))
  have hR2 := HS2.out.Q i q2 HQ2.out
  obtain ⟨A2, c2, rfl, hc2, _⟩ := Kd.R_reads hR2
  have HR2 := Aside0.mk (R_ok hR2 (ok' := fun _ => True) (fun _ _ => trivial))
  have e0 : w2.cell? ⟨L.bt, i * 3, none⟩ = some (.slice A2 (s1.trn i).q.length c2) := HS2.out.trn i 0 (by omega) (by decide) HQ2.out rfl
  have HN2 := Aside0.mk (show (s1.trn i).q.length ≤ 64 by rw [HT1.out]; exact Nat.le_trans (List.length_filter_le _ _) HTN.out)
  have HS1 := Aside0.mk hs1
  obtain ⟨cu, hcue⟩ : ∃ cu, cu = (s.trn i).cu := ⟨_, rfl⟩
  have HCE := Aside0.mk hcue
  rw [← hcue]
  clear hl1 hR2 hs1 hcue d0
  go_upto_region 11 with (first | (((with_reducible refine gate_builtin (b := .append) (xs := #[.tmp 64, .tmp 66]) rfl ?_); go_loud (at_builtin; refine Kd.R_append (Kd.int .i64) (w0 := w2) 0 rfl (.tmp 64) (.tmp 66) 22 3 (.int .i64 0) 8 rfl Try.underlying22 info3 rfl (by decide) (by omega) (.slice A2 (s1.trn i).q.length c2) ((s1.trn i).q) (cu) [.int .i64 (cu)] (fun _ => True) (fun _ => False) rfl rfl ?aP (fun _ hk => hk.elim) ?aF ?aO ?aB ?aS ?aL ?_; (case aP => exact rfl); (case aF => exact (fun _ _ => trivial)); (case aO => exact HR2.out); (case aB => exact (Below.refl 0 w2)); (case aS => exact Nat.zero_le _); (case aL => have := HN2.out; omega); intro v3 w3 ho hbb hg hat; obtain ⟨A3, n3, q3, hv3⟩ : ∃ (A3 : Option Addr) (n3 q3 : Nat), v3 = .slice A3 n3 q3 := (by obtain ⟨A, c, e⟩ := Kd.R_slice ho; exact ⟨_, _, _, e⟩); subst hv3; have HO2 := Aside0.mk ho; have HB2 := Aside0.mk hbb; have HG3 := Aside0.mk hg; have HA3 := Aside0.mk hat; clear ho hbb hg hat)); have hT3 := HS2.out.T.mut (below_mut0 HG3.out) (fun hk => (HS2.out.qne HQ2.out hk).2.2.2.1 rfl); have f3 := hT3.frozen (i * 3); have f4 := hT3.frozen (i * 3 + 1); have e3 : w3.cell? ⟨L.bt, i * 3, none⟩ = some (.slice A2 (s1.trn i).q.length c2) := hT3.cell (i := i * 3) ((flat_get trnC 3 (fun _ => rfl) (((L.qs.set i (.slice A2 (s1.trn i).q.length c2))).zip s1.ts) i 0 (by decide) (.slice A2 (s1.trn i).q.length c2, s1.trn i) (by rw [List.getElem?_zip_eq_some]; exact ⟨HQ2.out, trn_some (by rw [HL1.out]; exact hi)⟩)).trans rfl); have e4 : w3.cell? ⟨L.bt, i * 3 + 1, none⟩ = some (.int .i64 (s1.trn i).cu) := hT3.cell (i := i * 3 + 1) ((flat_get trnC 3 (fun _ => rfl) (((L.qs.set i (.slice A2 (s1.trn i).q.length c2))).zip s1.ts) i 1 (by decide) (.slice A2 (s1.trn i).q.length c2, s1.trn i) (by rw [List.getElem?_zip_eq_some]; exact ⟨HQ2.out, trn_some (by rw [HL1.out]; exact hi)⟩)).trans rfl); clear hT3) | fail)
  have hs3 := HS2.out.putQ i (by rw [HL1.out]; exact hi) _ (.slice A3 n3 q3) HQ2.out (below_mut0 HG3.out) _ (fun t => { t with q := t.q ++ [cu] }) rfl HO2.out (fun k hk => by rcases HA3.out with h | ⟨b, h, hb⟩; exact .inl (by rw [← h]; exact hk); rw [h] at hk; injection hk with hk; exact .inr (by omega))
  have hs4 := hs3.putT i 1 (by rw [modT_len, HL1.out]; exact hi) (by decide) (.int .i64 (-1)) (fun t => { t with cu := -1 }) (fun _ => rfl) rfl
  have hbk := backF_eq (s := s) hi
  rw [← HS1.out, ← HCE.out] at hbk
  rw [hbk] at hs4
  have hmm : Mut own W (((w3.setCell ⟨L.bt, i * 3, none⟩ (.slice A3 n3 q3))).setCell ⟨L.bt, i * 3 + 1, none⟩ (.int .i64 (-1))) :=
    ((((Mut.of_below HBq.out own).trans HM2.out (fun k hk => .inl hk)).trans (below_mut0 HG3.out) (fun k hk => .inl (HS2.out.qne HQ2.out hk).2.2.2.2.2.2)).setCell (.inl HH.out.ob.2.2.2.1) _).setCell (.inl HH.out.ob.2.2.2.1) _
  obtain ⟨sc, hsc⟩ : ∃ sc, sc = s.modT i backF := ⟨_, rfl⟩
  obtain ⟨wc, hwc⟩ : ∃ wc, wc = (((w3.setCell ⟨L.bt, i * 3, none⟩ (.slice A3 n3 q3))).setCell ⟨L.bt, i * 3 + 1, none⟩ (.int .i64 (-1))) := ⟨_, rfl⟩
  rw [← hwc] at hs4 hmm ⊢
  rw [← hsc] at hs4
  have hbe : ∀ (p : Addr) (v : Value), wq.cell? p = some v → ¬ own p.block → wc.cell? p = some v := fun p v hc hn => by
    have h1 := cell_kept hc HM2.out.kept hn
    have h2 := cell_kept h1 (below_mut0 HG3.out).kept (fun hk => hn (HS2.out.qne HQ2.out hk).2.2.2.2.2.2)
    rw [hwc]
    have hnb : p.block ≠ L.bt := fun e => hn (by rw [e]; exact HH.out.ob.2.2.2.1)
    rw [World.cell?_of_block (w := w3.setCell ⟨L.bt, i * 3, none⟩ (.slice A3 n3 q3)) (Below.heap_setCell _ _ _ _ hnb), World.cell?_of_block (w := w3) (Below.heap_setCell _ _ _ _ hnb)]
    exact h2
  have hown : ∀ k, own k → k < W.heap.size := HH.out.lt
  have hqown : ∀ k, (Value.slice A2 (s1.trn i).q.length c2).ownBlock = some k → own k := fun k hk => (HS2.out.qne HQ2.out hk).2.2.2.2.2.2
  have HPc := Aside0.mk (show Post W own L sc wc from Post.of hs4 hmm (fun _ h => .inl h) (fun k hk => hk.elim .inl (fun h => by
    rcases HA3.out with h1 | ⟨b, h1, hb⟩
    · exact .inl (hqown k (by rw [← h1]; exact h))
    · rw [h1] at h; injection h with h; exact .inr (by have := HBq.out.size; have := HM2.out.size; omega))))
  have HP3c := Aside0.mk (show wc.cell? ⟨W.heap.size, 0, none⟩ = some (.pointer (some ⟨L.b, 0, none⟩)) from hbe _ _ HP3q.out (fun hk => by have := hown _ hk; simp at this))
  have HP5c := Aside0.mk (show wc.cell? ⟨W.heap.size + 1, 0, none⟩ = some (.slice A rd.length c) from hbe _ _ HP5q.out (fun hk => by have := hown _ hk; simp at this; omega))
  have HDc := Aside0.mk (show RD wc rd A c from HD0.out.mut hmm HNO.out)
  have hic : i < sc.ts.length := by rw [hsc]; simpa using hi
  have htr : sc.trn i = backF (s.trn i) := by rw [hsc, modT_trn _ hi, if_pos rfl]
  have HNc := Aside0.mk (show (sc.trn i).q.length ≤ 64 by rw [htr]; exact back_len HW.out hi hcu)
  have HLc := Aside0.mk (show ∀ e ∈ (sc.trn i).q, 0 ≤ e ∧ e < sc.es.length by
    rw [htr, hsc]
    intro e he
    rcases List.mem_append.1 he with h | h
    · exact HTL.out e (List.mem_filter.1 h).1
    · rw [List.mem_singleton.1 h]; exact HCR.out)
  have HFC := Aside0.mk (show byCreditF s i rd = creditF2 sc i rd false by unfold byCreditF; rw [if_pos hcu, if_neg (by rw [HGO.out]; decide)]; unfold someF; rw [HSM.out, hsc])
  clear hs3 hs4 hmm hwc hsc hbk hbe hown hqown htr hcu e0 e3 e4 f3 f4 HS2 HM2 HR2 HA3 HG3 HO2 HB2 HT1 HL1 HQ2 HN2 HS1 HCE HRq HBq HDq HP3q HP5q
  obtain ⟨ownc, qsc, hsr, hmc, ho1, ho2⟩ := HPc.out
  have HRc := Aside0.mk hsr
  have HMc := Aside0.mk hmc
  have HO1 := Aside0.mk ho1
  have HO2 := Aside0.mk ho2
  obtain ⟨qc, hqc⟩ := hsr.qs i hic
  have hRc := hsr.Q i qc hqc
  obtain ⟨A2, c2, rfl, hc2, hC2⟩ := Kd.R_reads hRc
  have HC2r := Aside0.mk hC2
  have v0 : wc.cell? ⟨L.bt, i * 3, none⟩ = some (.slice A2 (sc.trn i).q.length c2) := hsr.trn i 0 hic (by decide) hqc rfl
  have v1 : wc.cell? ⟨L.bt, i * 3 + 1, none⟩ = some (.int .i64 (sc.trn i).cu) := hsr.trn i 1 hic (by decide) hqc rfl
  have v2 : wc.cell? ⟨L.bt, i * 3 + 2, none⟩ = some (.int .i64 (sc.trn i).us) := hsr.trn i 2 hic (by decide) hqc rfl
  have f1 : wc.frozen? ⟨L.bt, i * 3 + 1, none⟩ = false := hsr.T.frozen _
  have f2 : wc.frozen? ⟨L.bt, i * 3 + 2, none⟩ = false := hsr.T.frozen _
  have hlen := HNc.out
  have hp3 := HP3c.out
  have hp5 := HP5c.out
  clear hsr hmc ho1 ho2 hRc hC2 hqc
  go_wp2
  go_loop [78] (fun v78 => ∃ (k : Nat), v78 = .int .i64 (k : Int) ∧ k ≤ (sc.trn i).q.length ∧ Aside0 (findQ sc rd false ((sc.trn i).q.drop k) = findQ sc rd false (sc.trn i).q)) (fun v78 => (sc.trn i).q.length - (intOf v78).toNat)
  case atStart => exact ⟨0, rfl, by omega, ⟨rfl⟩⟩
  case round =>
    obtain ⟨k, rfl, hk, HT⟩ := hrel
    by_cases hlt : k < (sc.trn i).q.length
    · obtain ⟨ad, rfl, hcell⟩ := Kd.at_int HC2r.out (k : Int) (by omega) (by omega)
      rw [Int.toNat_natCast] at hcell
      have HS := Aside0.mk (show (if (richF sc rd (Go.Proofs.YtdaadmjppikebaaW.PrintWords.rd (sc.trn i).q k) || (!false && readyF sc rd (Go.Proofs.YtdaadmjppikebaaW.PrintWords.rd (sc.trn i).q k))) = true then Go.Proofs.YtdaadmjppikebaaW.PrintWords.rd (sc.trn i).q k else findQ sc rd false ((sc.trn i).q.drop (k + 1))) = findQ sc rd false (sc.trn i).q by have := HT.out; rw [drop_int hlt] at this; exact this)
      have HX := Aside0.mk (HLc.out _ (rd_mem hlt))
      clear HT
      obtain ⟨x, hx⟩ : ∃ x, x = Go.Proofs.YtdaadmjppikebaaW.PrintWords.rd (sc.trn i).q k := ⟨_, rfl⟩
      rw [← hx] at hcell HS HX
      clear hx
      cases hb1 : richF sc rd x with
      | true =>
        have HB1 := Aside0.mk hb1
        clear hb1
        have HFN := Aside0.mk (show findQ sc rd false (sc.trn i).q = x by have := HS.out; rw [if_pos (by rw [HB1.out]; rfl)] at this; exact this.symm)
        have HFX := Aside0.mk (show byCreditF s i rd = (x, sc.modT i fun t => { t with cu := x, us := 0 }) by rw [HFC.out]; unfold creditF2; rw [HFN.out, if_neg (by have := HX.out; omega)])
        go_wp2_with (first | (go_at_call 59; refine (rich_int HRc.out HDc.out HP3c.out HP5c.out x HX.out HB1.out).mono ?_; rintro e w' ⟨rfl, rfl⟩) | (go_at_call 58; refine (ready_int HRc.out HDc.out x HX.out HB2.out).mono ?_; rintro e w' ⟨rfl, rfl⟩))
        go_ret
        refine ⟨ret_int (by rw [HFX.out]), ?_⟩
        rw [HFX.out]
        have h1 := HRc.out.putT i 1 hic (by decide) (.int .i64 x) (fun t => { t with cu := x }) (fun _ => rfl) rfl
        have h2 := h1.putT i 2 (by rw [modT_len]; exact hic) (by decide) (.int .i64 0) (fun t => { t with us := 0 }) (fun _ => rfl) rfl
        rw [modT_modT] at h2
        exact Post.of h2 (((HMc.out.setCell (HO2.out _ HRc.out.ob.2.2.2.1) _).setCell (HO2.out _ HRc.out.ob.2.2.2.1) _)) HO1.out HO2.out
      | false =>
        have HB1 := Aside0.mk hb1
        clear hb1
        cases hb2 : readyF sc rd x with
        | true =>
          have HB2 := Aside0.mk hb2
          clear hb2
          have HFN := Aside0.mk (show findQ sc rd false (sc.trn i).q = x by have := HS.out; rw [if_pos (by rw [HB1.out]; rw [HB2.out]; rfl)] at this; exact this.symm)
          have HFX := Aside0.mk (show byCreditF s i rd = (x, sc.modT i fun t => { t with cu := x, us := 0 }) by rw [HFC.out]; unfold creditF2; rw [HFN.out, if_neg (by have := HX.out; omega)])
          go_wp2_with (first | (go_at_call 59; refine (rich_int HRc.out HDc.out HP3c.out HP5c.out x HX.out HB1.out).mono ?_; rintro e w' ⟨rfl, rfl⟩) | (go_at_call 58; refine (ready_int HRc.out HDc.out x HX.out HB2.out).mono ?_; rintro e w' ⟨rfl, rfl⟩))
          go_ret
          refine ⟨ret_int (by rw [HFX.out]), ?_⟩
          rw [HFX.out]
          have h1 := HRc.out.putT i 1 hic (by decide) (.int .i64 x) (fun t => { t with cu := x }) (fun _ => rfl) rfl
          have h2 := h1.putT i 2 (by rw [modT_len]; exact hic) (by decide) (.int .i64 0) (fun t => { t with us := 0 }) (fun _ => rfl) rfl
          rw [modT_modT] at h2
          exact Post.of h2 (((HMc.out.setCell (HO2.out _ HRc.out.ob.2.2.2.1) _).setCell (HO2.out _ HRc.out.ob.2.2.2.1) _)) HO1.out HO2.out
        | false =>
          have HB2 := Aside0.mk hb2
          clear hb2
          have HQQ := Aside0.mk (show findQ sc rd false ((sc.trn i).q.drop (k + 1)) = findQ sc rd false (sc.trn i).q by have := HS.out; rw [if_neg (by rw [HB1.out]; rw [HB2.out]; simp)] at this; exact this)
          go_wp2_with (first | (go_at_call 59; refine (rich_int HRc.out HDc.out HP3c.out HP5c.out x HX.out HB1.out).mono ?_; rintro e w' ⟨rfl, rfl⟩) | (go_at_call 58; refine (ready_int HRc.out HDc.out x HX.out HB2.out).mono ?_; rintro e w' ⟨rfl, rfl⟩))
          go_round
          case rel => exact ⟨k + 1, by go_num, by omega, HQQ⟩
          case measure => simp [intOf]; omega
    · have HE := Aside0.mk (show -1 = findQ sc rd false (sc.trn i).q by have := HT.out; rw [drop_end hlt] at this; exact this)
      have HFX := Aside0.mk (show byCreditF s i rd = (-1, sc) by rw [HFC.out]; unfold creditF2; rw [← HE.out, if_pos rfl])
      clear HT
      go_wp2
      go_ret
      refine ⟨ret_int (by rw [HFX.out]), ?_⟩
      rw [HFX.out]
      exact HPc.out
end Go.Proofs.Ytdaadmjppikebaa.SC

namespace Go.Proofs.Ytdaadmjppikebaa.SC
open Go.RowKit Go.Proofs.YtdaadmjppikebaaW.PrintWords
set_option linter.unusedVariables false
set_option linter.unusedSimpArgs false

set_option maxRecDepth 100000 in
set_option maxHeartbeats 3200000 in
theorem byCredit_off_b_true {W : World} {own : Nat → Prop} {L : Lay} {s : SS} {rd : List Bool} {A : Option Addr} {c : Nat} (h : SR W own L s) (hw : Wf s) (hr : RD W rd A c) (hno : ∀ ad, A = some ad → ¬ own ad.block) (i : Nat) (hi : i < s.ts.length) (hcu : 0 ≤ (s.trn i).cu) (h1 : readyF s rd (s.trn i).cu = true) (h2 : decide ((s.trn i).us < s.S) = false) (hsm : (s.trn i).q.any (richF s rd) = true) :
    Calls Try.prog 39 #[.pointer (some ⟨L.b, 0, none⟩), .int .i64 (i : Int), .slice A rd.length c] W fun x w' => x = .returned (.int .i64 (byCreditF s i rd).1) ∧ Post W own L (byCreditF s i rd).2 w' := by
  have hmf := hmf
  obtain ⟨q, hq⟩ := h.qs i hi
  have hRq := h.Q i q hq
  obtain ⟨Aq, cq, rfl, hcq, _⟩ := Kd.R_reads hRq
  obtain ⟨tq1, tq2, tq3, tq4, tq5, tq6, tq7, tq8⟩ := hw.tq i hi
  have hbw : Below W.heap.size W ((W.alloc (.cells #[.pointer (some ⟨L.b, 0, none⟩)] 30)).alloc (.cells #[.slice A rd.length c] 39)) := below_alloc (below_alloc (Below.refl _ _) _) _
  have HBW := Aside0.mk hbw
  have HRB := Aside0.mk (h.below hbw)
  have HDB := Aside0.mk (hr.below hbw)
  have HD0 := Aside0.mk hr
  have HNO := Aside0.mk hno
  have p3 : ((W.alloc (.cells #[.pointer (some ⟨L.b, 0, none⟩)] 30)).alloc (.cells #[.slice A rd.length c] 39)).cell? ⟨W.heap.size, 0, none⟩ = some (.pointer (some ⟨L.b, 0, none⟩)) := (World.cell?_alloc_lt _ _ _ (by simp)).trans ((blk_cell (blk_new _ _) 0).trans rfl)
  have p5 : ((W.alloc (.cells #[.pointer (some ⟨L.b, 0, none⟩)] 30)).alloc (.cells #[.slice A rd.length c] 39)).cell? ⟨W.heap.size + 1, 0, none⟩ = some (.slice A rd.length c) := by
    have e := (blk_cell (blk_new (W.alloc (.cells #[.pointer (some ⟨L.b, 0, none⟩)] 30)) (.cells #[.slice A rd.length c] 39)) 0)
    have e2 : (W.alloc (.cells #[.pointer (some ⟨L.b, 0, none⟩)] 30)).heap.size = W.heap.size + 1 := by simp
    rw [e2] at e
    exact e.trans rfl
  have c6 : ((W.alloc (.cells #[.pointer (some ⟨L.b, 0, none⟩)] 30)).alloc (.cells #[.slice A rd.length c] 39)).cell? ⟨L.b, 6, none⟩ = some (.slice (some ⟨L.bt, 0, none⟩) s.ts.length s.ts.length) := HRB.out.fld 6 rfl
  have u0 : ((W.alloc (.cells #[.pointer (some ⟨L.b, 0, none⟩)] 30)).alloc (.cells #[.slice A rd.length c] 39)).cell? ⟨L.bt, i * 3, none⟩ = some (.slice Aq (s.trn i).q.length cq) := HRB.out.trn i 0 hi (by decide) hq rfl
  have u1 : ((W.alloc (.cells #[.pointer (some ⟨L.b, 0, none⟩)] 30)).alloc (.cells #[.slice A rd.length c] 39)).cell? ⟨L.bt, i * 3 + 1, none⟩ = some (.int .i64 (s.trn i).cu) := HRB.out.trn i 1 hi (by decide) hq rfl
  have u2 : ((W.alloc (.cells #[.pointer (some ⟨L.b, 0, none⟩)] 30)).alloc (.cells #[.slice A rd.length c] 39)).cell? ⟨L.bt, i * 3 + 2, none⟩ = some (.int .i64 (s.trn i).us) := HRB.out.trn i 2 hi (by decide) hq rfl
  have HSM := Aside0.mk hsm
  have HCT := Aside0.mk (containsRich HRB.out HDB.out p3 p5 tq1 (Kd.R_reads' (HRB.out.Q i _ hq)).2.2 hcq (b := true) hsm)
  have HRQ := Aside0.mk hRq
  have HQI := Aside0.mk hq
  have HW := Aside0.mk hw
  have HH := Aside0.mk h
  have HTL := Aside0.mk tq1
  have HTN := Aside0.mk tq2
  have HP3 := Aside0.mk p3
  have HP5 := Aside0.mk p5
  have htn := hw.tn
  have hH8 := hw.H8
  have hes := hw.em
  clear h hr hno hbw hRq hq hsm tq1 tq2 tq3 tq8 hw
  have d0 : decide (0 ≤ (s.trn i).cu) = true := decide_eq_true hcu
  have HCR := Aside0.mk (show 0 ≤ (s.trn i).cu ∧ (s.trn i).cu < s.es.length from ⟨hcu, tq5⟩)
  have c1 : ((W.alloc (.cells #[.pointer (some ⟨L.b, 0, none⟩)] 30)).alloc (.cells #[.slice A rd.length c] 39)).cell? ⟨L.b, 1, none⟩ = some (.int .i64 s.S) := HRB.out.fld 1 rfl
  have HC1 := Aside0.mk h1
  have HGO := Aside0.mk (show goesOn s i rd = false by unfold goesOn someF; rw [h1, h2, HSM.out]; rfl)
  clear h1 tq6 tq7
  go_enter Try.func39, Try.ntmps39
  go_upto_region 6 with (go_at_call 60; refine HCT.out.mono ?_; rintro e w' ⟨rfl, rfl⟩)
  go_quiet ((first | (go_at_call 58; exact Calls.quiet_of_same (same_of (ready_int (HRB.out.drewN _) (HDB.out.drewN _) _ HCR.out HC1.out)))))
  obtain ⟨wq, hwq⟩ : ∃ wq, wq = ((W.alloc (.cells #[.pointer (some ⟨L.b, 0, none⟩)] 30)).alloc (.cells #[.slice A rd.length c] 39)).drewN nq := ⟨_, rfl⟩
  have HRq := Aside0.mk (show SR wq own L s by rw [hwq]; exact HRB.out.drewN nq)
  have HBq := Aside0.mk (show Below W.heap.size W wq by rw [hwq]; exact pw_below_drewN HBW.out nq)
  have HDq := Aside0.mk (show RD wq rd A c by rw [hwq]; exact HDB.out.drewN nq)
  have HP3q := Aside0.mk (show wq.cell? ⟨W.heap.size, 0, none⟩ = some (.pointer (some ⟨L.b, 0, none⟩)) by rw [hwq]; exact cell_drewN HP3.out nq)
  have HP5q := Aside0.mk (show wq.cell? ⟨W.heap.size + 1, 0, none⟩ = some (.slice A rd.length c) by rw [hwq]; exact cell_drewN HP5.out nq)
  rw [← hwq]
  clear hwq p3 p5 c6 u0 u1 u2 c1 HCT HRB HDB
  go_upto_region 9 with (go_at_call 49; refine (leave_calls HRq.out i hi HTN.out (s.trn i).cu).mono ?_; rintro e w2 ⟨rfl, q2, hs2, hm2⟩; have HS2 := Aside0.mk hs2; have HM2 := Aside0.mk hm2; clear hs2 hm2)
  obtain ⟨s1, hs1⟩ : ∃ s1, s1 = s.modT i (fun t => { t with q := t.q.filter fun x => x != (s.trn i).cu }) := ⟨_, rfl⟩
  rw [← hs1] at HS2
  have hl1 : s1.ts.length = s.ts.length := by rw [hs1]; simp
  have HT1 := Aside0.mk (show s1.trn i = { s.trn i with q := (s.trn i).q.filter fun x => x != (s.trn i).cu } by rw [hs1, modT_trn _ hi, if_pos rfl])
  have HL1 := Aside0.mk hl1
  have HQ2 := Aside0.mk (show (L.qs.set i q2)[i]? = some q2 from List.getElem?_set_self (by have := HRq.out.ql; omega))
  have hR2 := HS2.out.Q i q2 HQ2.out
  obtain ⟨A2, c2, rfl, hc2, _⟩ := Kd.R_reads hR2
  have HR2 := Aside0.mk (R_ok hR2 (ok' := fun _ => True) (fun _ _ => trivial))
  have e0 : w2.cell? ⟨L.bt, i * 3, none⟩ = some (.slice A2 (s1.trn i).q.length c2) := HS2.out.trn i 0 (by omega) (by decide) HQ2.out rfl
  have HN2 := Aside0.mk (show (s1.trn i).q.length ≤ 64 by rw [HT1.out]; exact Nat.le_trans (List.length_filter_le _ _) HTN.out)
  have HS1 := Aside0.mk hs1
  obtain ⟨cu, hcue⟩ : ∃ cu, cu = (s.trn i).cu := ⟨_, rfl⟩
  have HCE := Aside0.mk hcue
  rw [← hcue]
  clear hl1 hR2 hs1 hcue d0
  go_upto_region 11 with (first | (((with_reducible refine gate_builtin (b := .append) (xs := #[.tmp 64, .tmp 66]) rfl ?_); go_loud (at_builtin; refine Kd.R_append (Kd.int .i64) (w0 := w2) 0 rfl (.tmp 64) (.tmp 66) 22 3 (.int .i64 0) 8 rfl Try.underlying22 info3 rfl (by decide) (by omega) (.slice A2 (s1.trn i).q.length c2) ((s1.trn i).q) (cu) [.int .i64 (cu)] (fun _ => True) (fun _ => False) rfl rfl ?aP (fun _ hk => hk.elim) ?aF ?aO ?aB ?aS ?aL ?_; (case aP => exact rfl); (case aF => exact (fun _ _ => trivial)); (case aO => exact HR2.out); (case aB => exact (Below.refl 0 w2)); (case aS => exact Nat.zero_le _); (case aL => have := HN2.out; omega); intro v3 w3 ho hbb hg hat; obtain ⟨A3, n3, q3, hv3⟩ : ∃ (A3 : Option Addr) (n3 q3 : Nat), v3 = .slice A3 n3 q3 := (by obtain ⟨A, c, e⟩ := Kd.R_slice ho; exact ⟨_, _, _, e⟩); subst hv3; have HO2 := Aside0.mk ho; have HB2 := Aside0.mk hbb; have HG3 := Aside0.mk hg; have HA3 := Aside0.mk hat; clear ho hbb hg hat)); have hT3 := HS2.out.T.mut (below_mut0 HG3.out) (fun hk => (HS2.out.qne HQ2.out hk).2.2.2.1 rfl); have f3 := hT3.frozen (i * 3); have f4 := hT3.frozen (i * 3 + 1); have e3 : w3.cell? ⟨L.bt, i * 3, none⟩ = some (.slice A2 (s1.trn i).q.length c2) := hT3.cell (i := i * 3) ((flat_get trnC 3 (fun _ => rfl) (((L.qs.set i (.slice A2 (s1.trn i).q.length c2))).zip s1.ts) i 0 (by decide) (.slice A2 (s1.trn i).q.length c2, s1.trn i) (by rw [List.getElem?_zip_eq_some]; exact ⟨HQ2.out, trn_some (by rw [HL1.out]; exact hi)⟩)).trans rfl); have e4 : w3.cell? ⟨L.bt, i * 3 + 1, none⟩ = some (.int .i64 (s1.trn i).cu) := hT3.cell (i := i * 3 + 1) ((flat_get trnC 3 (fun _ => rfl) (((L.qs.set i (.slice A2 (s1.trn i).q.length c2))).zip s1.ts) i 1 (by decide) (.slice A2 (s1.trn i).q.length c2, s1.trn i) (by rw [List.getElem?_zip_eq_some]; exact ⟨HQ2.out, trn_some (by rw [HL1.out]; exact hi)⟩)).trans rfl); clear hT3) | fail)
  have hs3 := HS2.out.putQ i (by rw [HL1.out]; exact hi) _ (.slice A3 n3 q3) HQ2.out (below_mut0 HG3.out) _ (fun t => { t with q := t.q ++ [cu] }) rfl HO2.out (fun k hk => by rcases HA3.out with h | ⟨b, h, hb⟩; exact .inl (by rw [← h]; exact hk); rw [h] at hk; injection hk with hk; exact .inr (by omega))
  have hs4 := hs3.putT i 1 (by rw [modT_len, HL1.out]; exact hi) (by decide) (.int .i64 (-1)) (fun t => { t with cu := -1 }) (fun _ => rfl) rfl
  have hbk := backF_eq (s := s) hi
  rw [← HS1.out, ← HCE.out] at hbk
  rw [hbk] at hs4
  have hmm : Mut own W (((w3.setCell ⟨L.bt, i * 3, none⟩ (.slice A3 n3 q3))).setCell ⟨L.bt, i * 3 + 1, none⟩ (.int .i64 (-1))) :=
    ((((Mut.of_below HBq.out own).trans HM2.out (fun k hk => .inl hk)).trans (below_mut0 HG3.out) (fun k hk => .inl (HS2.out.qne HQ2.out hk).2.2.2.2.2.2)).setCell (.inl HH.out.ob.2.2.2.1) _).setCell (.inl HH.out.ob.2.2.2.1) _
  obtain ⟨sc, hsc⟩ : ∃ sc, sc = s.modT i backF := ⟨_, rfl⟩
  obtain ⟨wc, hwc⟩ : ∃ wc, wc = (((w3.setCell ⟨L.bt, i * 3, none⟩ (.slice A3 n3 q3))).setCell ⟨L.bt, i * 3 + 1, none⟩ (.int .i64 (-1))) := ⟨_, rfl⟩
  rw [← hwc] at hs4 hmm ⊢
  rw [← hsc] at hs4
  have hbe : ∀ (p : Addr) (v : Value), wq.cell? p = some v → ¬ own p.block → wc.cell? p = some v := fun p v hc hn => by
    have h1 := cell_kept hc HM2.out.kept hn
    have h2 := cell_kept h1 (below_mut0 HG3.out).kept (fun hk => hn (HS2.out.qne HQ2.out hk).2.2.2.2.2.2)
    rw [hwc]
    have hnb : p.block ≠ L.bt := fun e => hn (by rw [e]; exact HH.out.ob.2.2.2.1)
    rw [World.cell?_of_block (w := w3.setCell ⟨L.bt, i * 3, none⟩ (.slice A3 n3 q3)) (Below.heap_setCell _ _ _ _ hnb), World.cell?_of_block (w := w3) (Below.heap_setCell _ _ _ _ hnb)]
    exact h2
  have hown : ∀ k, own k → k < W.heap.size := HH.out.lt
  have hqown : ∀ k, (Value.slice A2 (s1.trn i).q.length c2).ownBlock = some k → own k := fun k hk => (HS2.out.qne HQ2.out hk).2.2.2.2.2.2
  have HPc := Aside0.mk (show Post W own L sc wc from Post.of hs4 hmm (fun _ h => .inl h) (fun k hk => hk.elim .inl (fun h => by
    rcases HA3.out with h1 | ⟨b, h1, hb⟩
    · exact .inl (hqown k (by rw [← h1]; exact h))
    · rw [h1] at h; injection h with h; exact .inr (by have := HBq.out.size; have := HM2.out.size; omega))))
  have HP3c := Aside0.mk (show wc.cell? ⟨W.heap.size, 0, none⟩ = some (.pointer (some ⟨L.b, 0, none⟩)) from hbe _ _ HP3q.out (fun hk => by have := hown _ hk; simp at this))
  have HP5c := Aside0.mk (show wc.cell? ⟨W.heap.size + 1, 0, none⟩ = some (.slice A rd.length c) from hbe _ _ HP5q.out (fun hk => by have := hown _ hk; simp at this; omega))
  have HDc := Aside0.mk (show RD wc rd A c from HD0.out.mut hmm HNO.out)
  have hic : i < sc.ts.length := by rw [hsc]; simpa using hi
  have htr : sc.trn i = backF (s.trn i) := by rw [hsc, modT_trn _ hi, if_pos rfl]
  have HNc := Aside0.mk (show (sc.trn i).q.length ≤ 64 by rw [htr]; exact back_len HW.out hi hcu)
  have HLc := Aside0.mk (show ∀ e ∈ (sc.trn i).q, 0 ≤ e ∧ e < sc.es.length by
    rw [htr, hsc]
    intro e he
    rcases List.mem_append.1 he with h | h
    · exact HTL.out e (List.mem_filter.1 h).1
    · rw [List.mem_singleton.1 h]; exact HCR.out)
  have HFC := Aside0.mk (show byCreditF s i rd = creditF2 sc i rd true by unfold byCreditF; rw [if_pos hcu, if_neg (by rw [HGO.out]; decide)]; unfold someF; rw [HSM.out, hsc])
  clear hs3 hs4 hmm hwc hsc hbk hbe hown hqown htr hcu e0 e3 e4 f3 f4 HS2 HM2 HR2 HA3 HG3 HO2 HB2 HT1 HL1 HQ2 HN2 HS1 HCE HRq HBq HDq HP3q HP5q
  obtain ⟨ownc, qsc, hsr, hmc, ho1, ho2⟩ := HPc.out
  have HRc := Aside0.mk hsr
  have HMc := Aside0.mk hmc
  have HO1 := Aside0.mk ho1
  have HO2 := Aside0.mk ho2
  obtain ⟨qc, hqc⟩ := hsr.qs i hic
  have hRc := hsr.Q i qc hqc
  obtain ⟨A2, c2, rfl, hc2, hC2⟩ := Kd.R_reads hRc
  have HC2r := Aside0.mk hC2
  have v0 : wc.cell? ⟨L.bt, i * 3, none⟩ = some (.slice A2 (sc.trn i).q.length c2) := hsr.trn i 0 hic (by decide) hqc rfl
  have v1 : wc.cell? ⟨L.bt, i * 3 + 1, none⟩ = some (.int .i64 (sc.trn i).cu) := hsr.trn i 1 hic (by decide) hqc rfl
  have v2 : wc.cell? ⟨L.bt, i * 3 + 2, none⟩ = some (.int .i64 (sc.trn i).us) := hsr.trn i 2 hic (by decide) hqc rfl
  have f1 : wc.frozen? ⟨L.bt, i * 3 + 1, none⟩ = false := hsr.T.frozen _
  have f2 : wc.frozen? ⟨L.bt, i * 3 + 2, none⟩ = false := hsr.T.frozen _
  have hlen := HNc.out
  have hp3 := HP3c.out
  have hp5 := HP5c.out
  clear hsr hmc ho1 ho2 hRc hC2 hqc
  go_wp2
  go_loop [78] (fun v78 => ∃ (k : Nat), v78 = .int .i64 (k : Int) ∧ k ≤ (sc.trn i).q.length ∧ Aside0 (findQ sc rd true ((sc.trn i).q.drop k) = findQ sc rd true (sc.trn i).q)) (fun v78 => (sc.trn i).q.length - (intOf v78).toNat)
  case atStart => exact ⟨0, rfl, by omega, ⟨rfl⟩⟩
  case round =>
    obtain ⟨k, rfl, hk, HT⟩ := hrel
    by_cases hlt : k < (sc.trn i).q.length
    · obtain ⟨ad, rfl, hcell⟩ := Kd.at_int HC2r.out (k : Int) (by omega) (by omega)
      rw [Int.toNat_natCast] at hcell
      have HS := Aside0.mk (show (if (richF sc rd (Go.Proofs.YtdaadmjppikebaaW.PrintWords.rd (sc.trn i).q k) || (!true && readyF sc rd (Go.Proofs.YtdaadmjppikebaaW.PrintWords.rd (sc.trn i).q k))) = true then Go.Proofs.YtdaadmjppikebaaW.PrintWords.rd (sc.trn i).q k else findQ sc rd true ((sc.trn i).q.drop (k + 1))) = findQ sc rd true (sc.trn i).q by have := HT.out; rw [drop_int hlt] at this; exact this)
      have HX := Aside0.mk (HLc.out _ (rd_mem hlt))
      clear HT
      obtain ⟨x, hx⟩ : ∃ x, x = Go.Proofs.YtdaadmjppikebaaW.PrintWords.rd (sc.trn i).q k := ⟨_, rfl⟩
      rw [← hx] at hcell HS HX
      clear hx
      cases hb1 : richF sc rd x with
      | true =>
        have HB1 := Aside0.mk hb1
        clear hb1
        have HFN := Aside0.mk (show findQ sc rd true (sc.trn i).q = x by have := HS.out; rw [if_pos (by rw [HB1.out]; rfl)] at this; exact this.symm)
        have HFX := Aside0.mk (show byCreditF s i rd = (x, sc.modT i fun t => { t with cu := x, us := 0 }) by rw [HFC.out]; unfold creditF2; rw [HFN.out, if_neg (by have := HX.out; omega)])
        go_wp2_with (first | (go_at_call 59; refine (rich_int HRc.out HDc.out HP3c.out HP5c.out x HX.out HB1.out).mono ?_; rintro e w' ⟨rfl, rfl⟩) | (go_at_call 58; refine (ready_int HRc.out HDc.out x HX.out HB2.out).mono ?_; rintro e w' ⟨rfl, rfl⟩))
        go_ret
        refine ⟨ret_int (by rw [HFX.out]), ?_⟩
        rw [HFX.out]
        have h1 := HRc.out.putT i 1 hic (by decide) (.int .i64 x) (fun t => { t with cu := x }) (fun _ => rfl) rfl
        have h2 := h1.putT i 2 (by rw [modT_len]; exact hic) (by decide) (.int .i64 0) (fun t => { t with us := 0 }) (fun _ => rfl) rfl
        rw [modT_modT] at h2
        exact Post.of h2 (((HMc.out.setCell (HO2.out _ HRc.out.ob.2.2.2.1) _).setCell (HO2.out _ HRc.out.ob.2.2.2.1) _)) HO1.out HO2.out
      | false =>
        have HB1 := Aside0.mk hb1
        clear hb1
        have HQQ := Aside0.mk (show findQ sc rd true ((sc.trn i).q.drop (k + 1)) = findQ sc rd true (sc.trn i).q by have := HS.out; rw [if_neg (by rw [HB1.out]; simp)] at this; exact this)
        go_wp2_with (first | (go_at_call 59; refine (rich_int HRc.out HDc.out HP3c.out HP5c.out x HX.out HB1.out).mono ?_; rintro e w' ⟨rfl, rfl⟩) | (go_at_call 58; refine (ready_int HRc.out HDc.out x HX.out HB2.out).mono ?_; rintro e w' ⟨rfl, rfl⟩))
        go_round
        case rel => exact ⟨k + 1, by go_num, by omega, HQQ⟩
        case measure => simp [intOf]; omega
    · have HE := Aside0.mk (show -1 = findQ sc rd true (sc.trn i).q by have := HT.out; rw [drop_end hlt] at this; exact this)
      have HFX := Aside0.mk (show byCreditF s i rd = (-1, sc) by rw [HFC.out]; unfold creditF2; rw [← HE.out, if_pos rfl])
      clear HT
      go_wp2
      go_ret
      refine ⟨ret_int (by rw [HFX.out]), ?_⟩
      rw [HFX.out]
      exact HPc.out
end Go.Proofs.Ytdaadmjppikebaa.SC

namespace Go.Proofs.Ytdaadmjppikebaa.SC
open Go.RowKit Go.Proofs.YtdaadmjppikebaaW.PrintWords
set_option linter.unusedVariables false
set_option linter.unusedSimpArgs false

set_option maxRecDepth 100000 in
set_option maxHeartbeats 3200000 in
theorem byCredit_off_b_false {W : World} {own : Nat → Prop} {L : Lay} {s : SS} {rd : List Bool} {A : Option Addr} {c : Nat} (h : SR W own L s) (hw : Wf s) (hr : RD W rd A c) (hno : ∀ ad, A = some ad → ¬ own ad.block) (i : Nat) (hi : i < s.ts.length) (hcu : 0 ≤ (s.trn i).cu) (h1 : readyF s rd (s.trn i).cu = true) (h2 : decide ((s.trn i).us < s.S) = false) (hsm : (s.trn i).q.any (richF s rd) = false) :
    Calls Try.prog 39 #[.pointer (some ⟨L.b, 0, none⟩), .int .i64 (i : Int), .slice A rd.length c] W fun x w' => x = .returned (.int .i64 (byCreditF s i rd).1) ∧ Post W own L (byCreditF s i rd).2 w' := by
  have hmf := hmf
  obtain ⟨q, hq⟩ := h.qs i hi
  have hRq := h.Q i q hq
  obtain ⟨Aq, cq, rfl, hcq, _⟩ := Kd.R_reads hRq
  obtain ⟨tq1, tq2, tq3, tq4, tq5, tq6, tq7, tq8⟩ := hw.tq i hi
  have hbw : Below W.heap.size W ((W.alloc (.cells #[.pointer (some ⟨L.b, 0, none⟩)] 30)).alloc (.cells #[.slice A rd.length c] 39)) := below_alloc (below_alloc (Below.refl _ _) _) _
  have HBW := Aside0.mk hbw
  have HRB := Aside0.mk (h.below hbw)
  have HDB := Aside0.mk (hr.below hbw)
  have HD0 := Aside0.mk hr
  have HNO := Aside0.mk hno
  have p3 : ((W.alloc (.cells #[.pointer (some ⟨L.b, 0, none⟩)] 30)).alloc (.cells #[.slice A rd.length c] 39)).cell? ⟨W.heap.size, 0, none⟩ = some (.pointer (some ⟨L.b, 0, none⟩)) := (World.cell?_alloc_lt _ _ _ (by simp)).trans ((blk_cell (blk_new _ _) 0).trans rfl)
  have p5 : ((W.alloc (.cells #[.pointer (some ⟨L.b, 0, none⟩)] 30)).alloc (.cells #[.slice A rd.length c] 39)).cell? ⟨W.heap.size + 1, 0, none⟩ = some (.slice A rd.length c) := by
    have e := (blk_cell (blk_new (W.alloc (.cells #[.pointer (some ⟨L.b, 0, none⟩)] 30)) (.cells #[.slice A rd.length c] 39)) 0)
    have e2 : (W.alloc (.cells #[.pointer (some ⟨L.b, 0, none⟩)] 30)).heap.size = W.heap.size + 1 := by simp
    rw [e2] at e
    exact e.trans rfl
  have c6 : ((W.alloc (.cells #[.pointer (some ⟨L.b, 0, none⟩)] 30)).alloc (.cells #[.slice A rd.length c] 39)).cell? ⟨L.b, 6, none⟩ = some (.slice (some ⟨L.bt, 0, none⟩) s.ts.length s.ts.length) := HRB.out.fld 6 rfl
  have u0 : ((W.alloc (.cells #[.pointer (some ⟨L.b, 0, none⟩)] 30)).alloc (.cells #[.slice A rd.length c] 39)).cell? ⟨L.bt, i * 3, none⟩ = some (.slice Aq (s.trn i).q.length cq) := HRB.out.trn i 0 hi (by decide) hq rfl
  have u1 : ((W.alloc (.cells #[.pointer (some ⟨L.b, 0, none⟩)] 30)).alloc (.cells #[.slice A rd.length c] 39)).cell? ⟨L.bt, i * 3 + 1, none⟩ = some (.int .i64 (s.trn i).cu) := HRB.out.trn i 1 hi (by decide) hq rfl
  have u2 : ((W.alloc (.cells #[.pointer (some ⟨L.b, 0, none⟩)] 30)).alloc (.cells #[.slice A rd.length c] 39)).cell? ⟨L.bt, i * 3 + 2, none⟩ = some (.int .i64 (s.trn i).us) := HRB.out.trn i 2 hi (by decide) hq rfl
  have HSM := Aside0.mk hsm
  have HCT := Aside0.mk (containsRich HRB.out HDB.out p3 p5 tq1 (Kd.R_reads' (HRB.out.Q i _ hq)).2.2 hcq (b := false) hsm)
  have HRQ := Aside0.mk hRq
  have HQI := Aside0.mk hq
  have HW := Aside0.mk hw
  have HH := Aside0.mk h
  have HTL := Aside0.mk tq1
  have HTN := Aside0.mk tq2
  have HP3 := Aside0.mk p3
  have HP5 := Aside0.mk p5
  have htn := hw.tn
  have hH8 := hw.H8
  have hes := hw.em
  clear h hr hno hbw hRq hq hsm tq1 tq2 tq3 tq8 hw
  have d0 : decide (0 ≤ (s.trn i).cu) = true := decide_eq_true hcu
  have HCR := Aside0.mk (show 0 ≤ (s.trn i).cu ∧ (s.trn i).cu < s.es.length from ⟨hcu, tq5⟩)
  have c1 : ((W.alloc (.cells #[.pointer (some ⟨L.b, 0, none⟩)] 30)).alloc (.cells #[.slice A rd.length c] 39)).cell? ⟨L.b, 1, none⟩ = some (.int .i64 s.S) := HRB.out.fld 1 rfl
  have HC1 := Aside0.mk h1
  have HGO := Aside0.mk (show goesOn s i rd = false by unfold goesOn someF; rw [h1, h2, HSM.out]; rfl)
  clear h1 tq6 tq7
  go_enter Try.func39, Try.ntmps39
  go_upto_region 6 with (go_at_call 60; refine HCT.out.mono ?_; rintro e w' ⟨rfl, rfl⟩)
  go_quiet ((first | (go_at_call 58; exact Calls.quiet_of_same (same_of (ready_int (HRB.out.drewN _) (HDB.out.drewN _) _ HCR.out HC1.out)))))
  obtain ⟨wq, hwq⟩ : ∃ wq, wq = ((W.alloc (.cells #[.pointer (some ⟨L.b, 0, none⟩)] 30)).alloc (.cells #[.slice A rd.length c] 39)).drewN nq := ⟨_, rfl⟩
  have HRq := Aside0.mk (show SR wq own L s by rw [hwq]; exact HRB.out.drewN nq)
  have HBq := Aside0.mk (show Below W.heap.size W wq by rw [hwq]; exact pw_below_drewN HBW.out nq)
  have HDq := Aside0.mk (show RD wq rd A c by rw [hwq]; exact HDB.out.drewN nq)
  have HP3q := Aside0.mk (show wq.cell? ⟨W.heap.size, 0, none⟩ = some (.pointer (some ⟨L.b, 0, none⟩)) by rw [hwq]; exact cell_drewN HP3.out nq)
  have HP5q := Aside0.mk (show wq.cell? ⟨W.heap.size + 1, 0, none⟩ = some (.slice A rd.length c) by rw [hwq]; exact cell_drewN HP5.out nq)
  rw [← hwq]
  clear hwq p3 p5 c6 u0 u1 u2 c1 HCT HRB HDB
  go_upto_region 9 with (go_at_call 49; refine (leave_calls HRq.out i hi HTN.out (s.trn i).cu).mono ?_; rintro e w2 ⟨rfl, q2, hs2, hm2⟩; have HS2 := Aside0.mk hs2; have HM2 := Aside0.mk hm2; clear hs2 hm2)
  obtain ⟨s1, hs1⟩ : ∃ s1, s1 = s.modT i (fun t => { t with q := t.q.filter fun x => x != (s.trn i).cu }) := ⟨_, rfl⟩
  rw [← hs1] at HS2
  have hl1 : s1.ts.length = s.ts.length := by rw [hs1]; simp
  have HT1 := Aside0.mk (show s1.trn i = { s.trn i with q := (s.trn i).q.filter fun x => x != (s.trn i).cu } by rw [hs1, modT_trn _ hi, if_pos rfl])
  have HL1 := Aside0.mk hl1
  have HQ2 := Aside0.mk (show (L.qs.set i q2)[i]? = some q2 from List.getElem?_set_self (by have := HRq.out.ql; omega))
  have hR2 := HS2.out.Q i q2 HQ2.out
  obtain ⟨A2, c2, rfl, hc2, _⟩ := Kd.R_reads hR2
  have HR2 := Aside0.mk (R_ok hR2 (ok' := fun _ => True) (fun _ _ => trivial))
  have e0 : w2.cell? ⟨L.bt, i * 3, none⟩ = some (.slice A2 (s1.trn i).q.length c2) := HS2.out.trn i 0 (by omega) (by decide) HQ2.out rfl
  have HN2 := Aside0.mk (show (s1.trn i).q.length ≤ 64 by rw [HT1.out]; exact Nat.le_trans (List.length_filter_le _ _) HTN.out)
  have HS1 := Aside0.mk hs1
  obtain ⟨cu, hcue⟩ : ∃ cu, cu = (s.trn i).cu := ⟨_, rfl⟩
  have HCE := Aside0.mk hcue
  rw [← hcue]
  clear hl1 hR2 hs1 hcue d0
  go_upto_region 11 with (first | (((with_reducible refine gate_builtin (b := .append) (xs := #[.tmp 64, .tmp 66]) rfl ?_); go_loud (at_builtin; refine Kd.R_append (Kd.int .i64) (w0 := w2) 0 rfl (.tmp 64) (.tmp 66) 22 3 (.int .i64 0) 8 rfl Try.underlying22 info3 rfl (by decide) (by omega) (.slice A2 (s1.trn i).q.length c2) ((s1.trn i).q) (cu) [.int .i64 (cu)] (fun _ => True) (fun _ => False) rfl rfl ?aP (fun _ hk => hk.elim) ?aF ?aO ?aB ?aS ?aL ?_; (case aP => exact rfl); (case aF => exact (fun _ _ => trivial)); (case aO => exact HR2.out); (case aB => exact (Below.refl 0 w2)); (case aS => exact Nat.zero_le _); (case aL => have := HN2.out; omega); intro v3 w3 ho hbb hg hat; obtain ⟨A3, n3, q3, hv3⟩ : ∃ (A3 : Option Addr) (n3 q3 : Nat), v3 = .slice A3 n3 q3 := (by obtain ⟨A, c, e⟩ := Kd.R_slice ho; exact ⟨_, _, _, e⟩); subst hv3; have HO2 := Aside0.mk ho; have HB2 := Aside0.mk hbb; have HG3 := Aside0.mk hg; have HA3 := Aside0.mk hat; clear ho hbb hg hat)); have hT3 := HS2.out.T.mut (below_mut0 HG3.out) (fun hk => (HS2.out.qne HQ2.out hk).2.2.2.1 rfl); have f3 := hT3.frozen (i * 3); have f4 := hT3.frozen (i * 3 + 1); have e3 : w3.cell? ⟨L.bt, i * 3, none⟩ = some (.slice A2 (s1.trn i).q.length c2) := hT3.cell (i := i * 3) ((flat_get trnC 3 (fun _ => rfl) (((L.qs.set i (.slice A2 (s1.trn i).q.length c2))).zip s1.ts) i 0 (by decide) (.slice A2 (s1.trn i).q.length c2, s1.trn i) (by rw [List.getElem?_zip_eq_some]; exact ⟨HQ2.out, trn_some (by rw [HL1.out]; exact hi)⟩)).trans rfl); have e4 : w3.cell? ⟨L.bt, i * 3 + 1, none⟩ = some (.int .i64 (s1.trn i).cu) := hT3.cell (i := i * 3 + 1) ((flat_get trnC 3 (fun _ => rfl) (((L.qs.set i (.slice A2 (s1.trn i).q.length c2))).zip s1.ts) i 1 (by decide) (.slice A2 (s1.trn i).q.length c2, s1.trn i) (by rw [List.getElem?_zip_eq_some]; exact ⟨HQ2.out, trn_some (by rw [HL1.out]; exact hi)⟩)).trans rfl); clear hT3) | fail)
  have hs3 := HS2.out.putQ i (by rw [HL1.out]; exact hi) _ (.slice A3 n3 q3) HQ2.out (below_mut0 HG3.out) _ (fun t => { t with q := t.q ++ [cu] }) rfl HO2.out (fun k hk => by rcases HA3.out with h | ⟨b, h, hb⟩; exact .inl (by rw [← h]; exact hk); rw [h] at hk; injection hk with hk; exact .inr (by omega))
  have hs4 := hs3.putT i 1 (by rw [modT_len, HL1.out]; exact hi) (by decide) (.int .i64 (-1)) (fun t => { t with cu := -1 }) (fun _ => rfl) rfl
  have hbk := backF_eq (s := s) hi
  rw [← HS1.out, ← HCE.out] at hbk
  rw [hbk] at hs4
  have hmm : Mut own W (((w3.setCell ⟨L.bt, i * 3, none⟩ (.slice A3 n3 q3))).setCell ⟨L.bt, i * 3 + 1, none⟩ (.int .i64 (-1))) :=
    ((((Mut.of_below HBq.out own).trans HM2.out (fun k hk => .inl hk)).trans (below_mut0 HG3.out) (fun k hk => .inl (HS2.out.qne HQ2.out hk).2.2.2.2.2.2)).setCell (.inl HH.out.ob.2.2.2.1) _).setCell (.inl HH.out.ob.2.2.2.1) _
  obtain ⟨sc, hsc⟩ : ∃ sc, sc = s.modT i backF := ⟨_, rfl⟩
  obtain ⟨wc, hwc⟩ : ∃ wc, wc = (((w3.setCell ⟨L.bt, i * 3, none⟩ (.slice A3 n3 q3))).setCell ⟨L.bt, i * 3 + 1, none⟩ (.int .i64 (-1))) := ⟨_, rfl⟩
  rw [← hwc] at hs4 hmm ⊢
  rw [← hsc] at hs4
  have hbe : ∀ (p : Addr) (v : Value), wq.cell? p = some v → ¬ own p.block → wc.cell? p = some v := fun p v hc hn => by
    have h1 := cell_kept hc HM2.out.kept hn
    have h2 := cell_kept h1 (below_mut0 HG3.out).kept (fun hk => hn (HS2.out.qne HQ2.out hk).2.2.2.2.2.2)
    rw [hwc]
    have hnb : p.block ≠ L.bt := fun e => hn (by rw [e]; exact HH.out.ob.2.2.2.1)
    rw [World.cell?_of_block (w := w3.setCell ⟨L.bt, i * 3, none⟩ (.slice A3 n3 q3)) (Below.heap_setCell _ _ _ _ hnb), World.cell?_of_block (w := w3) (Below.heap_setCell _ _ _ _ hnb)]
    exact h2
  have hown : ∀ k, own k → k < W.heap.size := HH.out.lt
  have hqown : ∀ k, (Value.slice A2 (s1.trn i).q.length c2).ownBlock = some k → own k := fun k hk => (HS2.out.qne HQ2.out hk).2.2.2.2.2.2
  have HPc := Aside0.mk (show Post W own L sc wc from Post.of hs4 hmm (fun _ h => .inl h) (fun k hk => hk.elim .inl (fun h => by
    rcases HA3.out with h1 | ⟨b, h1, hb⟩
    · exact .inl (hqown k (by rw [← h1]; exact h))
    · rw [h1] at h; injection h with h; exact .inr (by have := HBq.out.size; have := HM2.out.size; omega))))
  have HP3c := Aside0.mk (show wc.cell? ⟨W.heap.size, 0, none⟩ = some (.pointer (some ⟨L.b, 0, none⟩)) from hbe _ _ HP3q.out (fun hk => by have := hown _ hk; simp at this))
  have HP5c := Aside0.mk (show wc.cell? ⟨W.heap.size + 1, 0, none⟩ = some (.slice A rd.length c) from hbe _ _ HP5q.out (fun hk => by have := hown _ hk; simp at this; omega))
  have HDc := Aside0.mk (show RD wc rd A c from HD0.out.mut hmm HNO.out)
  have hic : i < sc.ts.length := by rw [hsc]; simpa using hi
  have htr : sc.trn i = backF (s.trn i) := by rw [hsc, modT_trn _ hi, if_pos rfl]
  have HNc := Aside0.mk (show (sc.trn i).q.length ≤ 64 by rw [htr]; exact back_len HW.out hi hcu)
  have HLc := Aside0.mk (show ∀ e ∈ (sc.trn i).q, 0 ≤ e ∧ e < sc.es.length by
    rw [htr, hsc]
    intro e he
    rcases List.mem_append.1 he with h | h
    · exact HTL.out e (List.mem_filter.1 h).1
    · rw [List.mem_singleton.1 h]; exact HCR.out)
  have HFC := Aside0.mk (show byCreditF s i rd = creditF2 sc i rd false by unfold byCreditF; rw [if_pos hcu, if_neg (by rw [HGO.out]; decide)]; unfold someF; rw [HSM.out, hsc])
  clear hs3 hs4 hmm hwc hsc hbk hbe hown hqown htr hcu e0 e3 e4 f3 f4 HS2 HM2 HR2 HA3 HG3 HO2 HB2 HT1 HL1 HQ2 HN2 HS1 HCE HRq HBq HDq HP3q HP5q
  obtain ⟨ownc, qsc, hsr, hmc, ho1, ho2⟩ := HPc.out
  have HRc := Aside0.mk hsr
  have HMc := Aside0.mk hmc
  have HO1 := Aside0.mk ho1
  have HO2 := Aside0.mk ho2
  obtain ⟨qc, hqc⟩ := hsr.qs i hic
  have hRc := hsr.Q i qc hqc
  obtain ⟨A2, c2, rfl, hc2, hC2⟩ := Kd.R_reads hRc
  have HC2r := Aside0.mk hC2
  have v0 : wc.cell? ⟨L.bt, i * 3, none⟩ = some (.slice A2 (sc.trn i).q.length c2) := hsr.trn i 0 hic (by decide) hqc rfl
  have v1 : wc.cell? ⟨L.bt, i * 3 + 1, none⟩ = some (.int .i64 (sc.trn i).cu) := hsr.trn i 1 hic (by decide) hqc rfl
  have v2 : wc.cell? ⟨L.bt, i * 3 + 2, none⟩ = some (.int .i64 (sc.trn i).us) := hsr.trn i 2 hic (by decide) hqc rfl
  have f1 : wc.frozen? ⟨L.bt, i * 3 + 1, none⟩ = false := hsr.T.frozen _
  have f2 : wc.frozen? ⟨L.bt, i * 3 + 2, none⟩ = false := hsr.T.frozen _
  have hlen := HNc.out
  have hp3 := HP3c.out
  have hp5 := HP5c.out
  clear hsr hmc ho1 ho2 hRc hC2 hqc
  go_wp2
  go_loop [78] (fun v78 => ∃ (k : Nat), v78 = .int .i64 (k : Int) ∧ k ≤ (sc.trn i).q.length ∧ Aside0 (findQ sc rd false ((sc.trn i).q.drop k) = findQ sc rd false (sc.trn i).q)) (fun v78 => (sc.trn i).q.length - (intOf v78).toNat)
  case atStart => exact ⟨0, rfl, by omega, ⟨rfl⟩⟩
  case round =>
    obtain ⟨k, rfl, hk, HT⟩ := hrel
    by_cases hlt : k < (sc.trn i).q.length
    · obtain ⟨ad, rfl, hcell⟩ := Kd.at_int HC2r.out (k : Int) (by omega) (by omega)
      rw [Int.toNat_natCast] at hcell
      have HS := Aside0.mk (show (if (richF sc rd (Go.Proofs.YtdaadmjppikebaaW.PrintWords.rd (sc.trn i).q k) || (!false && readyF sc rd (Go.Proofs.YtdaadmjppikebaaW.PrintWords.rd (sc.trn i).q k))) = true then Go.Proofs.YtdaadmjppikebaaW.PrintWords.rd (sc.trn i).q k else findQ sc rd false ((sc.trn i).q.drop (k + 1))) = findQ sc rd false (sc.trn i).q by have := HT.out; rw [drop_int hlt] at this; exact this)
      have HX := Aside0.mk (HLc.out _ (rd_mem hlt))
      clear HT
      obtain ⟨x, hx⟩ : ∃ x, x = Go.Proofs.YtdaadmjppikebaaW.PrintWords.rd (sc.trn i).q k := ⟨_, rfl⟩
      rw [← hx] at hcell HS HX
      clear hx
      cases hb1 : richF sc rd x with
      | true =>
        have HB1 := Aside0.mk hb1
        clear hb1
        have HFN := Aside0.mk (show findQ sc rd false (sc.trn i).q = x by have := HS.out; rw [if_pos (by rw [HB1.out]; rfl)] at this; exact this.symm)
        have HFX := Aside0.mk (show byCreditF s i rd = (x, sc.modT i fun t => { t with cu := x, us := 0 }) by rw [HFC.out]; unfold creditF2; rw [HFN.out, if_neg (by have := HX.out; omega)])
        go_wp2_with (first | (go_at_call 59; refine (rich_int HRc.out HDc.out HP3c.out HP5c.out x HX.out HB1.out).mono ?_; rintro e w' ⟨rfl, rfl⟩) | (go_at_call 58; refine (ready_int HRc.out HDc.out x HX.out HB2.out).mono ?_; rintro e w' ⟨rfl, rfl⟩))
        go_ret
        refine ⟨ret_int (by rw [HFX.out]), ?_⟩
        rw [HFX.out]
        have h1 := HRc.out.putT i 1 hic (by decide) (.int .i64 x) (fun t => { t with cu := x }) (fun _ => rfl) rfl
        have h2 := h1.putT i 2 (by rw [modT_len]; exact hic) (by decide) (.int .i64 0) (fun t => { t with us := 0 }) (fun _ => rfl) rfl
        rw [modT_modT] at h2
        exact Post.of h2 (((HMc.out.setCell (HO2.out _ HRc.out.ob.2.2.2.1) _).setCell (HO2.out _ HRc.out.ob.2.2.2.1) _)) HO1.out HO2.out
      | false =>
        have HB1 := Aside0.mk hb1
        clear hb1
        cases hb2 : readyF sc rd x with
        | true =>
          have HB2 := Aside0.mk hb2
          clear hb2
          have HFN := Aside0.mk (show findQ sc rd false (sc.trn i).q = x by have := HS.out; rw [if_pos (by rw [HB1.out]; rw [HB2.out]; rfl)] at this; exact this.symm)
          have HFX := Aside0.mk (show byCreditF s i rd = (x, sc.modT i fun t => { t with cu := x, us := 0 }) by rw [HFC.out]; unfold creditF2; rw [HFN.out, if_neg (by have := HX.out; omega)])
          go_wp2_with (first | (go_at_call 59; refine (rich_int HRc.out HDc.out HP3c.out HP5c.out x HX.out HB1.out).mono ?_; rintro e w' ⟨rfl, rfl⟩) | (go_at_call 58; refine (ready_int HRc.out HDc.out x HX.out HB2.out).mono ?_; rintro e w' ⟨rfl, rfl⟩))
          go_ret
          refine ⟨ret_int (by rw [HFX.out]), ?_⟩
          rw [HFX.out]
          have h1 := HRc.out.putT i 1 hic (by decide) (.int .i64 x) (fun t => { t with cu := x }) (fun _ => rfl) rfl
          have h2 := h1.putT i 2 (by rw [modT_len]; exact hic) (by decide) (.int .i64 0) (fun t => { t with us := 0 }) (fun _ => rfl) rfl
          rw [modT_modT] at h2
          exact Post.of h2 (((HMc.out.setCell (HO2.out _ HRc.out.ob.2.2.2.1) _).setCell (HO2.out _ HRc.out.ob.2.2.2.1) _)) HO1.out HO2.out
        | false =>
          have HB2 := Aside0.mk hb2
          clear hb2
          have HQQ := Aside0.mk (show findQ sc rd false ((sc.trn i).q.drop (k + 1)) = findQ sc rd false (sc.trn i).q by have := HS.out; rw [if_neg (by rw [HB1.out]; rw [HB2.out]; simp)] at this; exact this)
          go_wp2_with (first | (go_at_call 59; refine (rich_int HRc.out HDc.out HP3c.out HP5c.out x HX.out HB1.out).mono ?_; rintro e w' ⟨rfl, rfl⟩) | (go_at_call 58; refine (ready_int HRc.out HDc.out x HX.out HB2.out).mono ?_; rintro e w' ⟨rfl, rfl⟩))
          go_round
          case rel => exact ⟨k + 1, by go_num, by omega, HQQ⟩
          case measure => simp [intOf]; omega
    · have HE := Aside0.mk (show -1 = findQ sc rd false (sc.trn i).q by have := HT.out; rw [drop_end hlt] at this; exact this)
      have HFX := Aside0.mk (show byCreditF s i rd = (-1, sc) by rw [HFC.out]; unfold creditF2; rw [← HE.out, if_pos rfl])
      clear HT
      go_wp2
      go_ret
      refine ⟨ret_int (by rw [HFX.out]), ?_⟩
      rw [HFX.out]
      exact HPc.out
end Go.Proofs.Ytdaadmjppikebaa.SC

namespace Go.Proofs.Ytdaadmjppikebaa.SC
open Go.RowKit Go.Proofs.YtdaadmjppikebaaW.PrintWords
set_option linter.unusedVariables false
set_option linter.unusedSimpArgs false

set_option maxRecDepth 100000 in
set_option maxHeartbeats 3200000 in
theorem byCredit_off_d_true {W : World} {own : Nat → Prop} {L : Lay} {s : SS} {rd : List Bool} {A : Option Addr} {c : Nat} (h : SR W own L s) (hw : Wf s) (hr : RD W rd A c) (hno : ∀ ad, A = some ad → ¬ own ad.block) (i : Nat) (hi : i < s.ts.length) (hcu : 0 ≤ (s.trn i).cu) (h1 : readyF s rd (s.trn i).cu = true) (h2 : decide ((s.trn i).us < s.S) = true) (h3 : richF s rd (s.trn i).cu = false) (hsm : (s.trn i).q.any (richF s rd) = true) :
    Calls Try.prog 39 #[.pointer (some ⟨L.b, 0, none⟩), .int .i64 (i : Int), .slice A rd.length c] W fun x w' => x = .returned (.int .i64 (byCreditF s i rd).1) ∧ Post W own L (byCreditF s i rd).2 w' := by
  have hmf := hmf
  obtain ⟨q, hq⟩ := h.qs i hi
  have hRq := h.Q i q hq
  obtain ⟨Aq, cq, rfl, hcq, _⟩ := Kd.R_reads hRq
  obtain ⟨tq1, tq2, tq3, tq4, tq5, tq6, tq7, tq8⟩ := hw.tq i hi
  have hbw : Below W.heap.size W ((W.alloc (.cells #[.pointer (some ⟨L.b, 0, none⟩)] 30)).alloc (.cells #[.slice A rd.length c] 39)) := below_alloc (below_alloc (Below.refl _ _) _) _
  have HBW := Aside0.mk hbw
  have HRB := Aside0.mk (h.below hbw)
  have HDB := Aside0.mk (hr.below hbw)
  have HD0 := Aside0.mk hr
  have HNO := Aside0.mk hno
  have p3 : ((W.alloc (.cells #[.pointer (some ⟨L.b, 0, none⟩)] 30)).alloc (.cells #[.slice A rd.length c] 39)).cell? ⟨W.heap.size, 0, none⟩ = some (.pointer (some ⟨L.b, 0, none⟩)) := (World.cell?_alloc_lt _ _ _ (by simp)).trans ((blk_cell (blk_new _ _) 0).trans rfl)
  have p5 : ((W.alloc (.cells #[.pointer (some ⟨L.b, 0, none⟩)] 30)).alloc (.cells #[.slice A rd.length c] 39)).cell? ⟨W.heap.size + 1, 0, none⟩ = some (.slice A rd.length c) := by
    have e := (blk_cell (blk_new (W.alloc (.cells #[.pointer (some ⟨L.b, 0, none⟩)] 30)) (.cells #[.slice A rd.length c] 39)) 0)
    have e2 : (W.alloc (.cells #[.pointer (some ⟨L.b, 0, none⟩)] 30)).heap.size = W.heap.size + 1 := by simp
    rw [e2] at e
    exact e.trans rfl
  have c6 : ((W.alloc (.cells #[.pointer (some ⟨L.b, 0, none⟩)] 30)).alloc (.cells #[.slice A rd.length c] 39)).cell? ⟨L.b, 6, none⟩ = some (.slice (some ⟨L.bt, 0, none⟩) s.ts.length s.ts.length) := HRB.out.fld 6 rfl
  have u0 : ((W.alloc (.cells #[.pointer (some ⟨L.b, 0, none⟩)] 30)).alloc (.cells #[.slice A rd.length c] 39)).cell? ⟨L.bt, i * 3, none⟩ = some (.slice Aq (s.trn i).q.length cq) := HRB.out.trn i 0 hi (by decide) hq rfl
  have u1 : ((W.alloc (.cells #[.pointer (some ⟨L.b, 0, none⟩)] 30)).alloc (.cells #[.slice A rd.length c] 39)).cell? ⟨L.bt, i * 3 + 1, none⟩ = some (.int .i64 (s.trn i).cu) := HRB.out.trn i 1 hi (by decide) hq rfl
  have u2 : ((W.alloc (.cells #[.pointer (some ⟨L.b, 0, none⟩)] 30)).alloc (.cells #[.slice A rd.length c] 39)).cell? ⟨L.bt, i * 3 + 2, none⟩ = some (.int .i64 (s.trn i).us) := HRB.out.trn i 2 hi (by decide) hq rfl
  have HSM := Aside0.mk hsm
  have HCT := Aside0.mk (containsRich HRB.out HDB.out p3 p5 tq1 (Kd.R_reads' (HRB.out.Q i _ hq)).2.2 hcq (b := true) hsm)
  have HRQ := Aside0.mk hRq
  have HQI := Aside0.mk hq
  have HW := Aside0.mk hw
  have HH := Aside0.mk h
  have HTL := Aside0.mk tq1
  have HTN := Aside0.mk tq2
  have HP3 := Aside0.mk p3
  have HP5 := Aside0.mk p5
  have htn := hw.tn
  have hH8 := hw.H8
  have hes := hw.em
  clear h hr hno hbw hRq hq hsm tq1 tq2 tq3 tq8 hw
  have d0 : decide (0 ≤ (s.trn i).cu) = true := decide_eq_true hcu
  have HCR := Aside0.mk (show 0 ≤ (s.trn i).cu ∧ (s.trn i).cu < s.es.length from ⟨hcu, tq5⟩)
  have c1 : ((W.alloc (.cells #[.pointer (some ⟨L.b, 0, none⟩)] 30)).alloc (.cells #[.slice A rd.length c] 39)).cell? ⟨L.b, 1, none⟩ = some (.int .i64 s.S) := HRB.out.fld 1 rfl
  have HC1 := Aside0.mk h1
  have HC2 := Aside0.mk h3
  have HGO := Aside0.mk (show goesOn s i rd = false by unfold goesOn someF; rw [h1, h2, h3, HSM.out]; rfl)
  clear h1 h3 tq6 tq7
  go_enter Try.func39, Try.ntmps39
  go_upto_region 6 with (go_at_call 60; refine HCT.out.mono ?_; rintro e w' ⟨rfl, rfl⟩)
  go_quiet ((first | (go_at_call 58; exact Calls.quiet_of_same (same_of (ready_int (HRB.out.drewN _) (HDB.out.drewN _) _ HCR.out HC1.out))) | (go_at_call 59; exact Calls.quiet_of_same (same_of (rich_int (HRB.out.drewN _) (HDB.out.drewN _) (cell_drewN HP3.out _) (cell_drewN HP5.out _) _ HCR.out HC2.out)))))
  obtain ⟨wq, hwq⟩ : ∃ wq, wq = ((W.alloc (.cells #[.pointer (some ⟨L.b, 0, none⟩)] 30)).alloc (.cells #[.slice A rd.length c] 39)).drewN nq := ⟨_, rfl⟩
  have HRq := Aside0.mk (show SR wq own L s by rw [hwq]; exact HRB.out.drewN nq)
  have HBq := Aside0.mk (show Below W.heap.size W wq by rw [hwq]; exact pw_below_drewN HBW.out nq)
  have HDq := Aside0.mk (show RD wq rd A c by rw [hwq]; exact HDB.out.drewN nq)
  have HP3q := Aside0.mk (show wq.cell? ⟨W.heap.size, 0, none⟩ = some (.pointer (some ⟨L.b, 0, none⟩)) by rw [hwq]; exact cell_drewN HP3.out nq)
  have HP5q := Aside0.mk (show wq.cell? ⟨W.heap.size + 1, 0, none⟩ = some (.slice A rd.length c) by rw [hwq]; exact cell_drewN HP5.out nq)
  rw [← hwq]
  clear hwq p3 p5 c6 u0 u1 u2 c1 HCT HRB HDB
  go_upto_region 9 with (go_at_call 49; refine (leave_calls HRq.out i hi HTN.out (s.trn i).cu).mono ?_; rintro e w2 ⟨rfl, q2, hs2, hm2⟩; have HS2 := Aside0.mk hs2; have HM2 := Aside0.mk hm2; clear hs2 hm2)
  obtain ⟨s1, hs1⟩ : ∃ s1, s1 = s.modT i (fun t => { t with q := t.q.filter fun x => x != (s.trn i).cu }) := ⟨_, rfl⟩
  rw [← hs1] at HS2
  have hl1 : s1.ts.length = s.ts.length := by rw [hs1]; simp
  have HT1 := Aside0.mk (show s1.trn i = { s.trn i with q := (s.trn i).q.filter fun x => x != (s.trn i).cu } by rw [hs1, modT_trn _ hi, if_pos rfl])
  have HL1 := Aside0.mk hl1
  have HQ2 := Aside0.mk (show (L.qs.set i q2)[i]? = some q2 from List.getElem?_set_self (by have := HRq.out.ql; omega))
  have hR2 := HS2.out.Q i q2 HQ2.out
  obtain ⟨A2, c2, rfl, hc2, _⟩ := Kd.R_reads hR2
  have HR2 := Aside0.mk (R_ok hR2 (ok' := fun _ => True) (fun _ _ => trivial))
  have e0 : w2.cell? ⟨L.bt, i * 3, none⟩ = some (.slice A2 (s1.trn i).q.length c2) := HS2.out.trn i 0 (by omega) (by decide) HQ2.out rfl
  have HN2 := Aside0.mk (show (s1.trn i).q.length ≤ 64 by rw [HT1.out]; exact Nat.le_trans (List.length_filter_le _ _) HTN.out)
  have HS1 := Aside0.mk hs1
  obtain ⟨cu, hcue⟩ : ∃ cu, cu = (s.trn i).cu := ⟨_, rfl⟩
  have HCE := Aside0.mk hcue
  rw [← hcue]
  clear hl1 hR2 hs1 hcue d0
  go_upto_region 11 with (first | (((with_reducible refine gate_builtin (b := .append) (xs := #[.tmp 64, .tmp 66]) rfl ?_); go_loud (at_builtin; refine Kd.R_append (Kd.int .i64) (w0 := w2) 0 rfl (.tmp 64) (.tmp 66) 22 3 (.int .i64 0) 8 rfl Try.underlying22 info3 rfl (by decide) (by omega) (.slice A2 (s1.trn i).q.length c2) ((s1.trn i).q) (cu) [.int .i64 (cu)] (fun _ => True) (fun _ => False) rfl rfl ?aP (fun _ hk => hk.elim) ?aF ?aO ?aB ?aS ?aL ?_; (case aP => exact rfl); (case aF => exact (fun _ _ => trivial)); (case aO => exact HR2.out); (case aB => exact (Below.refl 0 w2)); (case aS => exact Nat.zero_le _); (case aL => have := HN2.out; omega); intro v3 w3 ho hbb hg hat; obtain ⟨A3, n3, q3, hv3⟩ : ∃ (A3 : Option Addr) (n3 q3 : Nat), v3 = .slice A3 n3 q3 := (by obtain ⟨A, c, e⟩ := Kd.R_slice ho; exact ⟨_, _, _, e⟩); subst hv3; have HO2 := Aside0.mk ho; have HB2 := Aside0.mk hbb; have HG3 := Aside0.mk hg; have HA3 := Aside0.mk hat; clear ho hbb hg hat)); have hT3 := HS2.out.T.mut (below_mut0 HG3.out) (fun hk => (HS2.out.qne HQ2.out hk).2.2.2.1 rfl); have f3 := hT3.frozen (i * 3); have f4 := hT3.frozen (i * 3 + 1); have e3 : w3.cell? ⟨L.bt, i * 3, none⟩ = some (.slice A2 (s1.trn i).q.length c2) := hT3.cell (i := i * 3) ((flat_get trnC 3 (fun _ => rfl) (((L.qs.set i (.slice A2 (s1.trn i).q.length c2))).zip s1.ts) i 0 (by decide) (.slice A2 (s1.trn i).q.length c2, s1.trn i) (by rw [List.getElem?_zip_eq_some]; exact ⟨HQ2.out, trn_some (by rw [HL1.out]; exact hi)⟩)).trans rfl); have e4 : w3.cell? ⟨L.bt, i * 3 + 1, none⟩ = some (.int .i64 (s1.trn i).cu) := hT3.cell (i := i * 3 + 1) ((flat_get trnC 3 (fun _ => rfl) (((L.qs.set i (.slice A2 (s1.trn i).q.length c2))).zip s1.ts) i 1 (by decide) (.slice A2 (s1.trn i).q.length c2, s1.trn i) (by rw [List.getElem?_zip_eq_some]; exact ⟨HQ2.out, trn_some (by rw [HL1.out]; exact hi)⟩)).trans rfl); clear hT3) | fail)
  have hs3 := HS2.out.putQ i (by rw [HL1.out]; exact hi) _ (.slice A3 n3 q3) HQ2.out (below_mut0 HG3.out) _ (fun t => { t with q := t.q ++ [cu] }) rfl HO2.out (fun k hk => by rcases HA3.out with h | ⟨b, h, hb⟩; exact .inl (by rw [← h]; exact hk); rw [h] at hk; injection hk with hk; exact .inr (by omega))
  have hs4 := hs3.putT i 1 (by rw [modT_len, HL1.out]; exact hi) (by decide) (.int .i64 (-1)) (fun t => { t with cu := -1 }) (fun _ => rfl) rfl
  have hbk := backF_eq (s := s) hi
  rw [← HS1.out, ← HCE.out] at hbk
  rw [hbk] at hs4
  have hmm : Mut own W (((w3.setCell ⟨L.bt, i * 3, none⟩ (.slice A3 n3 q3))).setCell ⟨L.bt, i * 3 + 1, none⟩ (.int .i64 (-1))) :=
    ((((Mut.of_below HBq.out own).trans HM2.out (fun k hk => .inl hk)).trans (below_mut0 HG3.out) (fun k hk => .inl (HS2.out.qne HQ2.out hk).2.2.2.2.2.2)).setCell (.inl HH.out.ob.2.2.2.1) _).setCell (.inl HH.out.ob.2.2.2.1) _
  obtain ⟨sc, hsc⟩ : ∃ sc, sc = s.modT i backF := ⟨_, rfl⟩
  obtain ⟨wc, hwc⟩ : ∃ wc, wc = (((w3.setCell ⟨L.bt, i * 3, none⟩ (.slice A3 n3 q3))).setCell ⟨L.bt, i * 3 + 1, none⟩ (.int .i64 (-1))) := ⟨_, rfl⟩
  rw [← hwc] at hs4 hmm ⊢
  rw [← hsc] at hs4
  have hbe : ∀ (p : Addr) (v : Value), wq.cell? p = some v → ¬ own p.block → wc.cell? p = some v := fun p v hc hn => by
    have h1 := cell_kept hc HM2.out.kept hn
    have h2 := cell_kept h1 (below_mut0 HG3.out).kept (fun hk => hn (HS2.out.qne HQ2.out hk).2.2.2.2.2.2)
    rw [hwc]
    have hnb : p.block ≠ L.bt := fun e => hn (by rw [e]; exact HH.out.ob.2.2.2.1)
    rw [World.cell?_of_block (w := w3.setCell ⟨L.bt, i * 3, none⟩ (.slice A3 n3 q3)) (Below.heap_setCell _ _ _ _ hnb), World.cell?_of_block (w := w3) (Below.heap_setCell _ _ _ _ hnb)]
    exact h2
  have hown : ∀ k, own k → k < W.heap.size := HH.out.lt
  have hqown : ∀ k, (Value.slice A2 (s1.trn i).q.length c2).ownBlock = some k → own k := fun k hk => (HS2.out.qne HQ2.out hk).2.2.2.2.2.2
  have HPc := Aside0.mk (show Post W own L sc wc from Post.of hs4 hmm (fun _ h => .inl h) (fun k hk => hk.elim .inl (fun h => by
    rcases HA3.out with h1 | ⟨b, h1, hb⟩
    · exact .inl (hqown k (by rw [← h1]; exact h))
    · rw [h1] at h; injection h with h; exact .inr (by have := HBq.out.size; have := HM2.out.size; omega))))
  have HP3c := Aside0.mk (show wc.cell? ⟨W.heap.size, 0, none⟩ = some (.pointer (some ⟨L.b, 0, none⟩)) from hbe _ _ HP3q.out (fun hk => by have := hown _ hk; simp at this))
  have HP5c := Aside0.mk (show wc.cell? ⟨W.heap.size + 1, 0, none⟩ = some (.slice A rd.length c) from hbe _ _ HP5q.out (fun hk => by have := hown _ hk; simp at this; omega))
  have HDc := Aside0.mk (show RD wc rd A c from HD0.out.mut hmm HNO.out)
  have hic : i < sc.ts.length := by rw [hsc]; simpa using hi
  have htr : sc.trn i = backF (s.trn i) := by rw [hsc, modT_trn _ hi, if_pos rfl]
  have HNc := Aside0.mk (show (sc.trn i).q.length ≤ 64 by rw [htr]; exact back_len HW.out hi hcu)
  have HLc := Aside0.mk (show ∀ e ∈ (sc.trn i).q, 0 ≤ e ∧ e < sc.es.length by
    rw [htr, hsc]
    intro e he
    rcases List.mem_append.1 he with h | h
    · exact HTL.out e (List.mem_filter.1 h).1
    · rw [List.mem_singleton.1 h]; exact HCR.out)
  have HFC := Aside0.mk (show byCreditF s i rd = creditF2 sc i rd true by unfold byCreditF; rw [if_pos hcu, if_neg (by rw [HGO.out]; decide)]; unfold someF; rw [HSM.out, hsc])
  clear hs3 hs4 hmm hwc hsc hbk hbe hown hqown htr hcu e0 e3 e4 f3 f4 HS2 HM2 HR2 HA3 HG3 HO2 HB2 HT1 HL1 HQ2 HN2 HS1 HCE HRq HBq HDq HP3q HP5q
  obtain ⟨ownc, qsc, hsr, hmc, ho1, ho2⟩ := HPc.out
  have HRc := Aside0.mk hsr
  have HMc := Aside0.mk hmc
  have HO1 := Aside0.mk ho1
  have HO2 := Aside0.mk ho2
  obtain ⟨qc, hqc⟩ := hsr.qs i hic
  have hRc := hsr.Q i qc hqc
  obtain ⟨A2, c2, rfl, hc2, hC2⟩ := Kd.R_reads hRc
  have HC2r := Aside0.mk hC2
  have v0 : wc.cell? ⟨L.bt, i * 3, none⟩ = some (.slice A2 (sc.trn i).q.length c2) := hsr.trn i 0 hic (by decide) hqc rfl
  have v1 : wc.cell? ⟨L.bt, i * 3 + 1, none⟩ = some (.int .i64 (sc.trn i).cu) := hsr.trn i 1 hic (by decide) hqc rfl
  have v2 : wc.cell? ⟨L.bt, i * 3 + 2, none⟩ = some (.int .i64 (sc.trn i).us) := hsr.trn i 2 hic (by decide) hqc rfl
  have f1 : wc.frozen? ⟨L.bt, i * 3 + 1, none⟩ = false := hsr.T.frozen _
  have f2 : wc.frozen? ⟨L.bt, i * 3 + 2, none⟩ = false := hsr.T.frozen _
  have hlen := HNc.out
  have hp3 := HP3c.out
  have hp5 := HP5c.out
  clear hsr hmc ho1 ho2 hRc hC2 hqc
  go_wp2
  go_loop [78] (fun v78 => ∃ (k : Nat), v78 = .int .i64 (k : Int) ∧ k ≤ (sc.trn i).q.length ∧ Aside0 (findQ sc rd true ((sc.trn i).q.drop k) = findQ sc rd true (sc.trn i).q)) (fun v78 => (sc.trn i).q.length - (intOf v78).toNat)
  case atStart => exact ⟨0, rfl, by omega, ⟨rfl⟩⟩
  case round =>
    obtain ⟨k, rfl, hk, HT⟩ := hrel
    by_cases hlt : k < (sc.trn i).q.length
    · obtain ⟨ad, rfl, hcell⟩ := Kd.at_int HC2r.out (k : Int) (by omega) (by omega)
      rw [Int.toNat_natCast] at hcell
      have HS := Aside0.mk (show (if (richF sc rd (Go.Proofs.YtdaadmjppikebaaW.PrintWords.rd (sc.trn i).q k) || (!true && readyF sc rd (Go.Proofs.YtdaadmjppikebaaW.PrintWords.rd (sc.trn i).q k))) = true then Go.Proofs.YtdaadmjppikebaaW.PrintWords.rd (sc.trn i).q k else findQ sc rd true ((sc.trn i).q.drop (k + 1))) = findQ sc rd true (sc.trn i).q by have := HT.out; rw [drop_int hlt] at this; exact this)
      have HX := Aside0.mk (HLc.out _ (rd_mem hlt))
      clear HT
      obtain ⟨x, hx⟩ : ∃ x, x = Go.Proofs.YtdaadmjppikebaaW.PrintWords.rd (sc.trn i).q k := ⟨_, rfl⟩
      rw [← hx] at hcell HS HX
      clear hx
      cases hb1 : richF sc rd x with
      | true =>
        have HB1 := Aside0.mk hb1
        clear hb1
        have HFN := Aside0.mk (show findQ sc rd true (sc.trn i).q = x by have := HS.out; rw [if_pos (by rw [HB1.out]; rfl)] at this; exact this.symm)
        have HFX := Aside0.mk (show byCreditF s i rd = (x, sc.modT i fun t => { t with cu := x, us := 0 }) by rw [HFC.out]; unfold creditF2; rw [HFN.out, if_neg (by have := HX.out; omega)])
        go_wp2_with (first | (go_at_call 59; refine (rich_int HRc.out HDc.out HP3c.out HP5c.out x HX.out HB1.out).mono ?_; rintro e w' ⟨rfl, rfl⟩) | (go_at_call 58; refine (ready_int HRc.out HDc.out x HX.out HB2.out).mono ?_; rintro e w' ⟨rfl, rfl⟩))
        go_ret
        refine ⟨ret_int (by rw [HFX.out]), ?_⟩
        rw [HFX.out]
        have h1 := HRc.out.putT i 1 hic (by decide) (.int .i64 x) (fun t => { t with cu := x }) (fun _ => rfl) rfl
        have h2 := h1.putT i 2 (by rw [modT_len]; exact hic) (by decide) (.int .i64 0) (fun t => { t with us := 0 }) (fun _ => rfl) rfl
        rw [modT_modT] at h2
        exact Post.of h2 (((HMc.out.setCell (HO2.out _ HRc.out.ob.2.2.2.1) _).setCell (HO2.out _ HRc.out.ob.2.2.2.1) _)) HO1.out HO2.out
      | false =>
        have HB1 := Aside0.mk hb1
        clear hb1
        have HQQ := Aside0.mk (show findQ sc rd true ((sc.trn i).q.drop (k + 1)) = findQ sc rd true (sc.trn i).q by have := HS.out; rw [if_neg (by rw [HB1.out]; simp)] at this; exact this)
        go_wp2_with (first | (go_at_call 59; refine (rich_int HRc.out HDc.out HP3c.out HP5c.out x HX.out HB1.out).mono ?_; rintro e w' ⟨rfl, rfl⟩) | (go_at_call 58; refine (ready_int HRc.out HDc.out x HX.out HB2.out).mono ?_; rintro e w' ⟨rfl, rfl⟩))
        go_round
        case rel => exact ⟨k + 1, by go_num, by omega, HQQ⟩
        case measure => simp [intOf]; omega
    · have HE := Aside0.mk (show -1 = findQ sc rd true (sc.trn i).q by have := HT.out; rw [drop_end hlt] at this; exact this)
      have HFX := Aside0.mk (show byCreditF s i rd = (-1, sc) by rw [HFC.out]; unfold creditF2; rw [← HE.out, if_pos rfl])
      clear HT
      go_wp2
      go_ret
      refine ⟨ret_int (by rw [HFX.out]), ?_⟩
      rw [HFX.out]
      exact HPc.out
end Go.Proofs.Ytdaadmjppikebaa.SC
