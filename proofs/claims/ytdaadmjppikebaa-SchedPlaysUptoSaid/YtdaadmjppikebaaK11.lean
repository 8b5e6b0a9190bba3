import Derived.Test.YtdaadmjppikebaaK10
/- Parts of the walk of package sched, merged. -/
/- Remove: the walk. -/
namespace Go.Proofs.Ytdaadmjppikebaa.SC
open Go.RowKit Go.Proofs.YtdaadmjppikebaaW.PrintWords Go.Proofs.YtdaadmjppikebaaW.PrintLast
open Go.Proofs.Ytdaadmjppikebaa.PV (S94 k94 S29 k29 rd_T94 rd_T29)
set_option linter.unusedVariables false
set_option linter.unusedSimpArgs false

set_option maxRecDepth 100000 in
set_option maxHeartbeats 3200000 in
theorem remove_walk {W : World} {own : Nat → Prop} {L : Lay} {s : SS} (h : SR W own L s) (hw : Wf s) (g : Nat) (hg : g < s.gs.length) :
    Calls Try.prog 30 #[.pointer (some ⟨L.b, 0, none⟩), .int .i64 (g : Int)] W fun x w' => x = .returned (.tuple #[]) ∧ ∃ qs, SR w' own { L with qs := qs } (removeTo s g s.es.length) ∧ Mut own W w' := by
  have HR := Aside0.mk h
  have HW := Aside0.mk hw
  have c5 := h.fld 5 rfl
  have hem := hw.em
  clear h hw
  go_enter Try.func30, Try.ntmps30
  go_wp2_with (fail)
  go_loopw [12] (fun v12 w' => ∃ (k : Nat) (qs : List Value), v12 = .int .i64 (k : Int) ∧ k ≤ s.es.length ∧ Aside0 (SR w' own { L with qs := qs } (removeTo s g k)) ∧ Aside0 (Mut own W w')) (fun v12 _ => s.es.length - (intOf v12).toNat)
  case atStart => exact ⟨0, L.qs, rfl, Nat.zero_le _, HR, ⟨Mut.refl _ _⟩⟩
  case round =>
    obtain ⟨k, qs, rfl, hk, HS1, HM1⟩ := hrel
    clear c5
    by_cases hlt : k < s.es.length
    · have hre := (removeTo_re HW.out g k hk).1
      have hT : removeTo s g (k + 1) = removeE (removeTo s g k) g k := rfl
      obtain ⟨sk, hsk⟩ : ∃ sk, sk = removeTo s g k := ⟨_, rfl⟩
      rw [← hsk] at hre hT HS1
      clear hsk
      have HT := Aside0.mk hT
      have HRE := Aside0.mk hre
      have hkl : k < sk.es.length := by rw [hre.st.el]; exact hlt
      have HEL := Aside0.mk hre.st.el
      have HGL := Aside0.mk (show sk.gs.length = s.gs.length by rw [hre.st.gs])
      have hgs : g < sk.gs.length := by rw [hre.st.gs]; exact hg
      have c5 : wr.cell? ⟨L.b, 5, none⟩ = some (.slice (some ⟨L.be, 0, none⟩) sk.es.length L.ce) := HS1.out.fld 5 rfl
      have y0 : wr.cell? ⟨L.be, k * 7, none⟩ = some (.int .i64 (sk.ent k).gu) := HS1.out.ent k 0 hkl (by decide) rfl
      have y6 : wr.cell? ⟨L.be, k * 7 + 6, none⟩ = some (.bool (sk.ent k).gn) := HS1.out.ent k 6 hkl (by decide) rfl
      have yf : wr.frozen? ⟨L.be, k * 7 + 6, none⟩ = false := HS1.out.E.frozen _
      have heg := hre.wf.eg k hkl
      by_cases hgu : (sk.ent k).gu = (g : Int)
      · rw [hgu] at y0
        have hs5 := HS1.out.putE k 6 hkl (by decide) (.bool true) goneF rfl ⟨rfl, rfl⟩
        have hw5 := hre.wf.modE k hkl goneF (fun _ => ⟨rfl, rfl, rfl⟩) (hre.wf.ec k hkl)
        have hgn5 : (sk.modE k goneF).gng k = sk.gng k := modE_gng goneF hkl rfl
        have hho : homeOf (sk.modE k goneF) k = homeOf sk k := modE_home goneF hkl ⟨rfl, rfl⟩
        have hhr := home_range hre.wf hkl
        have htn := hre.wf.tn
        obtain ⟨hh, hhe⟩ : ∃ hh : Nat, homeOf sk k = (hh : Int) := ⟨(homeOf sk k).toNat, by omega⟩
        have htl : hh < (sk.modE k goneF).ts.length := by show hh < sk.ts.length; omega
        have HRM := Aside0.mk (show removeTo s g (k + 1) = if sk.gng k = true then sk.modE k goneF else (sk.modE k goneF).modT hh (outC k) by rw [HT.out]; unfold removeE; rw [if_pos hgu, hhe, Int.toNat_natCast])
        have hel5 : (sk.modE k goneF).es.length = s.es.length := by rw [modE_len]; exact HEL.out
        have HGG := Aside0.mk (show (gstC ((sk.modE k goneF).gst g))[6]? = some (.bool (sk.gng k)) by
          show some (Value.bool ((sk.modE k goneF).gst g).g) = _
          have : sk.gng k = (sk.gst g).g := by unfold SS.gng; rw [hgu, Int.toNat_natCast]
          rw [this]; rfl)
        go_upto_region 6 with (fail)
        have HM5 := Aside0.mk (HM1.out.setCell (p := ⟨L.be, k * 7 + 6, none⟩) (.inl HR.out.ob.2.2.1) (.bool true))
        have HS5 := Aside0.mk hs5
        obtain ⟨w5, hw5e⟩ : ∃ w5, w5 = wr.setCell ⟨L.be, k * 7 + 6, none⟩ (.bool true) := ⟨_, rfl⟩
        rw [← hw5e] at HS5 HM5 ⊢
        obtain ⟨s5, hs5e⟩ : ∃ s5, s5 = sk.modE k goneF := ⟨_, rfl⟩
        have HHO := Aside0.mk (show homeOf s5 k = (hh : Int) by rw [hs5e, hho, hhe])
        rw [← hs5e] at HS5 HRM hw5 htl HGG hel5
        have hk5 : k < s5.es.length := by omega
        have hg5 : g < s5.gs.length := by rw [hs5e]; exact hgs
        have HLd := Aside0.mk (HS5.out.below (below_drew (Below.refl _ _)))
        have e6 : w5.drew.cell? ⟨L.b, 6, none⟩ = some (.slice (some ⟨L.bt, 0, none⟩) s5.ts.length s5.ts.length) := HLd.out.fld 6 rfl
        have e7 : w5.drew.cell? ⟨L.bh, k, none⟩ = some (.int .i64 (hh : Int)) := by have := HLd.out.hom k hk5; rwa [HHO.out] at this
        have HHC := Aside0.mk (homes_calls HLd.out)
        clear hw5e hs5e hs5 y0 y6 yf c5 hgn5 hho hhe hgu hT
        refine start_ (n := 11) (S := fun w' => w'.cell? ⟨L.b, 6, none⟩ = some (.slice (some ⟨L.bt, 0, none⟩) s5.ts.length s5.ts.length) ∧ w'.cell? ⟨L.bh, k, none⟩ = some (.int .i64 (hh : Int))) (ds := []) (bl 11 0) (by kernel_rfl) rfl rfl ⟨e6, e7⟩ (fun hHeld => ?_)
        refine pure_ (i := 0) (N := some 30) (v := ?_) (a' := ?_) (bl 11 1) rfl rfl (by kernel_rfl) (fun _ _ _ h => h) (Or.inl ⟨by rfl, ?_⟩) ?_ ?_
        rotate_left
        · intro w'
          go_simp
          with_reducible rfl
        rotate_left
        · simp only [Act.put, lsa, lsz, lsc, i64_w, i32_w]
          rfl
        refine pure_ (i := 1) (N := some 31) (v := ?_) (a' := ?_) (bl 11 3) rfl rfl (by kernel_rfl) (fun _ _ _ h => h) (Or.inl ⟨by rfl, ?_⟩) ?_ ?_
        rotate_left
        · intro w'
          go_simp
          with_reducible rfl
        rotate_left
        · simp only [Act.put, lsa, lsz, lsc, i64_w, i32_w]
          rfl
        refine pure_ (i := 2) (N := some 32) (v := ?_) (a' := ?_) (bl 11 7) rfl rfl (by kernel_rfl) (fun _ _ _ h => h) (Or.inl ⟨by rfl, ?_⟩) ?_ ?_
        rotate_left
        · intro w'
          go_simp
          with_reducible rfl
        rotate_left
        · simp only [Act.put, lsa, lsz, lsc, i64_w, i32_w]
          rfl
        refine pure_ (i := 4) (N := some 34) (v := ?_) (a' := ?_) (bl 11 23) rfl rfl (by kernel_rfl) (fun _ _ _ h => h) (Or.inl ⟨by rfl, ?_⟩) ?_ ?_
        rotate_left
        · intro w'
          go_simp
          with_reducible rfl
        rotate_left
        · simp only [Act.put, lsa, lsz, lsc, i64_w, i32_w]
          rfl
        refine pure_ (i := 6) (N := some 36) (v := ?_) (a' := ?_) (bl 11 87) rfl rfl (by kernel_rfl) (fun _ _ _ h => h) (Or.inl ⟨by rfl, ?_⟩) ?_ ?_
        rotate_left
        · intro w'
          go_simp
          with_reducible rfl
        rotate_left
        · simp only [Act.put, lsa, lsz, lsc, i64_w, i32_w]
          rfl
        refine take_ (i := 3) (N := some 33) (v := ?_) (a' := ?_) (bl 11 95) rfl rfl (by kernel_rfl) (fun _ _ _ h => h) (Or.inl ⟨by rfl, ?_⟩) hHeld ?_ ?_
        rotate_left
        · rintro w' ⟨s0, s1⟩
          go_simp
          with_reducible rfl
        rotate_left
        · simp only [Act.put, lsa, lsz, lsc, i64_w, i32_w]
          rfl
        refine one_ (i := 5) (N := some 35) (bl 11 127) rfl rfl (by kernel_rfl) (by decide) (fun K hK => ?_)
        refine goes_ Try.func48 (by kernel_rfl) rfl #[.pointer (some ⟨L.b, 0, none⟩)] (by rfl) rfl rfl (by simp only [List.map_toArray, List.map_cons, List.map_nil]; rfl) ?_
        with_reducible refine (HHC.out).mono ?_
        rintro e w6 ⟨rfl, hb6⟩
        refine ⟨_, rfl, ?_⟩
        have HB6 := Aside0.mk hb6
        have HS6 := Aside0.mk (HLd.out.below hb6)
        have g6 := pw_cell_below hb6 e6
        have g7 := pw_cell_below hb6 e7
        clear hb6
        refine hK.out _ _ ⟨g6, g7⟩ (fun hHeld => ?_)
        clear hK K
        refine norm_ (a' := ?_) ?_ ?_
        rotate_left
        · show Act.put _ (some 35) _ = _
          simp only [Act.put, lsa, lsz, lsc, i64_w, i32_w]
          rfl
        refine pure_ (i := 7) (N := some 37) (v := ?_) (a' := ?_) (bl 11 255) rfl rfl (by kernel_rfl) (fun _ _ _ h => h) (Or.inl ⟨by rfl, ?_⟩) ?_ ?_
        rotate_left
        · intro w'
          go_simp
          with_reducible rfl
        rotate_left
        · simp only [Act.put, lsa, lsz, lsc, i64_w, i32_w]
          rfl
        refine take_ (i := 8) (N := some 38) (v := ?_) (a' := ?_) (bl 11 511) rfl rfl (by kernel_rfl) (fun _ _ _ h => h) (Or.inl ⟨by rfl, ?_⟩) hHeld ?_ ?_
        rotate_left
        · rintro w' ⟨s0, s1⟩
          go_simp
          with_reducible rfl
        rotate_left
        · simp only [Act.put, lsa, lsz, lsc, i64_w, i32_w]
          rfl
        refine pure_ (i := 9) (N := some 39) (v := ?_) (a' := ?_) (bl 11 1023) rfl rfl (by kernel_rfl) (fun _ _ _ h => h) (Or.inl ⟨by rfl, ?_⟩) ?_ ?_
        rotate_left
        · intro w'
          go_simp
          with_reducible rfl
        rotate_left
        · simp only [Act.put, lsa, lsz, lsc, i64_w, i32_w]
          rfl
        refine pure_ (i := 10) (N := some 6) (v := ?_) (a' := ?_) (bl 11 2047) rfl rfl (by kernel_rfl) (fun _ _ _ h => h) (Or.inl ⟨by rfl, ?_⟩) ?_ ?_
        rotate_left
        · intro w'
          go_simp
          with_reducible rfl
        rotate_left
        · simp only [Act.put, lsa, lsz, lsc, i64_w, i32_w]
          rfl
        refine done_ (by kernel_rfl) ?_
        have HM6 := Aside0.mk (HM5.out.below (below_step (below_drew (Below.refl _ _)) HB6.out))
        have k4 : w6.cell? ⟨L.b, 4, none⟩ = some (.slice (some ⟨L.bg, 0, none⟩) s5.gs.length L.cg) := HS6.out.fld 4 rfl
        have kg : w6.cell? ⟨L.bg, g * 7 + 6, none⟩ = some (.bool (sk.gng k)) := HS6.out.gst g 6 hg5 (by decide) HGG.out
        obtain ⟨fg, hfg⟩ : ∃ fg, fg = sk.gng k := ⟨_, rfl⟩
        rw [← hfg] at kg HRM
        have hcg := HS6.out.cap.1
        clear hfg HGG
        cases fg with
        | true =>
          have HR1 := Aside0.mk (show removeTo s g (k + 1) = s5 by rw [HRM.out, if_pos rfl])
          go_wp2
          go_roundw
          case rel => exact ⟨k + 1, qs, by go_num, by omega, ⟨by rw [HR1.out]; exact HS6.out⟩, HM6⟩
          case measure => simp [intOf]; omega
        | false =>
          have HR1 := Aside0.mk (show removeTo s g (k + 1) = s5.modT hh (outC k) by rw [HRM.out, if_neg (by decide)])
          have HTQ := Aside0.mk (hw5.tq hh htl).2.1
          obtain ⟨cu, hcu⟩ : ∃ cu, cu = (s5.trn hh).cu := ⟨_, rfl⟩
          have HCU := Aside0.mk hcu
          clear hcu
          go_upto_region 9 with (go_at_call 49; refine (leave_calls HS6.out hh htl HTQ.out (k : Int)).mono ?_; rintro e w7 ⟨rfl, q7, hs7, hm7⟩; have HS7 := Aside0.mk hs7; have HM7 := Aside0.mk hm7; obtain ⟨q8, hq8⟩ := hs7.qs hh (by simpa using htl); have z1 : w7.cell? ⟨L.bt, hh * 3 + 1, none⟩ = some (.int .i64 cu) := hs7.trn hh 1 (by simpa using htl) (by decide) hq8 (by show some (Value.int .i64 _) = _; rw [modT_trn _ htl, if_pos rfl]; rw [← HCU.out]); have zf : w7.frozen? ⟨L.bt, hh * 3 + 1, none⟩ = false := hs7.T.frozen _; clear hs7 hm7)
          have HM8 := Aside0.mk (HM6.out.trans HM7.out (fun q hq => .inl hq))
          by_cases hc : cu = (k : Int)
          · have bc : (cu == (k : Int)) = true := by rw [hc]; simp
            have hs9 := HS7.out.putT hh 1 (by simpa using htl) (by decide) (.int .i64 (-1)) (fun t => { t with cu := -1 }) (fun _ => rfl) rfl
            rw [modT_modT, modT_congr htl (g := outC k) (by unfold outC; rw [← HCU.out, if_pos hc])] at hs9
            have HS9 := Aside0.mk hs9
            have HM9 := Aside0.mk (HM8.out.setCell (p := ⟨L.bt, hh * 3 + 1, none⟩) (.inl HR.out.ob.2.2.2.1) (.int .i64 (-1)))
            clear hs9 hc
            go_wp2
            go_roundw
            case rel => exact ⟨k + 1, _, by go_num, by omega, ⟨by rw [HR1.out]; exact HS9.out⟩, HM9⟩
            case measure => simp [intOf]; omega
          · have bc : (cu == (k : Int)) = false := by simpa using hc
            have HS9 := Aside0.mk (show SR w7 own { L with qs := qs.set hh q7 } (s5.modT hh (outC k)) by
              have := HS7.out
              rwa [modT_congr htl (g := outC k) (by unfold outC; rw [← HCU.out, if_neg hc, HCU.out])] at this)
            clear hc
            go_wp2
            go_roundw
            case rel => exact ⟨k + 1, _, by go_num, by omega, ⟨by rw [HR1.out]; exact HS9.out⟩, HM8⟩
            case measure => simp [intOf]; omega
      · have HRM := Aside0.mk (show removeTo s g (k + 1) = sk by rw [HT.out]; unfold removeE; rw [if_neg hgu])
        have bgu : ((sk.ent k).gu == (g : Int)) = false := by simpa using hgu
        obtain ⟨gu, hgue⟩ : ∃ gu, gu = (sk.ent k).gu := ⟨_, rfl⟩
        rw [← hgue] at y0 bgu
        clear hgu hgue y6 yf hT heg
        go_wp2
        go_roundw
        case rel => exact ⟨k + 1, qs, by go_num, by omega, ⟨by rw [HRM.out]; exact HS1.out⟩, HM1⟩
        case measure => simp [intOf]; omega
    · have hke : k = s.es.length := by omega
      subst hke
      go_wp2
      go_end0
      exact ⟨rfl, qs, HS1.out, HM1.out⟩
theorem SB.remove {W : World} {own : Nat → Prop} {b : Nat} {s : SS} (h : SB W own b s) (g : Nat) (hg : g < s.gs.length) :
    Calls Try.prog 30 #[.pointer (some ⟨b, 0, none⟩), .int .i64 (g : Int)] W fun x w' => x = .returned (.tuple #[]) ∧ SB w' own b (removeTo s g s.es.length) ∧ Mut own W w' := by
  obtain ⟨L, rfl, hx⟩ := h
  refine (remove_walk hx.r hx.w g hg).mono ?_
  rintro x w' ⟨rfl, qs, h1, h2⟩
  have hre := (removeTo_re hx.w g s.es.length (Nat.le_refl _)).1
  refine ⟨rfl, ⟨{ L with qs := qs }, rfl, ⟨h1, ?_, hre.wf, hre.cntC hx.c, hre.cntR hx.n⟩⟩, h2⟩
  show L.pv = pickV { L with qs := qs } (removeTo s g s.es.length)
  rw [hx.p]; unfold pickV; rw [hre.st.cr]
end Go.Proofs.Ytdaadmjppikebaa.SC

/- SchedPlays: how the document's scheduler lies in memory, as the same plain state. -/
namespace Go.Proofs.Ytdaadmjppikebaa.SC
open Go.RowKit Go.Proofs.YtdaadmjppikebaaW.PrintWords Go.Proofs.YtdaadmjppikebaaW.PrintLast
open Go.Proofs.Ytdaadmjppikebaa.PV (S94 k94 S29 k29 rd_T94 rd_T29)
set_option linter.unusedVariables false
set_option linter.unusedSimpArgs false

/-- Where the document's scheduler lies. -/
structure RLy where
  b : Nat
  be : Nat
  ce : Nat
  bc : Nat
  bq : Nat
  bn : Nat
  bu : Nat
  Ag : Option Addr
  cg : Nat
  gl : List S94
  qs : List Value
  us : List Int
/-- An entity of the document's. -/
def entR (s : SS) (i : Nat) : List Value := [.int .i64 (s.ent i).gu, .int .i64 (s.ent i).ix, .int .i64 (homeOf s i), .int .i64 (s.ent i).wt, .bool (s.gng i), .bool (s.ent i).gn, .int .u64 (s.ent i).rn, .int .i64 (s.ent i).cd, .int .i64 (s.ent i).pt]
def refC (L : RLy) (s : SS) : List Value := [.int .i64 s.H, .int .i64 s.S, .int .i64 s.P, .bool s.cr, .slice L.Ag L.gl.length L.cg, .slice (some ⟨L.be, 0, none⟩) s.es.length L.ce, .int .u64 s.now, .int .u64 s.sh, .slice (some ⟨L.bc, 0, none⟩) s.ch.length s.ch.length, .slice (some ⟨L.bq, 0, none⟩) s.ts.length s.ts.length, .slice (some ⟨L.bn, 0, none⟩) s.ts.length s.ts.length, .slice (some ⟨L.bu, 0, none⟩) s.ts.length s.ts.length]
/-- The document's scheduler, in memory, says s. -/
structure RS (W : World) (own : Nat → Prop) (L : RLy) (s : SS) : Prop where
  S : Blk W L.b 70 (refC L s)
  G : ∀ k, k < s.gs.length → ∃ ad, L.Ag = some ad ∧ W.cell? ⟨(ad.add (k * 7)).block, (ad.add (k * 7)).off + 2, none⟩ = some (.int .i64 (s.gst k).w) ∧ W.cell? ⟨(ad.add (k * 7)).block, (ad.add (k * 7)).off + 6, none⟩ = some (.bool (s.gst k).g)
  gl : s.gs = guestsL L.gl
  gc : L.gl.length ≤ L.cg
  gn : ∀ ad, L.Ag = some ad → 0 < L.gl.length → ¬ own ad.block
  E : Blk W L.be 109 ((List.range s.es.length).flatMap (entR s))
  C : Blk W L.bc 23 (s.ch.map (Value.int .u64))
  Qb : Blk W L.bq 22 L.qs
  ql : L.qs.length = s.ts.length
  Q : ∀ (i : Nat) (q : Value), L.qs[i]? = some q → Kd.R (Kd.int .i64) 3 W 0 (fun k => own k ∧ k ≠ L.bn ∧ k ≠ L.bu) q (s.trn i).q
  qd : ∀ (i j : Nat) (q r : Value) (k : Nat), i ≠ j → L.qs[i]? = some q → L.qs[j]? = some r → q.ownBlock = some k → r.ownBlock ≠ some k
  N : Blk W L.bn 3 (s.ts.map fun t => Value.int .i64 t.cu)
  U : Blk W L.bu 3 (L.us.map (Value.int .i64))
  ul : L.us.length = s.ts.length
  uv : ∀ i, i < s.ts.length → 0 ≤ (s.trn i).cu → L.us.getD i 0 = (s.trn i).us
  nu : L.bn ≠ L.bu
  ob : own L.b ∧ own L.be ∧ own L.bc ∧ own L.bq ∧ own L.bn ∧ own L.bu
  cap : s.es.length ≤ L.ce
  lt : ∀ k, own k → k < W.heap.size
section
variable {W W' : World} {own S : Nat → Prop} {L : RLy} {s : SS}
theorem RS.below (h : RS W own L s) (hb : Below W.heap.size W W') : RS W' own L s :=
  { S := h.S.below hb, G := fun k hk => by obtain ⟨ad, e, h1, h2⟩ := h.G k hk; exact ⟨ad, e, pw_cell_below hb h1, pw_cell_below hb h2⟩, gl := h.gl, gc := h.gc, gn := h.gn, E := h.E.below hb, C := h.C.below hb, Qb := h.Qb.below hb, ql := h.ql, Q := fun i q hq => Kd.R_below (h.Q i q hq) hb, qd := h.qd, N := h.N.below hb, U := h.U.below hb, ul := h.ul, uv := h.uv, nu := h.nu, ob := h.ob, cap := h.cap, lt := fun k hk => Nat.lt_of_lt_of_le (h.lt k hk) hb.size }
theorem range_flat {α : Type} (f : Nat → List α) (n : Nat) (hn : ∀ i, (f i).length = n) : ∀ (k i j : Nat), i < k → j < n → ((List.range k).flatMap f)[i * n + j]? = (f i)[j]?
  | 0, i, j, h, _ => by omega
  | k + 1, i, j, h, hj => by
    rw [List.range_succ, List.flatMap_append]
    have hl : ((List.range k).flatMap f).length = k * n := by
      clear h
      induction k with
      | zero => simp
      | succ k ih => rw [List.range_succ, List.flatMap_append, List.length_append, ih]; simp [hn, Nat.succ_mul]
    rcases Nat.lt_or_ge i k with c | c
    · have : i * n + j < k * n := by
        have := Nat.mul_le_mul_right n (show i + 1 ≤ k from c)
        rw [Nat.succ_mul] at this
        omega
      rw [List.getElem?_append_left (by rw [hl]; exact this)]
      exact range_flat f n hn k i j c hj
    · have e : i = k := by omega
      subst e
      rw [List.getElem?_append_right (by rw [hl]; omega), hl]
      simp
theorem RS.ent (h : RS W own L s) (i j : Nat) (hi : i < s.es.length) (hj : j < 9) {v : Value} (hv : (entR s i)[j]? = some v) : W.cell? ⟨L.be, i * 9 + j, none⟩ = some v :=
  h.E.cell ((range_flat (entR s) 9 (fun _ => rfl) s.es.length i j hi hj).trans hv)
theorem RS.fld (h : RS W own L s) (j : Nat) {v : Value} (hv : (refC L s)[j]? = some v) : W.cell? ⟨L.b, j, none⟩ = some v := h.S.cell hv
theorem RS.now (h : RS W own L s) (i : Nat) (hi : i < s.ts.length) : W.cell? ⟨L.bn, i, none⟩ = some (.int .i64 (s.trn i).cu) :=
  h.N.cell (by rw [List.getElem?_map, trn_some hi]; rfl)
theorem RS.used (h : RS W own L s) (i : Nat) (hi : i < s.ts.length) : W.cell? ⟨L.bu, i, none⟩ = some (.int .i64 (L.us.getD i 0)) := by
  have hl := h.ul
  exact h.U.cell (by rw [List.getElem?_map, List.getD_eq_getElem?_getD, List.getElem?_eq_getElem (by omega)]; rfl)
theorem RS.chg (h : RS W own L s) (i : Nat) (hi : i < s.ch.length) : W.cell? ⟨L.bc, i, none⟩ = some (.int .u64 (s.ch.getD i 0)) :=
  h.C.cell (by rw [List.getElem?_map, List.getD_eq_getElem?_getD, List.getElem?_eq_getElem hi]; rfl)
theorem RS.que (h : RS W own L s) (i : Nat) (hi : i < s.ts.length) : ∃ A c, W.cell? ⟨L.bq, i, none⟩ = some (.slice A (s.trn i).q.length c) ∧ Kd.R (Kd.int .i64) 3 W 0 (fun k => own k ∧ k ≠ L.bn ∧ k ≠ L.bu) (.slice A (s.trn i).q.length c) (s.trn i).q := by
  have hq : L.qs[i]? = some (L.qs[i]'(by rw [h.ql]; exact hi)) := List.getElem?_eq_getElem (by rw [h.ql]; exact hi)
  have hR := h.Q i _ hq
  obtain ⟨A, c, e⟩ := Kd.R_slice hR
  rw [e] at hR hq
  exact ⟨A, c, h.Qb.cell hq, hR⟩
end
end Go.Proofs.Ytdaadmjppikebaa.SC

/- SchedPlays: the document's small functions. -/
namespace Go.Proofs.Ytdaadmjppikebaa.SC
open Go.RowKit Go.Proofs.YtdaadmjppikebaaW.PrintWords Go.Proofs.YtdaadmjppikebaaW.PrintLast
open Go.Proofs.Ytdaadmjppikebaa.PV (S94 k94 S29 k29 rd_T94 rd_T29)
set_option linter.unusedVariables false
set_option linter.unusedSimpArgs false

theorem RS.gst {W : World} {own : Nat → Prop} {L : RLy} {s : SS} (h : RS W own L s) (k : Nat) (hk : k < s.gs.length) : ∃ ad, L.Ag = some ad ∧ W.cell? ⟨(ad.add (k * 7)).block, (ad.add (k * 7)).off + 2, none⟩ = some (.int .i64 (s.gst k).w) ∧ W.cell? ⟨(ad.add (k * 7)).block, (ad.add (k * 7)).off + 6, none⟩ = some (.bool (s.gst k).g) := h.G k hk
set_option maxRecDepth 100000 in
set_option maxHeartbeats 1600000 in
theorem rcan_calls {W : World} {own : Nat → Prop} {L : RLy} {s : SS} {rd : List Bool} {A : Option Addr} {c : Nat} (h : RS W own L s) (hr : RD W rd A c) (i : Nat) (hi : i < s.es.length) :
    Calls Try.prog 56 #[.pointer (some ⟨L.b, 0, none⟩), .int .i64 (i : Int), .slice A rd.length c] W fun x w' => x = .returned (.bool (readyF s rd (i : Int))) ∧ W = w' := by
  have c5 := h.fld 5 rfl
  have y5 := h.ent i 5 hi (by decide) rfl
  have HE : Aside0 (readyF s rd (i : Int) = (decide ((i : Int) < (rd.length : Int)) && rd.getD i false && !(s.ent i).gn)) := ⟨by unfold readyF; rw [Int.toNat_natCast]⟩
  obtain ⟨gn, hgn⟩ : ∃ gn, gn = (s.ent i).gn := ⟨_, rfl⟩
  have hcap := h.cap
  rw [HE.out]
  rw [← hgn] at y5 ⊢
  by_cases h1 : i < rd.length
  · obtain ⟨ad, e, hx⟩ := Kd.at_bool hr.r (i : Int) (by omega) (by omega)
    subst e
    obtain ⟨v, hv⟩ : ∃ v, v = rd.getD i false := ⟨_, rfl⟩
    replace hx : W.cell? (ad.add i) = some (.bool v) := by rw [hv]; have := hx; unfold rdOf at this; rwa [Int.toNat_natCast] at this
    rw [decide_eq_true (by omega : (i : Int) < (rd.length : Int)), ← hv]
    clear HE hgn hv hr h
    go_enter Try.func56, Try.ntmps56
    cases v with
    | true =>
      cases gn with
      | true => go_wp2; go_ret; exact ⟨rfl, rfl⟩
      | false => go_wp2; go_ret; exact ⟨rfl, rfl⟩
    | false => go_wp2; go_ret; exact ⟨rfl, rfl⟩
  · rw [decide_eq_false (by omega : ¬ (i : Int) < (rd.length : Int))]
    clear HE hgn hr h
    go_enter Try.func56, Try.ntmps56
    go_wp2
    go_ret
    exact ⟨rfl, rfl⟩
theorem rcan_is {W : World} {own : Nat → Prop} {L : RLy} {s : SS} {rd : List Bool} {A : Option Addr} {c : Nat} (h : RS W own L s) (hr : RD W rd A c) (e : Int) (he : 0 ≤ e ∧ e < s.es.length) {b : Bool} (hb : readyF s rd e = b) :
    Calls Try.prog 56 #[.pointer (some ⟨L.b, 0, none⟩), .int .i64 e, .slice A rd.length c] W fun x w' => x = .returned (.bool b) ∧ W = w' := by
  obtain ⟨k, rfl⟩ := Int.eq_ofNat_of_zero_le he.1
  rw [← hb]
  exact rcan_calls h hr k (by omega)
theorem ticksGo_le : ∀ (l : List SG) (P : Int), (∀ x ∈ l, 0 ≤ x.w) → ticksGo l P ≤ P
  | [], P, _ => Int.le_refl _
  | y :: t, P, h => by
    have h1 := h y List.mem_cons_self
    have ih := ticksGo_le t (if y.g = true then P - y.w else P) (fun z hz => h z (List.mem_cons_of_mem _ hz))
    show ticksGo t (if y.g = true then P - y.w else P) ≤ P
    by_cases c : y.g = true
    · rw [if_pos c] at ih ⊢; omega
    · rw [if_neg c] at ih ⊢; omega
set_option maxRecDepth 100000 in
set_option maxHeartbeats 1600000 in
theorem rQ_calls {W : World} {own : Nat → Prop} {L : RLy} {s : SS} (h : RS W own L s) (hw : WfS s) :
    Calls Try.prog 69 #[.pointer (some ⟨L.b, 0, none⟩)] W fun x w' => x = .returned (.int .i64 (ticksF s)) ∧ W = w' := by
  have HR := Aside0.mk h
  have HW := Aside0.mk hw
  have c2 := h.fld 2 rfl
  have c4 := h.fld 4 rfl
  have hgl : s.gs.length = L.gl.length := by rw [h.gl]; simp [guestsL]
  have hgm := hw.gm
  have hP := hw.P2
  have hP1 := hw.P1
  have htk := hw.tk
  have hgc := h.gc
  have HGL := Aside0.mk hgl
  have hgl8 : L.gl.length ≤ 8 := by omega
  have HWG := Aside0.mk (show ∀ k, ∀ x ∈ s.gs.drop k, 0 ≤ x.w from fun k x hx => by
    obtain ⟨j, hj, rfl⟩ := List.getElem_of_mem (List.mem_of_mem_drop hx)
    have := hw.gw j hj
    unfold SS.gst at this
    rw [List.getD_eq_getElem?_getD, List.getElem?_eq_getElem hj, Option.getD_some] at this
    omega)
  clear h hw hgl
  go_enter Try.func69, Try.ntmps69
  go_wp2_with (fail)
  go_loopw [3, 4] (fun v3 v4 w' => ∃ (n : Int) (k : Nat), v3 = .int .i64 n ∧ v4 = .int .i64 (k : Int) ∧ k ≤ L.gl.length ∧ n ≤ 10000 ∧ Aside0 (ticksGo (s.gs.drop k) n = ticksF s) ∧ Aside0 (RS w' own L s) ∧ Aside0 (W = w')) (fun _ v4 _ => L.gl.length - (intOf v4).toNat)
  case atStart => exact ⟨s.P, 0, rfl, rfl, Nat.zero_le _, hP, ⟨rfl⟩, HR, ⟨rfl⟩⟩
  case round =>
    obtain ⟨n, k, rfl, rfl, hk, hn, HT, HR2, HB2⟩ := hrel
    clear c2 c4
    have c4 := HR2.out.fld 4 rfl
    by_cases hlt : k < L.gl.length
    · have hks : k < s.gs.length := by rw [HGL.out]; exact hlt
      obtain ⟨ad, e, x2, x6⟩ := HR2.out.gst k hks
      have hT := HT.out
      rw [drop_gst hks] at hT
      have hgw := HW.out.gw k hks
      obtain ⟨gw, hgwe⟩ : ∃ gw, gw = (s.gst k).w := ⟨_, rfl⟩
      obtain ⟨gg, hgge⟩ : ∃ gg, gg = (s.gst k).g := ⟨_, rfl⟩
      have hT2 : ticksGo (s.gs.drop (k + 1)) (if gg = true then n - gw else n) = ticksF s := by rw [hgwe, hgge]; exact hT
      have hle := ticksGo_le (s.gs.drop (k + 1)) (if gg = true then n - gw else n) (HWG.out (k + 1))
      rw [hT2] at hle
      rw [← hgwe] at x2 hgw
      rw [← hgge] at x6
      rw [e] at c4
      clear hgwe hgge hT
      cases gg with
      | true =>
        rw [if_pos rfl] at hT2 hle
        have HT3 := Aside0.mk hT2
        clear hT2
        go_wp2
        go_roundw
        case rel => exact ⟨_, k + 1, rfl, by go_num, by omega, by omega, HT3, HR2, HB2⟩
        case measure => simp [intOf]; omega
      | false =>
        rw [if_neg (by decide)] at hT2 hle
        have HT3 := Aside0.mk hT2
        clear hT2
        go_wp2
        go_roundw
        case rel => exact ⟨_, k + 1, rfl, by go_num, by omega, by omega, HT3, HR2, HB2⟩
        case measure => simp [intOf]; omega
    · have HE := Aside0.mk (show n = ticksF s by have h1 := HT.out; rw [List.drop_of_length_le (by rw [HGL.out]; omega)] at h1; exact h1)
      rw [HE.out]
      go_wp2
      go_ret
      exact ⟨rfl, HB2.out⟩
set_option maxRecDepth 100000 in
set_option maxHeartbeats 1600000 in
theorem rcap_calls {W : World} {own : Nat → Prop} {L : RLy} {s : SS} (h : RS W own L s) (hw : WfS s) (v : Int) :
    Calls Try.prog 55 #[.pointer (some ⟨L.b, 0, none⟩), .int .i64 v] W fun x w' => x = .returned (.int .i64 (max (min v (limitF s)) (-limitF s))) ∧ W = w' := by
  have HQ := Aside0.mk (rQ_calls h hw)
  have hl : 129 ≤ limitF s ∧ limitF s ≤ 10128 := by have := ticksF_range hw; unfold limitF; omega
  have hlt : limitF s = ticksF s + 128 := rfl
  obtain ⟨t, ht⟩ : ∃ t, t = ticksF s := ⟨_, rfl⟩
  rw [hlt] at hl ⊢
  rw [← ht] at HQ hl ⊢
  clear h hw hlt ht
  go_enter Try.func55, Try.ntmps55
  by_cases h1 : v > t + 128
  · have HE := Aside0.mk (show max (min v (t + 128)) (-(t + 128)) = t + 128 by omega)
    rw [HE.out]
    go_wp2_with (go_at_call 69; refine HQ.out.mono ?_; rintro e w1 ⟨rfl, rfl⟩)
    go_ret
    exact ⟨rfl, rfl⟩
  · by_cases h2 : v < -(t + 128)
    · have HE := Aside0.mk (show max (min v (t + 128)) (-(t + 128)) = -(t + 128) by omega)
      rw [HE.out]
      go_wp2_with (go_at_call 69; refine HQ.out.mono ?_; rintro e w1 ⟨rfl, rfl⟩)
      go_ret
      exact ⟨rfl, rfl⟩
    · have HE := Aside0.mk (show max (min v (t + 128)) (-(t + 128)) = v by omega)
      rw [HE.out]
      go_wp2_with (go_at_call 69; refine HQ.out.mono ?_; rintro e w1 ⟨rfl, rfl⟩)
      go_ret
      exact ⟨rfl, rfl⟩
end Go.Proofs.Ytdaadmjppikebaa.SC

/- SchedPlays: the document's gang, plain, turn. -/
namespace Go.Proofs.Ytdaadmjppikebaa.SC
open Go.RowKit Go.Proofs.YtdaadmjppikebaaW.PrintWords Go.Proofs.YtdaadmjppikebaaW.PrintLast
open Go.Proofs.Ytdaadmjppikebaa.PV (S94 k94 S29 k29 rd_T94 rd_T29)
set_option linter.unusedVariables false
set_option linter.unusedSimpArgs false

theorem RS.drewN {W : World} {own : Nat → Prop} {L : RLy} {s : SS} (h : RS W own L s) (n : Nat) : RS (W.drewN n) own L s := h.below (pw_below_drewN (Below.refl _ _) n)
set_option maxRecDepth 100000 in
set_option maxHeartbeats 1600000 in
theorem rgang_calls {W : World} {own : Nat → Prop} {L : RLy} {s : SS} (h : RS W own L s) (hw : Wf s) :
    Calls Try.prog 53 #[.pointer (some ⟨L.b, 0, none⟩)] W fun x w' => x = .returned (.int .i64 (gangF s)) ∧ Below W.heap.size W w' := by
  have HW := Aside0.mk hw
  have HR := Aside0.mk h
  have c2 := h.fld 2 rfl
  have c6 := h.fld 6 rfl
  have hgl : s.gs.length = L.gl.length := by rw [h.gl]; simp [guestsL]
  have hn := hw.gm
  have hP1 := hw.P1
  have hP2 := hw.P2
  have hn1 := hw.nw.1
  have hn2 := hw.nw.2
  have hgc := h.gc
  have HGL := Aside0.mk hgl
  have hgl8 : L.gl.length ≤ 8 := by omega
  obtain ⟨at_, hat⟩ : ∃ a, a = s.now % s.P := ⟨_, rfl⟩
  have hr1 : 0 ≤ at_ := by rw [hat]; exact Int.emod_nonneg _ (by omega)
  have hr2 : at_ < 10000 := by have := Int.emod_lt_of_pos s.now (show 0 < s.P by omega); omega
  have HAT := Aside0.mk hat
  clear h hw hat hgl
  go_enter Try.func53, Try.ntmps53
  go_wp2_with (fail)
  go_quiet (fail)
  have HB0 := Aside0.mk (pw_below_drewN (Below.refl W.heap.size W) nq)
  have hwr : wrap64 (s.now % s.P) = at_ := by rw [← HAT.out]; unfold wrap64; omega
  rw [hwr]
  clear hwr
  obtain ⟨w1, hw1⟩ : ∃ w1, w1 = W.drewN nq := ⟨_, rfl⟩
  rw [← hw1] at HB0 ⊢
  clear hw1 c2 c6
  go_wp2
  go_loopw [3, 4] (fun v3 v4 w' => ∃ (k : Nat) (n : Int), v4 = .int .i64 (k : Int) ∧ v3 = .int .i64 n ∧ k ≤ L.gl.length ∧ Aside0 (gangGo (s.gs.drop k) k n = gangF s) ∧ Aside0 (-1000 * (k : Int) ≤ n ∧ n ≤ 10000) ∧ Aside0 (Below W.heap.size W w')) (fun _ v4 _ => L.gl.length - (intOf v4).toNat)
  case atStart => exact ⟨0, at_, rfl, rfl, by omega, ⟨by rw [HAT.out]; rfl⟩, ⟨by omega⟩, HB0⟩
  case round =>
    obtain ⟨k, n, rfl, rfl, hk, HT, HN, HB⟩ := hrel
    have HRr := Aside0.mk (HR.out.below HB.out)
    have c4 := HRr.out.fld 4 rfl
    by_cases hlt : k < L.gl.length
    · have hks : k < s.gs.length := by rw [HGL.out]; exact hlt
      obtain ⟨ad, e, x2, x6⟩ := HRr.out.gst k hks
      rw [e] at c4
      have hg := HW.out.gw k hks
      have hg1 : 1 ≤ (s.gst k).w := hg.1
      have hg2 : (s.gst k).w ≤ 1000 := hg.2
      have hn1 : -8000 ≤ n := by have := HN.out.1; omega
      have hn2 := HN.out.2
      have HS := Aside0.mk (show (if (s.gst k).g = true then (if n < (s.gst k).w then (k : Int) else gangGo (s.gs.drop (k + 1)) (k + 1) (n - (s.gst k).w)) else gangGo (s.gs.drop (k + 1)) (k + 1) n) = gangF s by have := HT.out; rw [drop_gst hks] at this; exact this)
      clear hg HAT HB0
      cases hb : (s.gst k).g with
      | true =>
        rw [hb] at HS x6
        clear hb HT
        by_cases hq : n < (s.gst k).w
        · have d1 : decide (n < (s.gst k).w) = true := decide_eq_true hq
          have HQ := Aside0.mk (show (k : Int) = gangF s by have := HS.out; rw [if_pos rfl, if_pos hq] at this; exact this)
          clear HS hq
          go_wp2
          go_ret
          exact ⟨ret_int HQ.out, HB.out⟩
        · have d1 : decide (n < (s.gst k).w) = false := decide_eq_false hq
          have HQ := Aside0.mk (show gangGo (s.gs.drop (k + 1)) (k + 1) (n - (s.gst k).w) = gangF s by have := HS.out; rw [if_pos rfl, if_neg hq] at this; exact this)
          clear HS
          go_wp2
          go_roundw
          case rel => exact ⟨k + 1, n - (s.gst k).w, by go_num, rfl, by omega, HQ, ⟨by have := HN.out; push_cast; omega⟩, HB⟩
          case measure => simp [intOf]; omega
      | false =>
        rw [hb] at HS x6
        clear hb HT
        have HQ := Aside0.mk (show gangGo (s.gs.drop (k + 1)) (k + 1) n = gangF s by have := HS.out; simpa using this)
        clear HS
        go_wp2
        go_roundw
        case rel => exact ⟨k + 1, n, by go_num, rfl, by omega, HQ, ⟨by have := HN.out; push_cast; omega⟩, HB⟩
        case measure => simp [intOf]; omega
    · have HE := Aside0.mk (show -1 = gangF s by have := HT.out; rw [drop_end (by rw [HGL.out]; exact hlt)] at this; exact this)
      clear HT
      go_wp2
      go_ret
      exact ⟨ret_int HE.out, HB.out⟩
set_option maxRecDepth 100000 in
set_option maxHeartbeats 1600000 in
theorem rplain_calls {W : World} {own : Nat → Prop} {L : RLy} {s : SS} (h : RS W own L s) (hem : s.es.length ≤ 64) (hart : Int) :
    Calls Try.prog 51 #[.pointer (some ⟨L.b, 0, none⟩), .int .i64 hart] W fun x w' => ∃ v, x = .returned v ∧ Kd.R (Kd.int .i64) 3 w' W.heap.size (fun _ => True) v (plainL s hart) ∧ Below W.heap.size W w' := by
  have HR := Aside0.mk h
  have hcap := h.cap
  clear h
  go_enter Try.func51, Try.ntmps51
  go_wp2_with (fail)
  go_loopw [5, 6] (fun v5 v6 w' => ∃ (k : Nat), v6 = .int .i64 (k : Int) ∧ k ≤ s.es.length ∧ Aside0 (Kd.R (Kd.int .i64) 3 w' W.heap.size (fun _ => True) v5 (plainTo s hart k)) ∧ Aside0 (Below W.heap.size W w')) (fun _ v6 _ => s.es.length - (intOf v6).toNat)
  case atStart => exact ⟨0, rfl, by omega, ⟨Kd.R_nil _ _ _ _ _⟩, ⟨Below.refl _ _⟩⟩
  case round =>
    obtain ⟨k, rfl, hk, HO, HB⟩ := hrel
    have HRr := Aside0.mk (HR.out.below HB.out)
    have c5 := HRr.out.fld 5 rfl
    by_cases hlt : k < s.es.length
    · have y2 := HRr.out.ent k 2 hlt (by decide) rfl
      have y4 := HRr.out.ent k 4 hlt (by decide) rfl
      have HP := Aside0.mk (plainTo_succ s hart k)
      have HL := Aside0.mk (Nat.le_trans (plainTo_len s hart k) (show k ≤ 64 by omega))
      have HPB := Aside0.mk (show plainP s hart k = (homeOf s k == hart && !s.gng k) from rfl)
      obtain ⟨gg, hgg⟩ : ∃ gg, gg = s.gng k := ⟨_, rfl⟩
      obtain ⟨hh, hhh⟩ : ∃ hh, hh = homeOf s k := ⟨_, rfl⟩
      rw [← hgg] at y4 HPB
      rw [← hhh] at y2 HPB
      clear hgg hhh
      by_cases d1 : hh = hart
      · have b1 : (hh == hart) = true := by simpa using d1
        cases gg with
        | false =>
          have HPP := Aside0.mk (show plainTo s hart (k + 1) = plainTo s hart k ++ [(k : Int)] by rw [HP.out, if_pos (by rw [HPB.out, b1]; rfl)])
          clear HP HPB d1
          go_wp2_with (first | ((with_reducible refine gate_builtin (b := .append) (xs := #[.tmp 37, .tmp 39]) rfl ?_); go_loud (at_builtin; refine Kd.R_append (Kd.int .i64) (w0 := W) W.heap.size rfl (.tmp 37) (.tmp 39) 22 3 (.int .i64 0) 8 rfl Try.underlying22 info3 rfl (by decide) (by omega) u5 (plainTo s hart k) ((k : Int)) [.int .i64 ((k : Int))] (fun _ => True) (fun _ => False) rfl rfl ?aP (fun _ hk => hk.elim) ?aF ?aO ?aB ?aS ?aL ?_; (case aP => exact rfl); (case aF => exact (fun _ _ => trivial)); (case aO => exact HO.out); (case aB => exact HB.out); (case aS => exact (HB.out).size); (case aL => have := HL.out; simp; omega); intro v1 w1 ho hbb hg hat; have HO2 := Aside0.mk ho; have HB2 := Aside0.mk hbb; clear ho hbb hg hat)) | fail)
          go_roundw
          case rel => exact ⟨k + 1, by go_num, by omega, ⟨by rw [HPP.out]; exact HO2.out⟩, HB2⟩
          case measure => simp [intOf]; omega
        | true =>
          have HPP := Aside0.mk (show plainTo s hart (k + 1) = plainTo s hart k by rw [HP.out, if_neg (by rw [HPB.out]; simp), List.append_nil])
          clear HP HPB d1
          go_wp2
          go_roundw
          case rel => exact ⟨k + 1, by go_num, by omega, ⟨by rw [HPP.out]; exact HO.out⟩, HB⟩
          case measure => simp [intOf]; omega
      · have b1 : (hh == hart) = false := by simpa using d1
        have HPP := Aside0.mk (show plainTo s hart (k + 1) = plainTo s hart k by rw [HP.out, if_neg (by rw [HPB.out, b1]; simp), List.append_nil])
        clear HP HPB d1
        cases gg with
        | true =>
          go_wp2
          go_roundw
          case rel => exact ⟨k + 1, by go_num, by omega, ⟨by rw [HPP.out]; exact HO.out⟩, HB⟩
          case measure => simp [intOf]; omega
        | false =>
          go_wp2
          go_roundw
          case rel => exact ⟨k + 1, by go_num, by omega, ⟨by rw [HPP.out]; exact HO.out⟩, HB⟩
          case measure => simp [intOf]; omega
    · obtain rfl : k = s.es.length := by omega
      go_wp2
      go_ret
      exact ⟨_, rfl, HO.out, HB.out⟩
set_option maxRecDepth 100000 in
set_option maxHeartbeats 1600000 in
theorem rturn_calls {W : World} {own : Nat → Prop} {L : RLy} {s : SS} (h : RS W own L s) (hw : Wf s) (hart : Int) :
    Calls Try.prog 54 #[.pointer (some ⟨L.b, 0, none⟩), .int .i64 hart] W fun x w' => x = .returned (.int .i64 (whoseF s hart)) ∧ Below W.heap.size W w' := by
  have HP := Aside0.mk (rplain_calls h hw.em hart)
  have HR := Aside0.mk h
  have hll := plainTo_len s hart s.es.length
  have hem := hw.em
  have hs1 := hw.S1
  have hs2 := hw.S2
  have hsh := hw.sw.1
  have hsh2 := hw.sw.2
  have hnw := hw.nw.2
  have hlen : (plainL s hart).length ≤ 64 := Nat.le_trans hll hem
  have HW := Aside0.mk (show whoseF s hart = if (plainL s hart).length = 0 then -1 else (plainL s hart).getD (s.sh / s.S % (plainL s hart).length).toNat 0 from rfl)
  clear h hw hll
  obtain ⟨l, hl⟩ : ∃ l, l = plainL s hart := ⟨_, rfl⟩
  rw [← hl] at HP HW hlen
  clear hl
  by_cases h0 : l.length = 0
  · have b0 : ((l.length : Int) == 0) = true := by simp [h0]
    have HE := Aside0.mk (show -1 = whoseF s hart by rw [HW.out, if_pos h0])
    clear h0
    go_enter Try.func54, Try.ntmps54
    go_wp2_with (go_at_call 51; refine HP.out.mono ?_; rintro e w1 ⟨v, rfl, ho, hb⟩; obtain ⟨A1, q1, rfl, hq, hC⟩ := Kd.R_reads ho; have HB := Aside0.mk hb; have HC := Aside0.mk hC; clear ho hb hC)
    go_ret
    exact ⟨ret_int HE.out, HB.out⟩
  · have b0 : ((l.length : Int) == 0) = false := by simpa using h0
    have i1 : 0 ≤ s.sh / s.S % (l.length : Int) := Int.emod_nonneg _ (by omega)
    have i2 : s.sh / s.S % (l.length : Int) < (l.length : Int) := Int.emod_lt_of_pos _ (by omega)
    have i3 : 0 ≤ s.sh / s.S := Int.ediv_nonneg hsh (by omega)
    have i4 : s.sh / s.S ≤ 4611686018427387904 := by have := Int.ediv_le_self s.S hsh; omega
    have HE := Aside0.mk (show rd l (s.sh / s.S % (l.length : Int)) = whoseF s hart by rw [HW.out, if_neg h0]; rfl)
    have h1 : 1 ≤ l.length := by omega
    clear h0
    go_enter Try.func54, Try.ntmps54
    go_wp2_with (go_at_call 51; refine HP.out.mono ?_; rintro e w1 ⟨v, rfl, ho, hb⟩; obtain ⟨A1, q1, rfl, hq, hC⟩ := Kd.R_reads ho; have HB := Aside0.mk hb; have HC := Aside0.mk hC; have c1 := (HR.out.below hb).fld 1 rfl; have c7 := (HR.out.below hb).fld 7 rfl; obtain ⟨ad, rfl, hcell⟩ := Kd.at_int hC (s.sh / s.S % (l.length : Int)) i1 i2; clear ho hb hC)
    go_quiet (fail)
    go_wp2
    go_ret
    exact ⟨ret_int HE.out, pw_below_drewN HB.out _⟩
end Go.Proofs.Ytdaadmjppikebaa.SC
