/- Parts of the walk of package sched, merged. -/
/- SchedPlays: the document's give. -/
import Derived.Test.YtdaadmjppikebaaK12
import Derived.Test.YtdaadmjppikebaaK10
namespace Go.Proofs.Ytdaadmjppikebaa.SC
open Go.RowKit Go.Proofs.YtdaadmjppikebaaW.PrintWords Go.Proofs.YtdaadmjppikebaaW.PrintLast
open Go.Proofs.Ytdaadmjppikebaa.PV (S94 k94 S29 k29 rd_T94 rd_T29)
set_option linter.unusedVariables false
set_option linter.unusedSimpArgs false

/-- A hart's plain entities, from the one with the number k on. -/
def plainFr (s : SS) (h : Int) (k : Nat) : List Int := ((List.range' k (s.es.length - k)).filter (plainP s h)).map fun i : Nat => (i : Int)
theorem plainFr_zero (s : SS) (h : Int) : plainFr s h 0 = plainL s h := by unfold plainFr plainL plainTo; rw [Nat.sub_zero, List.range_eq_range']
theorem plainFr_step (s : SS) (h : Int) {k : Nat} (hk : k < s.es.length) : plainFr s h k = if plainP s h k = true then (k : Int) :: plainFr s h (k + 1) else plainFr s h (k + 1) := by
  unfold plainFr
  rw [show s.es.length - k = (s.es.length - (k + 1)) + 1 by omega, List.range'_succ, List.filter_cons]
  split
  · rfl
  · rfl
theorem plainFr_end (s : SS) (h : Int) {k : Nat} (hk : ¬ k < s.es.length) : plainFr s h k = [] := by
  unfold plainFr
  rw [show s.es.length - k = 0 by omega]
  rfl
/-- Does an entity get a part of its hart's? -/
def gets (s : SS) (h : Int) (k : Nat) : Bool := !s.gng k && (!(s.ent k).gn && homeOf s k == h)
theorem sum_step (s : SS) (h : Int) {k : Nat} (hk : k < s.es.length) (n : Int) : sumGo s (plainFr s h k) n = sumGo s (plainFr s h (k + 1)) (if gets s h k = true then n + (s.ent k).wt else n) := by
  rw [plainFr_step s h hk]
  unfold gets plainP
  cases h1 : homeOf s k == h <;> cases h2 : s.gng k <;> cases h3 : (s.ent k).gn <;> simp [sumGo, h3]
theorem give_step (s sj : SS) (hg : ∀ i, (sj.ent i).gn = (s.ent i).gn) (h : Int) {k : Nat} (hk : k < s.es.length) (n : Int) : giveGo n (plainFr s h k) sj = giveGo n (plainFr s h (k + 1)) (if gets s h k = true then sj.modE k (giveUp (ticksF sj) (limitF sj) n) else sj) := by
  rw [plainFr_step s h hk]
  unfold gets plainP
  have e := hg k
  cases h1 : homeOf s k == h <;> cases h2 : s.gng k <;> cases h3 : (s.ent k).gn <;> rw [h3] at e <;> simp [giveGo, e]
theorem gets_in {s : SS} {h : Int} {k : Nat} (hk : k < s.es.length) (hg : gets s h k = true) : (k : Int) ∈ plainL s h ∧ (s.ent k).gn = false ∧ s.gng k = false := by
  unfold gets at hg
  simp only [Bool.and_eq_true, Bool.not_eq_true', beq_iff_eq] at hg
  exact ⟨plainTo_in hk hg.2.2 hg.1, hg.2.1, hg.1⟩
theorem CI.give1 {s : SS} (hw : Wf s) (h : CI s) {i : Nat} (hi : i < s.es.length) (hg : s.gng i = false) {sum : Int} (h1 : 1 ≤ sum) (h2 : sum ≤ 64000) : CI (s.modE i (giveUp (ticksF s) (limitF s) sum)) := by
  have hc := hw.ec i hi
  have hci := h i hi
  have ht := ticksF_range hw.toS
  have hwt := hw.ew i hi
  have hm : 0 ≤ ticksF s * (s.ent i).wt := Int.mul_nonneg (by omega) (by omega)
  have hq : 0 ≤ ((s.ent i).pt + ticksF s * (s.ent i).wt) / sum := Int.ediv_nonneg (by omega) (by omega)
  have hlim : 0 ≤ limitF s := by unfold limitF; omega
  refine h.modE i hi _ (fun _ => ⟨rfl, rfl, rfl⟩) hg ?_
  unfold giveUp
  simp only
  omega
set_option maxRecDepth 100000 in
set_option maxHeartbeats 4000000 in
theorem rgive_calls {W : World} {own : Nat → Prop} {L : RLy} {s : SS} (h : RS W own L s) (hw : Wf s) (hci : CI s) (hcr : s.cr = true) : Calls Try.prog 52 #[.pointer (some ⟨L.b, 0, none⟩)] W fun x w' => x = .returned (.tuple #[]) ∧ RS w' own L (giveF s) ∧ Mut own W w' := by
  have HW := Aside0.mk hw
  have HR := Aside0.mk h
  have HCI := Aside0.mk hci
  have HQ0 := Aside0.mk (rQ_calls h hw.toS)
  have c3 : W.cell? ⟨L.b, 3, none⟩ = some (.bool true) := by have := h.fld 3 rfl; rw [hcr] at this; exact this
  have hH1 := hw.H1
  have hH8 := hw.H8
  have htk := ticksF_range hw.toS
  have hem := hw.em
  obtain ⟨T, hT⟩ : ∃ T, T = ticksF s := ⟨_, rfl⟩
  rw [← hT] at HQ0 htk
  have HTT := Aside0.mk hT
  have ht1 := htk.1
  have ht2 := htk.2
  clear h hw hci hcr htk hT
  go_enter Try.func52, Try.ntmps52
  go_wp2_with (go_at_call 69; refine HQ0.out.mono ?_; rintro e w1 ⟨rfl, rfl⟩)
  clear c3
  go_loopw [3] (fun v3 w' => ∃ (k : Nat) (sk : SS), v3 = .int .i64 (k : Int) ∧ (k : Int) ≤ s.H ∧ Aside0 (giveFrom (s.H.toNat - k) k sk = giveF s) ∧ Aside0 (GK s sk) ∧ Aside0 (CI sk) ∧ Aside0 (RS w' own L sk) ∧ Aside0 (Mut own W w')) (fun v3 _ => s.H.toNat - (intOf v3).toNat)
  case atStart => exact ⟨0, s, rfl, by omega, ⟨rfl⟩, ⟨GK.refl HW.out⟩, HCI, HR, ⟨Mut.refl _ _⟩⟩
  case round =>
    obtain ⟨k, sk, rfl, hk, HF, HGK, HCk, HSk, HMk⟩ := hrel
    have c0 : wr.cell? ⟨L.b, 0, none⟩ = some (.int .i64 s.H) := by have := HSk.out.fld 0 rfl; rw [HGK.out.st.H] at this; exact this
    have c5 : wr.cell? ⟨L.b, 5, none⟩ = some (.slice (some ⟨L.be, 0, none⟩) s.es.length L.ce) := by have := HSk.out.fld 5 rfl; rw [HGK.out.st.el] at this; exact this
    have HEL := Aside0.mk HGK.out.st.el
    by_cases hlt : (k : Int) < s.H
    · have HF1 := Aside0.mk ((giveFrom_succ (show k < s.H.toNat by omega) sk).symm.trans HF.out)
      have HGI := Aside0.mk (show giveH sk (k : Int) = giveGo (sumGo sk (plainL sk (k : Int)) 0) (plainL sk (k : Int)) sk from rfl)
      obtain ⟨S0, hS0⟩ : ∃ S0, S0 = sumGo sk (plainL sk (k : Int)) 0 := ⟨_, rfl⟩
      have HS0 := Aside0.mk hS0
      rw [← hS0] at HGI
      clear HF hS0
      go_wp2
      go_loop [4, 5] (fun v4 v5 => ∃ (j : Nat) (n : Int), v5 = .int .i64 (j : Int) ∧ v4 = .int .i64 n ∧ j ≤ s.es.length ∧ Aside0 (sumGo sk (plainFr sk (k : Int) j) n = S0) ∧ Aside0 (0 ≤ n ∧ n ≤ 1000 * (j : Int))) (fun v4 v5 => s.es.length - (intOf v5).toNat)
      case atStart => exact ⟨0, 0, rfl, rfl, by omega, ⟨by rw [HS0.out, plainFr_zero]⟩, ⟨by omega⟩⟩
      case round =>
        obtain ⟨j, n, rfl, rfl, hj, HT, HN⟩ := hrel
        by_cases hjl : j < s.es.length
        · have hjk : j < sk.es.length := by rw [HEL.out]; exact hjl
          have hcap := HSk.out.cap
          rw [HEL.out] at hcap
          have hwt := HGK.out.wf.ew j hjk
          have hw1 := hwt.1
          have hw2 := hwt.2
          have hn1 := HN.out.1
          have hn2 : n ≤ 64000 := by have := HN.out.2; omega
          have HTD := Aside0.mk ((sum_step sk (k : Int) hjk n).symm.trans HT.out)
          have y4 := HSk.out.ent j 4 hjk (by decide) rfl
          have y5 := HSk.out.ent j 5 hjk (by decide) rfl
          have y2 := HSk.out.ent j 2 hjk (by decide) rfl
          have y3 := HSk.out.ent j 3 hjk (by decide) rfl
          have HGE := Aside0.mk (show gets sk (k : Int) j = (!sk.gng j && (!(sk.ent j).gn && homeOf sk j == (k : Int))) from rfl)
          obtain ⟨gg, hgg⟩ : ∃ gg, gg = sk.gng j := ⟨_, rfl⟩
          obtain ⟨gn, hgn⟩ : ∃ gn, gn = (sk.ent j).gn := ⟨_, rfl⟩
          obtain ⟨hh, hhh⟩ : ∃ hh, hh = homeOf sk j := ⟨_, rfl⟩
          obtain ⟨wt, hwe⟩ : ∃ wt, wt = (sk.ent j).wt := ⟨_, rfl⟩
          rw [← hgg] at y4 HGE
          rw [← hgn] at y5 HGE
          rw [← hhh] at y2 HGE
          rw [← hwe] at y3 HTD hw1 hw2
          clear hgg hgn hhh hwe hwt HT
          cases gg with
          | true =>
            have HTE := Aside0.mk (show sumGo sk (plainFr sk (k : Int) (j + 1)) n = S0 by have := HTD.out; rw [if_neg (by rw [HGE.out]; simp)] at this; exact this)
            clear HTD HGE
            go_wp2
            go_round
            case rel => exact ⟨j + 1, n, by go_num, rfl, by omega, HTE, ⟨by have := HN.out; push_cast; omega⟩⟩
            case measure => simp [intOf]; omega
          | false =>
            cases gn with
            | true =>
              have HTE := Aside0.mk (show sumGo sk (plainFr sk (k : Int) (j + 1)) n = S0 by have := HTD.out; rw [if_neg (by rw [HGE.out]; simp)] at this; exact this)
              clear HTD HGE
              go_wp2
              go_round
              case rel => exact ⟨j + 1, n, by go_num, rfl, by omega, HTE, ⟨by have := HN.out; push_cast; omega⟩⟩
              case measure => simp [intOf]; omega
            | false =>
              by_cases d1 : hh = (k : Int)
              · have b1 : (hh == (k : Int)) = true := by simpa using d1
                have HTE := Aside0.mk (show sumGo sk (plainFr sk (k : Int) (j + 1)) (n + wt) = S0 by have := HTD.out; rw [if_pos (by rw [HGE.out, b1]; rfl)] at this; exact this)
                clear HTD HGE d1
                go_wp2
                go_round
                case rel => exact ⟨j + 1, n + wt, by go_num, rfl, by omega, HTE, ⟨by have := HN.out; push_cast; omega⟩⟩
                case measure => simp [intOf]; omega
              · have b1 : (hh == (k : Int)) = false := by simpa using d1
                have HTE := Aside0.mk (show sumGo sk (plainFr sk (k : Int) (j + 1)) n = S0 by have := HTD.out; rw [if_neg (by rw [HGE.out, b1]; simp)] at this; exact this)
                clear HTD HGE d1
                go_wp2
                go_round
                case rel => exact ⟨j + 1, n, by go_num, rfl, by omega, HTE, ⟨by have := HN.out; push_cast; omega⟩⟩
                case measure => simp [intOf]; omega
        · have HE := Aside0.mk (show n = S0 by have := HT.out; rw [plainFr_end sk _ (by rw [HEL.out]; exact hjl)] at this; exact this)
          have HGO := Aside0.mk (show giveGo n (plainFr sk (k : Int) 0) sk = giveH sk (k : Int) by rw [HE.out, plainFr_zero]; exact HGI.out.symm)
          have HPO := Aside0.mk (show ∀ i, i < s.es.length → gets sk (k : Int) i = true → 1 ≤ n from fun i hi hg => by
            obtain ⟨h1, h2, h3⟩ := gets_in (by rw [HEL.out]; exact hi) hg
            rw [HE.out, HS0.out]
            exact (sumGo_range sk HGK.out.wf (plainL sk (k : Int)) 0 plainL_range (Int.le_refl 0)).2.2 _ h1 (by rw [Int.toNat_natCast]; exact h2))
          have hn1 := HN.out.1
          have hn2 : n ≤ 64000 := by have := HN.out.2; omega
          clear HT HE HGI c0
          go_wp2
          go_loopw [6] (fun v6 w' => ∃ (m : Nat) (sj : SS), v6 = .int .i64 (m : Int) ∧ m ≤ s.es.length ∧ Aside0 (giveGo n (plainFr sk (k : Int) m) sj = giveH sk (k : Int)) ∧ Aside0 (GK sk sj) ∧ Aside0 (CI sj) ∧ Aside0 (RS w' own L sj) ∧ Aside0 (Mut own W w')) (fun v6 _ => s.es.length - (intOf v6).toNat)
          case atStart => exact ⟨0, sk, rfl, by omega, HGO, ⟨GK.refl HGK.out.wf⟩, HCk, HSk, HMk⟩
          case round =>
            obtain ⟨i, sj, rfl, hm, HT, HGJ, HCj, HSj, HMj⟩ := hrel
            clear c5 HSk HMk
            have c5 : wr.cell? ⟨L.b, 5, none⟩ = some (.slice (some ⟨L.be, 0, none⟩) s.es.length L.ce) := by have := HSj.out.fld 5 rfl; rw [HGJ.out.st.el, HEL.out] at this; exact this
            by_cases hml : i < s.es.length
            · have hik : i < sk.es.length := by rw [HEL.out]; exact hml
              have hin : i < sj.es.length := by rw [HGJ.out.st.el]; exact hik
              have HTD := Aside0.mk ((give_step sk sj (fun i => (HGJ.out.gn i).1) (k : Int) hik n).symm.trans HT.out)
              have hcap := HSj.out.cap
              rw [HGJ.out.st.el, HEL.out] at hcap
              have y4 := HSj.out.ent i 4 hin (by decide) rfl
              have y5 := HSj.out.ent i 5 hin (by decide) rfl
              have y2 := HSj.out.ent i 2 hin (by decide) rfl
              rw [HGJ.out.st.gng] at y4
              rw [HGJ.out.st.home] at y2
              rw [(HGJ.out.gn i).1] at y5
              have HPY := Aside0.mk (HPO.out i hml)
              have HGT := Aside0.mk (fun hg => (gets_in (h := (k : Int)) hik hg).2.2)
              have HGE := Aside0.mk (show gets sk (k : Int) i = (!sk.gng i && (!(sk.ent i).gn && homeOf sk i == (k : Int))) from rfl)
              obtain ⟨gg, hgg⟩ : ∃ gg, gg = sk.gng i := ⟨_, rfl⟩
              obtain ⟨gn, hgn⟩ : ∃ gn, gn = (sk.ent i).gn := ⟨_, rfl⟩
              obtain ⟨hh, hhh⟩ : ∃ hh, hh = homeOf sk i := ⟨_, rfl⟩
              rw [← hgg] at y4 HGE
              rw [← hgn] at y5 HGE
              rw [← hhh] at y2 HGE
              clear hgg hgn hhh HT
              cases gg with
              | true =>
                have HTE := Aside0.mk (show giveGo n (plainFr sk (k : Int) (i + 1)) sj = giveH sk (k : Int) by have := HTD.out; rw [if_neg (by rw [HGE.out]; simp)] at this; exact this)
                clear HTD HGE HPY HGT
                go_wp2
                go_roundw
                case rel => exact ⟨i + 1, sj, by go_num, by omega, HTE, HGJ, HCj, HSj, HMj⟩
                case measure => (simp [intOf] <;> omega)
              | false =>
                cases gn with
                | true =>
                  have HTE := Aside0.mk (show giveGo n (plainFr sk (k : Int) (i + 1)) sj = giveH sk (k : Int) by have := HTD.out; rw [if_neg (by rw [HGE.out]; simp)] at this; exact this)
                  clear HTD HGE HPY HGT
                  go_wp2
                  go_roundw
                  case rel => exact ⟨i + 1, sj, by go_num, by omega, HTE, HGJ, HCj, HSj, HMj⟩
                  case measure => (simp [intOf] <;> omega)
                | false =>
                  by_cases d1 : hh = (k : Int)
                  · have b1 : (hh == (k : Int)) = true := by simpa using d1
                    have HTE := Aside0.mk (show giveGo n (plainFr sk (k : Int) (i + 1)) (sj.modE i (giveUp (ticksF sj) (limitF sj) n)) = giveH sk (k : Int) by have := HTD.out; rw [if_pos (by rw [HGE.out, b1]; rfl)] at this; exact this)
                    have hgt : gets sk (k : Int) i = true := by rw [HGE.out, b1]; rfl
                    have h1n : 1 ≤ n := HPY.out hgt
                    have HGU := Aside0.mk (GK.give HGJ.out.wf hin h1n hn2)
                    have HCU := Aside0.mk (HCj.out.give1 HGJ.out.wf hin (by rw [HGJ.out.st.gng]; exact HGT.out hgt) h1n hn2)
                    have hec := HGJ.out.wf.ec i hin
                    have hew := HGJ.out.wf.ew i hin
                    have hcj := (HCj.out i hin).1
                    have htkj : ticksF sj = T := by rw [HGJ.out.st.ticks, HGK.out.st.ticks, HTT.out]
                    have hlm := limitF_range HGJ.out.wf
                    obtain ⟨pt, hpt⟩ : ∃ pt, pt = (sj.ent i).pt := ⟨_, rfl⟩
                    obtain ⟨wt, hwt⟩ : ∃ wt, wt = (sj.ent i).wt := ⟨_, rfl⟩
                    obtain ⟨cd, hcd⟩ : ∃ cd, cd = (sj.ent i).cd := ⟨_, rfl⟩
                    obtain ⟨lim, hlim⟩ : ∃ lim, lim = limitF sj := ⟨_, rfl⟩
                    rw [← hpt, ← hcd] at hec
                    rw [← hwt] at hew
                    rw [← hlim] at hlm hcj
                    rw [← hcd] at hcj
                    have htw0 : 0 ≤ T * wt := Int.mul_nonneg (by omega) (by omega)
                    have htw1 : T * wt ≤ 10000000 := Int.le_trans (Int.mul_le_mul ht2 hew.2 (by omega) (by omega)) (by decide)
                    have ze8 : wr.drew.cell? ⟨L.be, i * 9 + 8, none⟩ = some (.int .i64 pt) := by rw [hpt]; exact (HSj.out.below (below_drew (Below.refl _ _))).ent i 8 hin (by decide) rfl
                    have ze3 : wr.drew.cell? ⟨L.be, i * 9 + 3, none⟩ = some (.int .i64 wt) := by rw [hwt]; exact (HSj.out.below (below_drew (Below.refl _ _))).ent i 3 hin (by decide) rfl
                    have zf : wr.drew.frozen? ⟨L.be, i * 9 + 8, none⟩ = false := (HSj.out.below (below_drew (Below.refl _ _))).E.frozen _
                    have HWT := Aside0.mk hwt
                    have HPT := Aside0.mk hpt
                    have HCD := Aside0.mk hcd
                    have HLI := Aside0.mk hlim
                    have HTK := Aside0.mk htkj
                    have hc1 := hec.1
                    have hc2 := hec.2.1
                    have hc3 := hec.2.2.1
                    have hc4 := hec.2.2.2
                    have hw1 := hew.1
                    have hw2 := hew.2
                    have hl1 := hlm.1
                    have hl2 := hlm.2
                    clear HTD HPY HGT HGE hec hew hlm hwt hpt hcd hlim hgt htkj d1
                    go_upto_region 16 with (fail)
                    have em : IntKind.i64.wrap (T * wt) = T * wt := IntWalk.i64_in _ (by omega)
                    have ea : IntKind.i64.wrap (pt + T * wt) = pt + T * wt := IntWalk.i64_in _ (by omega)
                    refine start_ (n := 15) (S := fun w' => w'.cell? ⟨L.be, i * 9 + 8, none⟩ = some (.int .i64 pt) ∧ w'.cell? ⟨L.be, i * 9 + 3, none⟩ = some (.int .i64 wt)) (ds := [14]) (bl 15 0) (by kernel_rfl) rfl rfl ⟨ze8, ze3⟩ (fun hHeld => ?_)
                    refine pure_ (i := 0) (N := some 109) (v := ?_) (a' := ?_) (bl 15 1) rfl rfl (by kernel_rfl) (fun _ _ _ h => h) (Or.inl ⟨by rfl, ?_⟩) ?_ ?_
                    rotate_left
                    · intro w'
                      go_simp
                      with_reducible rfl
                    rotate_left
                    · simp only [Act.put, lsa, lsz, lsc, i64_w, i32_w]
                      rfl
                    refine pure_ (i := 1) (N := some 110) (v := ?_) (a' := ?_) (bl 15 3) rfl rfl (by kernel_rfl) (fun _ _ _ h => h) (Or.inl ⟨by rfl, ?_⟩) ?_ ?_
                    rotate_left
                    · intro w'
                      go_simp
                      with_reducible rfl
                    rotate_left
                    · simp only [Act.put, lsa, lsz, lsc, i64_w, i32_w]
                      rfl
                    refine pure_ (i := 2) (N := some 111) (v := ?_) (a' := ?_) (bl 15 7) rfl rfl (by kernel_rfl) (fun _ _ _ h => h) (Or.inl ⟨by rfl, ?_⟩) ?_ ?_
                    rotate_left
                    · intro w'
                      go_simp
                      with_reducible rfl
                    rotate_left
                    · simp only [Act.put, lsa, lsz, lsc, i64_w, i32_w]
                      rfl
                    refine pure_ (i := 3) (N := some 112) (v := ?_) (a' := ?_) (bl 15 15) rfl rfl (by kernel_rfl) (fun _ _ _ h => h) (Or.inl ⟨by rfl, ?_⟩) ?_ ?_
                    rotate_left
                    · intro w'
                      go_simp
                      with_reducible rfl
                    rotate_left
                    · simp only [Act.put, lsa, lsz, lsc, i64_w, i32_w]
                      rfl
                    refine pure_ (i := 5) (N := some 114) (v := ?_) (a' := ?_) (bl 15 47) rfl rfl (by kernel_rfl) (fun _ _ _ h => h) (Or.inl ⟨by rfl, ?_⟩) ?_ ?_
                    rotate_left
                    · intro w'
                      go_simp
                      with_reducible rfl
                    rotate_left
                    · simp only [Act.put, lsa, lsz, lsc, i64_w, i32_w]
                      rfl
                    refine pure_ (i := 6) (N := some 115) (v := ?_) (a' := ?_) (bl 15 111) rfl rfl (by kernel_rfl) (fun _ _ _ h => h) (Or.inl ⟨by rfl, ?_⟩) ?_ ?_
                    rotate_left
                    · intro w'
                      go_simp
                      with_reducible rfl
                    rotate_left
                    · simp only [Act.put, lsa, lsz, lsc, i64_w, i32_w]
                      rfl
                    refine pure_ (i := 7) (N := some 116) (v := ?_) (a' := ?_) (bl 15 239) rfl rfl (by kernel_rfl) (fun _ _ _ h => h) (Or.inl ⟨by rfl, ?_⟩) ?_ ?_
                    rotate_left
                    · intro w'
                      go_simp
                      with_reducible rfl
                    rotate_left
                    · simp only [Act.put, lsa, lsz, lsc, i64_w, i32_w]
                      rfl
                    refine pure_ (i := 8) (N := some 117) (v := ?_) (a' := ?_) (bl 15 495) rfl rfl (by kernel_rfl) (fun _ _ _ h => h) (Or.inl ⟨by rfl, ?_⟩) ?_ ?_
                    rotate_left
                    · intro w'
                      go_simp
                      with_reducible rfl
                    rotate_left
                    · simp only [Act.put, lsa, lsz, lsc, i64_w, i32_w]
                      rfl
                    refine take_ (i := 4) (N := some 113) (v := ?_) (a' := ?_) (bl 15 511) rfl rfl (by kernel_rfl) (fun _ _ _ h => h) (Or.inl ⟨by rfl, ?_⟩) hHeld ?_ ?_
                    rotate_left
                    · rintro w' ⟨s0, s1⟩
                      go_simp
                      with_reducible rfl
                    rotate_left
                    · simp only [Act.put, lsa, lsz, lsc, i64_w, i32_w]
                      rfl
                    refine take_ (i := 9) (N := some 118) (v := ?_) (a' := ?_) (bl 15 1023) rfl rfl (by kernel_rfl) (fun _ _ _ h => h) (Or.inl ⟨by rfl, ?_⟩) hHeld ?_ ?_
                    rotate_left
                    · rintro w' ⟨s0, s1⟩
                      go_simp
                      with_reducible rfl
                    rotate_left
                    · simp only [Act.put, lsa, lsz, lsc, i64_w, i32_w]
                      rfl
                    refine pure_ (i := 10) (N := some 119) (v := ?_) (a' := ?_) (bl 15 2047) rfl rfl (by kernel_rfl) (fun _ _ _ h => h) (Or.inl ⟨by rfl, ?_⟩) ?_ ?_
                    rotate_left
                    · intro w'
                      go_simp
                      with_reducible rfl
                    rotate_left
                    · simp only [Act.put, lsa, lsz, lsc, i64_w, i32_w]
                      rfl
                    refine pure_ (i := 11) (N := some 120) (v := ?_) (a' := ?_) (bl 15 4095) rfl rfl (by kernel_rfl) (fun _ _ _ h => h) (Or.inl ⟨by rfl, ?_⟩) ?_ ?_
                    rotate_left
                    · intro w'
                      go_simp
                      with_reducible rfl
                    rotate_left
                    · simp only [Act.put, lsa, lsz, lsc, i64_w, i32_w]
                      rfl
                    refine pure_ (i := 12) (N := some 121) (v := ?_) (a' := ?_) (bl 15 8191) rfl rfl (by kernel_rfl) (fun _ _ _ h => h) (Or.inl ⟨by rfl, ?_⟩) ?_ ?_
                    rotate_left
                    · intro w'
                      go_simp
                      with_reducible rfl
                    rotate_left
                    · simp only [Act.put, lsa, lsz, lsc, i64_w, i32_w]
                      rfl
                    refine pure_ (i := 13) (N := some 122) (v := ?_) (a' := ?_) (bl 15 16383) rfl rfl (by kernel_rfl) (fun _ _ _ h => h) (Or.inl ⟨by rfl, ?_⟩) ?_ ?_
                    rotate_left
                    · intro w'
                      go_simp
                      with_reducible rfl
                    rotate_left
                    · simp only [Act.put, lsa, lsz, lsc, i64_w, i32_w]
                      rfl
                    refine last_ (i := 14) (N := none) (bl 15 32767) rfl rfl (by kernel_rfl) (by decide) (fun K hK => ?_)
                    refine skip_ (w1 := ?_) (by rfl) rfl ?_ ?_
                    rotate_left
                    · go_simp
                      rfl
                    refine hK.out _ _ ?_
                    clear hK K
                    refine done_ (by kernel_rfl) ?_
                    obtain ⟨p1, hp1⟩ : ∃ p1, p1 = pt + T * wt := ⟨_, rfl⟩
                    rw [← hp1]
                    have hp10 : 0 ≤ p1 := by omega
                    have hp11 : p1 ≤ 10064000 := by omega
                    have HP1 := Aside0.mk hp1
                    have hs6 := (HSj.out.below (below_drew (Below.refl _ _))).putE i 8 hin (by decide) (.int .i64 p1) (fun x => { x with pt := p1 }) ⟨rfl, rfl⟩ rfl
                    obtain ⟨w6, hw6⟩ : ∃ w6, w6 = wr.drew.setCell ⟨L.be, i * 9 + 8, none⟩ (.int .i64 p1) := ⟨_, rfl⟩
                    have HM6 := Aside0.mk (show Mut own W w6 by rw [hw6]; exact (HMj.out.below (below_drew (Below.refl _ _))).setCell (.inl HSj.out.ob.2.1) _)
                    rw [← hw6] at hs6
                    rw [show (wr.setCell ⟨L.be, i * 9 + 8, none⟩ (.int .i64 p1)).drew = w6 from hw6.symm]
                    have HS6 := Aside0.mk hs6
                    have HW6 := Aside0.mk (HGJ.out.wf.toS.st (St.modE sj i (fun x => { x with pt := p1 }) (fun _ => ⟨rfl, rfl, rfl⟩)))
                    have HLM := Aside0.mk (show limitF (sj.modE i fun x => { x with pt := p1 }) = lim by rw [(St.modE sj i (fun x => { x with pt := p1 }) (fun _ => ⟨rfl, rfl, rfl⟩)).limit, HLI.out])
                    have hi6 : i < (sj.modE i fun x => { x with pt := p1 }).es.length := by rw [modE_len]; exact hin
                    have he6 : (sj.modE i fun x => { x with pt := p1 }).ent i = { sj.ent i with pt := p1 } := by rw [modE_ent _ hin, if_pos rfl]
                    have zg7 : w6.drew.cell? ⟨L.be, i * 9 + 7, none⟩ = some (.int .i64 cd) := (HS6.out.below (below_drew (Below.refl _ _))).ent i 7 hi6 (by decide) (by unfold entR; rw [he6, HCD.out]; rfl)
                    have zg8 : w6.drew.cell? ⟨L.be, i * 9 + 8, none⟩ = some (.int .i64 p1) := (HS6.out.below (below_drew (Below.refl _ _))).ent i 8 hi6 (by decide) (by unfold entR; rw [he6]; rfl)
                    have HCP := Aside0.mk (rcap_calls (HS6.out.below (below_drew (Below.refl _ _))) HW6.out (cd + p1 / n))
                    rw [HLM.out] at HCP
                    clear hw6 hs6 hp1 em ea htw0 htw1 ze8 ze3 zf he6 c5 y4 y5 y2
                    have hq0 : 0 ≤ p1 / n := Int.ediv_nonneg hp10 (by omega)
                    have hq1 : p1 / n ≤ 10064000 := Int.le_trans (Int.ediv_le_self n hp10) hp11
                    obtain ⟨c1, hc1e⟩ : ∃ c1, c1 = max (min (cd + p1 / n) lim) (-lim) := ⟨_, rfl⟩
                    have HMN := Aside0.mk (show c1 = min (cd + p1 / n) lim by rw [hc1e]; omega)
                    rw [← hc1e] at HCP
                    have zf7 : w6.drew.frozen? ⟨L.be, i * 9 + 7, none⟩ = false := (HS6.out.below (below_drew (Below.refl _ _))).E.frozen _
                    clear hc1e
                    go_upto_region 17 with (fail)
                    have hnz : ¬ n = 0 := by omega
                    have eq : IntKind.i64.wrap (p1.tdiv n) = p1 / n := IntWalk.i64_quo _ _ (by omega)
                    have ea : IntKind.i64.wrap (cd + p1 / n) = cd + p1 / n := IntWalk.i64_in _ (by omega)
                    refine start_ (n := 17) (S := fun w' => w'.cell? ⟨L.be, i * 9 + 7, none⟩ = some (.int .i64 cd) ∧ w'.cell? ⟨L.be, i * 9 + 8, none⟩ = some (.int .i64 p1)) (ds := [16]) (bl 17 0) (by kernel_rfl) rfl rfl ⟨zg7, zg8⟩ (fun hHeld => ?_)
                    refine pure_ (i := 0) (N := some 123) (v := ?_) (a' := ?_) (bl 17 1) rfl rfl (by kernel_rfl) (fun _ _ _ h => h) (Or.inl ⟨by rfl, ?_⟩) ?_ ?_
                    rotate_left
                    · intro w'
                      go_simp
                      with_reducible rfl
                    rotate_left
                    · simp only [Act.put, lsa, lsz, lsc, i64_w, i32_w]
                      rfl
                    refine pure_ (i := 1) (N := some 124) (v := ?_) (a' := ?_) (bl 17 3) rfl rfl (by kernel_rfl) (fun _ _ _ h => h) (Or.inl ⟨by rfl, ?_⟩) ?_ ?_
                    rotate_left
                    · intro w'
                      go_simp
                      with_reducible rfl
                    rotate_left
                    · simp only [Act.put, lsa, lsz, lsc, i64_w, i32_w]
                      rfl
                    refine pure_ (i := 2) (N := some 125) (v := ?_) (a' := ?_) (bl 17 7) rfl rfl (by kernel_rfl) (fun _ _ _ h => h) (Or.inl ⟨by rfl, ?_⟩) ?_ ?_
                    rotate_left
                    · intro w'
                      go_simp
                      with_reducible rfl
                    rotate_left
                    · simp only [Act.put, lsa, lsz, lsc, i64_w, i32_w]
                      rfl
                    refine pure_ (i := 3) (N := some 126) (v := ?_) (a' := ?_) (bl 17 15) rfl rfl (by kernel_rfl) (fun _ _ _ h => h) (Or.inl ⟨by rfl, ?_⟩) ?_ ?_
                    rotate_left
                    · intro w'
                      go_simp
                      with_reducible rfl
                    rotate_left
                    · simp only [Act.put, lsa, lsz, lsc, i64_w, i32_w]
                      rfl
                    refine pure_ (i := 4) (N := some 127) (v := ?_) (a' := ?_) (bl 17 31) rfl rfl (by kernel_rfl) (fun _ _ _ h => h) (Or.inl ⟨by rfl, ?_⟩) ?_ ?_
                    rotate_left
                    · intro w'
                      go_simp
                      with_reducible rfl
                    rotate_left
                    · simp only [Act.put, lsa, lsz, lsc, i64_w, i32_w]
                      rfl
                    refine pure_ (i := 6) (N := some 129) (v := ?_) (a' := ?_) (bl 17 95) rfl rfl (by kernel_rfl) (fun _ _ _ h => h) (Or.inl ⟨by rfl, ?_⟩) ?_ ?_
                    rotate_left
                    · intro w'
                      go_simp
                      with_reducible rfl
                    rotate_left
                    · simp only [Act.put, lsa, lsz, lsc, i64_w, i32_w]
                      rfl
                    refine pure_ (i := 7) (N := some 130) (v := ?_) (a' := ?_) (bl 17 223) rfl rfl (by kernel_rfl) (fun _ _ _ h => h) (Or.inl ⟨by rfl, ?_⟩) ?_ ?_
                    rotate_left
                    · intro w'
                      go_simp
                      with_reducible rfl
                    rotate_left
                    · simp only [Act.put, lsa, lsz, lsc, i64_w, i32_w]
                      rfl
                    refine pure_ (i := 8) (N := some 131) (v := ?_) (a' := ?_) (bl 17 479) rfl rfl (by kernel_rfl) (fun _ _ _ h => h) (Or.inl ⟨by rfl, ?_⟩) ?_ ?_
                    rotate_left
                    · intro w'
                      go_simp
                      with_reducible rfl
                    rotate_left
                    · simp only [Act.put, lsa, lsz, lsc, i64_w, i32_w]
                      rfl
                    refine pure_ (i := 10) (N := some 133) (v := ?_) (a' := ?_) (bl 17 1503) rfl rfl (by kernel_rfl) (fun _ _ _ h => h) (Or.inl ⟨by rfl, ?_⟩) ?_ ?_
                    rotate_left
                    · intro w'
                      go_simp
                      with_reducible rfl
                    rotate_left
                    · simp only [Act.put, lsa, lsz, lsc, i64_w, i32_w]
                      rfl
                    refine take_ (i := 5) (N := some 128) (v := ?_) (a' := ?_) (bl 17 1535) rfl rfl (by kernel_rfl) (fun _ _ _ h => h) (Or.inl ⟨by rfl, ?_⟩) hHeld ?_ ?_
                    rotate_left
                    · rintro w' ⟨s0, s1⟩
                      go_simp
                      with_reducible rfl
                    rotate_left
                    · simp only [Act.put, lsa, lsz, lsc, i64_w, i32_w]
                      rfl
                    refine take_ (i := 9) (N := some 132) (v := ?_) (a' := ?_) (bl 17 2047) rfl rfl (by kernel_rfl) (fun _ _ _ h => h) (Or.inl ⟨by rfl, ?_⟩) hHeld ?_ ?_
                    rotate_left
                    · rintro w' ⟨s0, s1⟩
                      go_simp
                      with_reducible rfl
                    rotate_left
                    · simp only [Act.put, lsa, lsz, lsc, i64_w, i32_w]
                      rfl
                    refine pure_ (i := 11) (N := some 134) (v := ?_) (a' := ?_) (bl 17 4095) rfl rfl (by kernel_rfl) (fun _ _ _ h => h) (Or.inl ⟨by rfl, ?_⟩) ?_ ?_
                    rotate_left
                    · intro w'
                      go_simp
                      with_reducible rfl
                    rotate_left
                    · simp only [Act.put, lsa, lsz, lsc, i64_w, i32_w]
                      rfl
                    refine pure_ (i := 12) (N := some 135) (v := ?_) (a' := ?_) (bl 17 8191) rfl rfl (by kernel_rfl) (fun _ _ _ h => h) (Or.inl ⟨by rfl, ?_⟩) ?_ ?_
                    rotate_left
                    · intro w'
                      go_simp
                      with_reducible rfl
                    rotate_left
                    · simp only [Act.put, lsa, lsz, lsc, i64_w, i32_w]
                      rfl
                    refine one_ (i := 13) (N := some 136) (bl 17 16383) rfl rfl (by kernel_rfl) (by decide) (fun K hK => ?_)
                    refine goes_ Try.func55 (by kernel_rfl) rfl #[.pointer (some ⟨L.b, 0, none⟩), .int .i64 (cd + p1 / n)] (by rfl) rfl rfl (by simp only [List.map_toArray, List.map_cons, List.map_nil]; rfl) ?_
                    refine HCP.out.mono ?_
                    rintro e w7 ⟨rfl, rfl⟩
                    refine ⟨_, rfl, ?_⟩
                    refine hK.out _ _ ⟨zg7, zg8⟩ (fun hHeld => ?_)
                    clear hK K
                    refine norm_ (a' := ?_) ?_ ?_
                    rotate_left
                    · show Act.put _ (some 136) _ = _
                      simp only [Act.put, lsa, lsz, lsc, i64_w, i32_w]
                      rfl
                    refine pure_ (i := 14) (N := some 137) (v := ?_) (a' := ?_) (bl 17 32767) rfl rfl (by kernel_rfl) (fun _ _ _ h => h) (Or.inl ⟨by rfl, ?_⟩) ?_ ?_
                    rotate_left
                    · intro w'
                      go_simp
                      with_reducible rfl
                    rotate_left
                    · simp only [Act.put, lsa, lsz, lsc, i64_w, i32_w]
                      rfl
                    refine pure_ (i := 15) (N := some 138) (v := ?_) (a' := ?_) (bl 17 65535) rfl rfl (by kernel_rfl) (fun _ _ _ h => h) (Or.inl ⟨by rfl, ?_⟩) ?_ ?_
                    rotate_left
                    · intro w'
                      go_simp
                      with_reducible rfl
                    rotate_left
                    · simp only [Act.put, lsa, lsz, lsc, i64_w, i32_w]
                      rfl
                    refine last_ (i := 16) (N := none) (bl 17 131071) rfl rfl (by kernel_rfl) (by decide) (fun K hK => ?_)
                    refine skip_ (w1 := ?_) (by rfl) rfl ?_ ?_
                    rotate_left
                    · go_simp
                      rfl
                    refine hK.out _ _ ?_
                    clear hK K
                    refine done_ (by kernel_rfl) ?_
                    have hs8 := (HS6.out.below (below_drew (Below.refl _ _))).putE i 7 hi6 (by decide) (.int .i64 c1) (fun x => { x with cd := c1 }) ⟨rfl, rfl⟩ rfl
                    obtain ⟨w8, hw8⟩ : ∃ w8, w8 = w6.drew.setCell ⟨L.be, i * 9 + 7, none⟩ (.int .i64 c1) := ⟨_, rfl⟩
                    have HM8 := Aside0.mk (show Mut own W w8 by rw [hw8]; exact (HM6.out.below (below_drew (Below.refl _ _))).setCell (.inl HSj.out.ob.2.1) _)
                    rw [← hw8] at hs8
                    rw [show (w6.setCell ⟨L.be, i * 9 + 7, none⟩ (.int .i64 c1)).drew = w8 from hw8.symm]
                    have hi8 : i < ((sj.modE i fun x => { x with pt := p1 }).modE i fun x => { x with cd := c1 }).es.length := by rw [modE_len, modE_len]; exact hin
                    have he8 : ((sj.modE i fun x => { x with pt := p1 }).modE i fun x => { x with cd := c1 }).ent i = { sj.ent i with pt := p1, cd := c1 } := by rw [modE_ent _ hi6, if_pos rfl, modE_ent _ hin, if_pos rfl]
                    have g8 : w8.cell? ⟨L.be, i * 9 + 8, none⟩ = some (.int .i64 p1) := hs8.ent i 8 hi8 (by decide) (by unfold entR; rw [he8]; rfl)
                    have gf : w8.frozen? ⟨L.be, i * 9 + 8, none⟩ = false := hs8.E.frozen _
                    have hs9 := hs8.putE i 8 hi8 (by decide) (.int .i64 (p1 % n)) (fun x => { x with pt := p1 % n }) ⟨rfl, rfl⟩ rfl
                    rw [modE_modE, modE_modE, modE_congr hin (g := giveUp (ticksF sj) (limitF sj) n) (by
                      unfold giveUp
                      rw [← HPT.out, ← HCD.out, ← HWT.out, ← HLI.out, HTK.out, ← HP1.out, HMN.out])] at hs9
                    have HS9 := Aside0.mk hs9
                    clear hw8 hs8 hs9 he8 hi8 zg7 zg8 zf7 HS6 HM6 HW6 HLM hq0 hq1 eq ea HCP
                    go_wp2
                    go_roundw
                    case rel => exact ⟨i + 1, sj.modE i (giveUp (ticksF sj) (limitF sj) n), by go_num, by omega, HTE, ⟨HGJ.out.trans HGU.out⟩, HCU, HS9, ⟨HM8.out.setCell (.inl HSj.out.ob.2.1) _⟩⟩
                    case measure => (simp [intOf] <;> omega)
                  · have b1 : (hh == (k : Int)) = false := by simpa using d1
                    clear d1
                    have HTE := Aside0.mk (show giveGo n (plainFr sk (k : Int) (i + 1)) sj = giveH sk (k : Int) by have := HTD.out; rw [if_neg (by rw [HGE.out, b1]; simp)] at this; exact this)
                    clear HTD HGE HPY HGT
                    go_wp2
                    go_roundw
                    case rel => exact ⟨i + 1, sj, by go_num, by omega, HTE, HGJ, HCj, HSj, HMj⟩
                    case measure => (simp [intOf] <;> omega)
            · have HE := Aside0.mk (show sj = giveH sk (k : Int) by have := HT.out; rw [plainFr_end sk _ (by rw [HEL.out]; exact hml)] at this; exact this)
              have HF2 := Aside0.mk (show giveFrom (s.H.toNat - (k + 1)) (k + 1) sj = giveF s by rw [HE.out]; exact HF1.out)
              clear HT
              go_wp2
              go_roundw
              case rel => exact ⟨k + 1, sj, by go_num, by omega, HF2, ⟨HGK.out.trans HGJ.out⟩, HCj, HSj, HMj⟩
              case measure => (simp [intOf] <;> omega)
    · have HE := Aside0.mk (show sk = giveF s by have := HF.out; rw [show s.H.toNat - k = 0 by omega] at this; exact this)
      clear HF
      go_wp2
      go_end0
      exact ⟨rfl, by rw [← HE.out]; exact HSk.out, HMk.out⟩
set_option maxRecDepth 100000 in
set_option maxHeartbeats 400000 in
theorem rgive_none {W : World} {own : Nat → Prop} {L : RLy} {s : SS} (h : RS W own L s) (hcr : s.cr = false) : Calls Try.prog 52 #[.pointer (some ⟨L.b, 0, none⟩)] W fun x w' => x = .returned (.tuple #[]) ∧ W = w' := by
  have c3 : W.cell? ⟨L.b, 3, none⟩ = some (.bool false) := by have := h.fld 3 rfl; rw [hcr] at this; exact this
  clear h hcr
  go_enter Try.func52, Try.ntmps52
  go_wp2
  refine bodyPost_ret (results_none rfl _ _ _) rfl ?_
  exact ⟨rfl, rfl⟩
end Go.Proofs.Ytdaadmjppikebaa.SC

/- SchedPlays, plain: what a hart's queue holds, with removals; a removal in two passes. -/
namespace Go.Proofs.Ytdaadmjppikebaa.SC
open Go.RowKit Go.Proofs.YtdaadmjppikebaaW.PrintWords Go.Proofs.YtdaadmjppikebaaW.PrintLast
open Go.Proofs.Ytdaadmjppikebaa.PV (S94 k94 S29 k29 rd_T94 rd_T29)
set_option linter.unusedVariables false
set_option linter.unusedSimpArgs false

theorem creditF2_q {s : SS} {i : Nat} (hi : i < s.ts.length) (rd : List Bool) (sm : Bool) (j : Nat) (e : Int) : e ∈ ((creditF2 s i rd sm).2.trn j).q ↔ e ∈ (s.trn j).q := by
  unfold creditF2
  by_cases hf : findQ s rd sm (s.trn i).q = -1
  · rw [if_pos hf]
  · rw [if_neg hf]
    show e ∈ ((s.modT i _).trn j).q ↔ _
    rw [modT_trn _ hi]
    by_cases c : i = j
    · subst c; rw [if_pos rfl]
    · rw [if_neg c]
theorem byCreditF_q {s : SS} (hw : Wf s) {i : Nat} (hi : i < s.ts.length) (rd : List Bool) (j : Nat) (e : Int) : e ∈ ((byCreditF s i rd).2.trn j).q ↔ e ∈ (s.trn j).q := by
  have hcu := (hw.tq i hi).2.2.2.2.2.2.2
  unfold byCreditF
  by_cases hc : 0 ≤ (s.trn i).cu
  · rw [if_pos hc]
    by_cases hg : goesOn s i rd = true
    · rw [if_pos hg]
    · rw [if_neg hg, creditF2_q (by simpa using hi), modT_trn _ hi]
      by_cases c : i = j
      · subst c; rw [if_pos rfl]; exact back_mem hcu hc e
      · rw [if_neg c]
  · rw [if_neg hc]
    exact creditF2_q hi rd _ j e
theorem byCreditF_in {s : SS} (hw : Wf s) {i : Nat} (hi : i < s.ts.length) (rd : List Bool) (h0 : 0 ≤ (byCreditF s i rd).1) : (byCreditF s i rd).1 ∈ (s.trn i).q := by
  have hcu := (hw.tq i hi).2.2.2.2.2.2.2
  have h2 : ∀ s' : SS, ∀ sm, 0 ≤ (creditF2 s' i rd sm).1 → (creditF2 s' i rd sm).1 ∈ (s'.trn i).q := fun s' sm h => by
    unfold creditF2 at h ⊢
    by_cases hf : findQ s' rd sm (s'.trn i).q = -1
    · rw [if_pos hf] at h
      have h' : (0 : Int) ≤ -1 := h
      omega
    · rw [if_neg hf]
      exact ((findQ_mem s' rd sm (s'.trn i).q).resolve_left hf).1
  unfold byCreditF at h0 ⊢
  by_cases hc : 0 ≤ (s.trn i).cu
  · rw [if_pos hc] at h0 ⊢
    by_cases hg : goesOn s i rd = true
    · rw [if_pos hg]; exact hcu hc
    · rw [if_neg hg] at h0 ⊢
      have := h2 _ _ h0
      rw [modT_trn _ hi, if_pos rfl] at this
      exact (back_mem hcu hc _).1 this
  · rw [if_neg hc] at h0 ⊢
    exact h2 s _ h0
theorem pickF_q {s : SS} (hw : Wf s) (h : Int) (rd : List Bool) (j : Nat) (e : Int) : e ∈ ((pickF s h rd).2.trn j).q ↔ e ∈ (s.trn j).q := by
  have hH := hw.tn
  unfold pickF
  by_cases h0 : h < 0 ∨ s.H ≤ h
  · rw [if_pos h0]
  · rw [if_neg h0]
    by_cases hg : 0 ≤ gangF s
    · rw [if_pos hg]
    · rw [if_neg hg]
      by_cases hc : s.cr = true
      · rw [if_pos hc]; exact byCreditF_q hw (by omega) rd j e
      · rw [if_neg hc]
/-- What a hart's queue holds is the hart's own, plain, and not gone; credits are within their bounds. -/
structure QX (s : SS) : Prop where
  q : ∀ h : Nat, h < s.ts.length → ∀ e : Int, e ∈ (s.trn h).q → e ∈ plainL s h ∧ (s.ent e.toNat).gn = false
  c : CI s
theorem q_of {s s' : SS} (h : ∀ h : Nat, h < s.ts.length → ∀ e : Int, e ∈ (s.trn h).q → e ∈ plainL s h ∧ (s.ent e.toNat).gn = false) (st : St s s') (hq : ∀ i, i < s.ts.length → ∀ e, e ∈ (s'.trn i).q → e ∈ (s.trn i).q) (hg : ∀ i, (s'.ent i).gn = (s.ent i).gn) : ∀ h : Nat, h < s'.ts.length → ∀ e : Int, e ∈ (s'.trn h).q → e ∈ plainL s' h ∧ (s'.ent e.toNat).gn = false := by
  intro i hi e he
  have hi' : i < s.ts.length := by rw [← st.tl]; exact hi
  rw [st.plain, hg]
  exact h i hi' e (hq i hi' e he)
theorem QX.give {s : SS} (hw : Wf s) (h : QX s) : QX (giveF s) := by
  have hg := giveF_gk hw
  exact ⟨q_of h.q hg.st (fun i hi e he => by unfold SS.trn at he ⊢; rw [hg.ts] at he; exact he) (fun i => (hg.gn i).1), h.c.giveFrom _ _ s hw⟩
theorem QX.pick {s : SS} (hw : Wf s) (h : QX s) (a : Int) (rd : List Bool) : QX (pickF s a rd).2 := by
  have hp := pickF_pk hw a rd
  have he : ∀ i, (pickF s a rd).2.ent i = s.ent i := fun i => by unfold SS.ent; rw [hp.es]
  exact ⟨q_of h.q hp.st (fun i hi e he => (pickF_q hw a rd i e).1 he) (fun i => by rw [he]), h.c.of hp.st (fun i hi => by rw [he])⟩
theorem tickH_qx {s : SS} (hw : Wf s) {g : Int} (hg : g = gangF s) {h : Nat} (hh : (h : Int) < s.H) (rd : List Bool) (hI : QX s) : QX (tickH s g h rd) := by
  have hp := pickF_pk hw (h : Int) rd
  have hmem : g < 0 → s.cr = true → 0 ≤ (pickF s h rd).1 → (pickF s h rd).1 ∈ plainL s h := fun hg0 hc he => by
    have e : pickF s h rd = byCreditF s h rd := by unfold pickF; rw [if_neg (by omega), if_neg (by omega), if_pos hc, Int.toNat_natCast]
    rw [e] at he ⊢
    have htl : h < s.ts.length := by have := hw.tn; omega
    exact (hI.q h htl _ (byCreditF_in hw htl rd he)).1
  have hqq := (hI.pick hw (h : Int) rd).q
  obtain ⟨e, he⟩ : ∃ e, e = (pickF s h rd).1 := ⟨_, rfl⟩
  obtain ⟨s1, hs1⟩ : ∃ s1, s1 = (pickF s h rd).2 := ⟨_, rfl⟩
  have ht : tickH s g h rd = ranF (chargeF s1 g h e) g h e := by rw [he, hs1]; rfl
  rw [← he, ← hs1] at hp
  rw [← hs1] at hqq
  rw [← he] at hmem
  have hc := chargeF_tk hp.wf g h e
  have st1 := hp.st.trans hc.1.st
  have hent1 : ∀ i, (chargeF s1 g h e).ent i = s1.ent i := fun i => by unfold SS.ent; rw [hc.2.1]
  have q1 := q_of hqq hc.1.st (fun i hi x hx => by unfold SS.trn at hx ⊢; rw [hc.2.2] at hx; exact hx) (fun i => by rw [hent1])
  have hent : ∀ i, (chargeF s1 g h e).ent i = s.ent i := fun i => by rw [hent1]; unfold SS.ent; rw [hp.es]
  have c1 : CI (chargeF s1 g h e) := hI.c.of st1 (fun i hi => by rw [hent])
  have htl : h < (chargeF s1 g h e).ts.length := by rw [st1.tl]; have := hw.tn; omega
  rw [ht]
  have hgn : ∀ j, ((ranF (chargeF s1 g h e) g h e).ent j).gn = ((chargeF s1 g h e).ent j).gn := fun j => ranF_gn _ g h e j
  unfold ranF at hgn ⊢
  split at hgn
  · next hneg => rw [if_pos hneg]; exact ⟨q1, c1⟩
  · next hneg =>
    rw [if_neg hneg]
    split at hgn
    · next hcg =>
      rw [if_pos hcg]
      refine ⟨q_of q1 ((St.modE (chargeF s1 g h e) e.toNat (fun x => { x with rn := x.rn + 1, cd := max (x.cd - 1) (-limitF (chargeF s1 g h e)) }) (fun _ => ⟨rfl, rfl, rfl⟩)).trans (St.modT _ _ _)) (fun i hi x hx => ?_) hgn, ?_⟩
      · rw [modT_trn _ (by exact htl)] at hx
        by_cases c : h = i
        · subst c; rw [if_pos rfl] at hx; exact hx
        · rw [if_neg c] at hx; exact hx
      · have hcr : s.cr = true := by rw [← st1.cr]; exact hcg.1
        have hm := hmem hcg.2 hcr (by omega)
        obtain ⟨i, hi, hi2, _, hgn⟩ := plainTo_mem hm
        have hci := c1 e.toNat (by rw [st1.el]; omega)
        have hlim : 0 ≤ limitF (chargeF s1 g h e) := by unfold limitF; have := hc.1.wf.tk; omega
        have h2 : CI ((chargeF s1 g h e).modE e.toNat fun x => { x with rn := x.rn + 1, cd := max (x.cd - 1) (-limitF (chargeF s1 g h e)) }) := c1.modE e.toNat (by rw [st1.el]; omega) _ (fun _ => ⟨rfl, rfl, rfl⟩) (by rw [st1.gng, hi, Int.toNat_natCast]; exact hgn) (by simp only; omega)
        exact h2
    · next hcg =>
      rw [if_neg hcg]
      refine ⟨q_of q1 (St.modE _ _ _ (fun _ => ⟨rfl, rfl, rfl⟩)) (fun i hi x hx => hx) hgn, c1.of (St.modE _ _ _ (fun _ => ⟨rfl, rfl, rfl⟩)) (fun i hi => ?_)⟩
      by_cases c : e.toNat < (chargeF s1 g h e).es.length
      · rw [modE_ent _ c]
        by_cases c2 : e.toNat = i
        · subst c2; rw [if_pos rfl]
        · rw [if_neg c2]
      · rw [modE_out _ _ c]
theorem tickFrom_qx (g : Int) (rd : List Bool) : ∀ (f h : Nat) (s : SS) (k : Int), Wf s → g = gangF s → ((h + f : Nat) : Int) ≤ s.H → CntC s k → CntR s k → QX s → QX (tickFrom g rd f h s)
  | 0, h, s, k, hw, _, _, hc, hr, hI => hI
  | f + 1, h, s, k, hw, hg, hh, hc, hr, hI => by
    obtain ⟨h1, h2, h3⟩ := tickH_tk hw hg (h := h) (by omega) rd hc hr
    exact tickFrom_qx g rd f (h + 1) (tickH s g h rd) (k + 1) h1.wf (by rw [h1.st.gang h1.now]; exact hg) (by rw [h1.st.H]; omega) h2 h3 (tickH_qx hw hg (by omega) rd hI)
theorem tickF_qx {s : SS} (rd : List Bool) (hw : Wf s) (hn : s.now < 4611686018427387904) (hc : CntC s 0) (hr : CntR s 0) (hI : QX s) : QX (tickF s rd) := by
  have hH1 := hw.H1
  obtain ⟨h1, h2, h3⟩ := tickFrom_tk (gangF s) rd s.H.toNat 0 s 0 hw rfl (by omega) hc hr
  have k1 := tickFrom_qx (gangF s) rd s.H.toNat 0 s 0 hw rfl (by omega) hc hr hI
  obtain ⟨e1, e2⟩ := tickE_wf h1.wf (gangF s) (by rw [h1.now]; exact hn)
  have k2 : QX (tickE (tickFrom (gangF s) rd s.H.toNat 0 s) (gangF s)) := ⟨k1.q, k1.c⟩
  show QX (if (tickE (tickFrom (gangF s) rd s.H.toNat 0 s) (gangF s)).now % (tickE (tickFrom (gangF s) rd s.H.toNat 0 s) (gangF s)).P = 0 ∧ (tickE (tickFrom (gangF s) rd s.H.toNat 0 s) (gangF s)).cr = true then giveF (tickE (tickFrom (gangF s) rd s.H.toNat 0 s) (gangF s)) else tickE (tickFrom (gangF s) rd s.H.toNat 0 s) (gangF s))
  split
  · exact k2.give e1
  · exact k2
/-- Two states of one making, alike in all that moves, are the same. -/
theorem ss_eq {s a b : SS} (ha : St s a) (hb : St s b) (hn : a.now = b.now) (hs : a.sh = b.sh) (hc : a.ch = b.ch) (he : ∀ i, i < s.es.length → a.ent i = b.ent i) (ht : ∀ i, i < s.ts.length → a.trn i = b.trn i) : a = b := by
  have h1 : a.es = b.es := by
    apply List.ext_getElem?
    intro i
    by_cases c : i < s.es.length
    · have := he i c
      rw [ent_some (by rw [ha.el]; exact c), ent_some (by rw [hb.el]; exact c), this]
    · rw [List.getElem?_eq_none (by rw [ha.el]; omega), List.getElem?_eq_none (by rw [hb.el]; omega)]
  have h2 : a.ts = b.ts := by
    apply List.ext_getElem?
    intro i
    by_cases c : i < s.ts.length
    · have := ht i c
      rw [trn_some (by rw [ha.tl]; exact c), trn_some (by rw [hb.tl]; exact c), this]
    · rw [List.getElem?_eq_none (by rw [ha.tl]; omega), List.getElem?_eq_none (by rw [hb.tl]; omega)]
  cases a; cases b
  simp only at h1 h2 hn hs hc
  have e1 := ha.H.trans hb.H.symm; have e2 := ha.S.trans hb.S.symm; have e3 := ha.P.trans hb.P.symm; have e4 := ha.cr.trans hb.cr.symm; have e5 := ha.gs.trans hb.gs.symm
  simp only at e1 e2 e3 e4 e5
  subst h1 h2 hn hs hc e1 e2 e3 e4 e5
  rfl
/-- First all that are the guest's are gone .. -/
def goneTo (s : SS) (g : Int) : Nat → SS
  | 0 => s
  | k + 1 => if (s.ent k).gu = g then (goneTo s g k).modE k goneF else goneTo s g k
/-- .. then each queue is made anew. -/
def cutT (s : SS) (t : ST) : ST := { t with q := t.q.filter (fun x => !(s.ent x.toNat).gn), cu := if 0 ≤ t.cu ∧ (s.ent t.cu.toNat).gn = true then -1 else t.cu }
def cutTo (s : SS) : Nat → SS
  | 0 => s
  | h + 1 => (cutTo s h).modT h (cutT s)
theorem goneTo_st (s : SS) (g : Int) : ∀ k, St s (goneTo s g k)
  | 0 => St.refl s
  | k + 1 => by
    show St s (if _ then _ else _)
    split
    · exact (goneTo_st s g k).trans (St.modE _ _ _ (fun _ => ⟨rfl, rfl, rfl⟩))
    · exact goneTo_st s g k
theorem goneTo_rest (s : SS) (g : Int) : ∀ k, (goneTo s g k).ts = s.ts ∧ (goneTo s g k).now = s.now ∧ (goneTo s g k).sh = s.sh ∧ (goneTo s g k).ch = s.ch
  | 0 => ⟨rfl, rfl, rfl, rfl⟩
  | k + 1 => by
    have ih := goneTo_rest s g k
    show (if _ then _ else _ : SS).ts = _ ∧ (if _ then _ else _ : SS).now = _ ∧ (if _ then _ else _ : SS).sh = _ ∧ (if _ then _ else _ : SS).ch = _
    split <;> exact ih
theorem goneTo_ent (s : SS) (g : Int) : ∀ k, k ≤ s.es.length → ∀ j, (goneTo s g k).ent j = if j < k ∧ (s.ent j).gu = g then goneF (s.ent j) else s.ent j
  | 0, _, j => by rw [if_neg (fun h => by omega)]; rfl
  | k + 1, hk, j => by
    have ih := goneTo_ent s g k (by omega)
    have hl : k < (goneTo s g k).es.length := by rw [(goneTo_st s g k).el]; omega
    show (if _ then _ else _ : SS).ent j = _
    by_cases c : (s.ent k).gu = g
    · rw [if_pos c, modE_ent _ hl]
      by_cases e : k = j
      · subst e; rw [if_pos rfl, if_pos ⟨by omega, c⟩, ih, if_neg (fun h => by omega)]
      · rw [if_neg e, ih]
        by_cases c2 : j < k ∧ (s.ent j).gu = g
        · rw [if_pos c2, if_pos ⟨by omega, c2.2⟩]
        · rw [if_neg c2, if_neg (fun h => c2 ⟨by omega, h.2⟩)]
    · rw [if_neg c, ih]
      by_cases c2 : j < k ∧ (s.ent j).gu = g
      · rw [if_pos c2, if_pos ⟨by omega, c2.2⟩]
      · rw [if_neg c2, if_neg (fun h => by
          by_cases e : j = k
          · subst e; exact c h.2
          · exact c2 ⟨by omega, h.2⟩)]
theorem cutTo_st (s : SS) : ∀ h, St s (cutTo s h)
  | 0 => St.refl s
  | h + 1 => (cutTo_st s h).trans (St.modT _ _ _)
theorem cutTo_rest (s : SS) : ∀ h, (cutTo s h).es = s.es ∧ (cutTo s h).now = s.now ∧ (cutTo s h).sh = s.sh ∧ (cutTo s h).ch = s.ch
  | 0 => ⟨rfl, rfl, rfl, rfl⟩
  | h + 1 => cutTo_rest s h
theorem cutTo_trn (s : SS) : ∀ h, h ≤ s.ts.length → ∀ i, (cutTo s h).trn i = if i < h then cutT s (s.trn i) else s.trn i
  | 0, _, i => by rw [if_neg (by omega)]; rfl
  | h + 1, hh, i => by
    have hl : h < (cutTo s h).ts.length := by rw [(cutTo_st s h).tl]; omega
    show ((cutTo s h).modT h (cutT s)).trn i = _
    rw [modT_trn _ hl, cutTo_trn s h (by omega), cutTo_trn s h (by omega)]
    by_cases e : h = i
    · subst e; rw [if_pos rfl, if_neg (by omega), if_pos (by omega)]
    · rw [if_neg e]
      by_cases c : i < h
      · rw [if_pos c, if_pos (by omega)]
      · rw [if_neg c, if_neg (by omega)]
theorem removeE_ent {s : SS} (g i : Nat) (hi : i < s.es.length) (j : Nat) : (removeE s g i).ent j = if i = j ∧ (s.ent i).gu = (g : Int) then goneF (s.ent j) else s.ent j := by
  unfold removeE
  have h1 : (s.modE i goneF).ent j = if i = j then goneF (s.ent j) else s.ent j := by
    rw [modE_ent _ hi]
    by_cases c : i = j
    · subst c; simp
    · rw [if_neg c, if_neg c]
  by_cases hg : (s.ent i).gu = (g : Int)
  · rw [if_pos hg]
    have e : (if s.gng i = true then s.modE i goneF else (s.modE i goneF).modT (homeOf s i).toNat (outC i)).ent j = (s.modE i goneF).ent j := by split <;> rfl
    rw [e, h1]
    by_cases c : i = j
    · rw [if_pos c, if_pos ⟨c, hg⟩]
    · rw [if_neg c, if_neg (fun h => c h.1)]
  · rw [if_neg hg, if_neg (fun h => hg h.2)]
theorem removeTo_ent {s : SS} (hw : Wf s) (g : Nat) : ∀ k, k ≤ s.es.length → ∀ j, (removeTo s g k).ent j = if j < k ∧ (s.ent j).gu = (g : Int) then goneF (s.ent j) else s.ent j
  | 0, _, j => by rw [if_neg (fun h => by omega)]; rfl
  | k + 1, hk, j => by
    have ih := removeTo_ent hw g k (by omega)
    have hst := (removeTo_re hw g k (by omega)).1.st
    show (removeE (removeTo s g k) g k).ent j = _
    rw [removeE_ent g k (by rw [hst.el]; omega), (hst.en k).1, ih]
    by_cases e : k = j
    · subst e
      by_cases c : (s.ent k).gu = (g : Int)
      · rw [if_neg (show ¬ (k < k ∧ (s.ent k).gu = (g : Int)) from fun h => by omega), if_pos (show k = k ∧ (s.ent k).gu = (g : Int) from ⟨rfl, c⟩), if_pos (show k < k + 1 ∧ (s.ent k).gu = (g : Int) from ⟨by omega, c⟩)]
      · rw [if_neg (fun h => c h.2), if_neg (fun h => c h.2), if_neg (fun h => by omega)]
    · rw [if_neg (fun h => e h.1)]
      by_cases c : j < k ∧ (s.ent j).gu = (g : Int)
      · rw [if_pos c, if_pos ⟨by omega, c.2⟩]
      · rw [if_neg c, if_neg (fun h => c ⟨by omega, h.2⟩)]
/-- Is an entity of the guest's, and below k? -/
def hit (s : SS) (g : Int) (k : Nat) (x : Int) : Bool := decide (x.toNat < k) && decide ((s.ent x.toNat).gu = g)
def cutQ (s : SS) (g : Int) (k : Nat) (t : ST) : ST := { t with q := t.q.filter (fun x => !hit s g k x), cu := if 0 ≤ t.cu ∧ hit s g k t.cu = true then -1 else t.cu }
theorem hit_succ (s : SS) (g : Int) (k : Nat) {x : Int} (h : x.toNat = k → (s.ent k).gu ≠ g) : hit s g (k + 1) x = hit s g k x := by
  unfold hit
  by_cases e : x.toNat = k
  · rw [e, decide_eq_false (h e), Bool.and_false, Bool.and_false]
  · have : decide (x.toNat < k + 1) = decide (x.toNat < k) := by
      by_cases c : x.toNat < k
      · rw [decide_eq_true c, decide_eq_true (by omega)]
      · rw [decide_eq_false c, decide_eq_false (by omega)]
    rw [this]
theorem cutQ_succ {s : SS} {g : Int} {k : Nat} {t : ST} (h : ∀ x ∈ t.q, x.toNat = k → (s.ent k).gu ≠ g) (hc : 0 ≤ t.cu → t.cu ∈ t.q) : cutQ s g (k + 1) t = cutQ s g k t := by
  have h1 : t.q.filter (fun x => !hit s g (k + 1) x) = t.q.filter (fun x => !hit s g k x) := List.filter_congr (fun x hx => by rw [hit_succ s g k (h x hx)])
  have h2 : (if 0 ≤ t.cu ∧ hit s g (k + 1) t.cu = true then (-1 : Int) else t.cu) = if 0 ≤ t.cu ∧ hit s g k t.cu = true then -1 else t.cu := by
    by_cases c : 0 ≤ t.cu
    · rw [hit_succ s g k (h _ (hc c))]
    · rw [if_neg (fun h => c h.1), if_neg (fun h => c h.1)]
  unfold cutQ
  rw [h1, h2]
theorem removeTo_trn {s : SS} (hw : Wf s) (hx : QX s) (g : Nat) {i : Nat} (hi : i < s.ts.length) : ∀ k, k ≤ s.es.length → (removeTo s g k).trn i = cutQ s (g : Int) k (s.trn i)
  | 0, _ => by
    have h1 : (s.trn i).q.filter (fun x => !hit s g 0 x) = (s.trn i).q := List.filter_eq_self.2 (fun x _ => by unfold hit; simp)
    have h2 : hit s g 0 (s.trn i).cu = false := by unfold hit; simp
    unfold cutQ
    rw [h1, h2]
    simp [removeTo]
  | k + 1, hk => by
    have ih := removeTo_trn hw hx g hi k (by omega)
    have hre := (removeTo_re hw g k (by omega)).1
    have hst := hre.st
    have hkl : k < (removeTo s g k).es.length := by rw [hst.el]; omega
    have hcu := (hw.tq i hi).2.2.2.2.2.2.2
    have hq := hx.q i hi
    have hq0 : ∀ x ∈ (s.trn i).q, x.toNat = k → x = (k : Int) ∧ homeOf s k = (i : Int) ∧ s.gng k = false := fun x hxq e => by
      obtain ⟨j, rfl, _, h1, h2⟩ := plainTo_mem (hq x hxq).1
      rw [Int.toNat_natCast] at e
      subst e
      exact ⟨rfl, h1, h2⟩
    show (removeE (removeTo s g k) g k).trn i = _
    unfold removeE
    rw [(hst.en k).1, hst.gng, hst.home]
    by_cases c : (s.ent k).gu = (g : Int)
    · rw [if_pos c]
      by_cases c2 : s.gng k = true
      · rw [if_pos c2]
        show (removeTo s g k).trn i = _
        rw [ih, cutQ_succ (fun x hxq e => by rw [(hq0 x hxq e).2.2] at c2; cases c2) hcu]
      · rw [if_neg c2]
        have hr := home_range hw (show k < s.es.length by omega)
        have htl : (homeOf s k).toNat < ((removeTo s g k).modE k goneF).ts.length := by have := hw.tn; show _ < (removeTo s g k).ts.length; rw [hst.tl]; omega
        rw [modT_trn _ htl]
        have e1 : ∀ j, ((removeTo s g k).modE k goneF).trn j = (removeTo s g k).trn j := fun _ => rfl
        rw [e1, e1]
        by_cases c3 : (homeOf s k).toNat = i
        · rw [if_pos c3, c3, ih]
          have hz : ∀ x ∈ (s.trn i).q, (!hit s g (k + 1) x) = ((!hit s g k x) && (x != (k : Int))) := fun x hxq => by
            have h0 : 0 ≤ x := by obtain ⟨j, rfl, _⟩ := plainTo_mem (hq x hxq).1; omega
            by_cases e : x.toNat = k
            · have e2 : x = (k : Int) := (hq0 x hxq e).1
              subst e2
              unfold hit
              rw [Int.toNat_natCast, decide_eq_true c, decide_eq_true (by omega : k < k + 1)]
              simp
            · rw [hit_succ s g k (fun h => absurd h e)]
              have : (x != (k : Int)) = true := by simp; omega
              rw [this, Bool.and_true]
          have h1 : (s.trn i).q.filter (fun x => !hit s g (k + 1) x) = ((s.trn i).q.filter (fun x => !hit s g k x)).filter (fun x => x != (k : Int)) := by
            rw [List.filter_filter]
            exact List.filter_congr (fun x hxq => by rw [hz x hxq, Bool.and_comm])
          have h2 : (if 0 ≤ (s.trn i).cu ∧ hit s g (k + 1) (s.trn i).cu = true then (-1 : Int) else (s.trn i).cu) = (if (if 0 ≤ (s.trn i).cu ∧ hit s g k (s.trn i).cu = true then (-1 : Int) else (s.trn i).cu) = (k : Int) then -1 else (if 0 ≤ (s.trn i).cu ∧ hit s g k (s.trn i).cu = true then (-1 : Int) else (s.trn i).cu)) := by
            by_cases c4 : 0 ≤ (s.trn i).cu
            · have := hz _ (hcu c4)
              by_cases c5 : hit s g k (s.trn i).cu = true
              · rw [c5] at this
                have c6 : hit s g (k + 1) (s.trn i).cu = true := by simpa using this
                rw [if_pos (show 0 ≤ (s.trn i).cu ∧ hit s g (k + 1) (s.trn i).cu = true from ⟨c4, c6⟩), if_pos (show 0 ≤ (s.trn i).cu ∧ hit s g k (s.trn i).cu = true from ⟨c4, c5⟩), if_neg (by omega)]
              · rw [if_neg (fun h => c5 h.2 : ¬ (0 ≤ (s.trn i).cu ∧ hit s g k (s.trn i).cu = true))]
                by_cases c7 : (s.trn i).cu = (k : Int)
                · have c6 : hit s g (k + 1) (s.trn i).cu = true := by
                    rw [c7] at this ⊢
                    simpa using this
                  rw [if_pos (show 0 ≤ (s.trn i).cu ∧ hit s g (k + 1) (s.trn i).cu = true from ⟨c4, c6⟩), if_pos c7]
                · have c6 : ¬ hit s g (k + 1) (s.trn i).cu = true := by
                    have h8 : ((s.trn i).cu != (k : Int)) = true := by simpa using c7
                    rw [h8, Bool.and_true] at this
                    intro h9
                    rw [h9] at this
                    have h10 : hit s g k (s.trn i).cu = false := by simpa using c5
                    rw [h10] at this
                    cases this
                  rw [if_neg (show ¬ (0 ≤ (s.trn i).cu ∧ hit s g (k + 1) (s.trn i).cu = true) from fun h => c6 h.2), if_neg c7]
            · rw [if_neg (show ¬ (0 ≤ (s.trn i).cu ∧ hit s g (k + 1) (s.trn i).cu = true) from fun h => c4 h.1), if_neg (show ¬ (0 ≤ (s.trn i).cu ∧ hit s g k (s.trn i).cu = true) from fun h => c4 h.1), if_neg (by omega)]
          show outC k (cutQ s g k (s.trn i)) = _
          unfold outC cutQ
          simp only
          rw [h1, h2]
        · rw [if_neg c3, ih, cutQ_succ (fun x hxq e => by have := (hq0 x hxq e).2.1; omega) hcu]
    · rw [if_neg c, ih, cutQ_succ (fun x hxq e => c) hcu]
theorem cutQ_all {s : SS} (hw : Wf s) (hx : QX s) (g : Int) {i : Nat} (hi : i < s.ts.length) : cutQ s g s.es.length (s.trn i) = cutT (goneTo s g s.es.length) (s.trn i) := by
  have hcu := (hw.tq i hi).2.2.2.2.2.2.2
  have hr := (hw.tq i hi).1
  have hz : ∀ x ∈ (s.trn i).q, ((goneTo s g s.es.length).ent x.toNat).gn = hit s g s.es.length x := fun x hxq => by
    have h1 := hr x hxq
    have h2 := (hx.q i hi x hxq).2
    rw [goneTo_ent s g _ (Nat.le_refl _)]
    unfold hit
    rw [decide_eq_true (by omega : x.toNat < s.es.length), Bool.true_and]
    by_cases c : (s.ent x.toNat).gu = g
    · rw [if_pos ⟨by omega, c⟩, decide_eq_true c]; rfl
    · rw [if_neg (fun h => c h.2), decide_eq_false c]; exact h2
  have h1 : (s.trn i).q.filter (fun x => !hit s g s.es.length x) = (s.trn i).q.filter (fun x => !((goneTo s g s.es.length).ent x.toNat).gn) := List.filter_congr (fun x hxq => by rw [hz x hxq])
  have h2 : (if 0 ≤ (s.trn i).cu ∧ hit s g s.es.length (s.trn i).cu = true then (-1 : Int) else (s.trn i).cu) = if 0 ≤ (s.trn i).cu ∧ ((goneTo s g s.es.length).ent (s.trn i).cu.toNat).gn = true then -1 else (s.trn i).cu := by
    by_cases c : 0 ≤ (s.trn i).cu
    · rw [hz _ (hcu c)]
    · rw [if_neg (fun h => c h.1), if_neg (fun h => c h.1)]
  unfold cutQ cutT
  rw [h1, h2]
/-- What a removal makes of a state. -/
def removeI (s : SS) (g : Int) : SS := if 0 ≤ g then removeTo s g.toNat s.es.length else s
theorem cut_gone {s : SS} (hw : Wf s) (hx : QX s) (g : Int) : cutTo (goneTo s g s.es.length) s.ts.length = removeI s g := by
  have hgs := goneTo_st s g s.es.length
  have hgr := goneTo_rest s g s.es.length
  have hcs := cutTo_st (goneTo s g s.es.length) s.ts.length
  have hcr := cutTo_rest (goneTo s g s.es.length) s.ts.length
  have htr : ∀ i, i < s.ts.length → (cutTo (goneTo s g s.es.length) s.ts.length).trn i = cutQ s g s.es.length (s.trn i) := fun i hi => by
    rw [cutTo_trn _ _ (by rw [hgs.tl]; exact Nat.le_refl _), if_pos hi, cutQ_all hw hx g hi]
    congr 1
    unfold SS.trn; rw [hgr.1]
  have hen : ∀ i, (cutTo (goneTo s g s.es.length) s.ts.length).ent i = (goneTo s g s.es.length).ent i := fun i => by unfold SS.ent; rw [hcr.1]
  unfold removeI
  by_cases h0 : 0 ≤ g
  · rw [if_pos h0]
    obtain ⟨n, rfl⟩ := Int.eq_ofNat_of_zero_le h0
    have hre := (removeTo_re hw n s.es.length (Nat.le_refl _)).1
    rw [Int.toNat_natCast]
    refine ss_eq (hgs.trans hcs) hre.st ((hcr.2.1.trans hgr.2.1).trans hre.now.symm) ((hcr.2.2.1.trans hgr.2.2.1).trans hre.sh.symm) ((hcr.2.2.2.trans hgr.2.2.2).trans hre.ch.symm) (fun i hi => ?_) (fun i hi => ?_)
    · rw [hen, goneTo_ent s _ _ (Nat.le_refl _), removeTo_ent hw n _ (Nat.le_refl _)]
    · rw [htr i hi, removeTo_trn hw hx n hi _ (Nat.le_refl _)]
  · rw [if_neg h0]
    have hne : ∀ i, i < s.es.length → (s.ent i).gu ≠ g := fun i hi => by have := (hw.eg i hi).1; omega
    refine ss_eq (hgs.trans hcs) (St.refl s) (hcr.2.1.trans hgr.2.1) (hcr.2.2.1.trans hgr.2.2.1) (hcr.2.2.2.trans hgr.2.2.2) (fun i hi => ?_) (fun i hi => ?_)
    · rw [hen, goneTo_ent s _ _ (Nat.le_refl _), if_neg (fun h => hne i hi h.2)]
    · rw [htr i hi]
      have hr := (hw.tq i hi).1
      have hcu := (hw.tq i hi).2.2.2.2.2.2.2
      have hz : ∀ x ∈ (s.trn i).q, hit s g s.es.length x = false := fun x hxq => by
        have h1 := hr x hxq
        unfold hit
        rw [decide_eq_false (hne x.toNat (by omega)), Bool.and_false]
      unfold cutQ
      rw [List.filter_eq_self.2 (fun x hxq => by rw [hz x hxq]; rfl), if_neg (fun h => by rw [hz _ (hcu h.1)] at h; exact absurd h.2 (by decide))]
theorem removeI_re {s : SS} (hw : Wf s) (g : Int) : RE s (removeI s g) := by
  unfold removeI
  split
  · exact (removeTo_re hw _ _ (Nat.le_refl _)).1
  · exact RE.refl hw
theorem QX.remove {s : SS} (hw : Wf s) (hx : QX s) (g : Int) : QX (removeI s g) := by
  have hre := removeI_re hw g
  unfold removeI at hre ⊢
  by_cases h0 : 0 ≤ g
  · rw [if_pos h0] at hre ⊢
    have he := fun j => removeTo_ent hw g.toNat s.es.length (Nat.le_refl _) j
    refine ⟨fun i hi e hem => ?_, hx.c.of hre.st (fun i hi => ?_)⟩
    · have hi' : i < s.ts.length := by rw [← hre.st.tl]; exact hi
      rw [removeTo_trn hw hx _ hi' _ (Nat.le_refl _)] at hem
      have hem2 := List.mem_filter.1 hem
      have h1 := hx.q i hi' e hem2.1
      have h2 := (hw.tq i hi').1 e hem2.1
      rw [hre.st.plain]
      refine ⟨h1.1, ?_⟩
      rw [he]
      have h3 : hit s (g.toNat : Int) s.es.length e = false := by simpa using hem2.2
      unfold hit at h3
      rw [decide_eq_true (by omega : e.toNat < s.es.length), Bool.true_and] at h3
      rw [if_neg (fun h => by rw [decide_eq_true h.2] at h3; cases h3)]
      exact h1.2
    · rw [he]
      split <;> rfl
  · rw [if_neg h0]; exact hx
theorem remove_out {s : SS} {g : Nat} (h : ∀ i, i < s.es.length → (s.ent i).gu ≠ (g : Int)) : ∀ k, k ≤ s.es.length → removeTo s g k = s
  | 0, _ => rfl
  | k + 1, hk => by
    show removeE (removeTo s g k) g k = s
    rw [remove_out h k (by omega)]
    unfold removeE
    rw [if_neg (h k (by omega))]
theorem newF_qx {m : Nat} {S P : Int} {cr : Bool} {gl : List S94} (hok : NOk m S P gl) : QX (newF m S P cr gl) := by
  have hw := newS1_wf (cr := cr) hok
  have h1 := newS1_cq (cr := cr) hok
  have hg : ∀ i, ((newS1 m S P cr gl).ent i).gn = false := fun i => by
    by_cases hi : i < (entsL 0 gl).length
    · obtain ⟨j, x, k, h1, h2, h3⟩ := new_ent (m := m) (S := S) (P := P) (cr := cr) hi
      have e : (newS1 m S P cr gl).ent i = (newS0 m S P cr gl).ent i := rfl
      rw [e, h3]
    · have e : (newS1 m S P cr gl).ent i = e0 := by
        show (entsL 0 gl).getD i e0 = e0
        rw [List.getD_eq_getElem?_getD, List.getElem?_eq_none (by omega)]; rfl
      rw [e]; rfl
  have h2 : QX (newS1 m S P cr gl) := ⟨fun i hi e he => ⟨(h1.q i hi e).1 he, hg _⟩, h1.c⟩
  unfold newF
  split
  · exact h2.give hw
  · exact h2
end Go.Proofs.Ytdaadmjppikebaa.SC

/- SchedPlays: the document's Remove. -/
namespace Go.Proofs.Ytdaadmjppikebaa.SC
open Go.RowKit Go.Proofs.YtdaadmjppikebaaW.PrintWords Go.Proofs.YtdaadmjppikebaaW.PrintLast
open Go.Proofs.Ytdaadmjppikebaa.PV (S94 k94 S29 k29 rd_T94 rd_T29)
set_option linter.unusedVariables false
set_option linter.unusedSimpArgs false

theorem take_filter2 (p : Int → Bool) (l : List Int) (k : Nat) (hk : k < l.length) : (l.take (k + 1)).filter p = (l.take k).filter p ++ (if p (rd l k) = true then [rd l k] else []) := by
  rw [List.take_add_one, List.filter_append]
  congr 1
  have : l[k]? = some (rd l k) := by unfold rd; rw [Int.toNat_natCast, List.getD_eq_getElem?_getD, List.getElem?_eq_getElem hk]; rfl
  rw [this]
  simp [List.filter_cons]
set_option maxRecDepth 100000 in
set_option maxHeartbeats 6400000 in
theorem rremove_calls {W : World} {own : Nat → Prop} {L : RLy} {s : SS} (h : RS W own L s) (hw : Wf s) (hx : QX s) (g : Int) :
    Calls Try.prog 35 #[.pointer (some ⟨L.b, 0, none⟩), .int .i64 g] W fun x w' => x = .returned (.tuple #[]) ∧ RPost W own L (removeI s g) w' := by
  have HR := Aside0.mk h
  have HW := Aside0.mk hw
  have HX := Aside0.mk hx
  have hem := hw.em
  have hH1 := hw.H1
  have hH8 := hw.H8
  have htn := hw.tn
  have hcap := h.cap
  clear h hw hx
  go_enter Try.func35, Try.ntmps35
  go_wp2_with (fail)
  go_loopw [4] (fun v4 w' => ∃ k : Nat, v4 = .int .i64 (k : Int) ∧ k ≤ s.es.length ∧ Aside0 (RS w' own L (goneTo s g k)) ∧ Aside0 (Mut own W w')) (fun v4 _ => s.es.length - (intOf v4).toNat)
  case atStart => exact ⟨0, rfl, Nat.zero_le _, HR, ⟨Mut.refl _ _⟩⟩
  case round =>
    obtain ⟨k, rfl, hk, HS, HM⟩ := hrel
    have HST := Aside0.mk (goneTo_st s g k)
    have c5 : wr.cell? ⟨L.b, 5, none⟩ = some (.slice (some ⟨L.be, 0, none⟩) s.es.length L.ce) := by have := HS.out.fld 5 rfl; rw [HST.out.el] at this; exact this
    by_cases hlt : k < s.es.length
    · have hkl : k < (goneTo s g k).es.length := by rw [HST.out.el]; exact hlt
      have hT : goneTo s g (k + 1) = if (s.ent k).gu = g then (goneTo s g k).modE k goneF else goneTo s g k := rfl
      have y0 : wr.cell? ⟨L.be, k * 9, none⟩ = some (.int .i64 (s.ent k).gu) := by have := HS.out.ent k 0 hkl (by decide) rfl; rw [(HST.out.en k).1] at this; exact this
      have yf : wr.frozen? ⟨L.be, k * 9 + 5, none⟩ = false := HS.out.E.frozen _
      have y5 := HS.out.ent k 5 hkl (by decide) rfl
      obtain ⟨v, hv⟩ : ∃ v, v = (s.ent k).gu := ⟨_, rfl⟩
      rw [← hv] at y0 hT
      clear hv
      by_cases hg : v = g
      · have b1 : (v == g) = true := by simpa using hg
        have HS2 := Aside0.mk (HS.out.putE k 5 hkl (by decide) (.bool true) goneF ⟨rfl, rfl⟩ rfl)
        rw [if_pos hg] at hT
        rw [← hT] at HS2
        clear hg hT
        go_wp2
        go_roundw
        case rel => exact ⟨k + 1, by go_num, by omega, HS2, ⟨HM.out.setCell (.inl HR.out.ob.2.1) _⟩⟩
        case measure => (simp [intOf] <;> omega)
      · have b1 : (v == g) = false := by simpa using hg
        rw [if_neg hg] at hT
        have HS2 := HS
        rw [← hT] at HS2
        clear hg hT
        go_wp2
        go_roundw
        case rel => exact ⟨k + 1, by go_num, by omega, HS2, HM⟩
        case measure => (simp [intOf] <;> omega)
    · obtain rfl : k = s.es.length := by omega
      have HCG := Aside0.mk (cut_gone HW.out HX.out g)
      have HGR := Aside0.mk (goneTo_rest s g s.es.length)
      obtain ⟨s1, hs1⟩ : ∃ s1, s1 = goneTo s g s.es.length := ⟨_, rfl⟩
      rw [← hs1] at HS HST HCG HGR
      have HTS := Aside0.mk (show ∀ i, s1.trn i = s.trn i from fun i => by unfold SS.trn; rw [HGR.out.1])
      clear hs1
      go_wp2
      go_loopw [5] (fun v5 w' => ∃ (k : Nat) (own1 : Nat → Prop) (qs1 : List Value), v5 = .int .i64 (k : Int) ∧ (k : Int) ≤ s.H ∧ Aside0 (RS w' own1 { L with qs := qs1 } (cutTo s1 k)) ∧ Aside0 (Mut own W w') ∧ Aside0 (∀ k, own k → own1 k) ∧ Aside0 (∀ k, own1 k → own k ∨ W.heap.size ≤ k)) (fun v5 _ => s.H.toNat - (intOf v5).toNat)
      case atStart => exact ⟨0, own, L.qs, rfl, by omega, HS, HM, ⟨fun _ h => h⟩, ⟨fun _ h => .inl h⟩⟩
      case round =>
        clear c5
        obtain ⟨h, own1, qs1, rfl, hk, HS, HM, HO1, HO2⟩ := hrel
        have HSC := Aside0.mk (cutTo_st s1 h)
        have HCR := Aside0.mk (cutTo_rest s1 h)
        have c0 : wr.cell? ⟨L.b, 0, none⟩ = some (.int .i64 s.H) := by have := HS.out.fld 0 rfl; rw [HSC.out.H, HST.out.H] at this; exact this
        by_cases hlt : (h : Int) < s.H
        · have hhl : h < s.ts.length := by omega
          have htr : (cutTo s1 h).trn h = s.trn h := by rw [cutTo_trn s1 h (by rw [HST.out.tl]; omega), if_neg (by omega), HTS.out]
          have HNX := Aside0.mk (show cutTo s1 (h + 1) = (cutTo s1 h).modT h (cutT s1) from rfl)
          obtain ⟨hl1, hl2, hl3, hl4, hl5, hl6, hl7, hl8⟩ := HW.out.tq h hhl
          have hsl : h < (cutTo s1 h).ts.length := by rw [HSC.out.tl, HST.out.tl]; exact hhl
          have hel : (cutTo s1 h).es.length = s.es.length := by rw [HSC.out.el, HST.out.el]
          have hent : ∀ i, (cutTo s1 h).ent i = s1.ent i := fun i => by unfold SS.ent; rw [HCR.out.1]
          obtain ⟨sk, hsk⟩ : ∃ sk, sk = cutTo s1 h := ⟨_, rfl⟩
          rw [← hsk] at HS HSC htr HNX hsl hel hent
          have HEN := Aside0.mk hent
          have HTR := Aside0.mk htr
          have HEL := Aside0.mk hel
          have HTL := Aside0.mk (show sk.ts.length = s.ts.length by rw [HSC.out.tl, HST.out.tl])
          clear hsk hent
          obtain ⟨l, hl⟩ : ∃ l, l = (s.trn h).q := ⟨_, rfl⟩
          obtain ⟨cu, hcu⟩ : ∃ cu, cu = (s.trn h).cu := ⟨_, rfl⟩
          rw [← hl] at hl1 hl2
          rw [← hcu] at hl4 hl5
          have HL := Aside0.mk hl
          have HCU := Aside0.mk hcu
          have HL1 := Aside0.mk hl1
          clear hl hcu hl1 hl3 hl6 hl7 hl8 htr hel HCR
          obtain ⟨wk, hwk⟩ : ∃ wk, wk = wr := ⟨_, rfl⟩
          rw [← hwk] at HS HM c0 ⊢
          clear hwk
          go_upto_region 9 with (fail)
          go_wp2
          go_loopw [6, 7] (fun v6 v7 w' => ∃ k : Nat, v7 = .int .i64 (k : Int) ∧ k ≤ l.length ∧ Aside0 (Kd.R (Kd.int .i64) 3 w' wk.heap.size (fun _ => True) v6 ((l.take k).filter fun x => !(s1.ent x.toNat).gn)) ∧ Aside0 (Below wk.heap.size wk w')) (fun _ v7 _ => l.length - (intOf v7).toNat)
          case atStart => exact ⟨0, rfl, by omega, ⟨Kd.R_nil _ _ _ _ _⟩, ⟨Below.refl _ _⟩⟩
          case round =>
            obtain ⟨k, rfl, hk, HO, HB⟩ := hrel
            clear c0
            have HSr := Aside0.mk (HS.out.below HB.out)
            have c9 : wr.cell? ⟨L.b, 9, none⟩ = some (.slice (some ⟨L.bq, 0, none⟩) s.ts.length s.ts.length) := by have := HSr.out.fld 9 rfl; rw [HTL.out] at this; exact this
            obtain ⟨Aq, cq, cqc, hRq⟩ := HSr.out.que h hsl
            rw [HTR.out, ← HL.out] at cqc hRq
            obtain ⟨Aq2, cq2, eq, hcq, hCq⟩ := Kd.R_reads hRq
            injection eq with e1 _ e3
            subst e1 e3
            clear hRq
            by_cases hkl : k < l.length
            · obtain ⟨ad, e, hx⟩ := Kd.at_int hCq (k : Int) (by omega) (by omega)
              subst e
              rw [Int.toNat_natCast] at hx
              have hm := HL1.out _ (rd_mem hkl)
              have HT := Aside0.mk (take_filter2 (fun x => !(s1.ent x.toNat).gn) l k hkl)
              have HLE := Aside0.mk (show ((l.take k).filter fun x => !(s1.ent x.toNat).gn).length ≤ 64 by have := List.length_filter_le (fun x => !(s1.ent x.toNat).gn) (l.take k); simp at this ⊢; omega)
              obtain ⟨m, hme⟩ := Int.eq_ofNat_of_zero_le hm.1
              rw [hme] at hx hm HT
              have hml : m < s.es.length := by omega
              have hmk : m < sk.es.length := by rw [HEL.out]; exact hml
              have c5 : wr.cell? ⟨L.b, 5, none⟩ = some (.slice (some ⟨L.be, 0, none⟩) s.es.length L.ce) := by have := HSr.out.fld 5 rfl; rw [HEL.out] at this; exact this
              have y5 : wr.cell? ⟨L.be, m * 9 + 5, none⟩ = some (.bool (s1.ent m).gn) := by have := HSr.out.ent m 5 hmk (by decide) rfl; rw [HEN.out] at this; exact this
              have HT2 := Aside0.mk (show (l.take (k + 1)).filter (fun x => !(s1.ent x.toNat).gn) = (l.take k).filter (fun x => !(s1.ent x.toNat).gn) ++ (if (!(s1.ent m).gn) = true then [(m : Int)] else []) by have := HT.out; simpa using this)
              obtain ⟨gn, hgn⟩ : ∃ gn, gn = (s1.ent m).gn := ⟨_, rfl⟩
              rw [← hgn] at y5 HT2
              clear hgn hme hm HT hCq
              cases gn with
              | true =>
                have HPP := Aside0.mk (show (l.take (k + 1)).filter (fun x => !(s1.ent x.toNat).gn) = (l.take k).filter (fun x => !(s1.ent x.toNat).gn) by rw [HT2.out]; simp)
                clear HT2
                go_wp2_with (fail)
                go_quiet (fail)
                go_wp2
                go_roundw
                case rel => exact ⟨k + 1, by go_num, by omega, ⟨by rw [HPP.out]; exact Kd.R_drewN HO.out nq⟩, ⟨pw_below_drewN HB.out nq⟩⟩
                case measure => (simp [intOf] <;> omega)
              | false =>
                have HPP := Aside0.mk (show (l.take (k + 1)).filter (fun x => !(s1.ent x.toNat).gn) = (l.take k).filter (fun x => !(s1.ent x.toNat).gn) ++ [(m : Int)] by rw [HT2.out]; simp)
                clear HT2
                go_wp2_with (fail)
                go_quiet (fail)
                have HO0 := Aside0.mk (Kd.R_drewN HO.out nq)
                have HB0 := Aside0.mk (pw_below_drewN HB.out nq)
                obtain ⟨wq, hwq⟩ : ∃ wq, wq = wr.drewN nq := ⟨_, rfl⟩
                have d9 : wq.cell? ⟨L.b, 9, none⟩ = some (.slice (some ⟨L.bq, 0, none⟩) s.ts.length s.ts.length) := by rw [hwq]; exact c9
                have dq : wq.cell? ⟨L.bq, h, none⟩ = some (.slice (some ad) l.length cq) := by rw [hwq]; exact cqc
                have dx : wq.cell? (ad.add k) = some (.int .i64 (m : Int)) := by rw [hwq]; exact hx
                rw [← hwq] at HO0 HB0 ⊢
                clear hwq c9 cqc hx HO HB HSr c5 y5
                go_wp2_with (first | ((with_reducible refine gate_builtin (b := .append) (xs := #[.tmp 73, .tmp 84]) rfl ?_); go_loud (at_builtin; refine Kd.R_append (Kd.int .i64) (w0 := wk) wk.heap.size rfl (.tmp 73) (.tmp 84) 22 3 (.int .i64 0) 8 rfl Try.underlying22 info3 rfl (by decide) (by omega) u6 ((l.take k).filter fun x => !(s1.ent x.toNat).gn) ((m : Int)) [.int .i64 ((m : Int))] (fun _ => True) (fun _ => False) rfl rfl ?aP (fun _ hk => hk.elim) ?aF ?aO ?aB ?aS ?aL ?_; (case aP => exact rfl); (case aF => exact (fun _ _ => trivial)); (case aO => exact HO0.out); (case aB => exact HB0.out); (case aS => exact (HB0.out).size); (case aL => have := HLE.out; simp; omega); intro v1 w1 ho hbb hg hat; have HO2 := Aside0.mk ho; have HB2 := Aside0.mk hbb; clear ho hbb hg hat)) | fail)
                go_roundw
                case rel => exact ⟨k + 1, by go_num, by omega, ⟨by rw [HPP.out]; exact HO2.out⟩, HB2⟩
                case measure => (simp [intOf] <;> omega)
            · obtain rfl : k = l.length := by omega
              rw [List.take_length] at HO
              obtain ⟨xs, hxs⟩ : ∃ xs, xs = l.filter fun x => !(s1.ent x.toNat).gn := ⟨_, rfl⟩
              rw [← hxs] at HO
              have HXS := Aside0.mk hxs
              clear hxs hCq
              obtain ⟨A1, q1, e1, hq1, hC1⟩ := Kd.R_reads HO.out
              subst e1
              clear hC1
              have fq := HSr.out.Qb.frozen h
              have HQP := Aside0.mk (HSr.out.putQ h hsl (.slice A1 xs.length q1) xs (fun t => { t with q := xs }) ⟨rfl, rfl, rfl⟩ HO.out HS.out.lt HS.out.gbl)
              go_upto_region 14 with (fail)
              go_upto_region 15 with (fail)
              obtain ⟨w3, hw3⟩ : ∃ w3, w3 = wr.setCell ⟨L.bq, h, none⟩ (.slice A1 xs.length q1) := ⟨_, rfl⟩
              rw [← hw3] at HQP ⊢
              have HM3 := Aside0.mk (show Mut own W w3 by rw [hw3]; exact (HM.out.below HB.out).setCell (HO2.out _ HS.out.ob.2.2.2.1) _)
              have HBA := Aside0.mk (show ∀ k, (Value.slice A1 xs.length q1).ownBlock = some k → W.heap.size ≤ k from fun k hk => Nat.le_trans HM.out.size (Kd.R_base HO.out k hk))
              have HO3 := Aside0.mk (show ∀ k, own k → (own1 k ∨ (Value.slice A1 xs.length q1).ownBlock = some k) from fun k hk => .inl (HO1.out k hk))
              have HO4 := Aside0.mk (show ∀ k, (own1 k ∨ (Value.slice A1 xs.length q1).ownBlock = some k) → own k ∨ W.heap.size ≤ k from fun k hk => hk.elim (HO2.out k) (fun h => .inr (HBA.out k h)))
              clear hw3 c9 cqc fq HSr HO HB hq1 HBA
              obtain ⟨own3, hown3⟩ : ∃ own3 : Nat → Prop, own3 = fun k => own1 k ∨ (Value.slice A1 xs.length q1).ownBlock = some k := ⟨_, rfl⟩
              have HO5 := Aside0.mk (show ∀ k, own k → own3 k by rw [hown3]; exact HO3.out)
              have HO6 := Aside0.mk (show ∀ k, own3 k → own k ∨ W.heap.size ≤ k by rw [hown3]; exact HO4.out)
              rw [← hown3] at HQP
              clear hown3 HO3 HO4
              have hs3 : h < (sk.modT h fun t => { t with q := xs }).ts.length := by simpa [SS.modT] using hsl
              have c10 : w3.cell? ⟨L.b, 10, none⟩ = some (.slice (some ⟨L.bn, 0, none⟩) s.ts.length s.ts.length) := by have := HQP.out.fld 10 rfl; rw [show (sk.modT h fun t => { t with q := xs }).ts.length = s.ts.length by simp [SS.modT]; exact HTL.out] at this; exact this
              have c5 : w3.cell? ⟨L.b, 5, none⟩ = some (.slice (some ⟨L.be, 0, none⟩) s.es.length L.ce) := by have := HQP.out.fld 5 rfl; rw [show (sk.modT h fun t => { t with q := xs }).es.length = s.es.length from HEL.out] at this; exact this
              have cn : w3.cell? ⟨L.bn, h, none⟩ = some (.int .i64 cu) := by have := HQP.out.now h hs3; rw [modT_trn _ hsl, if_pos rfl] at this; rw [HCU.out, ← HTR.out]; exact this
              have fn := HQP.out.N.frozen h
              by_cases hc0 : 0 ≤ cu
              · obtain ⟨m, hm⟩ := Int.eq_ofNat_of_zero_le hc0
                rw [hm] at cn
                have HMM := Aside0.mk hm
                have hml : m < s.es.length := by omega
                have e1 : decide (0 ≤ ((m : Nat) : Int)) = true := decide_eq_true (by omega)
                have y5 : w3.cell? ⟨L.be, m * 9 + 5, none⟩ = some (.bool (s1.ent m).gn) := by
                  have := HQP.out.ent m 5 (by show m < sk.es.length; rw [HEL.out]; exact hml) (by decide) rfl
                  rw [show (sk.modT h fun t => { t with q := xs }).ent m = s1.ent m from HEN.out m] at this; exact this
                obtain ⟨gn, hgn⟩ : ∃ gn, gn = (s1.ent m).gn := ⟨_, rfl⟩
                have HGN := Aside0.mk hgn
                rw [← hgn] at y5
                clear hgn hm
                cases gn with
                | true =>
                  have HFI := Aside0.mk (show cutTo s1 (h + 1) = sk.modT h (fun t => { t with q := xs, cu := -1 }) by
                    rw [HNX.out]
                    refine modT_congr hsl ?_
                    rw [HTR.out]
                    unfold cutT
                    rw [← HL.out, ← HCU.out, ← HXS.out, HMM.out, Int.toNat_natCast, ← HGN.out, if_pos ⟨by omega, rfl⟩])
                  go_quiet (fail)
                  obtain ⟨w4, hw4⟩ : ∃ w4, w4 = w3.drewN nq := ⟨_, rfl⟩
                  have HQ4 := Aside0.mk (HQP.out.drewN nq)
                  rw [← hw4] at HQ4 ⊢
                  have d10 : w4.cell? ⟨L.b, 10, none⟩ = some (.slice (some ⟨L.bn, 0, none⟩) s.ts.length s.ts.length) := by rw [hw4]; exact c10
                  have fn4 := HQ4.out.N.frozen h
                  have dn : w4.cell? ⟨L.bn, h, none⟩ = some (.int .i64 (m : Int)) := by rw [hw4]; exact cn
                  have HM4 := Aside0.mk (show Mut own W w4 by rw [hw4]; exact HM3.out.below (pw_below_drewN (Below.refl _ _) nq))
                  clear hw4 c10 c5 cn fn HM3 y5 HQP
                  have HPC := Aside0.mk (HQ4.out.putCu h hs3 (-1) (fun t => { t with cu := -1 }) rfl rfl (fun h0 => by omega))
                  rw [modT_modT] at HPC
                  go_wp2
                  go_roundw
                  case rel => exact ⟨h + 1, own3, _, by go_num, by omega, ⟨by rw [HFI.out]; exact HPC.out⟩, ⟨HM4.out.setCell (HO6.out _ HQ4.out.ob.2.2.2.2.1) _⟩, HO5, HO6⟩
                  case measure => (simp [intOf] <;> omega)
                | false =>
                  have HFI := Aside0.mk (show cutTo s1 (h + 1) = sk.modT h (fun t => { t with q := xs }) by
                    rw [HNX.out]
                    refine modT_congr hsl ?_
                    rw [HTR.out]
                    unfold cutT
                    rw [← HL.out, ← HCU.out, ← HXS.out, HMM.out, Int.toNat_natCast, ← HGN.out, if_neg (fun h => absurd h.2 (by decide))])
                  go_quiet (fail)
                  go_wp2
                  go_roundw
                  case rel => exact ⟨h + 1, own3, _, by go_num, by omega, ⟨by rw [HFI.out]; exact HQP.out.drewN nq⟩, ⟨HM3.out.below (pw_below_drewN (Below.refl _ _) nq)⟩, HO5, HO6⟩
                  case measure => (simp [intOf] <;> omega)
              · have e1 : decide (0 ≤ cu) = false := decide_eq_false hc0
                have HFI := Aside0.mk (show cutTo s1 (h + 1) = sk.modT h (fun t => { t with q := xs }) by
                    rw [HNX.out]
                    refine modT_congr hsl ?_
                    rw [HTR.out]
                    unfold cutT
                    rw [← HL.out, ← HCU.out, ← HXS.out, if_neg (fun h => hc0 h.1), HCU.out])
                go_quiet (fail)
                go_wp2
                go_roundw
                case rel => exact ⟨h + 1, own3, _, by go_num, by omega, ⟨by rw [HFI.out]; exact HQP.out.drewN nq⟩, ⟨HM3.out.below (pw_below_drewN (Below.refl _ _) nq)⟩, HO5, HO6⟩
                case measure => (simp [intOf] <;> omega)
        · have hh : h = s.ts.length := by omega
          subst hh
          rw [HCG.out] at HS
          go_wp2
          go_end0
          exact ⟨rfl, own1, qs1, L.us, HS.out, HM.out, HO1.out, HO2.out⟩
end Go.Proofs.Ytdaadmjppikebaa.SC
