/- Parts of the walk of package sched, merged. -/
/- SchedGangs, plain: whose slot it is, how often in a period; what a gang is charged. -/
import Derived.Test.YtdaadmjppikebaaK10
namespace Go.Proofs.Ytdaadmjppikebaa.SC
open Go.RowKit
open Go.Proofs.Ytdaadmjppikebaa.PV (S94 k94 S29 k29 rd_T94 rd_T29)
set_option linter.unusedVariables false
set_option linter.unusedSimpArgs false

/-- How many of the first i ticks were a gang's. -/
def gcnt (gs : List SG) (P : Nat) (q : Nat) : Nat → Int
  | 0 => 0
  | i + 1 => gcnt gs P q i + if gangGo gs 0 ((i % P : Nat) : Int) = (q : Int) then 1 else 0
/-- What a hart picks in a gang's slot. -/
theorem pick_gang {s : SS} (hw : Wf s) {h : Nat} (hh : (h : Int) < s.H) {g : Nat} (hg : gangF s = (g : Int)) (rd : List Bool) :
    (pickF s (h : Int) rd).2 = s ∧ ((pickF s (h : Int) rd).1 = -1 ∨ ∃ p : Nat, (pickF s (h : Int) rd).1 = (p : Int) ∧ p < s.es.length ∧ (s.ent p).gu = (g : Int) ∧ (s.ent p).ix = (h : Int) ∧ p < rd.length ∧ rd.getD p false = true) := by
  have e : pickF s (h : Int) rd = (ofGangF s g h rd, s) := by unfold pickF; rw [if_neg (by omega), if_pos (by omega), hg]
  rw [e]
  refine ⟨rfl, ?_⟩
  rcases firstGo_range (ofGangP s g h rd) s.es.length 0 with h1 | ⟨n, h1, _, h2, h3⟩
  · exact .inl h1
  · refine .inr ⟨n, h1, by omega, ?_⟩
    unfold ofGangP readyF at h3
    simp only [Bool.and_eq_true, beq_iff_eq, decide_eq_true_eq, Int.toNat_natCast] at h3
    exact ⟨h3.1.1, h3.1.2, by have := h3.2.1.1; omega, h3.2.1.2⟩
/-- What SchedGangs has counted. -/
structure GaP (m : Nat) (S : Int) (P : Nat) (cr : Bool) (ys : List S29) (s : SS) (sl : List Int) (i : Nat) : Prop where
  now : s.now = i
  n : NP m S P cr ys s
  l : sl.length = ys.length
  c : ∀ q : Nat, q < ys.length → sl.getD q 0 = gcnt s.gs P q i
theorem gangF_at {m : Nat} {S : Int} {P : Nat} {cr : Bool} {ys : List S29} {s : SS} {sl : List Int} {i : Nat} (h : GaP m S P cr ys s sl i) : gangF s = gangGo s.gs 0 ((i % P : Nat) : Int) := by
  unfold gangF
  rw [h.now, h.n.P]
  rfl
theorem GaP.tick {W : World} {own : Nat → Prop} {b m : Nat} {S : Int} {P : Nat} {cr : Bool} {ys : List S29} {s : SS} {sl sl' : List Int} {i : Nat} (hx : SB W own b s) (h : GaP m S P cr ys s sl i) (hi : i ≤ 1048576) (rd : List Bool) (hl : sl'.length = sl.length) (hs : ∀ q : Nat, q < ys.length → sl'.getD q 0 = sl.getD q 0 + if gangF s = (q : Int) then 1 else 0) : GaP m S P cr ys (tickF s rd) sl' (i + 1) := by
  have hn := h.now
  have ht := tickF_tf rd hx.wf (by omega) hx.cntC hx.cntR
  refine ⟨by rw [ht.now, hn]; rfl, h.n.st ht.st, hl.trans h.l, fun q hq => ?_⟩
  rw [hs q hq, h.c q hq, ht.st.gs, gangF_at h]
  rfl
end Go.Proofs.Ytdaadmjppikebaa.SC

/- home: the plain entities of a hart, and their weights. -/
namespace Go.Proofs.Ytdaadmjppikebaa.SC
open Go.RowKit Go.Proofs.YtdaadmjppikebaaW.PrintWords Go.Proofs.YtdaadmjppikebaaW.PrintLast
open Go.Proofs.Ytdaadmjppikebaa.PV (S94 k94 S29 k29 rd_T94 rd_T29)
set_option linter.unusedVariables false
set_option linter.unusedSimpArgs false

def wSum (s : SS) (l : List Int) : Int := (l.map fun e => (s.gst (s.ent e.toNat).gu.toNat).w).sum
theorem wSum_snoc (s : SS) (l : List Int) (k : Nat) : wSum s (l ++ [(k : Int)]) = wSum s l + (s.gst (s.ent k).gu.toNat).w := by simp [wSum]
theorem wSum_range {s : SS} (hw : Wf s) : ∀ l : List Int, (∀ e ∈ l, 0 ≤ e ∧ e < s.es.length) → 0 ≤ wSum s l ∧ wSum s l ≤ 1000 * l.length
  | [], _ => by simp [wSum]
  | e :: r, h => by
    have ih := wSum_range hw r (fun x hx => h x (List.mem_cons_of_mem _ hx))
    have he := h e List.mem_cons_self
    have h1 := hw.eg e.toNat (by omega)
    have h2 := hw.gw (s.ent e.toNat).gu.toNat (by omega)
    have e1 : wSum s (e :: r) = (s.gst (s.ent e.toNat).gu.toNat).w + wSum s r := by simp [wSum]
    rw [e1, List.length_cons]
    omega
set_option maxRecDepth 100000 in
set_option maxHeartbeats 3200000 in
theorem home_fn {W : World} {own : Nat → Prop} {b : Nat} {s : SS} {mn : Nat} {m S P : Int} {cr : Bool} {Ag : Option Addr} {cg : Nat} {ys : List S29} (hs : SB W own b s) (hn : NP mn S P cr ys s) (hr : Kd.C k29 W Ag ys.length ys) (hart : Int) :
    Calls Try.prog 25 #[.pointer (some ⟨b, 0, none⟩), .agg #[.int .i64 m, .int .i64 S, .int .i64 P, .bool cr, .slice Ag ys.length cg], .int .i64 hart] W fun x w' => ∃ v, x = .returned (.tuple #[v, .int .i64 (wSum s (plainL s hart))]) ∧ Kd.R (Kd.int .i64) 3 w' W.heap.size (fun _ => True) v (plainL s hart) ∧ Below W.heap.size W w' := by
  have HSB := Aside0.mk hs
  have HNP := Aside0.mk hn
  have HC := Aside0.mk hr
  have hem := hs.wf.em
  clear hs hn hr
  go_enter Try.func25, Try.ntmps25
  go_upto_region 3 with ((with_reducible refine gate_dst (N := 4) rfl ?_); (try (refine gate_guard (by rfl) ?_; dsimp only)); refine box_event ?hg (N := 4) ?hd (cs := #[.int .i64 m, .int .i64 S, .int .i64 P, .bool cr, .slice Ag ys.length cg]) (t := 27) ?hr ?_; (case hd => rfl); (case hg => rfl); (case hr => first | (go_simp; done) | (go_simp; rfl)); intro gs hg w1 hbox hb; have HBK := Aside0.mk (blkbox hbox); have HB1 := Aside0.mk hb; clear hg hbox hb)
  go_wp2_with (fail)
  go_loopw [8, 9, 10] (fun v8 v9 v10 w' => ∃ k : Nat, v9 = .int .i64 (wSum s (plainTo s hart k)) ∧ v10 = .int .i64 (k : Int) ∧ k ≤ s.es.length ∧ Aside0 (Kd.R (Kd.int .i64) 3 w' W.heap.size (fun _ => True) v8 (plainTo s hart k)) ∧ Aside0 (Below W.heap.size W w') ∧ Aside0 (Blk w' gs 27 [.int .i64 m, .int .i64 S, .int .i64 P, .bool cr, .slice Ag ys.length cg])) (fun _ _ v10 _ => s.es.length - (intOf v10).toNat)
  case atStart => exact ⟨0, rfl, rfl, Nat.zero_le _, ⟨Kd.R_nil _ _ _ _ _⟩, HB1, HBK⟩
  case round =>
    obtain ⟨k, rfl, rfl, hk, HO, HB2, HBK2⟩ := hrel
    obtain ⟨v8, hv8⟩ : ∃ v8, v8 = u8 := ⟨_, rfl⟩
    rw [← hv8] at HO ⊢
    clear HBK HB1 hv8
    by_cases hlt : k < s.es.length
    · have heg := HSB.out.wf.eg k hlt
      obtain ⟨g, hg⟩ : ∃ g : Nat, (s.ent k).gu = (g : Int) := ⟨(s.ent k).gu.toNat, by omega⟩
      have hgl : g < ys.length := by have := HNP.out.gl; omega
      obtain ⟨adg, e0, _, kw, kf⟩ := PV.at_T29 (Kd.C_below HC.out HB2.out) (g : Int) (by omega) (by omega)
      subst e0
      have hold : ∀ j, (adg.add j).block < W.heap.size → True := fun _ _ => trivial
      have HNE := Aside0.mk (show ∀ q, W.heap.size ≤ q → q ≠ (adg.add (g * 3)).block from fun q hq e => by
        obtain ⟨ad', e', hc, _⟩ := PV.at_T29 HC.out (g : Int) (by omega) (by omega)
        cases e'
        have := World.block_lt_of_cell? _ _ hc
        rw [Int.toNat_natCast] at this
        omega)
      have hwr := HSB.out.wf.gw g (by have := HNP.out.gl; omega)
      have hgw := HNP.out.gw g
      have hgg := HNP.out.gg g
      obtain ⟨fw, hfw⟩ : ∃ fw, fw = (rd_T29 ys (g : Int)).f1 := ⟨_, rfl⟩
      obtain ⟨fg, hfg⟩ : ∃ fg, fg = (rd_T29 ys (g : Int)).f2 := ⟨_, rfl⟩
      rw [← hfw, Int.toNat_natCast] at kw
      rw [← hfg, Int.toNat_natCast] at kf
      rw [← hfw] at hgw
      rw [← hfg] at hgg
      rw [hgw] at hwr
      clear hfw hfg
      have hgn : s.gng k = fg := by unfold SS.gng; rw [hg, Int.toNat_natCast]; exact hgg
      have hws : wSum s (plainTo s hart k ++ [(k : Int)]) = wSum s (plainTo s hart k) + fw := by rw [wSum_snoc, hg, Int.toNat_natCast, hgw]
      have hrange := wSum_range HSB.out.wf (plainTo s hart k) (fun e he => by obtain ⟨i, rfl, hi, _⟩ := plainTo_mem he; omega)
      have hlen := plainTo_len s hart k
      have HGU := Aside0.mk (show Calls Try.prog 22 #[.pointer (some ⟨b, 0, none⟩), .int .i64 (k : Int)] wr fun x w' => x = .returned (.tuple #[.int .i64 (g : Int), .int .i64 (s.ent k).ix]) ∧ Below wr.heap.size wr w' by
        have := (HSB.out.below HB2.out).guest (k : Int)
        rwa [if_pos (thereB_t hlt), Int.toNat_natCast, hg] at this)
      have HHO := Aside0.mk (show ∀ w52, Below W.heap.size W w52 → Calls Try.prog 24 #[.pointer (some ⟨b, 0, none⟩), .int .i64 (k : Int)] w52 fun x w' => x = .returned (.int .i64 (homeOf s k)) ∧ Below w52.heap.size w52 w' from fun w52 hb => by
        have := (HSB.out.below hb).home (k : Int)
        rwa [if_pos (thereB_t hlt), Int.toNat_natCast] at this)
      have hsc := plainTo_succ s hart k
      unfold plainP at hsc
      rw [hgn] at hsc
      have hHl := hlen
      have HL := Aside0.mk (show (plainTo s hart k).length ≤ 64 by omega)
      clear hg hgg heg hgn hold hgw
      cases fg with
      | true =>
        have HS1 := Aside0.mk (show plainTo s hart (k + 1) = plainTo s hart k by rw [hsc]; simp)
        clear hsc hws
        go_wp2_with (first | (go_at_call 15; refine (HSB.out.below HB2.out).entities.mono ?_; rintro e w51 ⟨rfl, rfl⟩) | (go_at_call 22; refine HGU.out.mono ?_; rintro e w52 ⟨rfl, hb3⟩; have HB3 := Aside0.mk (below_step HB2.out hb3); have HBK3 := Aside0.mk (HBK2.out.below hb3); have z4 : w52.cell? ⟨gs, 4, none⟩ = some (.slice (some adg) ys.length cg) := HBK3.out.cell rfl; have kf3 := pw_cell_below hb3 kf; have kw3 := pw_cell_below hb3 kw; have HO3 := Aside0.mk (Kd.R_below HO.out hb3); clear hb3))
        go_roundw
        case rel => exact ⟨k + 1, by rw [HS1.out], by go_num, by omega, ⟨by rw [HS1.out]; exact HO3.out⟩, HB3, HBK3⟩
        case measure => simp [intOf]; omega
      | false =>
        by_cases hh : homeOf s k = hart
        · have HS1 := Aside0.mk (show plainTo s hart (k + 1) = plainTo s hart k ++ [(k : Int)] by rw [hsc, hh]; simp)
          have bh : (homeOf s k == hart) = true := by rw [hh]; simp
          have HWS := Aside0.mk hws
          obtain ⟨ho, hho⟩ : ∃ ho, ho = homeOf s k := ⟨_, rfl⟩
          rw [← hho] at bh HHO
          obtain ⟨ws, hwse⟩ : ∃ ws, ws = wSum s (plainTo s hart k) := ⟨_, rfl⟩
          rw [← hwse] at hrange HWS ⊢
          clear hsc hws hh hho hwse
          go_wp2_with (first | (go_at_call 15; refine (HSB.out.below HB2.out).entities.mono ?_; rintro e w51 ⟨rfl, rfl⟩) | (go_at_call 22; refine HGU.out.mono ?_; rintro e w52 ⟨rfl, hb3⟩; have HB3 := Aside0.mk (below_step HB2.out hb3); have HBK3 := Aside0.mk (HBK2.out.below hb3); have z4 : w52.cell? ⟨gs, 4, none⟩ = some (.slice (some adg) ys.length cg) := HBK3.out.cell rfl; have kf3 := pw_cell_below hb3 kf; have kw3 := pw_cell_below hb3 kw; have HO3 := Aside0.mk (Kd.R_below HO.out hb3); clear hb3) | (go_at_call 24; refine (HHO.out w52 HB3.out).mono ?_; rintro e w53 ⟨rfl, hb4⟩; have HB4 := Aside0.mk (below_step HB3.out hb4); have HBK4 := Aside0.mk (HBK3.out.below hb4); have y4 : w53.cell? ⟨gs, 4, none⟩ = some (.slice (some adg) ys.length cg) := HBK4.out.cell rfl; have kw4 := pw_cell_below hb4 kw3; have HO4 := Aside0.mk (Kd.R_below HO3.out hb4); clear hb4) | ((with_reducible refine gate_builtin (b := .append) (xs := #[.tmp 50, .tmp 52]) rfl ?_); go_loud (at_builtin; refine Kd.R_append (Kd.int .i64) (w0 := W) W.heap.size rfl (.tmp 50) (.tmp 52) 22 3 (.int .i64 0) 8 rfl Try.underlying22 info3 rfl (by decide) (by omega) v8 (plainTo s hart k) ((k : Int)) [.int .i64 ((k : Int))] (fun _ => True) (fun _ => False) rfl rfl ?aP (fun _ hk => hk.elim) ?aF ?aO ?aB ?aS ?aL ?_; (case aP => exact rfl); (case aF => exact (fun _ _ => trivial)); (case aO => exact HO4.out); (case aB => exact HB4.out); (case aS => exact (HB4.out).size); (case aL => have := HL.out; simp; omega); intro v41 w41 ho hbb hg hat; have HO2 := Aside0.mk ho; have HB5 := Aside0.mk hbb; have HBK5 := Aside0.mk (HBK4.out.mut (below_mut0 hg) (fun e => blk_own HO4.out HBK4.out (by decide) _ e rfl)); have y5 : w41.cell? ⟨gs, 4, none⟩ = some (.slice (some adg) ys.length cg) := HBK5.out.cell rfl; have kw5 : w41.cell? ⟨(adg.add (g * 3)).block, (adg.add (g * 3)).off + 1, none⟩ = some (.int .i64 fw) := cell_kept kw4 (below_mut0 hg).kept (fun e => HNE.out _ (Kd.R_base HO4.out _ e) rfl); clear ho hbb hg hat)))
          go_roundw
          case rel => exact ⟨k + 1, by rw [HS1.out, HWS.out], by go_num, by omega, ⟨by rw [HS1.out]; exact HO2.out⟩, HB5, HBK5⟩
          case measure => simp [intOf]; omega
        · have HS1 := Aside0.mk (show plainTo s hart (k + 1) = plainTo s hart k by rw [hsc, show (homeOf s k == hart) = false from by simpa using hh]; simp)
          have bh : (homeOf s k == hart) = false := by simpa using hh
          obtain ⟨ho, hho⟩ : ∃ ho, ho = homeOf s k := ⟨_, rfl⟩
          rw [← hho] at bh HHO
          clear hsc hws hh hho
          go_wp2_with (first | (go_at_call 15; refine (HSB.out.below HB2.out).entities.mono ?_; rintro e w51 ⟨rfl, rfl⟩) | (go_at_call 22; refine HGU.out.mono ?_; rintro e w52 ⟨rfl, hb3⟩; have HB3 := Aside0.mk (below_step HB2.out hb3); have HBK3 := Aside0.mk (HBK2.out.below hb3); have z4 : w52.cell? ⟨gs, 4, none⟩ = some (.slice (some adg) ys.length cg) := HBK3.out.cell rfl; have kf3 := pw_cell_below hb3 kf; have kw3 := pw_cell_below hb3 kw; have HO3 := Aside0.mk (Kd.R_below HO.out hb3); clear hb3) | (go_at_call 24; refine (HHO.out w52 HB3.out).mono ?_; rintro e w53 ⟨rfl, hb4⟩; have HB4 := Aside0.mk (below_step HB3.out hb4); have HBK4 := Aside0.mk (HBK3.out.below hb4); have y4 : w53.cell? ⟨gs, 4, none⟩ = some (.slice (some adg) ys.length cg) := HBK4.out.cell rfl; have kw4 := pw_cell_below hb4 kw3; have HO4 := Aside0.mk (Kd.R_below HO3.out hb4); clear hb4))
          go_roundw
          case rel => exact ⟨k + 1, by rw [HS1.out], by go_num, by omega, ⟨by rw [HS1.out]; exact HO4.out⟩, HB4, HBK4⟩
          case measure => simp [intOf]; omega
    · have HE := Aside0.mk (show plainTo s hart k = plainL s hart by unfold plainL; rw [show k = s.es.length by omega])
      rw [HE.out] at HO
      rw [HE.out]
      go_wp2_with (go_at_call 15; refine (HSB.out.below HB2.out).entities.mono ?_; rintro e w51 ⟨rfl, rfl⟩)
      go_ret2
      exact ⟨_, rfl, HO.out, HB2.out⟩
end Go.Proofs.Ytdaadmjppikebaa.SC
