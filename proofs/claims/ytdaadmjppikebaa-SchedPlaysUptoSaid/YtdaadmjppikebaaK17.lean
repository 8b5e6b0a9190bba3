import Derived.Test.YtdaadmjppikebaaK16
import Derived.Test.YtdaadmjppikebaaK10
import Derived.Test.YtdaadmjppikebaaOpen
import Derived.WideShapes
/- Parts of the walk of package sched, merged. -/
/- SchedPlays. -/
namespace Go.Proofs.Ytdaadmjppikebaa.SC
open Go.RowKit Go.Proofs.YtdaadmjppikebaaW.PrintWords Go.Proofs.YtdaadmjppikebaaW.PrintLast
open Go.Proofs.Ytdaadmjppikebaa.PV (S94 k94 S29 k29 rd_T94 rd_T29)
set_option linter.unusedVariables false
set_option linter.unusedSimpArgs false

theorem tmod3 (x : Int) : x.tmod 3 = -2 ∨ x.tmod 3 = -1 ∨ x.tmod 3 = 0 ∨ x.tmod 3 = 1 ∨ x.tmod 3 = 2 := by
  have hb : Int.tmod x 3 < 3 ∧ -3 < Int.tmod x 3 := by
    rcases Int.le_total 0 x with h | h
    · have := Int.tmod_lt_of_pos x (show (0 : Int) < 3 by omega); have := Int.tmod_nonneg 3 h; omega
    · have e : Int.tmod x 3 = -(Int.tmod (-x) 3) := by rw [Int.neg_tmod, Int.neg_neg]
      have := Int.tmod_lt_of_pos (-x) (show (0 : Int) < 3 by omega); have := Int.tmod_nonneg 3 (show 0 ≤ -x by omega); omega
  omega
theorem set3 {w : World} {xb t : Nat} {z0 z1 z2 : Value} (h : Blk w xb t [z0, z1, z2]) (v0 v1 v2 : Value) :
    Blk (((w.setCell ⟨xb, 0, none⟩ v0).setCell ⟨xb, 1, none⟩ v1).setCell ⟨xb, 2, none⟩ v2) xb t [v0, v1, v2] ∧ Mut (fun k => k = xb) w (((w.setCell ⟨xb, 0, none⟩ v0).setCell ⟨xb, 1, none⟩ v1).setCell ⟨xb, 2, none⟩ v2) :=
  ⟨((h.set 0 v0).set 1 v1).set 2 v2, (((Mut.refl _ w).set1 0 v0).set1 1 v1).set1 2 v2⟩
/-- The script's call, in a block of its own. -/
structure BX (W : World) (own own2 : Nat → Prop) (xb : Nat) (x0 x1 x2 : Int) : Prop where
  b : Blk W xb 48 [.int .i64 x0, .int .i64 x1, .int .u64 x2]
  o : ¬ own xb
  o2 : ¬ own2 xb
section
variable {W W' : World} {own own' own2 own2' : Nat → Prop} {xb : Nat} {x0 x1 x2 : Int}
theorem BX.below (h : BX W own own2 xb x0 x1 x2) (hb : Below W.heap.size W W') : BX W' own own2 xb x0 x1 x2 := ⟨h.b.below hb, h.o, h.o2⟩
theorem BX.then1 (h : BX W own own2 xb x0 x1 x2) (t : Then W own W' own') : BX W' own' own2 xb x0 x1 x2 := ⟨h.b.mut t.m h.o, fun e => (t.z xb e).elim h.o (fun h2 => by have := h.b.lt; omega), h.o2⟩
theorem BX.then2 (h : BX W own own2 xb x0 x1 x2) (hm : Mut own2 W W') (hz : ∀ k, own2' k → own2 k ∨ W.heap.size ≤ k) : BX W' own own2' xb x0 x1 x2 := ⟨h.b.mut hm h.o2, h.o, fun e => (hz xb e).elim h.o2 (fun h2 => by have := h.b.lt; omega)⟩
end
set_option maxRecDepth 100000 in
set_option maxHeartbeats 6400000 in
theorem plays_not {W : World} {a0 a1 a2 : Int} {a3 : Bool} {A0 : Option Addr} {c0 : Nat} {l0 : List S29} {A1 : Option Addr} {c1 : Nat} {l1 : List S48} (hC : Kd.C k29 W A0 l0.length l0) (hc : l0.length ≤ c0) (hl0 : l0.length ≤ 1048576) (hS : Kd.C k48 W A1 l1.length l1) (hs : l1.length ≤ c1) (hs2 : l1.length ≤ 1048576) (hb : rB a0 a1 a2 (confL l0) = false) :
    Calls Try.prog 11 #[.agg #[.int .i64 a0, .int .i64 a1, .int .i64 a2, .bool a3, .slice A0 l0.length c0], .slice A1 l1.length c1] W fun x w' => x = .returned (.bool true) ∧ Below W.heap.size W w' := by
  have hcf := conf_fb l0 (by omega) a0 a1 a2 a3
  obtain ⟨gl, hgl⟩ : ∃ gl, gl = confL l0 := ⟨_, rfl⟩
  rw [← hgl] at hcf hb
  have hr1 := sched_Right_f a0 a1 a2 a3 gl
  have hr2 := citadelref18_Right_f a0 a1 a2 a3 gl
  rw [hb] at hr1 hr2
  have HR1 := Aside0.mk hr1
  have HR2 := Aside0.mk hr2
  have HCF := Aside0.mk hcf
  have HC := Aside0.mk hC
  have HSC := Aside0.mk hS
  have HRB := Aside0.mk hb
  clear hcf hgl hr1 hr2 hC hS hb
  go_enter Try.func11, Try.ntmps11
  go_upto_region 1 with ((with_reducible refine gate_dst (N := 2) rfl ?_); (try (refine gate_guard (by rfl) ?_; dsimp only)); refine box_event ?hg (N := 2) ?hd (cs := #[.int .i64 a0, .int .i64 a1, .int .i64 a2, .bool a3, .slice A0 l0.length c0]) (t := 27) ?hr ?_; (case hd => rfl); (case hg => rfl); (case hr => first | (go_simp; done) | (go_simp; rfl)); intro gb hg w1 hbox hb; have HBK1 := Aside0.mk (blkbox hbox : Blk w1 gb 27 [.int .i64 a0, .int .i64 a1, .int .i64 a2, .bool a3, .slice A0 l0.length c0]); have HGB := Aside0.mk hg; have HB1 := Aside0.mk hb; have y0_1 : w1.cell? ⟨gb, 0, none⟩ = some (.int .i64 a0) := HBK1.out.cell rfl; have y1_1 : w1.cell? ⟨gb, 1, none⟩ = some (.int .i64 a1) := HBK1.out.cell rfl; have y2_1 : w1.cell? ⟨gb, 2, none⟩ = some (.int .i64 a2) := HBK1.out.cell rfl; have y3_1 : w1.cell? ⟨gb, 3, none⟩ = some (.bool a3) := HBK1.out.cell rfl; have y4_1 : w1.cell? ⟨gb, 4, none⟩ = some (.slice A0 l0.length c0) := HBK1.out.cell rfl; clear hg hbox hb)
  go_upto_region 2 with (first | (go_at_call 14; with_reducible refine (PV.citadellaw18_C_Conf.calls (l0.length + 1) a0 a1 a2 a3 _ _ l0 a0 a1 a2 a3 gl _ (Kd.C_below HC.out HB1.out) hc HCF.out).mono ?_; rintro e w2 ⟨v2, rfl, hs2, hb2⟩; have HBS2 := Aside0.mk (Kd.S_base hs2); obtain ⟨A2, q2, e2, hl2, hC2⟩ := Kd.S_reads hs2; subst e2; have HC2 := Aside0.mk hC2; have HL2 := Aside0.mk hl2; have HBB2 := Aside0.mk hb2; have HB2 := Aside0.mk (below_step HB1.out hb2); have HBK2 := Aside0.mk (HBK1.out.below hb2); clear hs2 hl2 hC2 hb2) | (go_at_call 13; refine (new_not (k := 2 * gl.length + 2) HR1.out HC2.out HL2.out).mono ?_; rintro e w3 ⟨rfl, hb⟩; have HB3 := Aside0.mk (below_step HB2.out hb); have HBK3 := Aside0.mk (HBK2.out.below hb); have y0_3 : w3.cell? ⟨gb, 0, none⟩ = some (.int .i64 a0) := HBK3.out.cell rfl; have y1_3 : w3.cell? ⟨gb, 1, none⟩ = some (.int .i64 a1) := HBK3.out.cell rfl; have y2_3 : w3.cell? ⟨gb, 2, none⟩ = some (.int .i64 a2) := HBK3.out.cell rfl; have y3_3 : w3.cell? ⟨gb, 3, none⟩ = some (.bool a3) := HBK3.out.cell rfl; have y4_3 : w3.cell? ⟨gb, 4, none⟩ = some (.slice A0 l0.length c0) := HBK3.out.cell rfl; clear hb))
  go_upto_region 3 with (first | (go_at_call 14; with_reducible refine (PV.citadellaw18_C_Conf.calls (l0.length + 1) a0 a1 a2 a3 _ _ l0 a0 a1 a2 a3 gl _ (Kd.C_below HC.out HB3.out) hc HCF.out).mono ?_; rintro e w4 ⟨v4, rfl, hs2, hb2⟩; have HBS4 := Aside0.mk (Kd.S_base hs2); obtain ⟨A4, q4, e2, hl2, hC2⟩ := Kd.S_reads hs2; subst e2; have HC4 := Aside0.mk hC2; have HL4 := Aside0.mk hl2; have HBB4 := Aside0.mk hb2; have HB4 := Aside0.mk (below_step HB3.out hb2); have HBK4 := Aside0.mk (HBK3.out.below hb2); clear hs2 hl2 hC2 hb2) | (go_at_call 31; refine (rnew_not (k := 2 * gl.length + 2) HR2.out HC4.out HL4.out).mono ?_; rintro e w5 ⟨rfl, hb⟩; have HB5 := Aside0.mk (below_step HB4.out hb); have HBK5 := Aside0.mk (HBK4.out.below hb); have y0_5 : w5.cell? ⟨gb, 0, none⟩ = some (.int .i64 a0) := HBK5.out.cell rfl; have y1_5 : w5.cell? ⟨gb, 1, none⟩ = some (.int .i64 a1) := HBK5.out.cell rfl; have y2_5 : w5.cell? ⟨gb, 2, none⟩ = some (.int .i64 a2) := HBK5.out.cell rfl; have y3_5 : w5.cell? ⟨gb, 3, none⟩ = some (.bool a3) := HBK5.out.cell rfl; have y4_5 : w5.cell? ⟨gb, 4, none⟩ = some (.slice A0 l0.length c0) := HBK5.out.cell rfl; clear hb))
  go_wp2_with (first | (go_at_call 14; with_reducible refine (PV.citadellaw18_C_Conf.calls (l0.length + 1) a0 a1 a2 a3 _ _ l0 a0 a1 a2 a3 gl _ (Kd.C_below HC.out HB5.out) hc HCF.out).mono ?_; rintro e w6 ⟨v6, rfl, hs2, hb2⟩; have HBS6 := Aside0.mk (Kd.S_base hs2); obtain ⟨A6, q6, e2, hl2, hC2⟩ := Kd.S_reads hs2; subst e2; have HC6 := Aside0.mk hC2; have HL6 := Aside0.mk hl2; have HBB6 := Aside0.mk hb2; have HB6 := Aside0.mk (below_step HB5.out hb2); have HBK6 := Aside0.mk (HBK5.out.below hb2); clear hs2 hl2 hC2 hb2) | (go_at_call 32; refine (PV.sched_Right.calls (2 * gl.length + 2) _ _ _ _ _ _ gl _ _ HC6.out HL6.out HR1.out).mono ?_; rintro e w7 ⟨rfl, hb⟩; have HB7 := Aside0.mk (below_step HB6.out hb); clear hb) | (go_at_call 19; refine (awake_calls _).mono ?_; rintro e w90 ⟨rfl, hb⟩; have HBE := Aside0.mk (below_step HB7.out hb); clear hb))
  go_ret
  exact ⟨rfl, HBE.out⟩
set_option maxRecDepth 100000 in
set_option maxHeartbeats 6400000 in
theorem plays_yes {W : World} {a0 a1 a2 : Int} {a3 : Bool} {A0 : Option Addr} {c0 : Nat} {l0 : List S29} {A1 : Option Addr} {c1 : Nat} {l1 : List S48} (hC : Kd.C k29 W A0 l0.length l0) (hc : l0.length ≤ c0) (hl0 : l0.length ≤ 1048576) (hS : Kd.C k48 W A1 l1.length l1) (hs : l1.length ≤ c1) (hs2 : l1.length ≤ 1048576) (hb : rB a0 a1 a2 (confL l0) = true) :
    Calls Try.prog 11 #[.agg #[.int .i64 a0, .int .i64 a1, .int .i64 a2, .bool a3, .slice A0 l0.length c0], .slice A1 l1.length c1] W fun x w' => x = .returned (.bool true) ∧ Below W.heap.size W w' := by
  obtain ⟨hok, hm0⟩ := rB_ok hb
  obtain ⟨m, hm⟩ : ∃ m, m = a0.toNat := ⟨_, rfl⟩
  rw [← hm] at hok hm0
  clear hm
  subst hm0
  have hcf := conf_fb l0 (by omega) (m : Int) a1 a2 a3
  obtain ⟨gl, hgl⟩ : ∃ gl, gl = confL l0 := ⟨_, rfl⟩
  rw [← hgl] at hcf hb hok
  have hr1 := sched_Right_f (m : Int) a1 a2 a3 gl
  have hr2 := citadelref18_Right_f (m : Int) a1 a2 a3 gl
  rw [hb] at hr1 hr2
  have HR1 := Aside0.mk hr1
  have HR2 := Aside0.mk hr2
  have HCF := Aside0.mk hcf
  have HC := Aside0.mk hC
  have HSC := Aside0.mk hS
  have HRB := Aside0.mk hb
  have HOK := Aside0.mk hok
  have HQX := Aside0.mk (newF_qx (cr := a3) hok)
  have HNZ := Aside0.mk (newF_ok (cr := a3) hok).2.2.2.2.1
  clear hok
  clear hcf hgl hr1 hr2 hC hS hb
  go_enter Try.func11, Try.ntmps11
  go_upto_region 1 with ((with_reducible refine gate_dst (N := 2) rfl ?_); (try (refine gate_guard (by rfl) ?_; dsimp only)); refine box_event ?hg (N := 2) ?hd (cs := #[.int .i64 (m : Int), .int .i64 a1, .int .i64 a2, .bool a3, .slice A0 l0.length c0]) (t := 27) ?hr ?_; (case hd => rfl); (case hg => rfl); (case hr => first | (go_simp; done) | (go_simp; rfl)); intro gb hg w1 hbox hb; have HBK1 := Aside0.mk (blkbox hbox : Blk w1 gb 27 [.int .i64 (m : Int), .int .i64 a1, .int .i64 a2, .bool a3, .slice A0 l0.length c0]); have HGB := Aside0.mk hg; have HB1 := Aside0.mk hb; have y0_1 : w1.cell? ⟨gb, 0, none⟩ = some (.int .i64 (m : Int)) := HBK1.out.cell rfl; have y1_1 : w1.cell? ⟨gb, 1, none⟩ = some (.int .i64 a1) := HBK1.out.cell rfl; have y2_1 : w1.cell? ⟨gb, 2, none⟩ = some (.int .i64 a2) := HBK1.out.cell rfl; have y3_1 : w1.cell? ⟨gb, 3, none⟩ = some (.bool a3) := HBK1.out.cell rfl; have y4_1 : w1.cell? ⟨gb, 4, none⟩ = some (.slice A0 l0.length c0) := HBK1.out.cell rfl; clear hg hbox hb)
  go_upto_region 2 with (first | (go_at_call 14; with_reducible refine (PV.citadellaw18_C_Conf.calls (l0.length + 1) (m : Int) a1 a2 a3 _ _ l0 (m : Int) a1 a2 a3 gl _ (Kd.C_below HC.out HB1.out) hc HCF.out).mono ?_; rintro e w2 ⟨v2, rfl, hs2, hb2⟩; have HBS2 := Aside0.mk (Kd.S_base hs2); obtain ⟨A2, q2, e2, hl2, hC2⟩ := Kd.S_reads hs2; subst e2; have HC2 := Aside0.mk hC2; have HL2 := Aside0.mk hl2; have HBB2 := Aside0.mk hb2; have HB2 := Aside0.mk (below_step HB1.out hb2); have HBK2 := Aside0.mk (HBK1.out.below hb2); clear hs2 hl2 hC2 hb2) | (go_at_call 13; refine (new_sb (m := m) (k := 2 * gl.length + 2) rfl HR1.out HC2.out HL2.out HOK.out).mono ?_; rintro e w3 ⟨b, own, rfl, hsb, hown, hb⟩; have HSB := Aside0.mk hsb; have HOWN := Aside0.mk hown; have HB3 := Aside0.mk (below_step HB2.out hb); have HBK3 := Aside0.mk (HBK2.out.below hb); have y0_3 : w3.cell? ⟨gb, 0, none⟩ = some (.int .i64 (m : Int)) := HBK3.out.cell rfl; have y1_3 : w3.cell? ⟨gb, 1, none⟩ = some (.int .i64 a1) := HBK3.out.cell rfl; have y2_3 : w3.cell? ⟨gb, 2, none⟩ = some (.int .i64 a2) := HBK3.out.cell rfl; have y3_3 : w3.cell? ⟨gb, 3, none⟩ = some (.bool a3) := HBK3.out.cell rfl; have y4_3 : w3.cell? ⟨gb, 4, none⟩ = some (.slice A0 l0.length c0) := HBK3.out.cell rfl; clear hb hsb hown))
  go_upto_region 3 with (first | (go_at_call 14; with_reducible refine (PV.citadellaw18_C_Conf.calls (l0.length + 1) (m : Int) a1 a2 a3 _ _ l0 (m : Int) a1 a2 a3 gl _ (Kd.C_below HC.out HB3.out) hc HCF.out).mono ?_; rintro e w4 ⟨v4, rfl, hs2, hb2⟩; have HBS4 := Aside0.mk (Kd.S_base hs2); obtain ⟨A4, q4, e2, hl2, hC2⟩ := Kd.S_reads hs2; subst e2; have HC4 := Aside0.mk hC2; have HL4 := Aside0.mk hl2; have HBB4 := Aside0.mk hb2; have HB4 := Aside0.mk (below_step HB3.out hb2); have HBK4 := Aside0.mk (HBK3.out.below hb2); clear hs2 hl2 hC2 hb2) | (go_at_call 31; refine (rnew_calls (m := m) (k := 2 * gl.length + 2) HR2.out HC4.out HL4.out HOK.out).mono ?_; rintro e w5 ⟨L0, own2, rfl, hrs, hown2, hag, hb⟩; have HRS := Aside0.mk hrs; have HOWN2 := Aside0.mk hown2; have HAG := Aside0.mk hag; have HBN := Aside0.mk hb; have HB5 := Aside0.mk (below_step HB4.out hb); have HBK5 := Aside0.mk (HBK4.out.below hb); have y0_5 : w5.cell? ⟨gb, 0, none⟩ = some (.int .i64 (m : Int)) := HBK5.out.cell rfl; have y1_5 : w5.cell? ⟨gb, 1, none⟩ = some (.int .i64 a1) := HBK5.out.cell rfl; have y2_5 : w5.cell? ⟨gb, 2, none⟩ = some (.int .i64 a2) := HBK5.out.cell rfl; have y3_5 : w5.cell? ⟨gb, 3, none⟩ = some (.bool a3) := HBK5.out.cell rfl; have y4_5 : w5.cell? ⟨gb, 4, none⟩ = some (.slice A0 l0.length c0) := HBK5.out.cell rfl; clear hb hrs hown2 hag))
  obtain ⟨s0, hs0⟩ : ∃ s0, s0 = newF m a1 a2 a3 gl := ⟨_, rfl⟩
  rw [← hs0] at HSB HRS HQX HNZ
  have HP := Aside0.mk (show PW W w5 own own2 b L0 s0 from
    { X := HSB.out.below (below_step HBB4.out HBN.out), R := HRS.out, Q := HQX.out
      D := fun k hk h2 => by have h1 := HSB.out.lt k hk; have h3 := HOWN2.out k h2; have h4 := HBB4.out.size; omega
      B := HB5.out, N := fun k hk => Nat.le_trans HB2.out.size (HOWN.out k hk), N2 := fun k hk => Nat.le_trans HB4.out.size (HOWN2.out k hk)
      G := fun ad e _ hk => by
        have h1 := HSB.out.lt _ hk
        rw [HAG.out] at e
        have h2 := HBS4.out ad.block (by rw [e]; rfl)
        omega })
  clear HSB HRS HQX HOWN HOWN2 HAG HBS4 HBN HBB4 HBB2 HBS2 hs0
  go_upto_region 4 with (first | (go_at_call 14; with_reducible refine (PV.citadellaw18_C_Conf.calls (l0.length + 1) (m : Int) a1 a2 a3 _ _ l0 (m : Int) a1 a2 a3 gl _ (Kd.C_below HC.out HB5.out) hc HCF.out).mono ?_; rintro e w6 ⟨v6, rfl, hs2, hb2⟩; have HBS6 := Aside0.mk (Kd.S_base hs2); obtain ⟨A6, q6, e2, hl2, hC2⟩ := Kd.S_reads hs2; subst e2; have HC6 := Aside0.mk hC2; have HL6 := Aside0.mk hl2; have HBB6 := Aside0.mk hb2; have HB6 := Aside0.mk (below_step HB5.out hb2); have HBK6 := Aside0.mk (HBK5.out.below hb2); clear hs2 hl2 hC2 hb2) | (go_at_call 32; refine (PV.sched_Right.calls (2 * gl.length + 2) _ _ _ _ _ _ gl _ _ HC6.out HL6.out HR1.out).mono ?_; rintro e w7 ⟨rfl, hb⟩; have HB7 := Aside0.mk (below_step HB6.out hb); have HBR := Aside0.mk hb; clear hb))
  have HP7 := Aside0.mk (HP.out.below (below_step HBB6.out HBR.out))
  clear HP HBB6 HBR HBS6
  go_wp2
  go_loopw [9] (fun v9 w' => ∃ (i : Nat) (own own2 : Nat → Prop) (qs : List Value) (us : List Int) (s : SS), v9 = .int .i64 (i : Int) ∧ i ≤ l1.length ∧ Aside0 (PW W w' own own2 b { L0 with qs := qs, us := us } s) ∧ Aside0 (s.now ≤ (i : Int))) (fun v9 _ => l1.length - (intOf v9).toNat)
  case atStart => exact ⟨0, own, own2, L0.qs, L0.us, s0, rfl, Nat.zero_le _, HP7, ⟨by rw [HNZ.out]; exact Int.le_refl 0⟩⟩
  case round =>
    obtain ⟨i, own, own2, qs, us, s, rfl, hil, HPi, HNW⟩ := hrel
    clear HP7 HNZ
    by_cases hlt : i < l1.length
    · obtain ⟨ad, e0, hx0, hx1, hx2⟩ := at_T48 (Kd.C_below HSC.out HPi.out.B) (i : Int) (by omega) (by omega)
      subst e0
      obtain ⟨x0, hx0e⟩ : ∃ x, x = (rd_T48 l1 (i : Int)).f0 := ⟨_, rfl⟩
      obtain ⟨x1, hx1e⟩ : ∃ x, x = (rd_T48 l1 (i : Int)).f1 := ⟨_, rfl⟩
      obtain ⟨x2, hx2e⟩ : ∃ x, x = (rd_T48 l1 (i : Int)).f2 := ⟨_, rfl⟩
      rw [← hx0e, Int.toNat_natCast] at hx0
      rw [← hx1e, Int.toNat_natCast] at hx1
      rw [← hx2e, Int.toNat_natCast] at hx2
      clear hx0e hx1e hx2e
      have hem := HPi.out.X.wf.em
      go_upto_region 11 with ((with_reducible refine gate_dst (N := 10) rfl ?_); (try (refine gate_guard (by rfl) ?_; dsimp only)); refine box_event ?hg (N := 10) ?hd (cs := #[.int .i64 0, .int .i64 0, .int .u64 0]) (t := 48) ?hr ?_; (case hd => rfl); (case hg => rfl); (case hr => first | (go_simp; done) | (go_simp; rfl)); intro xb hg w11 hbox hb; have HXB := Aside0.mk (blkbox hbox : Blk w11 xb 48 [.int .i64 0, .int .i64 0, .int .u64 0]); have HXG := Aside0.mk hg; have HB11 := Aside0.mk hb; have u0_ : w11.cell? ⟨xb, 0, none⟩ = some (.int .i64 0) := HXB.out.cell rfl; have uf0_ : w11.frozen? ⟨xb, 0, none⟩ = false := HXB.out.frozen _; have u1_ : w11.cell? ⟨xb, 1, none⟩ = some (.int .i64 0) := HXB.out.cell rfl; have uf1_ : w11.frozen? ⟨xb, 1, none⟩ = false := HXB.out.frozen _; have u2_ : w11.cell? ⟨xb, 2, none⟩ = some (.int .u64 0) := HXB.out.cell rfl; have uf2_ : w11.frozen? ⟨xb, 2, none⟩ = false := HXB.out.frozen _; clear hg hbox hb)
      have HS3 := Aside0.mk (set3 HXB.out (.int .i64 x0) (.int .i64 x1) (.int .u64 x2))
      have HP11 := Aside0.mk (HPi.out.below HB11.out)
      have HX12 := Aside0.mk (show BX (((w11.setCell ⟨xb, 0, none⟩ (.int .i64 x0)).setCell ⟨xb, 1, none⟩ (.int .i64 x1)).setCell ⟨xb, 2, none⟩ (.int .u64 x2)) own own2 xb x0 x1 x2 from ⟨HS3.out.1, fun h => by have := HPi.out.X.lt _ h; have := HXG.out; omega, fun h => by have := HPi.out.R.lt _ h; have := HXG.out; omega⟩)
      have HP12 := Aside0.mk (HPi.out.below (HB11.out.trans (HS3.out.2.to_below HB11.out.size (fun k hk => by rw [hk, HXG.out]; exact Nat.le_refl _))))
      obtain ⟨w12, hw12⟩ : ∃ w12, w12 = ((w11.setCell ⟨xb, 0, none⟩ (.int .i64 x0)).setCell ⟨xb, 1, none⟩ (.int .i64 x1)).setCell ⟨xb, 2, none⟩ (.int .u64 x2) := ⟨_, rfl⟩
      rw [← hw12] at HP12 HX12 ⊢
      clear hw12 HS3 HP11 HXB HXG HB11 HPi u0_ u1_ u2_ uf0_ uf1_ uf2_ hx0 hx1 hx2
      have u0 : w12.cell? ⟨xb, 0, none⟩ = some (.int .i64 x0) := HX12.out.b.cell rfl
      have u1 : w12.cell? ⟨xb, 1, none⟩ = some (.int .i64 x1) := HX12.out.b.cell rfl
      have u2 : w12.cell? ⟨xb, 2, none⟩ = some (.int .u64 x2) := HX12.out.b.cell rfl
      obtain ⟨L, hL⟩ : ∃ L2 : RLy, L2 = { L0 with qs := qs, us := us } := ⟨_, rfl⟩
      have hLb := congrArg RLy.b hL
      simp only at hLb
      rw [← hLb]
      rw [← hL] at HP12
      have HLL := Aside0.mk hL
      have HLB := Aside0.mk hLb
      clear hL hLb
      rcases tmod3 x0 with hr | hr | hr | hr | hr
      · have et : wrap64 (-x0.tmod 3) = 2 := by rw [hr]; exact wrap64_id (by omega) (by omega)
        have et2 : wrap64 2 = 2 := wrap64_id (by omega) (by omega)
        have et3 : wrap64 (-(-2)) = 2 := wrap64_id (by omega) (by omega)
        have et4 : IntKind.i64.wrap (x0.tmod 3) = -2 := by rw [hr]; decide
        have HPd := Aside0.mk (HP12.out.below (below_drew (Below.refl _ _)))
        have HXd := Aside0.mk (HX12.out.below (below_drew (Below.refl _ _)))
        have zx : w12.drew.cell? ⟨xb, 2, none⟩ = some (.int .u64 x2) := HXd.out.b.cell rfl
        have z5 : w12.drew.cell? ⟨L.b, 5, none⟩ = some (.slice (some ⟨L.be, 0, none⟩) s.es.length L.ce) := HPd.out.R.fld 5 rfl
        go_upto_region 14 with (fail)
        refine start_ (n := 9) (S := fun w' => w'.cell? ⟨xb, 2, none⟩ = some (.int .u64 x2) ∧ w'.cell? ⟨L.b, 5, none⟩ = some (.slice (some ⟨L.be, 0, none⟩) s.es.length L.ce)) (ds := []) (bl 9 0) (by kernel_rfl) rfl rfl ⟨zx, z5⟩ (fun hHeld => ?_)
        refine pure_ (i := 0) (N := some 63) (v := ?_) (a' := ?_) (bl 9 1) rfl rfl (by kernel_rfl) (fun _ _ _ h => h) (Or.inl ⟨by rfl, ?_⟩) ?_ ?_
        rotate_left
        · intro w'
          go_simp
          with_reducible rfl
        rotate_left
        · simp only [Act.put, lsa, lsz, lsc, i64_w, i32_w]
          rfl
        refine pure_ (i := 2) (N := some 65) (v := ?_) (a' := ?_) (bl 9 5) rfl rfl (by kernel_rfl) (fun _ _ _ h => h) (Or.inl ⟨by rfl, ?_⟩) ?_ ?_
        rotate_left
        · intro w'
          go_simp
          with_reducible rfl
        rotate_left
        · simp only [Act.put, lsa, lsz, lsc, i64_w, i32_w]
          rfl
        refine pure_ (i := 3) (N := some 66) (v := ?_) (a' := ?_) (bl 9 13) rfl rfl (by kernel_rfl) (fun _ _ _ h => h) (Or.inl ⟨by rfl, ?_⟩) ?_ ?_
        rotate_left
        · intro w'
          go_simp
          with_reducible rfl
        rotate_left
        · simp only [Act.put, lsa, lsz, lsc, i64_w, i32_w]
          rfl
        refine pure_ (i := 4) (N := some 67) (v := ?_) (a' := ?_) (bl 9 29) rfl rfl (by kernel_rfl) (fun _ _ _ h => h) (Or.inl ⟨by rfl, ?_⟩) ?_ ?_
        rotate_left
        · intro w'
          go_simp
          with_reducible rfl
        rotate_left
        · simp only [Act.put, lsa, lsz, lsc, i64_w, i32_w]
          rfl
        refine take_ (i := 1) (N := some 64) (v := ?_) (a' := ?_) (bl 9 31) rfl rfl (by kernel_rfl) (fun _ _ _ h => h) (Or.inl ⟨by rfl, ?_⟩) hHeld ?_ ?_
        rotate_left
        · rintro w' ⟨s0, s1⟩
          go_simp
          with_reducible rfl
        rotate_left
        · simp only [Act.put, lsa, lsz, lsc, i64_w, i32_w]
          rfl
        refine take_ (i := 5) (N := some 68) (v := ?_) (a' := ?_) (bl 9 63) rfl rfl (by kernel_rfl) (fun _ _ _ h => h) (Or.inl ⟨by rfl, ?_⟩) hHeld ?_ ?_
        rotate_left
        · rintro w' ⟨s0, s1⟩
          go_simp
          with_reducible rfl
        rotate_left
        · simp only [Act.put, lsa, lsz, lsc, i64_w, i32_w]
          rfl
        refine pure_ (i := 6) (N := some 69) (v := ?_) (a' := ?_) (bl 9 127) rfl rfl (by kernel_rfl) (fun _ _ _ h => h) (Or.inl ⟨by rfl, ?_⟩) ?_ ?_
        rotate_left
        · intro w'
          go_simp
          with_reducible rfl
        rotate_left
        · simp only [Act.put, lsa, lsz, lsc, i64_w, i32_w]
          rfl
        refine one_ (i := 7) (N := some 70) (bl 9 255) rfl rfl (by kernel_rfl) (by decide) (fun K hK => ?_)
        refine goes_ Try.func16 (by kernel_rfl) rfl #[.int .u64 x2, .int .i64 (s.es.length : Int)] (by rfl) rfl rfl (by simp only [List.map_toArray, List.map_cons, List.map_nil]; rfl) ?_
        with_reducible refine (PV.citadellaw18_list.calls (s.es.length + 1) x2 (s.es.length : Int) (bitsL x2 s.es.length) _ (list_f x2 s.es.length hem)).mono ?_
        rintro e w14 ⟨v14, rfl, hr14, hb14⟩
        refine ⟨_, rfl, ?_⟩
        obtain ⟨A4, q4, e14, hrl⟩ := RL2.new HPd.out hr14
        subst e14
        have HRL := Aside0.mk hrl
        have HP14 := Aside0.mk (HPd.out.below hb14)
        have HX14 := Aside0.mk (HXd.out.below hb14)
        clear hr14 hrl hb14
        refine hK.out _ _ ⟨HX14.out.b.cell rfl, HP14.out.R.fld 5 rfl⟩ (fun hHeld => ?_)
        clear hK K
        refine norm_ (a' := ?_) ?_ ?_
        rotate_left
        · show Act.put _ (some 70) _ = _
          simp only [Act.put, lsa, lsz, lsc, i64_w, i32_w]
          rfl
        refine pure_ (i := 8) (N := some 12) (v := ?_) (a' := ?_) (bl 9 511) rfl rfl (by kernel_rfl) (fun _ _ _ h => h) (Or.inl ⟨by rfl, ?_⟩) ?_ ?_
        rotate_left
        · intro w'
          go_simp
          with_reducible rfl
        rotate_left
        · simp only [Act.put, lsa, lsz, lsc, i64_w, i32_w]
          rfl
        refine done_ (by kernel_rfl) ?_
        obtain ⟨rd, hrd⟩ : ∃ rd, rd = bitsL x2 s.es.length := ⟨_, rfl⟩
        rw [← hrd] at HRL ⊢
        clear hr et et2 et3 et4 hrd zx z5 hHeld HPd HXd u0 u1 u2
        have HNf := Aside0.mk (show (removeI s x1).now ≤ ((i + 1 : Nat) : Int) by
          have hn := HNW.out
          rw [(removeI_re HP14.out.X.wf x1).now]; push_cast; omega)
        have HQP := Aside0.mk (HP14.out.Q.remove HP14.out.X.wf x1)
        have ze : w14.cell? ⟨xb, 1, none⟩ = some (.int .i64 x1) := HX14.out.b.cell rfl
        go_upto_region 24 with (go_at_call 30; refine (HP14.out.X.removeI x1).mono ?_; rintro e w17 ⟨rfl, hsb, hm⟩; have ht : Then w14 own w17 own := ⟨hm, fun _ h => h, fun _ h => .inl h⟩; have HP17 := Aside0.mk (HP14.out.then1 hsb ht); have HX17 := Aside0.mk (HX14.out.then1 ht); clear hsb hm ht)
        have zf : w17.cell? ⟨xb, 1, none⟩ = some (.int .i64 x1) := HX17.out.b.cell rfl
        have HTC := Aside0.mk (rremove_calls HP17.out.R HP14.out.X.wf HP14.out.Q x1)
        go_upto_region 25 with (go_at_call 35; refine HTC.out.mono ?_; rintro e w18 ⟨rfl, hp⟩; have HP18 := Aside0.mk hp; clear hp)
        obtain ⟨own18, qs18, us18, hp18, _, _⟩ := HP17.out.then2 HQP.out HP18.out
        have HPf := Aside0.mk hp18
        clear hp18 HP18 HTC HP17 HX17 ze zf HQP
        go_wp2_with (go_at_call 36; refine (same_calls HPf.out.X HPf.out.R).mono ?_; rintro e w36 ⟨rfl, hb⟩; have HPg := Aside0.mk (HPf.out.below hb); clear hb)
        have HPh := Aside0.mk (show PW W w36 own own18 b { L0 with qs := qs18, us := us18 } (removeI s x1) by have h := HPg.out; rw [HLL.out] at h; exact h)
        rw [HLB.out]
        go_roundw
        case rel => exact ⟨i + 1, own, own18, qs18, us18, (removeI s x1), by go_num, by omega, HPh, HNf⟩
        case measure => (simp [intOf] <;> omega)
      · have et : wrap64 (-x0.tmod 3) = 1 := by rw [hr]; exact wrap64_id (by omega) (by omega)
        have et2 : wrap64 1 = 1 := wrap64_id (by omega) (by omega)
        have et3 : wrap64 (-(-1)) = 1 := wrap64_id (by omega) (by omega)
        have et4 : IntKind.i64.wrap (x0.tmod 3) = -1 := by rw [hr]; decide
        have HPd := Aside0.mk (HP12.out.below (below_drew (Below.refl _ _)))
        have HXd := Aside0.mk (HX12.out.below (below_drew (Below.refl _ _)))
        have zx : w12.drew.cell? ⟨xb, 2, none⟩ = some (.int .u64 x2) := HXd.out.b.cell rfl
        have z5 : w12.drew.cell? ⟨L.b, 5, none⟩ = some (.slice (some ⟨L.be, 0, none⟩) s.es.length L.ce) := HPd.out.R.fld 5 rfl
        go_upto_region 14 with (fail)
        refine start_ (n := 9) (S := fun w' => w'.cell? ⟨xb, 2, none⟩ = some (.int .u64 x2) ∧ w'.cell? ⟨L.b, 5, none⟩ = some (.slice (some ⟨L.be, 0, none⟩) s.es.length L.ce)) (ds := []) (bl 9 0) (by kernel_rfl) rfl rfl ⟨zx, z5⟩ (fun hHeld => ?_)
        refine pure_ (i := 0) (N := some 63) (v := ?_) (a' := ?_) (bl 9 1) rfl rfl (by kernel_rfl) (fun _ _ _ h => h) (Or.inl ⟨by rfl, ?_⟩) ?_ ?_
        rotate_left
        · intro w'
          go_simp
          with_reducible rfl
        rotate_left
        · simp only [Act.put, lsa, lsz, lsc, i64_w, i32_w]
          rfl
        refine pure_ (i := 2) (N := some 65) (v := ?_) (a' := ?_) (bl 9 5) rfl rfl (by kernel_rfl) (fun _ _ _ h => h) (Or.inl ⟨by rfl, ?_⟩) ?_ ?_
        rotate_left
        · intro w'
          go_simp
          with_reducible rfl
        rotate_left
        · simp only [Act.put, lsa, lsz, lsc, i64_w, i32_w]
          rfl
        refine pure_ (i := 3) (N := some 66) (v := ?_) (a' := ?_) (bl 9 13) rfl rfl (by kernel_rfl) (fun _ _ _ h => h) (Or.inl ⟨by rfl, ?_⟩) ?_ ?_
        rotate_left
        · intro w'
          go_simp
          with_reducible rfl
        rotate_left
        · simp only [Act.put, lsa, lsz, lsc, i64_w, i32_w]
          rfl
        refine pure_ (i := 4) (N := some 67) (v := ?_) (a' := ?_) (bl 9 29) rfl rfl (by kernel_rfl) (fun _ _ _ h => h) (Or.inl ⟨by rfl, ?_⟩) ?_ ?_
        rotate_left
        · intro w'
          go_simp
          with_reducible rfl
        rotate_left
        · simp only [Act.put, lsa, lsz, lsc, i64_w, i32_w]
          rfl
        refine take_ (i := 1) (N := some 64) (v := ?_) (a' := ?_) (bl 9 31) rfl rfl (by kernel_rfl) (fun _ _ _ h => h) (Or.inl ⟨by rfl, ?_⟩) hHeld ?_ ?_
        rotate_left
        · rintro w' ⟨s0, s1⟩
          go_simp
          with_reducible rfl
        rotate_left
        · simp only [Act.put, lsa, lsz, lsc, i64_w, i32_w]
          rfl
        refine take_ (i := 5) (N := some 68) (v := ?_) (a' := ?_) (bl 9 63) rfl rfl (by kernel_rfl) (fun _ _ _ h => h) (Or.inl ⟨by rfl, ?_⟩) hHeld ?_ ?_
        rotate_left
        · rintro w' ⟨s0, s1⟩
          go_simp
          with_reducible rfl
        rotate_left
        · simp only [Act.put, lsa, lsz, lsc, i64_w, i32_w]
          rfl
        refine pure_ (i := 6) (N := some 69) (v := ?_) (a' := ?_) (bl 9 127) rfl rfl (by kernel_rfl) (fun _ _ _ h => h) (Or.inl ⟨by rfl, ?_⟩) ?_ ?_
        rotate_left
        · intro w'
          go_simp
          with_reducible rfl
        rotate_left
        · simp only [Act.put, lsa, lsz, lsc, i64_w, i32_w]
          rfl
        refine one_ (i := 7) (N := some 70) (bl 9 255) rfl rfl (by kernel_rfl) (by decide) (fun K hK => ?_)
        refine goes_ Try.func16 (by kernel_rfl) rfl #[.int .u64 x2, .int .i64 (s.es.length : Int)] (by rfl) rfl rfl (by simp only [List.map_toArray, List.map_cons, List.map_nil]; rfl) ?_
        with_reducible refine (PV.citadellaw18_list.calls (s.es.length + 1) x2 (s.es.length : Int) (bitsL x2 s.es.length) _ (list_f x2 s.es.length hem)).mono ?_
        rintro e w14 ⟨v14, rfl, hr14, hb14⟩
        refine ⟨_, rfl, ?_⟩
        obtain ⟨A4, q4, e14, hrl⟩ := RL2.new HPd.out hr14
        subst e14
        have HRL := Aside0.mk hrl
        have HP14 := Aside0.mk (HPd.out.below hb14)
        have HX14 := Aside0.mk (HXd.out.below hb14)
        clear hr14 hrl hb14
        refine hK.out _ _ ⟨HX14.out.b.cell rfl, HP14.out.R.fld 5 rfl⟩ (fun hHeld => ?_)
        clear hK K
        refine norm_ (a' := ?_) ?_ ?_
        rotate_left
        · show Act.put _ (some 70) _ = _
          simp only [Act.put, lsa, lsz, lsc, i64_w, i32_w]
          rfl
        refine pure_ (i := 8) (N := some 12) (v := ?_) (a' := ?_) (bl 9 511) rfl rfl (by kernel_rfl) (fun _ _ _ h => h) (Or.inl ⟨by rfl, ?_⟩) ?_ ?_
        rotate_left
        · intro w'
          go_simp
          with_reducible rfl
        rotate_left
        · simp only [Act.put, lsa, lsz, lsc, i64_w, i32_w]
          rfl
        refine done_ (by kernel_rfl) ?_
        obtain ⟨rd, hrd⟩ : ∃ rd, rd = bitsL x2 s.es.length := ⟨_, rfl⟩
        rw [← hrd] at HRL ⊢
        clear hr et et2 et3 et4 hrd zx z5 hHeld HPd HXd u0 u1 u2
        have HNf := Aside0.mk (show (pickF s x1 rd).2.now ≤ ((i + 1 : Nat) : Int) by
          have hn := HNW.out
          rw [(pickF_pk HP14.out.X.wf x1 rd).now]; push_cast; omega)
        have HQP := Aside0.mk (HP14.out.Q.pick HP14.out.X.wf x1 rd)
        have HWS := Aside0.mk HP14.out.X.wf
        obtain ⟨pr, hpr⟩ : ∃ pr, pr = (pickF s x1 rd).1 := ⟨_, rfl⟩
        have a1 : (pr != pr) = false := by simp
        have a2 : (pr == pr) = true := by simp
        rw [hpr] at a1 a2
        clear hpr
        have HPe := Aside0.mk (HP14.out.below (below_drew (Below.refl _ _)))
        have HRLe := Aside0.mk (HRL.out.below (below_drew (Below.refl _ _)))
        have HXe := Aside0.mk (HX14.out.below (below_drew (Below.refl _ _)))
        have ze : w14.drew.cell? ⟨xb, 1, none⟩ = some (.int .i64 x1) := HXe.out.b.cell rfl
        go_upto_region 20 with (fail)
        refine start_ (n := 11) (S := fun w' => w'.cell? ⟨xb, 1, none⟩ = some (.int .i64 x1)) (ds := []) (bl 11 0) (by kernel_rfl) rfl rfl (ze) (fun hHeld => ?_)
        refine pure_ (i := 0) (N := some 82) (v := ?_) (a' := ?_) (bl 11 1) rfl rfl (by kernel_rfl) (fun _ _ _ h => h) (Or.inl ⟨by rfl, ?_⟩) ?_ ?_
        rotate_left
        · intro w'
          go_simp
          with_reducible rfl
        rotate_left
        · simp only [Act.put, lsa, lsz, lsc, i64_w, i32_w]
          rfl
        refine pure_ (i := 1) (N := some 83) (v := ?_) (a' := ?_) (bl 11 3) rfl rfl (by kernel_rfl) (fun _ _ _ h => h) (Or.inl ⟨by rfl, ?_⟩) ?_ ?_
        rotate_left
        · intro w'
          go_simp
          with_reducible rfl
        rotate_left
        · simp only [Act.put, lsa, lsz, lsc, i64_w, i32_w]
          rfl
        refine pure_ (i := 3) (N := some 85) (v := ?_) (a' := ?_) (bl 11 11) rfl rfl (by kernel_rfl) (fun _ _ _ h => h) (Or.inl ⟨by rfl, ?_⟩) ?_ ?_
        rotate_left
        · intro w'
          go_simp
          with_reducible rfl
        rotate_left
        · simp only [Act.put, lsa, lsz, lsc, i64_w, i32_w]
          rfl
        refine pure_ (i := 5) (N := some 87) (v := ?_) (a' := ?_) (bl 11 43) rfl rfl (by kernel_rfl) (fun _ _ _ h => h) (Or.inl ⟨by rfl, ?_⟩) ?_ ?_
        rotate_left
        · intro w'
          go_simp
          with_reducible rfl
        rotate_left
        · simp only [Act.put, lsa, lsz, lsc, i64_w, i32_w]
          rfl
        refine pure_ (i := 6) (N := some 88) (v := ?_) (a' := ?_) (bl 11 107) rfl rfl (by kernel_rfl) (fun _ _ _ h => h) (Or.inl ⟨by rfl, ?_⟩) ?_ ?_
        rotate_left
        · intro w'
          go_simp
          with_reducible rfl
        rotate_left
        · simp only [Act.put, lsa, lsz, lsc, i64_w, i32_w]
          rfl
        refine pure_ (i := 8) (N := some 90) (v := ?_) (a' := ?_) (bl 11 363) rfl rfl (by kernel_rfl) (fun _ _ _ h => h) (Or.inl ⟨by rfl, ?_⟩) ?_ ?_
        rotate_left
        · intro w'
          go_simp
          with_reducible rfl
        rotate_left
        · simp only [Act.put, lsa, lsz, lsc, i64_w, i32_w]
          rfl
        refine take_ (i := 2) (N := some 84) (v := ?_) (a' := ?_) (bl 11 367) rfl rfl (by kernel_rfl) (fun _ _ _ h => h) (Or.inl ⟨by rfl, ?_⟩) hHeld ?_ ?_
        rotate_left
        · intro w' s0
          go_simp
          with_reducible rfl
        rotate_left
        · simp only [Act.put, lsa, lsz, lsc, i64_w, i32_w]
          rfl
        refine take_ (i := 7) (N := some 89) (v := ?_) (a' := ?_) (bl 11 495) rfl rfl (by kernel_rfl) (fun _ _ _ h => h) (Or.inl ⟨by rfl, ?_⟩) hHeld ?_ ?_
        rotate_left
        · intro w' s0
          go_simp
          with_reducible rfl
        rotate_left
        · simp only [Act.put, lsa, lsz, lsc, i64_w, i32_w]
          rfl
        refine one_ (i := 4) (N := some 86) (bl 11 511) rfl rfl (by kernel_rfl) (by decide) (fun K hK => ?_)
        refine goes_ Try.func17 (by kernel_rfl) rfl #[.pointer (some ⟨b, 0, none⟩), .int .i64 x1, .slice A4 rd.length q4] (by rfl) rfl rfl (by simp only [List.map_toArray, List.map_cons, List.map_nil]; rfl) ?_
        with_reducible refine (HPe.out.X.pick HRLe.out.one x1).mono ?_
        rintro e w17 ⟨rfl, own17, hsb, ht⟩
        refine ⟨_, rfl, ?_⟩
        have HP17 := Aside0.mk (HPe.out.then1 hsb ht)
        have HRL17 := Aside0.mk (HRLe.out.then1 ht)
        have HX17 := Aside0.mk (HXe.out.then1 ht)
        clear hsb ht
        refine hK.out _ _ (HX17.out.b.cell rfl) (fun hHeld => ?_)
        clear hK K
        refine norm_ (a' := ?_) ?_ ?_
        rotate_left
        · show Act.put _ (some 86) _ = _
          simp only [Act.put, lsa, lsz, lsc, i64_w, i32_w]
          rfl
        refine one_ (i := 9) (N := some 91) (bl 11 1023) rfl rfl (by kernel_rfl) (by decide) (fun K hK => ?_)
        refine goes_ Try.func34 (by kernel_rfl) rfl #[.pointer (some ⟨L.b, 0, none⟩), .int .i64 x1, .slice A4 rd.length q4] (by rfl) rfl rfl (by simp only [List.map_toArray, List.map_cons, List.map_nil]; rfl) ?_
        with_reducible refine (rpick_calls HP17.out.R HWS.out HRL17.out.toRD (fun ad e => (HRL17.out.no2 ad e).1) x1).mono ?_
        rintro e w18 ⟨rfl, hp⟩
        refine ⟨_, rfl, ?_⟩
        obtain ⟨own18, qs18, us18, hp18, hm18, hz18⟩ := HP17.out.then2 HQP.out hp
        have HP18 := Aside0.mk hp18
        have HX18 := Aside0.mk (HX17.out.then2 hm18 hz18)
        clear hp hp18 hm18 hz18
        refine hK.out _ _ (HX18.out.b.cell rfl) (fun hHeld => ?_)
        clear hK K
        refine norm_ (a' := ?_) ?_ ?_
        rotate_left
        · show Act.put _ (some 91) _ = _
          simp only [Act.put, lsa, lsz, lsc, i64_w, i32_w]
          rfl
        refine pure_ (i := 10) (N := some 92) (v := ?_) (a' := ?_) (bl 11 2047) rfl rfl (by kernel_rfl) (fun _ _ _ h => h) (Or.inl ⟨by rfl, ?_⟩) ?_ ?_
        rotate_left
        · intro w'
          go_simp
          with_reducible rfl
        rotate_left
        · simp only [Act.put, lsa, lsz, lsc, i64_w, i32_w]
          rfl
        refine done_ (by kernel_rfl) ?_
        have HPf := HP18
        clear hHeld ze
        go_wp2_with (go_at_call 36; refine (same_calls HPf.out.X HPf.out.R).mono ?_; rintro e w36 ⟨rfl, hb⟩; have HPg := Aside0.mk (HPf.out.below hb); clear hb)
        have HPh := Aside0.mk (show PW W w36 own17 own18 b { L0 with qs := qs18, us := us18 } (pickF s x1 rd).2 by have h := HPg.out; rw [HLL.out] at h; exact h)
        rw [HLB.out]
        go_roundw
        case rel => exact ⟨i + 1, own17, own18, qs18, us18, (pickF s x1 rd).2, by go_num, by omega, HPh, HNf⟩
        case measure => (simp [intOf] <;> omega)
      · have et : wrap64 (-x0.tmod 3) = 0 := by rw [hr]; exact wrap64_id (by omega) (by omega)
        have et2 : wrap64 0 = 0 := wrap64_id (by omega) (by omega)
        have et3 : wrap64 (-(0)) = 0 := wrap64_id (by omega) (by omega)
        have et4 : IntKind.i64.wrap (x0.tmod 3) = 0 := by rw [hr]; decide
        have HPd := Aside0.mk (HP12.out.below (below_drew (Below.refl _ _)))
        have HXd := Aside0.mk (HX12.out.below (below_drew (Below.refl _ _)))
        have zx : w12.drew.cell? ⟨xb, 2, none⟩ = some (.int .u64 x2) := HXd.out.b.cell rfl
        have z5 : w12.drew.cell? ⟨L.b, 5, none⟩ = some (.slice (some ⟨L.be, 0, none⟩) s.es.length L.ce) := HPd.out.R.fld 5 rfl
        go_upto_region 14 with (fail)
        refine start_ (n := 9) (S := fun w' => w'.cell? ⟨xb, 2, none⟩ = some (.int .u64 x2) ∧ w'.cell? ⟨L.b, 5, none⟩ = some (.slice (some ⟨L.be, 0, none⟩) s.es.length L.ce)) (ds := []) (bl 9 0) (by kernel_rfl) rfl rfl ⟨zx, z5⟩ (fun hHeld => ?_)
        refine pure_ (i := 0) (N := some 63) (v := ?_) (a' := ?_) (bl 9 1) rfl rfl (by kernel_rfl) (fun _ _ _ h => h) (Or.inl ⟨by rfl, ?_⟩) ?_ ?_
        rotate_left
        · intro w'
          go_simp
          with_reducible rfl
        rotate_left
        · simp only [Act.put, lsa, lsz, lsc, i64_w, i32_w]
          rfl
        refine pure_ (i := 2) (N := some 65) (v := ?_) (a' := ?_) (bl 9 5) rfl rfl (by kernel_rfl) (fun _ _ _ h => h) (Or.inl ⟨by rfl, ?_⟩) ?_ ?_
        rotate_left
        · intro w'
          go_simp
          with_reducible rfl
        rotate_left
        · simp only [Act.put, lsa, lsz, lsc, i64_w, i32_w]
          rfl
        refine pure_ (i := 3) (N := some 66) (v := ?_) (a' := ?_) (bl 9 13) rfl rfl (by kernel_rfl) (fun _ _ _ h => h) (Or.inl ⟨by rfl, ?_⟩) ?_ ?_
        rotate_left
        · intro w'
          go_simp
          with_reducible rfl
        rotate_left
        · simp only [Act.put, lsa, lsz, lsc, i64_w, i32_w]
          rfl
        refine pure_ (i := 4) (N := some 67) (v := ?_) (a' := ?_) (bl 9 29) rfl rfl (by kernel_rfl) (fun _ _ _ h => h) (Or.inl ⟨by rfl, ?_⟩) ?_ ?_
        rotate_left
        · intro w'
          go_simp
          with_reducible rfl
        rotate_left
        · simp only [Act.put, lsa, lsz, lsc, i64_w, i32_w]
          rfl
        refine take_ (i := 1) (N := some 64) (v := ?_) (a' := ?_) (bl 9 31) rfl rfl (by kernel_rfl) (fun _ _ _ h => h) (Or.inl ⟨by rfl, ?_⟩) hHeld ?_ ?_
        rotate_left
        · rintro w' ⟨s0, s1⟩
          go_simp
          with_reducible rfl
        rotate_left
        · simp only [Act.put, lsa, lsz, lsc, i64_w, i32_w]
          rfl
        refine take_ (i := 5) (N := some 68) (v := ?_) (a' := ?_) (bl 9 63) rfl rfl (by kernel_rfl) (fun _ _ _ h => h) (Or.inl ⟨by rfl, ?_⟩) hHeld ?_ ?_
        rotate_left
        · rintro w' ⟨s0, s1⟩
          go_simp
          with_reducible rfl
        rotate_left
        · simp only [Act.put, lsa, lsz, lsc, i64_w, i32_w]
          rfl
        refine pure_ (i := 6) (N := some 69) (v := ?_) (a' := ?_) (bl 9 127) rfl rfl (by kernel_rfl) (fun _ _ _ h => h) (Or.inl ⟨by rfl, ?_⟩) ?_ ?_
        rotate_left
        · intro w'
          go_simp
          with_reducible rfl
        rotate_left
        · simp only [Act.put, lsa, lsz, lsc, i64_w, i32_w]
          rfl
        refine one_ (i := 7) (N := some 70) (bl 9 255) rfl rfl (by kernel_rfl) (by decide) (fun K hK => ?_)
        refine goes_ Try.func16 (by kernel_rfl) rfl #[.int .u64 x2, .int .i64 (s.es.length : Int)] (by rfl) rfl rfl (by simp only [List.map_toArray, List.map_cons, List.map_nil]; rfl) ?_
        with_reducible refine (PV.citadellaw18_list.calls (s.es.length + 1) x2 (s.es.length : Int) (bitsL x2 s.es.length) _ (list_f x2 s.es.length hem)).mono ?_
        rintro e w14 ⟨v14, rfl, hr14, hb14⟩
        refine ⟨_, rfl, ?_⟩
        obtain ⟨A4, q4, e14, hrl⟩ := RL2.new HPd.out hr14
        subst e14
        have HRL := Aside0.mk hrl
        have HP14 := Aside0.mk (HPd.out.below hb14)
        have HX14 := Aside0.mk (HXd.out.below hb14)
        clear hr14 hrl hb14
        refine hK.out _ _ ⟨HX14.out.b.cell rfl, HP14.out.R.fld 5 rfl⟩ (fun hHeld => ?_)
        clear hK K
        refine norm_ (a' := ?_) ?_ ?_
        rotate_left
        · show Act.put _ (some 70) _ = _
          simp only [Act.put, lsa, lsz, lsc, i64_w, i32_w]
          rfl
        refine pure_ (i := 8) (N := some 12) (v := ?_) (a' := ?_) (bl 9 511) rfl rfl (by kernel_rfl) (fun _ _ _ h => h) (Or.inl ⟨by rfl, ?_⟩) ?_ ?_
        rotate_left
        · intro w'
          go_simp
          with_reducible rfl
        rotate_left
        · simp only [Act.put, lsa, lsz, lsc, i64_w, i32_w]
          rfl
        refine done_ (by kernel_rfl) ?_
        obtain ⟨rd, hrd⟩ : ∃ rd, rd = bitsL x2 s.es.length := ⟨_, rfl⟩
        rw [← hrd] at HRL ⊢
        clear hr et et2 et3 et4 hrd zx z5 hHeld HPd HXd u0 u1 u2
        have HNf := Aside0.mk (show (tickF s rd).now ≤ ((i + 1 : Nat) : Int) by
          have hn := HNW.out
          have ht := tickF_tf rd HP14.out.X.wf (by omega) HP14.out.X.cntC HP14.out.X.cntR
          rw [ht.now]; push_cast; omega)
        have HTQ := Aside0.mk (tickF_qx rd HP14.out.X.wf (by have := HNW.out; omega) HP14.out.X.cntC HP14.out.X.cntR HP14.out.Q)
        have hnow : s.now ≤ 288230376151711744 := by have := HNW.out; omega
        go_upto_region 18 with (go_at_call 18; refine (HP14.out.X.tick hnow HRL.out.one).mono ?_; rintro e w17 ⟨rfl, own17, hsb, ht⟩; have HP17 := Aside0.mk (HP14.out.then1 hsb ht); have HRL17 := Aside0.mk (HRL.out.then1 ht); clear hsb ht)
        have HTC := Aside0.mk (rtick_calls HP17.out.R HP14.out.X.wf HP14.out.Q hnow HP14.out.X.cntC HP14.out.X.cntR HRL17.out.toRD HRL17.out.no2)
        go_upto_region 25 with (go_at_call 33; refine HTC.out.mono ?_; rintro e w18 ⟨rfl, hp⟩; have HP18 := Aside0.mk hp; clear hp)
        obtain ⟨own18, qs18, us18, hp18, _, _⟩ := HP17.out.then2 HTQ.out HP18.out
        have HPf := Aside0.mk hp18
        clear hp18 HP18 HTC HP17 HRL17 HTQ
        go_wp2_with (go_at_call 36; refine (same_calls HPf.out.X HPf.out.R).mono ?_; rintro e w36 ⟨rfl, hb⟩; have HPg := Aside0.mk (HPf.out.below hb); clear hb)
        have HPh := Aside0.mk (show PW W w36 own17 own18 b { L0 with qs := qs18, us := us18 } (tickF s rd) by have h := HPg.out; rw [HLL.out] at h; exact h)
        rw [HLB.out]
        go_roundw
        case rel => exact ⟨i + 1, own17, own18, qs18, us18, (tickF s rd), by go_num, by omega, HPh, HNf⟩
        case measure => (simp [intOf] <;> omega)
      · have et : wrap64 (-x0.tmod 3) = -1 := by rw [hr]; exact wrap64_id (by omega) (by omega)
        have et2 : wrap64 1 = 1 := wrap64_id (by omega) (by omega)
        have et3 : wrap64 (-(1)) = -1 := wrap64_id (by omega) (by omega)
        have et4 : IntKind.i64.wrap (x0.tmod 3) = 1 := by rw [hr]; decide
        have HPd := Aside0.mk (HP12.out.below (below_drew (Below.refl _ _)))
        have HXd := Aside0.mk (HX12.out.below (below_drew (Below.refl _ _)))
        have zx : w12.drew.cell? ⟨xb, 2, none⟩ = some (.int .u64 x2) := HXd.out.b.cell rfl
        have z5 : w12.drew.cell? ⟨L.b, 5, none⟩ = some (.slice (some ⟨L.be, 0, none⟩) s.es.length L.ce) := HPd.out.R.fld 5 rfl
        go_upto_region 14 with (fail)
        refine start_ (n := 9) (S := fun w' => w'.cell? ⟨xb, 2, none⟩ = some (.int .u64 x2) ∧ w'.cell? ⟨L.b, 5, none⟩ = some (.slice (some ⟨L.be, 0, none⟩) s.es.length L.ce)) (ds := []) (bl 9 0) (by kernel_rfl) rfl rfl ⟨zx, z5⟩ (fun hHeld => ?_)
        refine pure_ (i := 0) (N := some 63) (v := ?_) (a' := ?_) (bl 9 1) rfl rfl (by kernel_rfl) (fun _ _ _ h => h) (Or.inl ⟨by rfl, ?_⟩) ?_ ?_
        rotate_left
        · intro w'
          go_simp
          with_reducible rfl
        rotate_left
        · simp only [Act.put, lsa, lsz, lsc, i64_w, i32_w]
          rfl
        refine pure_ (i := 2) (N := some 65) (v := ?_) (a' := ?_) (bl 9 5) rfl rfl (by kernel_rfl) (fun _ _ _ h => h) (Or.inl ⟨by rfl, ?_⟩) ?_ ?_
        rotate_left
        · intro w'
          go_simp
          with_reducible rfl
        rotate_left
        · simp only [Act.put, lsa, lsz, lsc, i64_w, i32_w]
          rfl
        refine pure_ (i := 3) (N := some 66) (v := ?_) (a' := ?_) (bl 9 13) rfl rfl (by kernel_rfl) (fun _ _ _ h => h) (Or.inl ⟨by rfl, ?_⟩) ?_ ?_
        rotate_left
        · intro w'
          go_simp
          with_reducible rfl
        rotate_left
        · simp only [Act.put, lsa, lsz, lsc, i64_w, i32_w]
          rfl
        refine pure_ (i := 4) (N := some 67) (v := ?_) (a' := ?_) (bl 9 29) rfl rfl (by kernel_rfl) (fun _ _ _ h => h) (Or.inl ⟨by rfl, ?_⟩) ?_ ?_
        rotate_left
        · intro w'
          go_simp
          with_reducible rfl
        rotate_left
        · simp only [Act.put, lsa, lsz, lsc, i64_w, i32_w]
          rfl
        refine take_ (i := 1) (N := some 64) (v := ?_) (a' := ?_) (bl 9 31) rfl rfl (by kernel_rfl) (fun _ _ _ h => h) (Or.inl ⟨by rfl, ?_⟩) hHeld ?_ ?_
        rotate_left
        · rintro w' ⟨s0, s1⟩
          go_simp
          with_reducible rfl
        rotate_left
        · simp only [Act.put, lsa, lsz, lsc, i64_w, i32_w]
          rfl
        refine take_ (i := 5) (N := some 68) (v := ?_) (a' := ?_) (bl 9 63) rfl rfl (by kernel_rfl) (fun _ _ _ h => h) (Or.inl ⟨by rfl, ?_⟩) hHeld ?_ ?_
        rotate_left
        · rintro w' ⟨s0, s1⟩
          go_simp
          with_reducible rfl
        rotate_left
        · simp only [Act.put, lsa, lsz, lsc, i64_w, i32_w]
          rfl
        refine pure_ (i := 6) (N := some 69) (v := ?_) (a' := ?_) (bl 9 127) rfl rfl (by kernel_rfl) (fun _ _ _ h => h) (Or.inl ⟨by rfl, ?_⟩) ?_ ?_
        rotate_left
        · intro w'
          go_simp
          with_reducible rfl
        rotate_left
        · simp only [Act.put, lsa, lsz, lsc, i64_w, i32_w]
          rfl
        refine one_ (i := 7) (N := some 70) (bl 9 255) rfl rfl (by kernel_rfl) (by decide) (fun K hK => ?_)
        refine goes_ Try.func16 (by kernel_rfl) rfl #[.int .u64 x2, .int .i64 (s.es.length : Int)] (by rfl) rfl rfl (by simp only [List.map_toArray, List.map_cons, List.map_nil]; rfl) ?_
        with_reducible refine (PV.citadellaw18_list.calls (s.es.length + 1) x2 (s.es.length : Int) (bitsL x2 s.es.length) _ (list_f x2 s.es.length hem)).mono ?_
        rintro e w14 ⟨v14, rfl, hr14, hb14⟩
        refine ⟨_, rfl, ?_⟩
        obtain ⟨A4, q4, e14, hrl⟩ := RL2.new HPd.out hr14
        subst e14
        have HRL := Aside0.mk hrl
        have HP14 := Aside0.mk (HPd.out.below hb14)
        have HX14 := Aside0.mk (HXd.out.below hb14)
        clear hr14 hrl hb14
        refine hK.out _ _ ⟨HX14.out.b.cell rfl, HP14.out.R.fld 5 rfl⟩ (fun hHeld => ?_)
        clear hK K
        refine norm_ (a' := ?_) ?_ ?_
        rotate_left
        · show Act.put _ (some 70) _ = _
          simp only [Act.put, lsa, lsz, lsc, i64_w, i32_w]
          rfl
        refine pure_ (i := 8) (N := some 12) (v := ?_) (a' := ?_) (bl 9 511) rfl rfl (by kernel_rfl) (fun _ _ _ h => h) (Or.inl ⟨by rfl, ?_⟩) ?_ ?_
        rotate_left
        · intro w'
          go_simp
          with_reducible rfl
        rotate_left
        · simp only [Act.put, lsa, lsz, lsc, i64_w, i32_w]
          rfl
        refine done_ (by kernel_rfl) ?_
        obtain ⟨rd, hrd⟩ : ∃ rd, rd = bitsL x2 s.es.length := ⟨_, rfl⟩
        rw [← hrd] at HRL ⊢
        clear hr et et2 et3 et4 hrd zx z5 hHeld HPd HXd u0 u1 u2
        have HNf := Aside0.mk (show (pickF s x1 rd).2.now ≤ ((i + 1 : Nat) : Int) by
          have hn := HNW.out
          rw [(pickF_pk HP14.out.X.wf x1 rd).now]; push_cast; omega)
        have HQP := Aside0.mk (HP14.out.Q.pick HP14.out.X.wf x1 rd)
        have HWS := Aside0.mk HP14.out.X.wf
        obtain ⟨pr, hpr⟩ : ∃ pr, pr = (pickF s x1 rd).1 := ⟨_, rfl⟩
        have a1 : (pr != pr) = false := by simp
        have a2 : (pr == pr) = true := by simp
        rw [hpr] at a1 a2
        clear hpr
        have HPe := Aside0.mk (HP14.out.below (below_drew (Below.refl _ _)))
        have HRLe := Aside0.mk (HRL.out.below (below_drew (Below.refl _ _)))
        have HXe := Aside0.mk (HX14.out.below (below_drew (Below.refl _ _)))
        have ze : w14.drew.cell? ⟨xb, 1, none⟩ = some (.int .i64 x1) := HXe.out.b.cell rfl
        go_upto_region 20 with (fail)
        refine start_ (n := 11) (S := fun w' => w'.cell? ⟨xb, 1, none⟩ = some (.int .i64 x1)) (ds := []) (bl 11 0) (by kernel_rfl) rfl rfl (ze) (fun hHeld => ?_)
        refine pure_ (i := 0) (N := some 82) (v := ?_) (a' := ?_) (bl 11 1) rfl rfl (by kernel_rfl) (fun _ _ _ h => h) (Or.inl ⟨by rfl, ?_⟩) ?_ ?_
        rotate_left
        · intro w'
          go_simp
          with_reducible rfl
        rotate_left
        · simp only [Act.put, lsa, lsz, lsc, i64_w, i32_w]
          rfl
        refine pure_ (i := 1) (N := some 83) (v := ?_) (a' := ?_) (bl 11 3) rfl rfl (by kernel_rfl) (fun _ _ _ h => h) (Or.inl ⟨by rfl, ?_⟩) ?_ ?_
        rotate_left
        · intro w'
          go_simp
          with_reducible rfl
        rotate_left
        · simp only [Act.put, lsa, lsz, lsc, i64_w, i32_w]
          rfl
        refine pure_ (i := 3) (N := some 85) (v := ?_) (a' := ?_) (bl 11 11) rfl rfl (by kernel_rfl) (fun _ _ _ h => h) (Or.inl ⟨by rfl, ?_⟩) ?_ ?_
        rotate_left
        · intro w'
          go_simp
          with_reducible rfl
        rotate_left
        · simp only [Act.put, lsa, lsz, lsc, i64_w, i32_w]
          rfl
        refine pure_ (i := 5) (N := some 87) (v := ?_) (a' := ?_) (bl 11 43) rfl rfl (by kernel_rfl) (fun _ _ _ h => h) (Or.inl ⟨by rfl, ?_⟩) ?_ ?_
        rotate_left
        · intro w'
          go_simp
          with_reducible rfl
        rotate_left
        · simp only [Act.put, lsa, lsz, lsc, i64_w, i32_w]
          rfl
        refine pure_ (i := 6) (N := some 88) (v := ?_) (a' := ?_) (bl 11 107) rfl rfl (by kernel_rfl) (fun _ _ _ h => h) (Or.inl ⟨by rfl, ?_⟩) ?_ ?_
        rotate_left
        · intro w'
          go_simp
          with_reducible rfl
        rotate_left
        · simp only [Act.put, lsa, lsz, lsc, i64_w, i32_w]
          rfl
        refine pure_ (i := 8) (N := some 90) (v := ?_) (a' := ?_) (bl 11 363) rfl rfl (by kernel_rfl) (fun _ _ _ h => h) (Or.inl ⟨by rfl, ?_⟩) ?_ ?_
        rotate_left
        · intro w'
          go_simp
          with_reducible rfl
        rotate_left
        · simp only [Act.put, lsa, lsz, lsc, i64_w, i32_w]
          rfl
        refine take_ (i := 2) (N := some 84) (v := ?_) (a' := ?_) (bl 11 367) rfl rfl (by kernel_rfl) (fun _ _ _ h => h) (Or.inl ⟨by rfl, ?_⟩) hHeld ?_ ?_
        rotate_left
        · intro w' s0
          go_simp
          with_reducible rfl
        rotate_left
        · simp only [Act.put, lsa, lsz, lsc, i64_w, i32_w]
          rfl
        refine take_ (i := 7) (N := some 89) (v := ?_) (a' := ?_) (bl 11 495) rfl rfl (by kernel_rfl) (fun _ _ _ h => h) (Or.inl ⟨by rfl, ?_⟩) hHeld ?_ ?_
        rotate_left
        · intro w' s0
          go_simp
          with_reducible rfl
        rotate_left
        · simp only [Act.put, lsa, lsz, lsc, i64_w, i32_w]
          rfl
        refine one_ (i := 4) (N := some 86) (bl 11 511) rfl rfl (by kernel_rfl) (by decide) (fun K hK => ?_)
        refine goes_ Try.func17 (by kernel_rfl) rfl #[.pointer (some ⟨b, 0, none⟩), .int .i64 x1, .slice A4 rd.length q4] (by rfl) rfl rfl (by simp only [List.map_toArray, List.map_cons, List.map_nil]; rfl) ?_
        with_reducible refine (HPe.out.X.pick HRLe.out.one x1).mono ?_
        rintro e w17 ⟨rfl, own17, hsb, ht⟩
        refine ⟨_, rfl, ?_⟩
        have HP17 := Aside0.mk (HPe.out.then1 hsb ht)
        have HRL17 := Aside0.mk (HRLe.out.then1 ht)
        have HX17 := Aside0.mk (HXe.out.then1 ht)
        clear hsb ht
        refine hK.out _ _ (HX17.out.b.cell rfl) (fun hHeld => ?_)
        clear hK K
        refine norm_ (a' := ?_) ?_ ?_
        rotate_left
        · show Act.put _ (some 86) _ = _
          simp only [Act.put, lsa, lsz, lsc, i64_w, i32_w]
          rfl
        refine one_ (i := 9) (N := some 91) (bl 11 1023) rfl rfl (by kernel_rfl) (by decide) (fun K hK => ?_)
        refine goes_ Try.func34 (by kernel_rfl) rfl #[.pointer (some ⟨L.b, 0, none⟩), .int .i64 x1, .slice A4 rd.length q4] (by rfl) rfl rfl (by simp only [List.map_toArray, List.map_cons, List.map_nil]; rfl) ?_
        with_reducible refine (rpick_calls HP17.out.R HWS.out HRL17.out.toRD (fun ad e => (HRL17.out.no2 ad e).1) x1).mono ?_
        rintro e w18 ⟨rfl, hp⟩
        refine ⟨_, rfl, ?_⟩
        obtain ⟨own18, qs18, us18, hp18, hm18, hz18⟩ := HP17.out.then2 HQP.out hp
        have HP18 := Aside0.mk hp18
        have HX18 := Aside0.mk (HX17.out.then2 hm18 hz18)
        clear hp hp18 hm18 hz18
        refine hK.out _ _ (HX18.out.b.cell rfl) (fun hHeld => ?_)
        clear hK K
        refine norm_ (a' := ?_) ?_ ?_
        rotate_left
        · show Act.put _ (some 91) _ = _
          simp only [Act.put, lsa, lsz, lsc, i64_w, i32_w]
          rfl
        refine pure_ (i := 10) (N := some 92) (v := ?_) (a' := ?_) (bl 11 2047) rfl rfl (by kernel_rfl) (fun _ _ _ h => h) (Or.inl ⟨by rfl, ?_⟩) ?_ ?_
        rotate_left
        · intro w'
          go_simp
          with_reducible rfl
        rotate_left
        · simp only [Act.put, lsa, lsz, lsc, i64_w, i32_w]
          rfl
        refine done_ (by kernel_rfl) ?_
        have HPf := HP18
        clear hHeld ze
        go_wp2_with (go_at_call 36; refine (same_calls HPf.out.X HPf.out.R).mono ?_; rintro e w36 ⟨rfl, hb⟩; have HPg := Aside0.mk (HPf.out.below hb); clear hb)
        have HPh := Aside0.mk (show PW W w36 own17 own18 b { L0 with qs := qs18, us := us18 } (pickF s x1 rd).2 by have h := HPg.out; rw [HLL.out] at h; exact h)
        rw [HLB.out]
        go_roundw
        case rel => exact ⟨i + 1, own17, own18, qs18, us18, (pickF s x1 rd).2, by go_num, by omega, HPh, HNf⟩
        case measure => (simp [intOf] <;> omega)
      · have et : wrap64 (-x0.tmod 3) = -2 := by rw [hr]; exact wrap64_id (by omega) (by omega)
        have et2 : wrap64 2 = 2 := wrap64_id (by omega) (by omega)
        have et3 : wrap64 (-(2)) = -2 := wrap64_id (by omega) (by omega)
        have et4 : IntKind.i64.wrap (x0.tmod 3) = 2 := by rw [hr]; decide
        have HPd := Aside0.mk (HP12.out.below (below_drew (Below.refl _ _)))
        have HXd := Aside0.mk (HX12.out.below (below_drew (Below.refl _ _)))
        have zx : w12.drew.cell? ⟨xb, 2, none⟩ = some (.int .u64 x2) := HXd.out.b.cell rfl
        have z5 : w12.drew.cell? ⟨L.b, 5, none⟩ = some (.slice (some ⟨L.be, 0, none⟩) s.es.length L.ce) := HPd.out.R.fld 5 rfl
        go_upto_region 14 with (fail)
        refine start_ (n := 9) (S := fun w' => w'.cell? ⟨xb, 2, none⟩ = some (.int .u64 x2) ∧ w'.cell? ⟨L.b, 5, none⟩ = some (.slice (some ⟨L.be, 0, none⟩) s.es.length L.ce)) (ds := []) (bl 9 0) (by kernel_rfl) rfl rfl ⟨zx, z5⟩ (fun hHeld => ?_)
        refine pure_ (i := 0) (N := some 63) (v := ?_) (a' := ?_) (bl 9 1) rfl rfl (by kernel_rfl) (fun _ _ _ h => h) (Or.inl ⟨by rfl, ?_⟩) ?_ ?_
        rotate_left
        · intro w'
          go_simp
          with_reducible rfl
        rotate_left
        · simp only [Act.put, lsa, lsz, lsc, i64_w, i32_w]
          rfl
        refine pure_ (i := 2) (N := some 65) (v := ?_) (a' := ?_) (bl 9 5) rfl rfl (by kernel_rfl) (fun _ _ _ h => h) (Or.inl ⟨by rfl, ?_⟩) ?_ ?_
        rotate_left
        · intro w'
          go_simp
          with_reducible rfl
        rotate_left
        · simp only [Act.put, lsa, lsz, lsc, i64_w, i32_w]
          rfl
        refine pure_ (i := 3) (N := some 66) (v := ?_) (a' := ?_) (bl 9 13) rfl rfl (by kernel_rfl) (fun _ _ _ h => h) (Or.inl ⟨by rfl, ?_⟩) ?_ ?_
        rotate_left
        · intro w'
          go_simp
          with_reducible rfl
        rotate_left
        · simp only [Act.put, lsa, lsz, lsc, i64_w, i32_w]
          rfl
        refine pure_ (i := 4) (N := some 67) (v := ?_) (a' := ?_) (bl 9 29) rfl rfl (by kernel_rfl) (fun _ _ _ h => h) (Or.inl ⟨by rfl, ?_⟩) ?_ ?_
        rotate_left
        · intro w'
          go_simp
          with_reducible rfl
        rotate_left
        · simp only [Act.put, lsa, lsz, lsc, i64_w, i32_w]
          rfl
        refine take_ (i := 1) (N := some 64) (v := ?_) (a' := ?_) (bl 9 31) rfl rfl (by kernel_rfl) (fun _ _ _ h => h) (Or.inl ⟨by rfl, ?_⟩) hHeld ?_ ?_
        rotate_left
        · rintro w' ⟨s0, s1⟩
          go_simp
          with_reducible rfl
        rotate_left
        · simp only [Act.put, lsa, lsz, lsc, i64_w, i32_w]
          rfl
        refine take_ (i := 5) (N := some 68) (v := ?_) (a' := ?_) (bl 9 63) rfl rfl (by kernel_rfl) (fun _ _ _ h => h) (Or.inl ⟨by rfl, ?_⟩) hHeld ?_ ?_
        rotate_left
        · rintro w' ⟨s0, s1⟩
          go_simp
          with_reducible rfl
        rotate_left
        · simp only [Act.put, lsa, lsz, lsc, i64_w, i32_w]
          rfl
        refine pure_ (i := 6) (N := some 69) (v := ?_) (a' := ?_) (bl 9 127) rfl rfl (by kernel_rfl) (fun _ _ _ h => h) (Or.inl ⟨by rfl, ?_⟩) ?_ ?_
        rotate_left
        · intro w'
          go_simp
          with_reducible rfl
        rotate_left
        · simp only [Act.put, lsa, lsz, lsc, i64_w, i32_w]
          rfl
        refine one_ (i := 7) (N := some 70) (bl 9 255) rfl rfl (by kernel_rfl) (by decide) (fun K hK => ?_)
        refine goes_ Try.func16 (by kernel_rfl) rfl #[.int .u64 x2, .int .i64 (s.es.length : Int)] (by rfl) rfl rfl (by simp only [List.map_toArray, List.map_cons, List.map_nil]; rfl) ?_
        with_reducible refine (PV.citadellaw18_list.calls (s.es.length + 1) x2 (s.es.length : Int) (bitsL x2 s.es.length) _ (list_f x2 s.es.length hem)).mono ?_
        rintro e w14 ⟨v14, rfl, hr14, hb14⟩
        refine ⟨_, rfl, ?_⟩
        obtain ⟨A4, q4, e14, hrl⟩ := RL2.new HPd.out hr14
        subst e14
        have HRL := Aside0.mk hrl
        have HP14 := Aside0.mk (HPd.out.below hb14)
        have HX14 := Aside0.mk (HXd.out.below hb14)
        clear hr14 hrl hb14
        refine hK.out _ _ ⟨HX14.out.b.cell rfl, HP14.out.R.fld 5 rfl⟩ (fun hHeld => ?_)
        clear hK K
        refine norm_ (a' := ?_) ?_ ?_
        rotate_left
        · show Act.put _ (some 70) _ = _
          simp only [Act.put, lsa, lsz, lsc, i64_w, i32_w]
          rfl
        refine pure_ (i := 8) (N := some 12) (v := ?_) (a' := ?_) (bl 9 511) rfl rfl (by kernel_rfl) (fun _ _ _ h => h) (Or.inl ⟨by rfl, ?_⟩) ?_ ?_
        rotate_left
        · intro w'
          go_simp
          with_reducible rfl
        rotate_left
        · simp only [Act.put, lsa, lsz, lsc, i64_w, i32_w]
          rfl
        refine done_ (by kernel_rfl) ?_
        obtain ⟨rd, hrd⟩ : ∃ rd, rd = bitsL x2 s.es.length := ⟨_, rfl⟩
        rw [← hrd] at HRL ⊢
        clear hr et et2 et3 et4 hrd zx z5 hHeld HPd HXd u0 u1 u2
        have HNf := Aside0.mk (show (removeI s x1).now ≤ ((i + 1 : Nat) : Int) by
          have hn := HNW.out
          rw [(removeI_re HP14.out.X.wf x1).now]; push_cast; omega)
        have HQP := Aside0.mk (HP14.out.Q.remove HP14.out.X.wf x1)
        have ze : w14.cell? ⟨xb, 1, none⟩ = some (.int .i64 x1) := HX14.out.b.cell rfl
        go_upto_region 24 with (go_at_call 30; refine (HP14.out.X.removeI x1).mono ?_; rintro e w17 ⟨rfl, hsb, hm⟩; have ht : Then w14 own w17 own := ⟨hm, fun _ h => h, fun _ h => .inl h⟩; have HP17 := Aside0.mk (HP14.out.then1 hsb ht); have HX17 := Aside0.mk (HX14.out.then1 ht); clear hsb hm ht)
        have zf : w17.cell? ⟨xb, 1, none⟩ = some (.int .i64 x1) := HX17.out.b.cell rfl
        have HTC := Aside0.mk (rremove_calls HP17.out.R HP14.out.X.wf HP14.out.Q x1)
        go_upto_region 25 with (go_at_call 35; refine HTC.out.mono ?_; rintro e w18 ⟨rfl, hp⟩; have HP18 := Aside0.mk hp; clear hp)
        obtain ⟨own18, qs18, us18, hp18, _, _⟩ := HP17.out.then2 HQP.out HP18.out
        have HPf := Aside0.mk hp18
        clear hp18 HP18 HTC HP17 HX17 ze zf HQP
        go_wp2_with (go_at_call 36; refine (same_calls HPf.out.X HPf.out.R).mono ?_; rintro e w36 ⟨rfl, hb⟩; have HPg := Aside0.mk (HPf.out.below hb); clear hb)
        have HPh := Aside0.mk (show PW W w36 own own18 b { L0 with qs := qs18, us := us18 } (removeI s x1) by have h := HPg.out; rw [HLL.out] at h; exact h)
        rw [HLB.out]
        go_roundw
        case rel => exact ⟨i + 1, own, own18, qs18, us18, (removeI s x1), by go_num, by omega, HPh, HNf⟩
        case measure => (simp [intOf] <;> omega)
    · go_wp2_with (go_at_call 19; refine (awake_calls _).mono ?_; rintro e w90 ⟨rfl, hb⟩; have HBE := Aside0.mk (below_step HPi.out.B hb); clear hb)
      go_ret
      exact ⟨rfl, HBE.out⟩
theorem plays_calls {W : World} {a0 a1 a2 : Int} {a3 : Bool} {A0 : Option Addr} {c0 : Nat} {l0 : List S29} {A1 : Option Addr} {c1 : Nat} {l1 : List S48} (hC : Kd.C k29 W A0 l0.length l0) (hc : l0.length ≤ c0) (hl0 : l0.length ≤ 1048576) (hS : Kd.C k48 W A1 l1.length l1) (hs : l1.length ≤ c1) (hs2 : l1.length ≤ 1048576) :
    Calls Try.prog 11 #[.agg #[.int .i64 a0, .int .i64 a1, .int .i64 a2, .bool a3, .slice A0 l0.length c0], .slice A1 l1.length c1] W fun x w' => x = .returned (.bool true) ∧ Below W.heap.size W w' := by
  cases hb : rB a0 a1 a2 (confL l0) with
  | false => exact plays_not hC hc hl0 hS hs hs2 hb
  | true => exact plays_yes hC hc hl0 hS hs hs2 hb
end Go.Proofs.Ytdaadmjppikebaa.SC

/- What the readings of a law's arguments (a conf, a script, numbers) say of cells. -/
namespace Go.Proofs.Ytdaadmjppikebaa.SC
open Go.RowKit Go.Proofs.YtdaadmjppikebaaW.PrintWords Go.Proofs.Ytdaadmjppikebaa.Opn Go.WideShapes
open Go.Proofs.Ytdaadmjppikebaa.PV (S29 k29)
set_option linter.unusedVariables false
set_option maxRecDepth 100000

theorem list3 {α : Type} {l : List α} (h : l.length = 3) : ∃ a b c, l = [a, b, c] := by
  match l, h with
  | [a, b, c], _ => exact ⟨a, b, c, rfl⟩
theorem list5 {α : Type} {l : List α} (h : l.length = 5) : ∃ a b c d e, l = [a, b, c, d, e] := by
  match l, h with
  | [a, b, c, d, e], _ => exact ⟨a, b, c, d, e, rfl⟩
theorem cells3 : Try.prog.cellsOf 3 = 1 := by kernel_rfl
theorem cells4 : Try.prog.cellsOf 4 = 1 := by kernel_rfl
theorem cells23 : Try.prog.cellsOf 23 = 1 := by kernel_rfl
theorem cells25 : Try.prog.cellsOf 25 = 1 := by kernel_rfl
theorem cells27 : Try.prog.cellsOf 27 = 5 := by kernel_rfl
theorem cells29 : Try.prog.cellsOf 29 = 3 := by kernel_rfl
theorem cells48 : Try.prog.cellsOf 48 = 3 := by kernel_rfl
theorem fld {H : Type} {enc : TypeId × Value → H} {w : World} {n t off k : Nat} {cs : List Value} {y : DataW H × List MemPlace} (hc : Try.prog.cellsOf t = k) (h : DataW.trod enc Try.prog w 0 (fun _ => true) true n t ((cs.drop off).take (Try.prog.cellsOf t)) = some y) : DataW.trod enc Try.prog w 0 (fun _ => true) true n t ((cs.drop off).take k) = some y := by
  rw [hc] at h; exact h
def G29 (_ : Nat) (_ : S29) : Prop := True
def G48 (_ : Nat) (x : S48) : Prop := (Lit.int .u64 x.f2).wf = true
theorem opens29 : Opens Try.prog 29 k29 G29 := by
  intro H enc w fuel cs x h
  obtain ⟨n, hl, hf⟩ := opens_fields Try.underlying29 h
  rw [cells29] at hl
  obtain ⟨c0, c1, c2, rfl⟩ := list3 hl
  obtain ⟨y0, h0, b0⟩ := hf 0 _ rfl
  obtain ⟨y1, h1, b1⟩ := hf 1 _ rfl
  obtain ⟨y2, h2, b2⟩ := hf 2 _ rfl
  have h0 : DataW.trod enc Try.prog w 0 (fun _ => true) true n 3 [c0] = some y0 := fld (t := 3) (off := 0) (cs := [c0, c1, c2]) cells3 h0
  have h1 : DataW.trod enc Try.prog w 0 (fun _ => true) true n 3 [c1] = some y1 := fld (t := 3) (off := 1) (cs := [c0, c1, c2]) cells3 h1
  have h2 : DataW.trod enc Try.prog w 0 (fun _ => true) true n 4 [c2] = some y2 := fld (t := 4) (off := 2) (cs := [c0, c1, c2]) cells4 h2
  obtain ⟨a0, k0, _⟩ := opens_int Try.underlying3 enc w n _ _ h0
  obtain ⟨a1, k1, _⟩ := opens_int Try.underlying3 enc w n _ _ h1
  obtain ⟨a2, k2, _⟩ := opens_bool Try.underlying4 enc w n _ _ h2
  obtain rfl : c0 = .int .i64 a0 := by simpa using (show [c0] = [Value.int .i64 a0] from k0)
  obtain rfl : c1 = .int .i64 a1 := by simpa using (show [c1] = [Value.int .i64 a1] from k1)
  obtain rfl : c2 = .bool a2 := by simpa using (show [c2] = [Value.bool a2] from k2)
  exact ⟨⟨a0, a1, a2⟩, PV.k29_mk w ⟨a0, a1, a2⟩, trivial⟩
theorem k48_mk (w : World) (x : S48) : k48.K w x [.int .i64 x.f0, .int .i64 x.f1, .int .u64 x.f2] := ⟨[.int .i64 x.f0], [.int .i64 x.f1, .int .u64 x.f2], rfl, rfl, ⟨[.int .i64 x.f1], [.int .u64 x.f2], rfl, rfl, rfl⟩⟩
theorem opens48 : Opens Try.prog 48 k48 G48 := by
  intro H enc w fuel cs x h
  obtain ⟨n, hl, hf⟩ := opens_fields Try.underlying48 h
  rw [cells48] at hl
  obtain ⟨c0, c1, c2, rfl⟩ := list3 hl
  obtain ⟨y0, h0, b0⟩ := hf 0 _ rfl
  obtain ⟨y1, h1, b1⟩ := hf 1 _ rfl
  obtain ⟨y2, h2, b2⟩ := hf 2 _ rfl
  have h0 : DataW.trod enc Try.prog w 0 (fun _ => true) true n 3 [c0] = some y0 := fld (t := 3) (off := 0) (cs := [c0, c1, c2]) cells3 h0
  have h1 : DataW.trod enc Try.prog w 0 (fun _ => true) true n 3 [c1] = some y1 := fld (t := 3) (off := 1) (cs := [c0, c1, c2]) cells3 h1
  have h2 : DataW.trod enc Try.prog w 0 (fun _ => true) true n 23 [c2] = some y2 := fld (t := 23) (off := 2) (cs := [c0, c1, c2]) cells23 h2
  obtain ⟨a0, k0, _⟩ := opens_int Try.underlying3 enc w n _ _ h0
  obtain ⟨a1, k1, _⟩ := opens_int Try.underlying3 enc w n _ _ h1
  obtain ⟨a2, k2, _, g2⟩ := opens_int Try.underlying23 enc w n _ _ h2
  obtain rfl : c0 = .int .i64 a0 := by simpa using (show [c0] = [Value.int .i64 a0] from k0)
  obtain rfl : c1 = .int .i64 a1 := by simpa using (show [c1] = [Value.int .i64 a1] from k1)
  obtain rfl : c2 = .int .u64 a2 := by simpa using (show [c2] = [Value.int .u64 a2] from k2)
  exact ⟨⟨a0, a1, a2⟩, k48_mk w ⟨a0, a1, a2⟩, g2⟩
/-- A conf that was read. -/
theorem open_C {H : Type} {enc : TypeId × Value → H} {w : World} {v : Value} {d : DataW H} {p : List MemPlace} {r : Reach} {base : Nat} (hv : Value.okWide Try.prog w r base 27 v) (h : DataW.Trod enc Try.prog w 0 (fun _ => true) true 27 v d p) :
    ∃ (a0 a1 a2 : Int) (a3 : Bool) (A : Option Addr) (c : Nat) (l : List S29), v = .agg #[.int .i64 a0, .int .i64 a1, .int .i64 a2, .bool a3, .slice A l.length c] ∧ Kd.C k29 w A l.length l ∧ l.length ≤ c ∧ l.length ≤ Rows.uptoBulk d := by
  obtain ⟨cs, rfl, hsz⟩ := okWide_struct Try.underlying27 hv
  obtain ⟨fuel, h⟩ := h
  have h' : DataW.trod enc Try.prog w 0 (fun _ => true) true fuel 27 cs.toList = some (d, p) := h
  obtain ⟨n, hl, hf⟩ := opens_fields Try.underlying27 h'
  rw [cells27] at hl
  obtain ⟨c0, c1, c2, c3, c4, hcs⟩ := list5 hl
  obtain rfl : cs = #[c0, c1, c2, c3, c4] := by cases cs; simpa using hcs
  obtain ⟨y0, h0, b0⟩ := hf 0 _ rfl
  obtain ⟨y1, h1, b1⟩ := hf 1 _ rfl
  obtain ⟨y2, h2, b2⟩ := hf 2 _ rfl
  obtain ⟨y3, h3, b3⟩ := hf 3 _ rfl
  obtain ⟨y4, h4, b4⟩ := hf 4 _ rfl
  have h0 : DataW.trod enc Try.prog w 0 (fun _ => true) true n 3 [c0] = some y0 := fld (t := 3) (off := 0) (cs := [c0, c1, c2, c3, c4]) cells3 h0
  have h1 : DataW.trod enc Try.prog w 0 (fun _ => true) true n 3 [c1] = some y1 := fld (t := 3) (off := 1) (cs := [c0, c1, c2, c3, c4]) cells3 h1
  have h2 : DataW.trod enc Try.prog w 0 (fun _ => true) true n 3 [c2] = some y2 := fld (t := 3) (off := 2) (cs := [c0, c1, c2, c3, c4]) cells3 h2
  have h3 : DataW.trod enc Try.prog w 0 (fun _ => true) true n 4 [c3] = some y3 := fld (t := 4) (off := 3) (cs := [c0, c1, c2, c3, c4]) cells4 h3
  have h4 : DataW.trod enc Try.prog w 0 (fun _ => true) true n 25 [c4] = some y4 := fld (t := 25) (off := 4) (cs := [c0, c1, c2, c3, c4]) cells25 h4
  obtain ⟨a0, k0, _⟩ := opens_int Try.underlying3 enc w n _ _ h0
  obtain ⟨a1, k1, _⟩ := opens_int Try.underlying3 enc w n _ _ h1
  obtain ⟨a2, k2, _⟩ := opens_int Try.underlying3 enc w n _ _ h2
  obtain ⟨a3, k3, _⟩ := opens_bool Try.underlying4 enc w n _ _ h3
  obtain ⟨A4, x4, l4, e4, q4, C4, g4⟩ := opens_row (d := k29) (G := G29) Try.underlying25 opens29 cells29 h4
  obtain rfl : c0 = .int .i64 a0 := by simpa using (show [c0] = [Value.int .i64 a0] from k0)
  obtain rfl : c1 = .int .i64 a1 := by simpa using (show [c1] = [Value.int .i64 a1] from k1)
  obtain rfl : c2 = .int .i64 a2 := by simpa using (show [c2] = [Value.int .i64 a2] from k2)
  obtain rfl : c3 = .bool a3 := by simpa using (show [c3] = [Value.bool a3] from k3)
  obtain rfl : c4 = .slice A4 l4.length x4 := by simpa using e4
  have z4 := g4.1
  simp only at b4
  exact ⟨a0, a1, a2, a3, A4, x4, l4, rfl, C4, q4, by omega⟩
/-- A script that was read. -/
theorem open_ops {H : Type} {enc : TypeId × Value → H} {w : World} {v : Value} {d : DataW H} {p : List MemPlace} {r : Reach} {base : Nat} (hv : Value.okWide Try.prog w r base 45 v) (h : DataW.Trod enc Try.prog w 0 (fun _ => true) true 45 v d p) :
    ∃ (A : Option Addr) (c : Nat) (ls : List S48), v = .slice A ls.length c ∧ Kd.C k48 w A ls.length ls ∧ ls.length ≤ c ∧ ls.length ≤ Rows.uptoBulk d := by
  obtain ⟨a, len, cap, rfl⟩ := okWide_slice Try.underlying45 hv
  obtain ⟨fuel, h⟩ := h
  obtain ⟨A, c, ls, e, l, C, g⟩ := opens_row (d := k48) (G := G48) Try.underlying45 opens48 cells48 h
  have e' : Value.slice a len cap = .slice A ls.length c := by simpa [Value.cells] using e
  exact ⟨A, c, ls, e', C, l, by have := g.1; simp only at this; omega⟩
theorem bulk2 {H : Type} {d0 d1 : DataW H} (h : Rows.uptoBulkAll [d0, d1] ≤ 1048576) : Rows.uptoBulk d0 ≤ 1048576 ∧ Rows.uptoBulk d1 ≤ 1048576 := by
  simp only [Rows.uptoBulkAll] at h; omega
end Go.Proofs.Ytdaadmjppikebaa.SC

/- SchedPlays: whatever the arguments are that read as data, it gives true. -/
namespace Go.Proofs.Ytdaadmjppikebaa.SC
open Go.RowKit Go.Proofs.Ytdaadmjppikebaa.Opn Go.WideShapes Go.Proofs.YtdaadmjppikebaaW.PrintWords
set_option maxRecDepth 100000 in
theorem schedPlays_core (H : Type) (enc : TypeId × Value → H) (W : World) (base : Nat) (v0 v1 : Value) (d0 d1 : DataW H) (p0 p1 : List MemPlace)
    (o0 : Value.okWide Try.prog W .any base 27 v0) (h0 : DataW.Trod enc Try.prog W 0 (fun _ => true) true 27 v0 d0 p0)
    (o1 : Value.okWide Try.prog W .any base 45 v1) (h1 : DataW.Trod enc Try.prog W 0 (fun _ => true) true 45 v1 d1 p1) (hb : Rows.uptoBulkAll [d0, d1] ≤ 1048576) :
    Calls Try.prog 11 #[v0, v1] W fun e W' => e = .returned (.bool true) ∧ Below W.heap.size W W' := by
  obtain ⟨hb0, hb1⟩ := bulk2 hb
  obtain ⟨a0, a1, a2, a3, A, c, l, rfl, hC, hl, hb3⟩ := open_C o0 h0
  obtain ⟨A1, c1, l1, rfl, hC1, hl1, hb2⟩ := open_ops o1 h1
  exact plays_calls hC hl (by omega) hC1 hl1 (by omega)
end Go.Proofs.Ytdaadmjppikebaa.SC
