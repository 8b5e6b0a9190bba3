/- inst.atomic by its contract. -/
import Derived.Test.YtjapahcbhjjeiaaGreatDoorRX
import Derived.Test.YtjapahcbhjjeiaaGreatDoorG3
import Derived.Deep.RegionWith
import Derived.Deep.DeepCutAuto
namespace Go.Proofs.YtjapahcbhjjeiaaGreatDoor.AS
open Go.RowKit Go.Proofs.YtjapahcbhjjeiaaGreatDoorW.PrintWords Go.Proofs.YtjapahcbhjjeiaaGreatDoorW.PrintLast Go.Proofs.YtjapahcbhjjeiaaGreatDoorW.PrintMore Go.Proofs.YtjapahcbhjjeiaaGreatDoor.PA
set_option linter.unusedVariables false
set_option linter.unusedSimpArgs false
set_option maxRecDepth 100000
set_option maxHeartbeats 4000000

def atomT (w : Int) : Int × Int × Int × Int × Int × Int × Int × Bool × Bool :=
  if f3W w ≠ 2 ∧ f3W w ≠ 3 then (0, 0, rdW w, rs1W w, rs2W w, 0, p2 (f3W w), false, false)
  else if fl w 31 27 = 2 then (15, 0, rdW w, rs1W w, rs2W w, 0, p2 (f3W w), false, rs2W w == 0)
  else if fl w 31 27 = 3 then (16, 0, rdW w, rs1W w, rs2W w, 0, p2 (f3W w), false, true)
  else if fl w 31 27 = 1 then (17, 1, rdW w, rs1W w, rs2W w, 0, p2 (f3W w), false, true)
  else if fl w 31 27 % 4 = 0 then (17, pickL amosL (fl w 31 27 / 4), rdW w, rs1W w, rs2W w, 0, p2 (f3W w), false, true)
  else (0, 0, rdW w, rs1W w, rs2W w, 0, p2 (f3W w), false, false)

theorem atomic_calls {w : Int} (w0 : 0 ≤ w) (w1 : w < 4294967296) {c0 c1 c2 c3 c4 c5 c6 : Int} {c7 ok : Bool} (ht : atomT w = (c0, c1, c2, c3, c4, c5, c6, c7, ok)) (W : World) :
    Calls Tryz.prog 98 #[.int .u32 w] W fun e w' => e = .returned (.tuple #[.agg #[.int .i64 c0, .int .i64 c1, .int .i64 c2, .int .i64 c3, .int .i64 c4, .int .i64 c5, .int .i64 c6, .bool c7], .bool ok]) ∧ Below W.heap.size W w' := by
  have HB := Aside0.mk (Below.refl W.heap.size W)
  have hu23 := Tryz.underlying23
  have F3 := fun W => f3_calls (w := w) W w0 w1
  have RD := fun W => rd_calls (w := w) W w0 w1
  have R1 := fun W => rs1_calls (w := w) W w0 w1
  have R2 := fun W => rs2_calls (w := w) W w0 w1
  have BT := fun W => bits_lit (w := w) (hi := 31) (lo := 27) 31 27 W w0 w1 (by decide) (by decide) rfl rfl
  have HT := Aside0.mk ht
  have h3 := f3W_b w
  have hs : shl .i64 1 (f3W w) = p2 (f3W w) := by rcases f3_cases w with c | c | c | c | c | c | c | c <;> rw [c] <;> decide +kernel
  unfold atomT at HT
  obtain ⟨f3, hf3⟩ : ∃ x, x = f3W w := ⟨_, rfl⟩
  obtain ⟨rv, hrv⟩ : ∃ x, x = rdW w := ⟨_, rfl⟩
  obtain ⟨r1, hr1⟩ : ∃ x, x = rs1W w := ⟨_, rfl⟩
  obtain ⟨r2, hr2⟩ : ∃ x, x = rs2W w := ⟨_, rfl⟩
  obtain ⟨b5, hb5⟩ : ∃ x, x = fl w 31 27 := ⟨_, rfl⟩
  have h5 := fl_b w 31 27
  rw [← hf3] at F3 HT h3 hs
  rw [← hrv] at RD HT
  rw [← hr1] at R1 HT
  rw [← hr2] at R2 HT
  rw [← hb5] at BT HT h5
  obtain ⟨sz, hsz⟩ : ∃ x, x = p2 f3 := ⟨_, rfl⟩
  rw [← hsz] at HT hs
  clear hf3 hrv hr1 hr2 hb5 hsz ht w0 w1
  have hs_ : (IntKind.i64.wrap (1 * 2 ^ min f3.toNat 64)) = sz := hs
  have hsz : f3 ≤ 64 → (IntKind.i64.wrap (1 * 2 ^ f3.toNat)) = sz := shl_small hs
  have hsu : (IntKind.i64.wrap (2 ^ min f3.toNat 64)) = sz := by have h_ := hs_; rw [Int.one_mul] at h_; exact h_
  have hsv : f3 ≤ 64 → (IntKind.i64.wrap (2 ^ f3.toNat)) = sz := fun hle_ => by have h_ := hsz hle_; rw [Int.one_mul] at h_; exact h_
  have hsy : (wrap64 (1 * 2 ^ min f3.toNat 64)) = sz := (i64_w _).symm.trans hs_
  have hsx : f3 ≤ 64 → (wrap64 (1 * 2 ^ f3.toNat)) = sz := fun h_ => (i64_w _).symm.trans (hsz h_)
  have hsq : wrap64 (2 ^ f3.toNat) = sz := (i64_w _).symm.trans (hsv (by omega))
  clear hs hs_ hsz hsu hsv hsy hsx
  have h3t := eq_true h3.1
  have h30 := h3.1
  have h31 := h3.2
  go_enter Tryz.func98, Tryz.ntmps98
  go_upto_region 1 with (first | ((with_reducible refine gate_dst (N := 2) rfl ?_); refine box_event (by rfl) (N := 2) (by rfl) (cs := #[.int .i64 0, .int .i64 0, .int .i64 0, .int .i64 0, .int .i64 0, .int .i64 0, .int .i64 0, .bool false]) (t := 23) (by first | (go_simp; done) | (go_simp; rfl)) ?_; intro g2 hg w2 hbox hb; have H2 := Aside0.mk hbox; have HB2 := Aside0.mk (below_step HB.out hb); have HL2 := Aside0.mk (show W.heap.size ≤ g2 by omega); clear HB; have HB := HB2; clear HB2 hbox hb hg) | fail)
  go_cut [4] (fun v4 wx => ∃ g, v4 = .pointer (some ⟨g, 0, none⟩) ∧ g2 ≠ g ∧ W.heap.size ≤ g ∧ wx.heap[g2]? = some (.cells #[.int .i64 0, .int .i64 0, .int .i64 0, .int .i64 0, .int .i64 0, .int .i64 0, .int .i64 0, .bool false] 23 (0, 0)) ∧ wx.heap[g]? = some (.cells #[.int .i64 0, .int .i64 0, .int .i64 rv, .int .i64 r1, .int .i64 r2, .int .i64 0, .int .i64 sz, .bool false] 23 (0, 0)) ∧ Below W.heap.size W wx)
  case first =>
    refine startR (n := 12) (S := fun w' => True) (ds := []) (by kernel_rfl) rfl trivial (fun _ => ?_)
    refine pureR 0 (N := some 6) (v := ?_) (a' := ?_) rfl rfl (by kernel_rfl) (fun _ _ _ h => h) (Or.inl ⟨by rfl, ?_⟩) ?_ ?_; rotate_left; (· (intro w'; first | (go_simp; done) | (go_simp; with_reducible rfl))); rotate_left; (· (simp only [Act.put, putS]; rfl))
    refine pureR 3 (N := some 9) (v := ?_) (a' := ?_) rfl rfl (by kernel_rfl) (fun _ _ _ h => h) (Or.inl ⟨by rfl, ?_⟩) ?_ ?_; rotate_left; (· (intro w'; first | (go_simp; done) | (go_simp; with_reducible rfl))); rotate_left; (· (simp only [Act.put, putS]; rfl))
    refine pureR 5 (N := some 11) (v := ?_) (a' := ?_) rfl rfl (by kernel_rfl) (fun _ _ _ h => h) (Or.inl ⟨by rfl, ?_⟩) ?_ ?_; rotate_left; (· (intro w'; first | (go_simp; done) | (go_simp; with_reducible rfl))); rotate_left; (· (simp only [Act.put, putS]; rfl))
    refine pureR 7 (N := some 13) (v := ?_) (a' := ?_) rfl rfl (by kernel_rfl) (fun _ _ _ h => h) (Or.inl ⟨by rfl, ?_⟩) ?_ ?_; rotate_left; (· (intro w'; first | (go_simp; done) | (go_simp; with_reducible rfl))); rotate_left; (· (simp only [Act.put, putS]; rfl))
    refine twoR 1 10 (Ni := some 7) (Nj := some 4) rfl rfl rfl rfl (by kernel_rfl) (by decide) (by decide) (fun K hK => ?_) (fun K hK => ?_)
    rotate_left
    · (refine box_step ?hg (N := 4) ?hd (cs := #[.int .i64 0, .int .i64 0, .int .i64 0, .int .i64 0, .int .i64 0, .int .i64 0, .int .i64 0, .bool false]) (t := 23) ?hr ?_; (case hd => rfl); (case hg => rfl); (case hr => first | (go_simp; done) | (go_simp; rfl)); intro g4 hg w4 hbox hb; have H4 := Aside0.mk hbox; have H2' := Aside0.mk (blk_below (by (with_reducible repeat (first | refine blk_drewN ?_ _ | refine blk_drew ?_)); exact H2.out) hb); have HN := Aside0.mk (show g2 ≠ g4 by rw [hg]; exact Nat.ne_of_lt (blk_lt (by (with_reducible repeat (first | refine blk_drewN ?_ _ | refine blk_drew ?_)); exact H2.out))); have HB' := Aside0.mk (below_step (by repeat (first | (with_reducible first | exact HB.out | apply below_alloc | apply pw_below_drewN | apply below_drew1) | exact HB.out)) hb); have HL4 := Aside0.mk (show W.heap.size ≤ g4 by rw [hg]; exact below_size (by repeat (first | (with_reducible first | exact HB.out | apply below_alloc | apply pw_below_drewN | apply below_drew1) | exact HB.out))); clear HB H2; have HB := HB'; have H2 := H2'; clear HB' H2' hbox hb hg; refine hK.out _ _ trivial (fun _ => ?_); clear hK K; refine norm_ (a' := ?_) ?_ ?_; rotate_left; (· (show Act.put _ (some 4) _ = _; simp only [Act.put, putS]; rfl)))
      (refine oneR 1 (N := some 7) rfl rfl (by kernel_rfl) (by decide) (fun K hK => ?_); (refine goes_ Tryz.func96 (by kernel_rfl) rfl #[.int .u32 w] (by rfl) rfl rfl (by simp only [List.map_toArray, List.map_cons, List.map_nil]; rfl) ?_; refine (F3 _).mono ?_; rintro e w' ⟨rfl, ⟨nd, rfl⟩⟩; refine ⟨_, rfl, ?_⟩; refine hK.out _ _ trivial (fun _ => ?_); clear hK K; refine norm_ (a' := ?_) ?_ ?_; rotate_left; (· (show Act.put _ (some 7) _ = _; simp only [Act.put, putS]; rfl))))
      (refine pureR 2 (N := some 8) (v := ?_) (a' := ?_) rfl rfl (by kernel_rfl) (fun _ _ _ h => h) (Or.inl ⟨by rfl, ?_⟩) ?_ ?_; rotate_left; (· (intro w'; first | (go_simp; done) | (go_simp; with_reducible rfl))); rotate_left; (· (simp only [Act.put, putS]; rfl)))
      (refine oneR 4 (N := some 10) rfl rfl (by kernel_rfl) (by decide) (fun K hK => ?_); (refine goes_ Tryz.func100 (by kernel_rfl) rfl #[.int .u32 w] (by rfl) rfl rfl (by simp only [List.map_toArray, List.map_cons, List.map_nil]; rfl) ?_; refine (RD _).mono ?_; rintro e w' ⟨rfl, ⟨nd, rfl⟩⟩; refine ⟨_, rfl, ?_⟩; refine hK.out _ _ trivial (fun _ => ?_); clear hK K; refine norm_ (a' := ?_) ?_ ?_; rotate_left; (· (show Act.put _ (some 10) _ = _; simp only [Act.put, putS]; rfl))))
      (refine oneR 6 (N := some 12) rfl rfl (by kernel_rfl) (by decide) (fun K hK => ?_); (refine goes_ Tryz.func101 (by kernel_rfl) rfl #[.int .u32 w] (by rfl) rfl rfl (by simp only [List.map_toArray, List.map_cons, List.map_nil]; rfl) ?_; refine (R1 _).mono ?_; rintro e w' ⟨rfl, ⟨nd, rfl⟩⟩; refine ⟨_, rfl, ?_⟩; refine hK.out _ _ trivial (fun _ => ?_); clear hK K; refine norm_ (a' := ?_) ?_ ?_; rotate_left; (· (show Act.put _ (some 12) _ = _; simp only [Act.put, putS]; rfl))))
      (refine oneR 8 (N := some 14) rfl rfl (by kernel_rfl) (by decide) (fun K hK => ?_); (refine goes_ Tryz.func102 (by kernel_rfl) rfl #[.int .u32 w] (by rfl) rfl rfl (by simp only [List.map_toArray, List.map_cons, List.map_nil]; rfl) ?_; refine (R2 _).mono ?_; rintro e w' ⟨rfl, ⟨nd, rfl⟩⟩; refine ⟨_, rfl, ?_⟩; refine hK.out _ _ trivial (fun _ => ?_); clear hK K; refine norm_ (a' := ?_) ?_ ?_; rotate_left; (· (show Act.put _ (some 14) _ = _; simp only [Act.put, putS]; rfl))))
      (refine pureR 9 (N := some 15) (v := ?_) (a' := ?_) rfl rfl (by kernel_rfl) (fun _ _ _ h => h) (Or.inl ⟨by rfl, ?_⟩) ?_ ?_; rotate_left; (· (intro w'; first | (go_simp; done) | (go_simp; with_reducible rfl))); rotate_left; (· (simp only [Act.put, putS]; rfl)))
      refine oneR 11 (N := none) rfl rfl (by kernel_rfl) (by decide) (fun K hK => ?_); refine store_step ?hg rfl 23 (.tmp 4) (.tmp 15) rfl (g := g4) (old := #[.int .i64 0, .int .i64 0, .int .i64 0, .int .i64 0, .int .i64 0, .int .i64 0, .int .i64 0, .bool false]) #[.int .i64 0, .int .i64 0, .int .i64 rv, .int .i64 r1, .int .i64 r2, .int .i64 0, .int .i64 sz, .bool false] (by (with_reducible repeat (first | refine blk_drewN ?_ _ | refine blk_drew ?_)); exact H4.out) ?hx ?hy (by kernel_rfl) rfl rfl ?_; (case hg => rfl); (case hx => rfl); (case hy => rfl); intro w6 hbox hfar hbel; refine hK.out _ _ trivial (fun _ => ?_); refine done_ (by kernel_rfl) ?_; go_wp2; go_meet; exact ⟨g4, rfl, HN.out, HL4.out, far_blk hfar HN.out (by (with_reducible repeat (first | refine blk_drewN ?_ _ | refine blk_drew ?_)); exact H2.out), hbox, hbel _ _ (by repeat (first | (with_reducible first | exact HB.out | apply below_alloc | apply pw_below_drewN | apply below_drew1) | exact HB.out)) HL4.out⟩
    (refine goes_ Tryz.func96 (by kernel_rfl) rfl #[.int .u32 w] (by rfl) rfl rfl (by simp only [List.map_toArray, List.map_cons, List.map_nil]; rfl) ?_; refine (F3 _).mono ?_; rintro e w' ⟨rfl, ⟨nd, rfl⟩⟩; refine ⟨_, rfl, ?_⟩; refine hK.out _ _ trivial (fun _ => ?_); clear hK K; refine norm_ (a' := ?_) ?_ ?_; rotate_left; (· (show Act.put _ (some 7) _ = _; simp only [Act.put, putS]; rfl)))
    (refine pureR 2 (N := some 8) (v := ?_) (a' := ?_) rfl rfl (by kernel_rfl) (fun _ _ _ h => h) (Or.inl ⟨by rfl, ?_⟩) ?_ ?_; rotate_left; (· (intro w'; first | (go_simp; done) | (go_simp; with_reducible rfl))); rotate_left; (· (simp only [Act.put, putS]; rfl)))
    refine twoR 4 10 (Ni := some 10) (Nj := some 4) rfl rfl rfl rfl (by kernel_rfl) (by decide) (by decide) (fun K hK => ?_) (fun K hK => ?_)
    rotate_left
    · (refine box_step ?hg (N := 4) ?hd (cs := #[.int .i64 0, .int .i64 0, .int .i64 0, .int .i64 0, .int .i64 0, .int .i64 0, .int .i64 0, .bool false]) (t := 23) ?hr ?_; (case hd => rfl); (case hg => rfl); (case hr => first | (go_simp; done) | (go_simp; rfl)); intro g4 hg w4 hbox hb; have H4 := Aside0.mk hbox; have H2' := Aside0.mk (blk_below (by (with_reducible repeat (first | refine blk_drewN ?_ _ | refine blk_drew ?_)); exact H2.out) hb); have HN := Aside0.mk (show g2 ≠ g4 by rw [hg]; exact Nat.ne_of_lt (blk_lt (by (with_reducible repeat (first | refine blk_drewN ?_ _ | refine blk_drew ?_)); exact H2.out))); have HB' := Aside0.mk (below_step (by repeat (first | (with_reducible first | exact HB.out | apply below_alloc | apply pw_below_drewN | apply below_drew1) | exact HB.out)) hb); have HL4 := Aside0.mk (show W.heap.size ≤ g4 by rw [hg]; exact below_size (by repeat (first | (with_reducible first | exact HB.out | apply below_alloc | apply pw_below_drewN | apply below_drew1) | exact HB.out))); clear HB H2; have HB := HB'; have H2 := H2'; clear HB' H2' hbox hb hg; refine hK.out _ _ trivial (fun _ => ?_); clear hK K; refine norm_ (a' := ?_) ?_ ?_; rotate_left; (· (show Act.put _ (some 4) _ = _; simp only [Act.put, putS]; rfl)))
      (refine oneR 4 (N := some 10) rfl rfl (by kernel_rfl) (by decide) (fun K hK => ?_); (refine goes_ Tryz.func100 (by kernel_rfl) rfl #[.int .u32 w] (by rfl) rfl rfl (by simp only [List.map_toArray, List.map_cons, List.map_nil]; rfl) ?_; refine (RD _).mono ?_; rintro e w' ⟨rfl, ⟨nd, rfl⟩⟩; refine ⟨_, rfl, ?_⟩; refine hK.out _ _ trivial (fun _ => ?_); clear hK K; refine norm_ (a' := ?_) ?_ ?_; rotate_left; (· (show Act.put _ (some 10) _ = _; simp only [Act.put, putS]; rfl))))
      (refine oneR 6 (N := some 12) rfl rfl (by kernel_rfl) (by decide) (fun K hK => ?_); (refine goes_ Tryz.func101 (by kernel_rfl) rfl #[.int .u32 w] (by rfl) rfl rfl (by simp only [List.map_toArray, List.map_cons, List.map_nil]; rfl) ?_; refine (R1 _).mono ?_; rintro e w' ⟨rfl, ⟨nd, rfl⟩⟩; refine ⟨_, rfl, ?_⟩; refine hK.out _ _ trivial (fun _ => ?_); clear hK K; refine norm_ (a' := ?_) ?_ ?_; rotate_left; (· (show Act.put _ (some 12) _ = _; simp only [Act.put, putS]; rfl))))
      (refine oneR 8 (N := some 14) rfl rfl (by kernel_rfl) (by decide) (fun K hK => ?_); (refine goes_ Tryz.func102 (by kernel_rfl) rfl #[.int .u32 w] (by rfl) rfl rfl (by simp only [List.map_toArray, List.map_cons, List.map_nil]; rfl) ?_; refine (R2 _).mono ?_; rintro e w' ⟨rfl, ⟨nd, rfl⟩⟩; refine ⟨_, rfl, ?_⟩; refine hK.out _ _ trivial (fun _ => ?_); clear hK K; refine norm_ (a' := ?_) ?_ ?_; rotate_left; (· (show Act.put _ (some 14) _ = _; simp only [Act.put, putS]; rfl))))
      (refine pureR 9 (N := some 15) (v := ?_) (a' := ?_) rfl rfl (by kernel_rfl) (fun _ _ _ h => h) (Or.inl ⟨by rfl, ?_⟩) ?_ ?_; rotate_left; (· (intro w'; first | (go_simp; done) | (go_simp; with_reducible rfl))); rotate_left; (· (simp only [Act.put, putS]; rfl)))
      refine oneR 11 (N := none) rfl rfl (by kernel_rfl) (by decide) (fun K hK => ?_); refine store_step ?hg rfl 23 (.tmp 4) (.tmp 15) rfl (g := g4) (old := #[.int .i64 0, .int .i64 0, .int .i64 0, .int .i64 0, .int .i64 0, .int .i64 0, .int .i64 0, .bool false]) #[.int .i64 0, .int .i64 0, .int .i64 rv, .int .i64 r1, .int .i64 r2, .int .i64 0, .int .i64 sz, .bool false] (by (with_reducible repeat (first | refine blk_drewN ?_ _ | refine blk_drew ?_)); exact H4.out) ?hx ?hy (by kernel_rfl) rfl rfl ?_; (case hg => rfl); (case hx => rfl); (case hy => rfl); intro w6 hbox hfar hbel; refine hK.out _ _ trivial (fun _ => ?_); refine done_ (by kernel_rfl) ?_; go_wp2; go_meet; exact ⟨g4, rfl, HN.out, HL4.out, far_blk hfar HN.out (by (with_reducible repeat (first | refine blk_drewN ?_ _ | refine blk_drew ?_)); exact H2.out), hbox, hbel _ _ (by repeat (first | (with_reducible first | exact HB.out | apply below_alloc | apply pw_below_drewN | apply below_drew1) | exact HB.out)) HL4.out⟩
    (refine goes_ Tryz.func100 (by kernel_rfl) rfl #[.int .u32 w] (by rfl) rfl rfl (by simp only [List.map_toArray, List.map_cons, List.map_nil]; rfl) ?_; refine (RD _).mono ?_; rintro e w' ⟨rfl, ⟨nd, rfl⟩⟩; refine ⟨_, rfl, ?_⟩; refine hK.out _ _ trivial (fun _ => ?_); clear hK K; refine norm_ (a' := ?_) ?_ ?_; rotate_left; (· (show Act.put _ (some 10) _ = _; simp only [Act.put, putS]; rfl)))
    refine twoR 6 10 (Ni := some 12) (Nj := some 4) rfl rfl rfl rfl (by kernel_rfl) (by decide) (by decide) (fun K hK => ?_) (fun K hK => ?_)
    rotate_left
    · (refine box_step ?hg (N := 4) ?hd (cs := #[.int .i64 0, .int .i64 0, .int .i64 0, .int .i64 0, .int .i64 0, .int .i64 0, .int .i64 0, .bool false]) (t := 23) ?hr ?_; (case hd => rfl); (case hg => rfl); (case hr => first | (go_simp; done) | (go_simp; rfl)); intro g4 hg w4 hbox hb; have H4 := Aside0.mk hbox; have H2' := Aside0.mk (blk_below (by (with_reducible repeat (first | refine blk_drewN ?_ _ | refine blk_drew ?_)); exact H2.out) hb); have HN := Aside0.mk (show g2 ≠ g4 by rw [hg]; exact Nat.ne_of_lt (blk_lt (by (with_reducible repeat (first | refine blk_drewN ?_ _ | refine blk_drew ?_)); exact H2.out))); have HB' := Aside0.mk (below_step (by repeat (first | (with_reducible first | exact HB.out | apply below_alloc | apply pw_below_drewN | apply below_drew1) | exact HB.out)) hb); have HL4 := Aside0.mk (show W.heap.size ≤ g4 by rw [hg]; exact below_size (by repeat (first | (with_reducible first | exact HB.out | apply below_alloc | apply pw_below_drewN | apply below_drew1) | exact HB.out))); clear HB H2; have HB := HB'; have H2 := H2'; clear HB' H2' hbox hb hg; refine hK.out _ _ trivial (fun _ => ?_); clear hK K; refine norm_ (a' := ?_) ?_ ?_; rotate_left; (· (show Act.put _ (some 4) _ = _; simp only [Act.put, putS]; rfl)))
      (refine oneR 6 (N := some 12) rfl rfl (by kernel_rfl) (by decide) (fun K hK => ?_); (refine goes_ Tryz.func101 (by kernel_rfl) rfl #[.int .u32 w] (by rfl) rfl rfl (by simp only [List.map_toArray, List.map_cons, List.map_nil]; rfl) ?_; refine (R1 _).mono ?_; rintro e w' ⟨rfl, ⟨nd, rfl⟩⟩; refine ⟨_, rfl, ?_⟩; refine hK.out _ _ trivial (fun _ => ?_); clear hK K; refine norm_ (a' := ?_) ?_ ?_; rotate_left; (· (show Act.put _ (some 12) _ = _; simp only [Act.put, putS]; rfl))))
      (refine oneR 8 (N := some 14) rfl rfl (by kernel_rfl) (by decide) (fun K hK => ?_); (refine goes_ Tryz.func102 (by kernel_rfl) rfl #[.int .u32 w] (by rfl) rfl rfl (by simp only [List.map_toArray, List.map_cons, List.map_nil]; rfl) ?_; refine (R2 _).mono ?_; rintro e w' ⟨rfl, ⟨nd, rfl⟩⟩; refine ⟨_, rfl, ?_⟩; refine hK.out _ _ trivial (fun _ => ?_); clear hK K; refine norm_ (a' := ?_) ?_ ?_; rotate_left; (· (show Act.put _ (some 14) _ = _; simp only [Act.put, putS]; rfl))))
      (refine pureR 9 (N := some 15) (v := ?_) (a' := ?_) rfl rfl (by kernel_rfl) (fun _ _ _ h => h) (Or.inl ⟨by rfl, ?_⟩) ?_ ?_; rotate_left; (· (intro w'; first | (go_simp; done) | (go_simp; with_reducible rfl))); rotate_left; (· (simp only [Act.put, putS]; rfl)))
      refine oneR 11 (N := none) rfl rfl (by kernel_rfl) (by decide) (fun K hK => ?_); refine store_step ?hg rfl 23 (.tmp 4) (.tmp 15) rfl (g := g4) (old := #[.int .i64 0, .int .i64 0, .int .i64 0, .int .i64 0, .int .i64 0, .int .i64 0, .int .i64 0, .bool false]) #[.int .i64 0, .int .i64 0, .int .i64 rv, .int .i64 r1, .int .i64 r2, .int .i64 0, .int .i64 sz, .bool false] (by (with_reducible repeat (first | refine blk_drewN ?_ _ | refine blk_drew ?_)); exact H4.out) ?hx ?hy (by kernel_rfl) rfl rfl ?_; (case hg => rfl); (case hx => rfl); (case hy => rfl); intro w6 hbox hfar hbel; refine hK.out _ _ trivial (fun _ => ?_); refine done_ (by kernel_rfl) ?_; go_wp2; go_meet; exact ⟨g4, rfl, HN.out, HL4.out, far_blk hfar HN.out (by (with_reducible repeat (first | refine blk_drewN ?_ _ | refine blk_drew ?_)); exact H2.out), hbox, hbel _ _ (by repeat (first | (with_reducible first | exact HB.out | apply below_alloc | apply pw_below_drewN | apply below_drew1) | exact HB.out)) HL4.out⟩
    (refine goes_ Tryz.func101 (by kernel_rfl) rfl #[.int .u32 w] (by rfl) rfl rfl (by simp only [List.map_toArray, List.map_cons, List.map_nil]; rfl) ?_; refine (R1 _).mono ?_; rintro e w' ⟨rfl, ⟨nd, rfl⟩⟩; refine ⟨_, rfl, ?_⟩; refine hK.out _ _ trivial (fun _ => ?_); clear hK K; refine norm_ (a' := ?_) ?_ ?_; rotate_left; (· (show Act.put _ (some 12) _ = _; simp only [Act.put, putS]; rfl)))
    refine twoR 8 10 (Ni := some 14) (Nj := some 4) rfl rfl rfl rfl (by kernel_rfl) (by decide) (by decide) (fun K hK => ?_) (fun K hK => ?_)
    rotate_left
    · (refine box_step ?hg (N := 4) ?hd (cs := #[.int .i64 0, .int .i64 0, .int .i64 0, .int .i64 0, .int .i64 0, .int .i64 0, .int .i64 0, .bool false]) (t := 23) ?hr ?_; (case hd => rfl); (case hg => rfl); (case hr => first | (go_simp; done) | (go_simp; rfl)); intro g4 hg w4 hbox hb; have H4 := Aside0.mk hbox; have H2' := Aside0.mk (blk_below (by (with_reducible repeat (first | refine blk_drewN ?_ _ | refine blk_drew ?_)); exact H2.out) hb); have HN := Aside0.mk (show g2 ≠ g4 by rw [hg]; exact Nat.ne_of_lt (blk_lt (by (with_reducible repeat (first | refine blk_drewN ?_ _ | refine blk_drew ?_)); exact H2.out))); have HB' := Aside0.mk (below_step (by repeat (first | (with_reducible first | exact HB.out | apply below_alloc | apply pw_below_drewN | apply below_drew1) | exact HB.out)) hb); have HL4 := Aside0.mk (show W.heap.size ≤ g4 by rw [hg]; exact below_size (by repeat (first | (with_reducible first | exact HB.out | apply below_alloc | apply pw_below_drewN | apply below_drew1) | exact HB.out))); clear HB H2; have HB := HB'; have H2 := H2'; clear HB' H2' hbox hb hg; refine hK.out _ _ trivial (fun _ => ?_); clear hK K; refine norm_ (a' := ?_) ?_ ?_; rotate_left; (· (show Act.put _ (some 4) _ = _; simp only [Act.put, putS]; rfl)))
      (refine oneR 8 (N := some 14) rfl rfl (by kernel_rfl) (by decide) (fun K hK => ?_); (refine goes_ Tryz.func102 (by kernel_rfl) rfl #[.int .u32 w] (by rfl) rfl rfl (by simp only [List.map_toArray, List.map_cons, List.map_nil]; rfl) ?_; refine (R2 _).mono ?_; rintro e w' ⟨rfl, ⟨nd, rfl⟩⟩; refine ⟨_, rfl, ?_⟩; refine hK.out _ _ trivial (fun _ => ?_); clear hK K; refine norm_ (a' := ?_) ?_ ?_; rotate_left; (· (show Act.put _ (some 14) _ = _; simp only [Act.put, putS]; rfl))))
      (refine pureR 9 (N := some 15) (v := ?_) (a' := ?_) rfl rfl (by kernel_rfl) (fun _ _ _ h => h) (Or.inl ⟨by rfl, ?_⟩) ?_ ?_; rotate_left; (· (intro w'; first | (go_simp; done) | (go_simp; with_reducible rfl))); rotate_left; (· (simp only [Act.put, putS]; rfl)))
      refine oneR 11 (N := none) rfl rfl (by kernel_rfl) (by decide) (fun K hK => ?_); refine store_step ?hg rfl 23 (.tmp 4) (.tmp 15) rfl (g := g4) (old := #[.int .i64 0, .int .i64 0, .int .i64 0, .int .i64 0, .int .i64 0, .int .i64 0, .int .i64 0, .bool false]) #[.int .i64 0, .int .i64 0, .int .i64 rv, .int .i64 r1, .int .i64 r2, .int .i64 0, .int .i64 sz, .bool false] (by (with_reducible repeat (first | refine blk_drewN ?_ _ | refine blk_drew ?_)); exact H4.out) ?hx ?hy (by kernel_rfl) rfl rfl ?_; (case hg => rfl); (case hx => rfl); (case hy => rfl); intro w6 hbox hfar hbel; refine hK.out _ _ trivial (fun _ => ?_); refine done_ (by kernel_rfl) ?_; go_wp2; go_meet; exact ⟨g4, rfl, HN.out, HL4.out, far_blk hfar HN.out (by (with_reducible repeat (first | refine blk_drewN ?_ _ | refine blk_drew ?_)); exact H2.out), hbox, hbel _ _ (by repeat (first | (with_reducible first | exact HB.out | apply below_alloc | apply pw_below_drewN | apply below_drew1) | exact HB.out)) HL4.out⟩
    (refine goes_ Tryz.func102 (by kernel_rfl) rfl #[.int .u32 w] (by rfl) rfl rfl (by simp only [List.map_toArray, List.map_cons, List.map_nil]; rfl) ?_; refine (R2 _).mono ?_; rintro e w' ⟨rfl, ⟨nd, rfl⟩⟩; refine ⟨_, rfl, ?_⟩; refine hK.out _ _ trivial (fun _ => ?_); clear hK K; refine norm_ (a' := ?_) ?_ ?_; rotate_left; (· (show Act.put _ (some 14) _ = _; simp only [Act.put, putS]; rfl)))
    (refine pureR 9 (N := some 15) (v := ?_) (a' := ?_) rfl rfl (by kernel_rfl) (fun _ _ _ h => h) (Or.inl ⟨by rfl, ?_⟩) ?_ ?_; rotate_left; (· (intro w'; first | (go_simp; done) | (go_simp; with_reducible rfl))); rotate_left; (· (simp only [Act.put, putS]; rfl)))
    (refine oneR 10 (N := some 4) rfl rfl (by kernel_rfl) (by decide) (fun K hK => ?_); (refine box_step ?hg (N := 4) ?hd (cs := #[.int .i64 0, .int .i64 0, .int .i64 0, .int .i64 0, .int .i64 0, .int .i64 0, .int .i64 0, .bool false]) (t := 23) ?hr ?_; (case hd => rfl); (case hg => rfl); (case hr => first | (go_simp; done) | (go_simp; rfl)); intro g4 hg w4 hbox hb; have H4 := Aside0.mk hbox; have H2' := Aside0.mk (blk_below (by (with_reducible repeat (first | refine blk_drewN ?_ _ | refine blk_drew ?_)); exact H2.out) hb); have HN := Aside0.mk (show g2 ≠ g4 by rw [hg]; exact Nat.ne_of_lt (blk_lt (by (with_reducible repeat (first | refine blk_drewN ?_ _ | refine blk_drew ?_)); exact H2.out))); have HB' := Aside0.mk (below_step (by repeat (first | (with_reducible first | exact HB.out | apply below_alloc | apply pw_below_drewN | apply below_drew1) | exact HB.out)) hb); have HL4 := Aside0.mk (show W.heap.size ≤ g4 by rw [hg]; exact below_size (by repeat (first | (with_reducible first | exact HB.out | apply below_alloc | apply pw_below_drewN | apply below_drew1) | exact HB.out))); clear HB H2; have HB := HB'; have H2 := H2'; clear HB' H2' hbox hb hg; refine hK.out _ _ trivial (fun _ => ?_); clear hK K; refine norm_ (a' := ?_) ?_ ?_; rotate_left; (· (show Act.put _ (some 4) _ = _; simp only [Act.put, putS]; rfl))))
    refine oneR 11 (N := none) rfl rfl (by kernel_rfl) (by decide) (fun K hK => ?_); refine store_step ?hg rfl 23 (.tmp 4) (.tmp 15) rfl (g := g4) (old := #[.int .i64 0, .int .i64 0, .int .i64 0, .int .i64 0, .int .i64 0, .int .i64 0, .int .i64 0, .bool false]) #[.int .i64 0, .int .i64 0, .int .i64 rv, .int .i64 r1, .int .i64 r2, .int .i64 0, .int .i64 sz, .bool false] (by (with_reducible repeat (first | refine blk_drewN ?_ _ | refine blk_drew ?_)); exact H4.out) ?hx ?hy (by kernel_rfl) rfl rfl ?_; (case hg => rfl); (case hx => rfl); (case hy => rfl); intro w6 hbox hfar hbel; refine hK.out _ _ trivial (fun _ => ?_); refine done_ (by kernel_rfl) ?_; go_wp2; go_meet; exact ⟨g4, rfl, HN.out, HL4.out, far_blk hfar HN.out (by (with_reducible repeat (first | refine blk_drewN ?_ _ | refine blk_drew ?_)); exact H2.out), hbox, hbel _ _ (by repeat (first | (with_reducible first | exact HB.out | apply below_alloc | apply pw_below_drewN | apply below_drew1) | exact HB.out)) HL4.out⟩
  obtain ⟨g4, rfl, hN, hL4, h2, h4, hB⟩ := hcut
  have HN := Aside0.mk hN
  have HL4 := Aside0.mk hL4
  have H2a := Aside0.mk h2
  have H4 := Aside0.mk h4
  have HBa := Aside0.mk hB
  clear H2 HB hN hL4 h2 h4 hB
  have H2 := H2a
  have HB := HBa
  clear H2a HBa
  obtain ⟨y0, y1, y2, y3, y4, y5, y6, y7, yf0, yf1, yf2, yf3, yf4, yf5, yf6, yf7⟩ := cells8 H4.out
  by_cases ha : f3 ≠ 2 ∧ f3 ≠ 3
  · rw [if_pos ha] at HT
    have ht := HT.out
    simp only [Prod.mk.injEq] at ht
    obtain ⟨rfl, rfl, rfl, rfl, rfl, rfl, rfl, rfl, rfl⟩ := ht
    clear HT
    have hb2 : (f3 != 2) = true := by simpa using ha.1
    have hb3 : (f3 != 3) = true := by simpa using ha.2
    have hb2' : (f3 == 2) = false := by simpa using ha.1
    have hb3' : (f3 == 3) = false := by simpa using ha.2
    clear ha
    go_wp2_with (first | (go_at_call 96; refine (F3 _).mono ?_; rintro e w' ⟨rfl, ⟨nd, rfl⟩⟩) | ((with_reducible refine gate_store (t := 23) rfl ?_); refine store_event rfl 23 (.tmp 2) (.tmp 24) rfl (g := g2) (old := #[.int .i64 0, .int .i64 0, .int .i64 0, .int .i64 0, .int .i64 0, .int .i64 0, .int .i64 0, .bool false]) #[.int .i64 0, .int .i64 0, .int .i64 rv, .int .i64 r1, .int .i64 r2, .int .i64 0, .int .i64 sz, .bool false] (by (with_reducible repeat (first | refine blk_drewN ?_ _ | refine blk_drew ?_)); exact H2.out) rfl rfl (by kernel_rfl) rfl rfl ?_; intro w8 hbox hfar hbel; have H2' := Aside0.mk hbox; have HB' := Aside0.mk (hbel _ _ (by repeat (first | (with_reducible first | exact HB.out | apply below_alloc | apply pw_below_drewN | apply below_drew1) | exact HB.out)) HL2.out); clear hbox hfar hbel) | fail)
    refine bodyPost_ret (results_ct rfl _ _ g2 23 #[.int .i64 0, .int .i64 0, .int .i64 rv, .int .i64 r1, .int .i64 r2, .int .i64 0, .int .i64 sz, .bool false] (0, 0) _ rfl H2'.out Tryz.underlying23 rfl (by kernel_rfl)) rfl ?_
    exact ⟨rfl, HB'.out⟩
  rw [if_neg ha] at HT
  obtain ⟨wb, hwb⟩ : ∃ x : World, Below W.heap.size W x := ⟨_, HB.out⟩
  go_upto_region 2 with fail
  go_cut [23] (fun v23 wx => v23 = .bool false ∧ wx.heap[g2]? = some (.cells #[.int .i64 0, .int .i64 0, .int .i64 0, .int .i64 0, .int .i64 0, .int .i64 0, .int .i64 0, .bool false] 23 (0, 0)) ∧ wx.heap[g4]? = some (.cells #[.int .i64 0, .int .i64 0, .int .i64 rv, .int .i64 r1, .int .i64 r2, .int .i64 0, .int .i64 sz, .bool false] 23 (0, 0)) ∧ Below W.heap.size W wx)
  case first =>
    by_cases hc : f3 = 2
    · have hb2 : (f3 != 2) = false := by simpa using hc
      have hb2' : (f3 == 2) = true := by simpa using hc
      clear ha hc
      go_wp2_with (first | (go_at_call 96; refine (F3 _).mono ?_; rintro e w' ⟨rfl, ⟨nd, rfl⟩⟩) | fail)
      go_meet
      exact ⟨rfl, (by (with_reducible repeat (first | refine blk_drewN ?_ _ | refine blk_drew ?_)); exact H2.out), (by (with_reducible repeat (first | refine blk_drewN ?_ _ | refine blk_drew ?_)); exact H4.out), (by repeat (first | (with_reducible first | exact HB.out | apply below_alloc | apply pw_below_drewN | apply below_drew1) | exact HB.out))⟩
    · have hc3 : f3 = 3 := by omega
      have hb2 : (f3 != 2) = true := by simpa using hc
      have hb2' : (f3 == 2) = false := by simpa using hc
      have hb3 : (f3 != 3) = false := by simpa using hc3
      have hb3' : (f3 == 3) = true := by simpa using hc3
      clear ha hc hc3
      go_wp2_with (first | (go_at_call 96; refine (F3 _).mono ?_; rintro e w' ⟨rfl, ⟨nd, rfl⟩⟩) | fail)
      go_meet
      exact ⟨rfl, (by (with_reducible repeat (first | refine blk_drewN ?_ _ | refine blk_drew ?_)); exact H2.out), (by (with_reducible repeat (first | refine blk_drewN ?_ _ | refine blk_drew ?_)); exact H4.out), (by repeat (first | (with_reducible first | exact HB.out | apply below_alloc | apply pw_below_drewN | apply below_drew1) | exact HB.out))⟩
  obtain ⟨rfl, h2, h4, hB⟩ := hcut
  have H2a := Aside0.mk h2
  have H4a := Aside0.mk h4
  have HBa := Aside0.mk hB
  clear H2 H4 HB h2 h4 hB y0 y1 y2 y3 y4 y5 y6 y7 yf0 yf1 yf2 yf3 yf4 yf5 yf6 yf7 ha
  have H2 := H2a
  have H4 := H4a
  have HB := HBa
  clear H2a H4a HBa
  obtain ⟨y0, y1, y2, y3, y4, y5, y6, y7, yf0, yf1, yf2, yf3, yf4, yf5, yf6, yf7⟩ := cells8 H4.out
  go_wp2_with fail
  refine (BT _).mono ?_
  rintro e w' ⟨rfl, ⟨nd5, rfl⟩⟩
  by_cases c2 : b5 = 2
  · rw [if_pos c2] at HT
    have ht := HT.out
    simp only [Prod.mk.injEq] at ht
    obtain ⟨rfl, rfl, rfl, rfl, rfl, rfl, rfl, rfl, rfl⟩ := ht
    clear HT
    subst c2
    have hne0 : (r2 == 0) = (r2 == 0) := rfl
    go_upto_region 12 with (first | ((with_reducible refine gate_store (t := 3) rfl ?_); refine set_event rfl 3 _ _ rfl (g := g4) 0 (.int .i64 15) #[.int .i64 15, .int .i64 0, .int .i64 rv, .int .i64 r1, .int .i64 r2, .int .i64 0, .int .i64 sz, .bool false] (by (with_reducible repeat (first | refine blk_drewN ?_ _ | refine blk_drew ?_)); exact H4.out) (by simp) rfl rfl (by kernel_rfl) rfl rfl rfl ?_; intro w7 hbox hfar hbel; have H4' := Aside0.mk hbox; have H2' := Aside0.mk (far_blk hfar HN.out (by (with_reducible repeat (first | refine blk_drewN ?_ _ | refine blk_drew ?_)); exact H2.out)); have HB' := Aside0.mk (hbel _ _ (by repeat (first | (with_reducible first | exact HB.out | apply below_alloc | apply pw_below_drewN | apply below_drew1) | exact HB.out)) HL4.out); clear hbox hfar hbel H4 H2 HB y0 y1 y2 y3 y4 y5 y6 y7 yf0 yf1 yf2 yf3 yf4 yf5 yf6 yf7; have H4 := H4'; have H2 := H2'; have HB := HB'; clear H4' H2' HB'; obtain ⟨y0, y1, y2, y3, y4, y5, y6, y7, yf0, yf1, yf2, yf3, yf4, yf5, yf6, yf7⟩ := cells8 H4.out) | fail)
    refine startR (n := 6) (S := fun w' => w'.cell? ⟨g4, 0, none⟩ = some (.int .i64 15) ∧ w'.cell? ⟨g4, 1, none⟩ = some (.int .i64 0) ∧ w'.cell? ⟨g4, 2, none⟩ = some (.int .i64 rv) ∧ w'.cell? ⟨g4, 3, none⟩ = some (.int .i64 r1) ∧ w'.cell? ⟨g4, 4, none⟩ = some (.int .i64 r2) ∧ w'.cell? ⟨g4, 5, none⟩ = some (.int .i64 0) ∧ w'.cell? ⟨g4, 6, none⟩ = some (.int .i64 sz) ∧ w'.cell? ⟨g4, 7, none⟩ = some (.bool false)) (ds := []) (by kernel_rfl) rfl (cells8a (by (with_reducible repeat (first | refine blk_drewN ?_ _ | refine blk_drew ?_)); exact H4.out)) (fun hHeld => ?_)
    refine takeR 0 (N := some 41) (v := ?_) (a' := ?_) rfl rfl (by kernel_rfl) (fun _ _ _ h => h) (Or.inl ⟨by rfl, ?_⟩) hHeld ?_ ?_; rotate_left; (· (rintro w' ⟨s0, s1, s2, s3, s4, s5, s6, s7⟩; first | (go_simp; done) | (go_simp; with_reducible rfl))); rotate_left; (· (simp only [Act.put, putS]; rfl))
    refine pureR 1 (N := some 42) (v := ?_) (a' := ?_) rfl rfl (by kernel_rfl) (fun _ _ _ h => h) (Or.inl ⟨by rfl, ?_⟩) ?_ ?_; rotate_left; (· (intro w'; first | (go_simp; done) | (go_simp; with_reducible rfl))); rotate_left; (· (simp only [Act.put, putS]; rfl))
    refine oneR 2 (N := some 43) rfl rfl (by kernel_rfl) (by decide) (fun K hK => ?_); (refine goes_ Tryz.func102 (by kernel_rfl) rfl #[.int .u32 w] (by rfl) rfl rfl (by simp only [List.map_toArray, List.map_cons, List.map_nil]; rfl) ?_; refine (R2 _).mono ?_; rintro e w' ⟨rfl, ⟨nd, rfl⟩⟩; refine ⟨_, rfl, ?_⟩; refine hK.out _ _ (cells8a (by (with_reducible repeat (first | refine blk_drewN ?_ _ | refine blk_drew ?_)); exact H4.out)) (fun hHeld => ?_); clear hK K; refine norm_ (a' := ?_) ?_ ?_; rotate_left; (· (show Act.put _ (some 43) _ = _; simp only [Act.put, putS]; rfl)))
    refine pureR 3 (N := some 44) (v := ?_) (a' := ?_) rfl rfl (by kernel_rfl) (fun _ _ _ h => h) (Or.inl ⟨by rfl, ?_⟩) ?_ ?_; rotate_left; (· (intro w'; first | (go_simp; done) | (go_simp; with_reducible rfl))); rotate_left; (· (simp only [Act.put, putS]; rfl))
    refine oneR 4 (N := none) rfl rfl (by kernel_rfl) (by decide) (fun K hK => ?_)
    refine store_step ?hg rfl 23 (.tmp 2) (.tmp 41) rfl (g := g2) (old := #[.int .i64 0, .int .i64 0, .int .i64 0, .int .i64 0, .int .i64 0, .int .i64 0, .int .i64 0, .bool false]) #[.int .i64 15, .int .i64 0, .int .i64 rv, .int .i64 r1, .int .i64 r2, .int .i64 0, .int .i64 sz, .bool false] (by (with_reducible repeat (first | refine blk_drewN ?_ _ | refine blk_drew ?_)); exact H2.out) ?hx ?hy (by kernel_rfl) rfl rfl ?_
    (case hg => rfl)
    (case hx => rfl)
    (case hy => rfl)
    intro w6 hbox hfar hbel
    have H2' := Aside0.mk hbox
    have HB' := Aside0.mk (hbel _ _ (by repeat (first | (with_reducible first | exact HB.out | apply below_alloc | apply pw_below_drewN | apply below_drew1) | exact HB.out)) HL2.out)
    refine hK.out _ _ (cells8a (far_blk hfar (fun e => HN.out e.symm) (by (with_reducible repeat (first | refine blk_drewN ?_ _ | refine blk_drew ?_)); exact H4.out))) (fun hHeld => ?_)
    clear hK K hbox hfar hbel
    refine pureR 5 (N := some 3) (v := ?_) (a' := ?_) rfl rfl (by kernel_rfl) (fun _ _ _ h => h) (Or.inl ⟨by rfl, ?_⟩) ?_ ?_; rotate_left; (· (intro w'; first | (go_simp; done) | (go_simp; with_reducible rfl))); rotate_left; (· (simp only [Act.put, putS]; rfl))
    refine done_ (by kernel_rfl) ?_
    go_wp2
    refine bodyPost_ret (results_ct rfl _ _ g2 23 #[.int .i64 15, .int .i64 0, .int .i64 rv, .int .i64 r1, .int .i64 r2, .int .i64 0, .int .i64 sz, .bool false] (0, 0) _ rfl H2'.out Tryz.underlying23 rfl (by kernel_rfl)) rfl ?_
    exact ⟨rfl, HB'.out⟩
  rw [if_neg c2] at HT
  have n2 : (b5 == 2) = false := by simpa using c2
  by_cases c3 : b5 = 3
  · rw [if_pos c3] at HT
    have ht := HT.out
    simp only [Prod.mk.injEq] at ht
    obtain ⟨rfl, rfl, rfl, rfl, rfl, rfl, rfl, rfl, rfl⟩ := ht
    clear HT
    subst c3
    go_wp2_with (first | ((with_reducible refine gate_store (t := 3) rfl ?_); refine set_event rfl 3 _ _ rfl (g := g4) 0 (.int .i64 16) #[.int .i64 16, .int .i64 0, .int .i64 rv, .int .i64 r1, .int .i64 r2, .int .i64 0, .int .i64 sz, .bool false] (by (with_reducible repeat (first | refine blk_drewN ?_ _ | refine blk_drew ?_)); exact H4.out) (by simp) rfl rfl (by kernel_rfl) rfl rfl rfl ?_; intro w7 hbox hfar hbel; have H4' := Aside0.mk hbox; have H2' := Aside0.mk (far_blk hfar HN.out (by (with_reducible repeat (first | refine blk_drewN ?_ _ | refine blk_drew ?_)); exact H2.out)); have HB' := Aside0.mk (hbel _ _ (by repeat (first | (with_reducible first | exact HB.out | apply below_alloc | apply pw_below_drewN | apply below_drew1) | exact HB.out)) HL4.out); clear hbox hfar hbel H4 H2 HB y0 y1 y2 y3 y4 y5 y6 y7 yf0 yf1 yf2 yf3 yf4 yf5 yf6 yf7; have H4 := H4'; have H2 := H2'; have HB := HB'; clear H4' H2' HB'; obtain ⟨y0, y1, y2, y3, y4, y5, y6, y7, yf0, yf1, yf2, yf3, yf4, yf5, yf6, yf7⟩ := cells8 H4.out) | ((with_reducible refine gate_store (t := 23) rfl ?_); refine store_event rfl 23 (.tmp 2) (.tmp 52) rfl (g := g2) (old := #[.int .i64 0, .int .i64 0, .int .i64 0, .int .i64 0, .int .i64 0, .int .i64 0, .int .i64 0, .bool false]) #[.int .i64 16, .int .i64 0, .int .i64 rv, .int .i64 r1, .int .i64 r2, .int .i64 0, .int .i64 sz, .bool false] (by (with_reducible repeat (first | refine blk_drewN ?_ _ | refine blk_drew ?_)); exact H2.out) rfl rfl (by kernel_rfl) rfl rfl ?_; intro w8 hbox hfar hbel; have H2' := Aside0.mk hbox; have HB' := Aside0.mk (hbel _ _ (by repeat (first | (with_reducible first | exact HB.out | apply below_alloc | apply pw_below_drewN | apply below_drew1) | exact HB.out)) HL2.out); clear hbox hfar hbel) | fail)
    refine bodyPost_ret (results_ct rfl _ _ g2 23 #[.int .i64 16, .int .i64 0, .int .i64 rv, .int .i64 r1, .int .i64 r2, .int .i64 0, .int .i64 sz, .bool false] (0, 0) _ rfl H2'.out Tryz.underlying23 rfl (by kernel_rfl)) rfl ?_
    exact ⟨rfl, HB'.out⟩
  rw [if_neg c3] at HT
  have n3 : (b5 == 3) = false := by simpa using c3
  by_cases c1 : b5 = 1
  · rw [if_pos c1] at HT
    have ht := HT.out
    simp only [Prod.mk.injEq] at ht
    obtain ⟨rfl, rfl, rfl, rfl, rfl, rfl, rfl, rfl, rfl⟩ := ht
    clear HT
    subst c1
    go_wp2_with (first | ((with_reducible refine gate_store (t := 3) rfl ?_); refine set_event rfl 3 _ _ rfl (g := g4) 0 (.int .i64 17) #[.int .i64 17, .int .i64 0, .int .i64 rv, .int .i64 r1, .int .i64 r2, .int .i64 0, .int .i64 sz, .bool false] (by (with_reducible repeat (first | refine blk_drewN ?_ _ | refine blk_drew ?_)); exact H4.out) (by simp) rfl rfl (by kernel_rfl) rfl rfl rfl ?_; intro w7 hbox hfar hbel; have H4' := Aside0.mk hbox; have H2' := Aside0.mk (far_blk hfar HN.out (by (with_reducible repeat (first | refine blk_drewN ?_ _ | refine blk_drew ?_)); exact H2.out)); have HB' := Aside0.mk (hbel _ _ (by repeat (first | (with_reducible first | exact HB.out | apply below_alloc | apply pw_below_drewN | apply below_drew1) | exact HB.out)) HL4.out); clear hbox hfar hbel H4 H2 HB y0 y1 y2 y3 y4 y5 y6 y7 yf0 yf1 yf2 yf3 yf4 yf5 yf6 yf7; have H4 := H4'; have H2 := H2'; have HB := HB'; clear H4' H2' HB'; obtain ⟨y0, y1, y2, y3, y4, y5, y6, y7, yf0, yf1, yf2, yf3, yf4, yf5, yf6, yf7⟩ := cells8 H4.out) | ((with_reducible refine gate_store (t := 3) rfl ?_); refine set_event rfl 3 _ _ rfl (g := g4) 1 (.int .i64 1) #[.int .i64 17, .int .i64 1, .int .i64 rv, .int .i64 r1, .int .i64 r2, .int .i64 0, .int .i64 sz, .bool false] (by (with_reducible repeat (first | refine blk_drewN ?_ _ | refine blk_drew ?_)); exact H4.out) (by simp) rfl rfl (by kernel_rfl) rfl rfl rfl ?_; intro w7 hbox hfar hbel; have H4' := Aside0.mk hbox; have H2' := Aside0.mk (far_blk hfar HN.out (by (with_reducible repeat (first | refine blk_drewN ?_ _ | refine blk_drew ?_)); exact H2.out)); have HB' := Aside0.mk (hbel _ _ (by repeat (first | (with_reducible first | exact HB.out | apply below_alloc | apply pw_below_drewN | apply below_drew1) | exact HB.out)) HL4.out); clear hbox hfar hbel H4 H2 HB y0 y1 y2 y3 y4 y5 y6 y7 yf0 yf1 yf2 yf3 yf4 yf5 yf6 yf7; have H4 := H4'; have H2 := H2'; have HB := HB'; clear H4' H2' HB'; obtain ⟨y0, y1, y2, y3, y4, y5, y6, y7, yf0, yf1, yf2, yf3, yf4, yf5, yf6, yf7⟩ := cells8 H4.out) | ((with_reducible refine gate_store (t := 23) rfl ?_); refine store_event rfl 23 (.tmp 2) (.tmp 52) rfl (g := g2) (old := #[.int .i64 0, .int .i64 0, .int .i64 0, .int .i64 0, .int .i64 0, .int .i64 0, .int .i64 0, .bool false]) #[.int .i64 17, .int .i64 1, .int .i64 rv, .int .i64 r1, .int .i64 r2, .int .i64 0, .int .i64 sz, .bool false] (by (with_reducible repeat (first | refine blk_drewN ?_ _ | refine blk_drew ?_)); exact H2.out) rfl rfl (by kernel_rfl) rfl rfl ?_; intro w8 hbox hfar hbel; have H2' := Aside0.mk hbox; have HB' := Aside0.mk (hbel _ _ (by repeat (first | (with_reducible first | exact HB.out | apply below_alloc | apply pw_below_drewN | apply below_drew1) | exact HB.out)) HL2.out); clear hbox hfar hbel) | fail)
    refine bodyPost_ret (results_ct rfl _ _ g2 23 #[.int .i64 17, .int .i64 1, .int .i64 rv, .int .i64 r1, .int .i64 r2, .int .i64 0, .int .i64 sz, .bool false] (0, 0) _ rfl H2'.out Tryz.underlying23 rfl (by kernel_rfl)) rfl ?_
    exact ⟨rfl, HB'.out⟩
  rw [if_neg c1] at HT
  have n1 : (b5 == 1) = false := by simpa using c1
  have hand : Go.bits .and .i64 b5 3 = b5 % 4 := and_i64 _ 2 h5.1 (by omega) (by omega)
  by_cases cm : b5 % 4 = 0
  · rw [if_pos cm] at HT
    have ht := HT.out
    simp only [Prod.mk.injEq] at ht
    obtain ⟨rfl, rfl, rfl, rfl, rfl, rfl, rfl, rfl, rfl⟩ := ht
    clear HT
    have hm0 : (b5 % 4 == 0) = true := by simpa using cm
    have hm0' : (b5 % 4 != 0) = false := by simpa using cm
    have hq : b5.tdiv 4 = b5 / 4 := Int.tdiv_eq_ediv_of_nonneg h5.1
    go_wp2_with (first | ((with_reducible refine gate_store (t := 3) rfl ?_); refine set_event rfl 3 _ _ rfl (g := g4) 0 (.int .i64 17) #[.int .i64 17, .int .i64 0, .int .i64 rv, .int .i64 r1, .int .i64 r2, .int .i64 0, .int .i64 sz, .bool false] (by (with_reducible repeat (first | refine blk_drewN ?_ _ | refine blk_drew ?_)); exact H4.out) (by simp) rfl rfl (by kernel_rfl) rfl rfl rfl ?_; intro w7 hbox hfar hbel; have H4' := Aside0.mk hbox; have H2' := Aside0.mk (far_blk hfar HN.out (by (with_reducible repeat (first | refine blk_drewN ?_ _ | refine blk_drew ?_)); exact H2.out)); have HB' := Aside0.mk (hbel _ _ (by repeat (first | (with_reducible first | exact HB.out | apply below_alloc | apply pw_below_drewN | apply below_drew1) | exact HB.out)) HL4.out); clear hbox hfar hbel H4 H2 HB y0 y1 y2 y3 y4 y5 y6 y7 yf0 yf1 yf2 yf3 yf4 yf5 yf6 yf7; have H4 := H4'; have H2 := H2'; have HB := HB'; clear H4' H2' HB'; obtain ⟨y0, y1, y2, y3, y4, y5, y6, y7, yf0, yf1, yf2, yf3, yf4, yf5, yf6, yf7⟩ := cells8 H4.out) | fail)
    refine (pick_at amosL (b5 / 4) (by unfold amosL; repeat (first | exact lit_C _ _ (by decide) | apply Kd.C_drewN | apply Kd.C_drew)) rfl (by decide)).mono ?_
    rintro e w' ⟨rfl, ⟨nd2, rfl⟩⟩
    have H2a := Aside0.mk (blk_alloc H2.out (.cells #[.int .i64 2, .int .i64 3, .int .i64 5, .int .i64 4, .int .i64 6, .int .i64 7, .int .i64 8, .int .i64 9] 3))
    have H4a := Aside0.mk (blk_alloc H4.out (.cells #[.int .i64 2, .int .i64 3, .int .i64 5, .int .i64 4, .int .i64 6, .int .i64 7, .int .i64 8, .int .i64 9] 3))
    clear H2 H4
    have H2 := H2a
    have H4 := H4a
    go_wp2_with (first | ((with_reducible refine gate_store (t := 3) rfl ?_); refine set_event rfl 3 _ _ rfl (g := g4) 1 (.int .i64 (pickL amosL (b5 / 4))) #[.int .i64 17, .int .i64 (pickL amosL (b5 / 4)), .int .i64 rv, .int .i64 r1, .int .i64 r2, .int .i64 0, .int .i64 sz, .bool false] (by (with_reducible repeat (first | refine blk_drewN ?_ _ | refine blk_drew ?_)); exact H4.out) (by simp) rfl rfl (by kernel_rfl) rfl rfl rfl ?_; intro w7 hbox hfar hbel; have H4' := Aside0.mk hbox; have H2' := Aside0.mk (far_blk hfar HN.out (by (with_reducible repeat (first | refine blk_drewN ?_ _ | refine blk_drew ?_)); exact H2.out)); have HB' := Aside0.mk (hbel _ _ (by repeat (first | (with_reducible first | exact HB.out | apply below_alloc | apply pw_below_drewN | apply below_drew1) | exact HB.out)) HL4.out); clear hbox hfar hbel H4 H2 HB y0 y1 y2 y3 y4 y5 y6 y7 yf0 yf1 yf2 yf3 yf4 yf5 yf6 yf7; have H4 := H4'; have H2 := H2'; have HB := HB'; clear H4' H2' HB'; obtain ⟨y0, y1, y2, y3, y4, y5, y6, y7, yf0, yf1, yf2, yf3, yf4, yf5, yf6, yf7⟩ := cells8 H4.out) | ((with_reducible refine gate_store (t := 23) rfl ?_); refine store_event rfl 23 (.tmp 2) (.tmp 52) rfl (g := g2) (old := #[.int .i64 0, .int .i64 0, .int .i64 0, .int .i64 0, .int .i64 0, .int .i64 0, .int .i64 0, .bool false]) #[.int .i64 17, .int .i64 (pickL amosL (b5 / 4)), .int .i64 rv, .int .i64 r1, .int .i64 r2, .int .i64 0, .int .i64 sz, .bool false] (by (with_reducible repeat (first | refine blk_drewN ?_ _ | refine blk_drew ?_)); exact H2.out) rfl rfl (by kernel_rfl) rfl rfl ?_; intro w8 hbox hfar hbel; have H2' := Aside0.mk hbox; have HB' := Aside0.mk (hbel _ _ (by repeat (first | (with_reducible first | exact HB.out | apply below_alloc | apply pw_below_drewN | apply below_drew1) | exact HB.out)) HL2.out); clear hbox hfar hbel) | fail)
    refine bodyPost_ret (results_ct rfl _ _ g2 23 #[.int .i64 17, .int .i64 (pickL amosL (b5 / 4)), .int .i64 rv, .int .i64 r1, .int .i64 r2, .int .i64 0, .int .i64 sz, .bool false] (0, 0) _ rfl H2'.out Tryz.underlying23 rfl (by kernel_rfl)) rfl ?_
    exact ⟨rfl, HB'.out⟩
  · rw [if_neg cm] at HT
    have ht := HT.out
    simp only [Prod.mk.injEq] at ht
    obtain ⟨rfl, rfl, rfl, rfl, rfl, rfl, rfl, rfl, rfl⟩ := ht
    clear HT
    have hm0 : (b5 % 4 == 0) = false := by simpa using cm
    have hm0' : (b5 % 4 != 0) = true := by simpa using cm
    go_wp2_with (first | ((with_reducible refine gate_store (t := 23) rfl ?_); refine store_event rfl 23 (.tmp 2) (.tmp 31) rfl (g := g2) (old := #[.int .i64 0, .int .i64 0, .int .i64 0, .int .i64 0, .int .i64 0, .int .i64 0, .int .i64 0, .bool false]) #[.int .i64 0, .int .i64 0, .int .i64 rv, .int .i64 r1, .int .i64 r2, .int .i64 0, .int .i64 sz, .bool false] (by (with_reducible repeat (first | refine blk_drewN ?_ _ | refine blk_drew ?_)); exact H2.out) rfl rfl (by kernel_rfl) rfl rfl ?_; intro w8 hbox hfar hbel; have H2' := Aside0.mk hbox; have HB' := Aside0.mk (hbel _ _ (by repeat (first | (with_reducible first | exact HB.out | apply below_alloc | apply pw_below_drewN | apply below_drew1) | exact HB.out)) HL2.out); clear hbox hfar hbel) | fail)
    refine bodyPost_ret (results_ct rfl _ _ g2 23 #[.int .i64 0, .int .i64 0, .int .i64 rv, .int .i64 r1, .int .i64 r2, .int .i64 0, .int .i64 sz, .bool false] (0, 0) _ rfl H2'.out Tryz.underlying23 rfl (by kernel_rfl)) rfl ?_
    exact ⟨rfl, HB'.out⟩

end Go.Proofs.YtjapahcbhjjeiaaGreatDoor.AS
