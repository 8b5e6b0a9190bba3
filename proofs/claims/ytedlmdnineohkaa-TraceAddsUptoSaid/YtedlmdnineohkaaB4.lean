import Derived.Test.YtedlmdnineohkaaB3
import Derived.Test.YtedlmdnineohkaaA10
import Derived.Deep.CutBlock
namespace Go.Proofs.Ytedlmdnineohkaa.PU
open Go.RowKit Go.Proofs.YtedlmdnineohkaaW.PrintWords Go.Proofs.YtedlmdnineohkaaW.PrintLast Go.Proofs.YtedlmdnineohkaaW.PrintMore
set_option linter.unusedVariables false


set_option linter.unusedSimpArgs false

theorem num_step {ρ : Type} {t : Option ρ} {l l' : List Int} {bad bad' : Bool} {x : Int} (F' : Int → List Int → Option ρ) (hr : NumRel l bad x l' bad') (h : t = if bad = true then none else (rdN l 0 0).bind fun q => F' q.1 q.2) : t = if bad' = true then none else F' x l' := by
  unfold NumRel at hr
  by_cases hb : bad = true
  · rw [if_pos hb] at h hr; rw [h, hr.2]; rfl
  · rw [if_neg hb] at h hr
    rw [h]
    cases hN : rdN l 0 0 with
    | none => rw [hN] at hr; rw [hr.1]; rfl
    | some q => rw [hN] at hr; obtain ⟨e1, e2, e3⟩ := hr; rw [e3, e1, e2]; rfl
theorem some_step {ρ : Type} {t : Option ρ} {l xs l' : List Int} {bad bad' : Bool} (F' : List Int → List Int → Option ρ) (hr : SomeRel l bad xs l' bad') (h : t = if bad = true then none else (rdB l).bind fun q => F' q.1 q.2) : t = if bad' = true then none else F' xs l' := by
  unfold SomeRel at hr
  by_cases hb : bad = true
  · rw [if_pos hb] at h hr; rw [h, hr.2]; rfl
  · rw [if_neg hb] at h hr
    rw [h]
    cases hN : rdB l with
    | none => rw [hN] at hr; rw [hr.1]; rfl
    | some q => rw [hN] at hr; obtain ⟨e1, e2, e3⟩ := hr; rw [e3, e1, e2]; rfl
theorem NumRel.len {l l' : List Int} {bad bad' : Bool} {x : Int} (hr : NumRel l bad x l' bad') : l'.length ≤ l.length ∧ (bad' = false → l'.length < l.length ∧ bad = false ∧ 0 ≤ x ∧ x ≤ 1099511627776) := by
  unfold NumRel at hr
  by_cases hb : bad = true
  · rw [if_pos hb] at hr; rw [hr.1, hr.2]; exact ⟨Nat.le_refl _, fun h => by cases h⟩
  · rw [if_neg hb] at hr
    have hb' : bad = false := by simpa using hb
    cases hN : rdN l 0 0 with
    | none => rw [hN] at hr; rw [hr.1]; exact ⟨hr.2, fun h => by cases h⟩
    | some q =>
      rw [hN] at hr; obtain ⟨e1, e2, e3⟩ := hr
      have h1 := rdN_shrinks _ _ _ hN
      have h2 := rdN_nonneg _ _ _ (Int.le_refl 0) hN
      rw [e1, e2]
      exact ⟨Nat.le_of_lt h1, fun _ => ⟨h1, hb', h2⟩⟩
theorem SomeRel.len {l xs l' : List Int} {bad bad' : Bool} (hr : SomeRel l bad xs l' bad') : l'.length ≤ l.length ∧ (bad' = false → l'.length < l.length ∧ bad = false) := by
  unfold SomeRel at hr
  by_cases hb : bad = true
  · rw [if_pos hb] at hr; rw [hr.1, hr.2]; exact ⟨Nat.le_refl _, fun h => by cases h⟩
  · rw [if_neg hb] at hr
    have hb' : bad = false := by simpa using hb
    cases hN : rdB l with
    | none => rw [hN] at hr; rw [hr.1]; exact ⟨hr.2, fun h => by cases h⟩
    | some q =>
      rw [hN] at hr; obtain ⟨e1, e2, e3⟩ := hr
      have h1 := rdB_shrinks hN
      rw [e2]
      exact ⟨by omega, fun _ => ⟨by omega, hb'⟩⟩
theorem meas {n : Int} {k : Nat} (h : (k : Int) < n) : n.toNat - (intOf (.int .i64 ((k + 1 : Nat) : Int))).toNat < n.toNat - (intOf (.int .i64 (k : Int))).toNat := by
  show n.toNat - ((k + 1 : Nat) : Int).toNat < n.toNat - (k : Int).toNat
  omega
/-- The way out with nothing. -/
theorem rread_none {w W : World} {l : List Int} {gc : Nat} {tmps : Array Value} (hN : readL l = none) (hc : W.heap[gc]? = some (.cells zconf 25 (0, 0))) (hB : Below w.heap.size w W) (h2 : tmps.getD 2 undef = .pointer (some ⟨gc, 0, none⟩)) (h3 : tmps.getD 3 undef = .slice none 0 0) (h4 : tmps.getD 4 undef = .int .i64 1) :
    bodyPost Try.prog Try.f15 (ReadPost w l) .ret { tmps := tmps, defers := [] } W := by
  have hv := Vals.cell (P := Try.prog) (tmps := tmps) (w := W) (p := 2) (ty := 25) (rs := [.tmp 3, .tmp 4]) gc 25 zconf (0, 0) _ h2 hc Try.underlying25 rfl info25s (.tmp (u := 3) (.tmp (u := 4) .nil))
  rw [h3, h4] at hv
  refine bodyPost_ret (results_list (rs := [.cell 2 25, .tmp 3, .tmp 4]) rfl (by simp) hv) rfl ⟨hB, ?_⟩
  rw [hN]
theorem zset_blk {W : World} {gc : Nat} (h : W.heap[gc]? = some (.cells zconf 25 (0, 0))) : (((((((W.setCell ⟨gc, 0, none⟩ (.int .i64 0)).setCell ⟨gc, 1, none⟩ (.int .i64 0)).setCell ⟨gc, 2, none⟩ (.int .i64 0)).setCell ⟨gc, 3, none⟩ (.slice none 0 0)).setCell ⟨gc, 4, none⟩ (.slice none 0 0)).setCell ⟨gc, 5, none⟩ (.slice none 0 0)).setCell ⟨gc, 6, none⟩ (.bool false)).heap[gc]? = some (.cells zconf 25 (0, 0)) := (blk_set (blk_set (blk_set (blk_set (blk_set (blk_set (blk_set h 0 (.int .i64 0)) 1 (.int .i64 0)) 2 (.int .i64 0)) 3 (.slice none 0 0)) 4 (.slice none 0 0)) 5 (.slice none 0 0)) 6 (.bool false))
theorem zset_below {B : Nat} {w W : World} {gc : Nat} (h : Below B w W) (hg : B ≤ gc) : Below B w (((((((W.setCell ⟨gc, 0, none⟩ (.int .i64 0)).setCell ⟨gc, 1, none⟩ (.int .i64 0)).setCell ⟨gc, 2, none⟩ (.int .i64 0)).setCell ⟨gc, 3, none⟩ (.slice none 0 0)).setCell ⟨gc, 4, none⟩ (.slice none 0 0)).setCell ⟨gc, 5, none⟩ (.slice none 0 0)).setCell ⟨gc, 6, none⟩ (.bool false)) := (((((((h.setCell hg _).setCell hg _).setCell hg _).setCell hg _).setCell hg _).setCell hg _).setCell hg _)

set_option maxRecDepth 100000 in
set_option maxHeartbeats 8000000 in
theorem rread_calls (w : World) (A : Option Addr) (c : Nat) (l : List Int) (hr : Kd.C (Kd.int .u8) w A l.length l) (hc : l.length ≤ c) (hb : ∀ x ∈ l, 0 ≤ x ∧ x < 256) (hl : l.length ≤ 8589934592) :
    Calls Try.prog 15 #[.slice A l.length c] w (ReadPost w l) := by
  have hu25 := Try.underlying25
  have hu56 := Try.underlying56
  have hu68 := Try.underlying68
  have HR := Aside0.mk hr
  have HBY := Aside0.mk hb
  have HLL := Aside0.mk hl
  have HC := Aside0.mk hc
  clear hr hb hl hc
  go_enter Try.func15, Try.ntmps15
  go_wp2_with (first | ((with_reducible refine gate_dst (N := 2) rfl ?_); refine box_event ?hg (N := 2) ?hd (cs := zconf) (t := 25) ?hr ?_; (case hd => rfl); (case hg => rfl); (case hr => first | (go_simp; done) | (go_simp; rfl)); intro gc hg w1 hbox hb; have HGC := Aside0.mk (show w.heap.size ≤ gc by omega); have HZ := Aside0.mk hbox; have HB1 := Aside0.mk hb; clear hg hbox hb) | ((with_reducible refine gate_dst (N := 17) rfl ?_); refine box_event ?hg (N := 17) ?hd (cs := #[.slice A l.length c, .bool false]) (t := 68) ?hr ?_; (case hd => rfl); (case hg => rfl); (case hr => first | (go_simp; done) | (go_simp; rfl)); intro g hg w2 hbox hb; have HQ := Aside0.mk (show RQ w1 w2 g l false from ⟨by omega, hb, HBY.out, HLL.out, A, c, hbox, HC.out, Kd.C_below HR.out HB1.out⟩); have HNE := Aside0.mk (show gc ≠ g by have := blk_lt HZ.out; omega); have HZ2 := Aside0.mk (blk_below HZ.out hb); clear hg hbox hb HR HC HBY HLL) | fail)
  refine (rtake_calls w1 _ g l false 4 HQ.out (fun _ => by omega)).mono ?_
  rintro e w3 ⟨v, xs, l1, bad1, rfl, hR, hrq, hk, hrel⟩
  have HR := Aside0.mk hR
  have HQ3 := Aside0.mk hrq
  have HZ3 := Aside0.mk (blk_kept HZ2.out hk (fun e => HNE.out e))
  clear hR hrq hk HQ HZ2
  obtain ⟨A3, c3, hblk⟩ := HQ3.out.block
  have cb : w3.cell? ⟨g, 1, none⟩ = some (.bool bad1) := (blk_cell hblk 1).trans rfl
  clear hblk
  have d1 : g ≠ gc := Ne.symm HNE.out
  unfold TakeRel at hrel
  by_cases h4 : (l.length : Int) < 4
  · rw [if_pos (.inr h4)] at hrel
    obtain ⟨rfl, rfl, rfl⟩ := hrel
    have HN := Aside0.mk (show readL l1 = none by unfold readL rdLife; rw [if_pos (by omega)]; rfl)
    clear h4
    have z0 : w3.cell? ⟨gc, 0, none⟩ = some (.int .i64 0) := (blk_cell HZ3.out 0).trans rfl
    have fz0 := blk_frozen HZ3.out 0
    have z1 : w3.cell? ⟨gc, 1, none⟩ = some (.int .i64 0) := (blk_cell HZ3.out 1).trans rfl
    have fz1 := blk_frozen HZ3.out 1
    have z2 : w3.cell? ⟨gc, 2, none⟩ = some (.int .i64 0) := (blk_cell HZ3.out 2).trans rfl
    have fz2 := blk_frozen HZ3.out 2
    have z3 : w3.cell? ⟨gc, 3, none⟩ = some (.slice none 0 0) := (blk_cell HZ3.out 3).trans rfl
    have fz3 := blk_frozen HZ3.out 3
    have z4 : w3.cell? ⟨gc, 4, none⟩ = some (.slice none 0 0) := (blk_cell HZ3.out 4).trans rfl
    have fz4 := blk_frozen HZ3.out 4
    have z5 : w3.cell? ⟨gc, 5, none⟩ = some (.slice none 0 0) := (blk_cell HZ3.out 5).trans rfl
    have fz5 := blk_frozen HZ3.out 5
    have z6 : w3.cell? ⟨gc, 6, none⟩ = some (.bool false) := (blk_cell HZ3.out 6).trans rfl
    have fz6 := blk_frozen HZ3.out 6
    go_wp2_with fail
    exact rread_none HN.out (zset_blk HZ3.out) (zset_below (HB1.out.trans (HQ3.out.2.1.mono HB1.out.size)) HGC.out) (by simp) (by simp) (by simp)
  · rw [if_neg (by rintro (h | h); cases h; exact h4 h)] at hrel
    obtain ⟨ex, e1, rfl⟩ := hrel
    have h4' : 4 ≤ l.length := by omega
    obtain ⟨b0, b1, b2, b3, l2, hl⟩ : ∃ b0 b1 b2 b3 l2, l = b0 :: b1 :: b2 :: b3 :: l2 := by
      match l, h4' with
      | b0 :: b1 :: b2 :: b3 :: l2, _ => exact ⟨b0, b1, b2, b3, l2, rfl⟩
    have ex : xs = [b0, b1, b2, b3] := by rw [ex, hl]; rfl
    have e1 : l1 = l2 := by rw [e1, hl]; rfl
    subst ex e1
    obtain ⟨gu, cu, eu, hgu, _⟩ := Kd.R_form HR.out (by simp)
    have eu : v = .slice (some ⟨gu, 0, none⟩) 4 cu := eu
    subst eu
    have hC := (Kd.R_reads' HR.out).2.2
    obtain ⟨ad, ea, hc0⟩ := Kd.at_int hC 0 (by omega) (by simp)
    cases ea
    obtain ⟨ad', ea, hc1⟩ := Kd.at_int hC 1 (by omega) (by simp)
    cases ea
    obtain ⟨ad', ea, hc2⟩ := Kd.at_int hC 2 (by omega) (by simp)
    cases ea
    obtain ⟨ad', ea, hc3⟩ := Kd.at_int hC 3 (by omega) (by simp)
    cases ea
    have k0 : w3.cell? ⟨gu, 0, none⟩ = some (.int .u8 b0) := hc0
    have k1 : w3.cell? ⟨gu, 1, none⟩ = some (.int .u8 b1) := hc1
    have k2 : w3.cell? ⟨gu, 2, none⟩ = some (.int .u8 b2) := hc2
    have k3 : w3.cell? ⟨gu, 3, none⟩ = some (.int .u8 b3) := hc3
    clear hc0 hc1 hc2 hc3 hC h4 h4' hgu
    by_cases hall : b0 = 76 ∧ b1 = 73 ∧ b2 = 70 ∧ b3 = 69
    · obtain ⟨rfl, rfl, rfl, rfl⟩ := hall
      have HE := Aside0.mk (show rdLife l = if false = true then none else rd2 l1 by rw [hl]; rfl)
      clear hl

      go_wp2_with fail
      refine (rnum_calls w1 _ g l1 false HQ3.out).mono ?_
      rintro e w4 ⟨x0, r0, bad0, rfl, hrq, hk, hrel⟩
      have HE4 := Aside0.mk (num_step (fun x r => (rdN r 0 0).bind fun q1 => (rdN q1.2 0 0).bind fun q2 => rd3 x q1.1 q2.1 q2.2) hrel HE.out)
      have HQ4 := Aside0.mk hrq
      have HZ4 := Aside0.mk (blk_kept HZ3.out hk (fun e => HNE.out e))
      clear hrq hk hrel HE HQ3 HZ3 cb k0 k1 k2 k3
      go_wp2_with fail
      refine (rnum_calls w1 _ g r0 bad0 HQ4.out).mono ?_
      rintro e w5 ⟨x1, r1, bad1, rfl, hrq, hk, hrel⟩
      have HE5 := Aside0.mk (num_step (fun x r => (rdN r 0 0).bind fun q2 => rd3 x0 x q2.1 q2.2) hrel HE4.out)
      have HQ5 := Aside0.mk hrq
      have HZ5 := Aside0.mk (blk_kept HZ4.out hk (fun e => HNE.out e))
      clear hrq hk hrel HE4 HQ4 HZ4
      go_wp2_with fail
      refine (rnum_calls w1 _ g r1 bad1 HQ5.out).mono ?_
      rintro e w6 ⟨x2, r2, bad2, rfl, hrq, hk, hrel⟩
      have HE6 := Aside0.mk (num_step (fun x r => rd3 x0 x1 x r) hrel HE5.out)
      have HQ6 := Aside0.mk hrq
      have HZ6 := Aside0.mk (blk_kept HZ5.out hk (fun e => HNE.out e))
      clear hrq hk hrel HE5 HQ5 HZ5
      have HGB := Aside0.mk (show g < w6.heap.size by obtain ⟨_, _, hb⟩ := HQ6.out.block; exact blk_lt hb)
      go_wp2_with (first | ((with_reducible refine gate_dst (N := 7) rfl ?_); refine box_event ?hg (N := 7) ?hd (cs := zconf) (t := 25) ?hr ?_; (case hd => rfl); (case hg => rfl); (case hr => first | (go_simp; done) | (go_simp; rfl)); intro gd hg w7 hbox hb; have HGD := Aside0.mk (show gd = w6.heap.size from hg); have HGS := Aside0.mk (show w1.heap.size ≤ w6.heap.size from HQ6.out.2.1.size); have HD := Aside0.mk hbox; have HQ7 := Aside0.mk (HQ6.out.below hb); have HZ7 := Aside0.mk (blk_below HZ6.out hb); have HDG := Aside0.mk (show g ≠ gd by have := HGB.out; omega); have HDC := Aside0.mk (show gc ≠ gd by have := blk_lt HZ6.out; omega); have y0 : w7.cell? ⟨gd, 0, none⟩ = some (.int .i64 0) := (blk_cell hbox 0).trans rfl; have fy0 := blk_frozen hbox 0; have y1 : w7.cell? ⟨gd, 1, none⟩ = some (.int .i64 0) := (blk_cell hbox 1).trans rfl; have fy1 := blk_frozen hbox 1; have y2 : w7.cell? ⟨gd, 2, none⟩ = some (.int .i64 0) := (blk_cell hbox 2).trans rfl; have fy2 := blk_frozen hbox 2; have y3 : w7.cell? ⟨gd, 3, none⟩ = some (.slice none 0 0) := (blk_cell hbox 3).trans rfl; have fy3 := blk_frozen hbox 3; have y4 : w7.cell? ⟨gd, 4, none⟩ = some (.slice none 0 0) := (blk_cell hbox 4).trans rfl; have fy4 := blk_frozen hbox 4; have y5 : w7.cell? ⟨gd, 5, none⟩ = some (.slice none 0 0) := (blk_cell hbox 5).trans rfl; have fy5 := blk_frozen hbox 5; have y6 : w7.cell? ⟨gd, 6, none⟩ = some (.bool false) := (blk_cell hbox 6).trans rfl; have fy6 := blk_frozen hbox 6; clear hg hbox hb HQ6 HZ6) | fail)
      have HD8 := Aside0.mk (show (((((((w7.setCell ⟨gd, 0, none⟩ (.int .i64 x0)).setCell ⟨gd, 1, none⟩ (.int .i64 x1)).setCell ⟨gd, 2, none⟩ (.int .i64 x2)).setCell ⟨gd, 3, none⟩ (.slice none 0 0)).setCell ⟨gd, 4, none⟩ (.slice none 0 0)).setCell ⟨gd, 5, none⟩ (.slice none 0 0)).setCell ⟨gd, 6, none⟩ (.bool false)).heap[gd]? = some (.cells #[.int .i64 x0, .int .i64 x1, .int .i64 x2, .slice none 0 0, .slice none 0 0, .slice none 0 0, .bool false] 25 (0, 0)) from (blk_set (blk_set (blk_set (blk_set (blk_set (blk_set (blk_set HD.out 0 (.int .i64 x0)) 1 (.int .i64 x1)) 2 (.int .i64 x2)) 3 (.slice none 0 0)) 4 (.slice none 0 0)) 5 (.slice none 0 0)) 6 (.bool false)))
      have HQ8 := Aside0.mk (show RQ w1 (((((((w7.setCell ⟨gd, 0, none⟩ (.int .i64 x0)).setCell ⟨gd, 1, none⟩ (.int .i64 x1)).setCell ⟨gd, 2, none⟩ (.int .i64 x2)).setCell ⟨gd, 3, none⟩ (.slice none 0 0)).setCell ⟨gd, 4, none⟩ (.slice none 0 0)).setCell ⟨gd, 5, none⟩ (.slice none 0 0)).setCell ⟨gd, 6, none⟩ (.bool false)) g r2 bad2 from (RQ.set (gc := gd) (RQ.set (gc := gd) (RQ.set (gc := gd) (RQ.set (gc := gd) (RQ.set (gc := gd) (RQ.set (gc := gd) (RQ.set (gc := gd) HQ7.out (by have := HGS.out; have := HGD.out; omega) HDG.out) (by have := HGS.out; have := HGD.out; omega) HDG.out) (by have := HGS.out; have := HGD.out; omega) HDG.out) (by have := HGS.out; have := HGD.out; omega) HDG.out) (by have := HGS.out; have := HGD.out; omega) HDG.out) (by have := HGS.out; have := HGD.out; omega) HDG.out) (by have := HGS.out; have := HGD.out; omega) HDG.out))
      have HZ8 := Aside0.mk (show (((((((w7.setCell ⟨gd, 0, none⟩ (.int .i64 x0)).setCell ⟨gd, 1, none⟩ (.int .i64 x1)).setCell ⟨gd, 2, none⟩ (.int .i64 x2)).setCell ⟨gd, 3, none⟩ (.slice none 0 0)).setCell ⟨gd, 4, none⟩ (.slice none 0 0)).setCell ⟨gd, 5, none⟩ (.slice none 0 0)).setCell ⟨gd, 6, none⟩ (.bool false)).heap[gc]? = some (.cells zconf 25 (0, 0)) from (blk_far (blk_far (blk_far (blk_far (blk_far (blk_far (blk_far HZ7.out (p := ⟨gd, 0, none⟩) HDC.out (.int .i64 x0)) (p := ⟨gd, 1, none⟩) HDC.out (.int .i64 x1)) (p := ⟨gd, 2, none⟩) HDC.out (.int .i64 x2)) (p := ⟨gd, 3, none⟩) HDC.out (.slice none 0 0)) (p := ⟨gd, 4, none⟩) HDC.out (.slice none 0 0)) (p := ⟨gd, 5, none⟩) HDC.out (.slice none 0 0)) (p := ⟨gd, 6, none⟩) HDC.out (.bool false)))
      clear HD HQ7 HZ7 y0 y1 y2 y3 y4 y5 y6 fy0 fy1 fy2 fy3 fy4 fy5 fy6
      refine (rtake_calls w1 _ g r2 bad2 1 HQ8.out (fun _ => by omega)).mono ?_
      rintro e w8 ⟨v, xs, r3, bad3, rfl, hR, hrq, hk, hrel⟩
      have HR := Aside0.mk hR
      have HQ9 := Aside0.mk hrq
      have HZ9 := Aside0.mk (blk_kept HZ8.out hk (fun e => HNE.out e))
      have HD9 := Aside0.mk (blk_kept HD8.out hk (fun e => HDG.out e.symm))
      clear hR hrq hk HQ8 HZ8 HD8
      obtain ⟨A3, c3, hblk⟩ := HQ9.out.block
      have cb : w8.cell? ⟨g, 1, none⟩ = some (.bool bad3) := (blk_cell hblk 1).trans rfl
      clear hblk
      have z0 : w8.cell? ⟨gc, 0, none⟩ = some (.int .i64 0) := (blk_cell HZ9.out 0).trans rfl
      have fz0 := blk_frozen HZ9.out 0
      have z1 : w8.cell? ⟨gc, 1, none⟩ = some (.int .i64 0) := (blk_cell HZ9.out 1).trans rfl
      have fz1 := blk_frozen HZ9.out 1
      have z2 : w8.cell? ⟨gc, 2, none⟩ = some (.int .i64 0) := (blk_cell HZ9.out 2).trans rfl
      have fz2 := blk_frozen HZ9.out 2
      have z3 : w8.cell? ⟨gc, 3, none⟩ = some (.slice none 0 0) := (blk_cell HZ9.out 3).trans rfl
      have fz3 := blk_frozen HZ9.out 3
      have z4 : w8.cell? ⟨gc, 4, none⟩ = some (.slice none 0 0) := (blk_cell HZ9.out 4).trans rfl
      have fz4 := blk_frozen HZ9.out 4
      have z5 : w8.cell? ⟨gc, 5, none⟩ = some (.slice none 0 0) := (blk_cell HZ9.out 5).trans rfl
      have fz5 := blk_frozen HZ9.out 5
      have z6 : w8.cell? ⟨gc, 6, none⟩ = some (.bool false) := (blk_cell HZ9.out 6).trans rfl
      have fz6 := blk_frozen HZ9.out 6
      unfold TakeRel at hrel
      by_cases h4 : bad2 = true ∨ (r2.length : Int) < 1
      · rw [if_pos h4] at hrel
        obtain ⟨rfl, rfl, rfl⟩ := hrel
        have HN := Aside0.mk (show readL l = none by
          unfold readL; rw [HE6.out]
          by_cases hb : bad2 = true
          · rw [if_pos hb]; rfl
          · rw [if_neg hb]
            have : r3 = [] := by cases r3 with
              | nil => rfl
              | cons y r => rcases h4 with h | h; exact absurd h hb; simp at h; omega
            subst this; rfl)
        clear h4
        go_wp2_with fail
        all_goals exact rread_none HN.out (zset_blk HZ9.out) (zset_below (HB1.out.trans (HQ9.out.2.1.mono HB1.out.size)) HGC.out) (by simp) (by simp) (by simp)
      · rw [if_neg h4] at hrel
        have hb2 : bad2 = false := by cases bad2; rfl; exact absurd (.inl rfl) h4
        subst hb2
        cases r2 with
        | nil => exact absurd (.inr (by simp)) h4
        | cons b r2 =>
          obtain ⟨ex, er, rfl⟩ := hrel
          have ex : xs = [b] := ex
          have er : r3 = r2 := er
          subst ex er
          clear h4
          obtain ⟨gu, cu, eu, hgu, _⟩ := Kd.R_form HR.out (by simp)
          have eu : v = .slice (some ⟨gu, 0, none⟩) 1 cu := eu
          subst eu
          obtain ⟨ad, ea, hc0⟩ := Kd.at_int (Kd.R_reads' HR.out).2.2 0 (by omega) (by simp)
          cases ea
          have k0 : w8.cell? ⟨gu, 0, none⟩ = some (.int .u8 b) := hc0
          clear hc0 hgu
          by_cases hb1 : 1 < b
          · have HN := Aside0.mk (show readL l = none by
              unfold readL; rw [HE6.out, if_neg (by decide)]; simp only [rd3]; rw [if_pos hb1]; rfl)
            go_wp2_with fail
            all_goals exact rread_none HN.out (zset_blk HZ9.out) (zset_below (HB1.out.trans (HQ9.out.2.1.mono HB1.out.size)) HGC.out) (by simp) (by simp) (by simp)
          · have hd : decide (1 < b) = false := by simpa using hb1
            have HE9 := Aside0.mk (show rdLife l = if false = true then none else rd4 x0 x1 x2 (b == 1) r3 by rw [HE6.out, if_neg (by decide), if_neg (by decide)]; simp only [rd3]; rw [if_neg hb1])
            clear hb1 HE6 z0 z1 z2 z3 z4 z5 z6 fz0 fz1 fz2 fz3 fz4 fz5 fz6
            have y6 : w8.cell? ⟨gd, 6, none⟩ = some (.bool false) := (blk_cell HD9.out 6).trans rfl
            have fy6 := blk_frozen HD9.out 6
            go_upto_block 0 with fail
            have HDx := Aside0.mk (show (w8.setCell ⟨gd, 6, none⟩ (.bool (b == 1))).heap[gd]? = some (.cells #[.int .i64 x0, .int .i64 x1, .int .i64 x2, .slice none 0 0, .slice none 0 0, .slice none 0 0, .bool (b == 1)] 25 (0, 0)) from blk_set HD9.out 6 _)
            have HQx := Aside0.mk (HQ9.out.set (i := 6) (u := .bool (b == 1)) (gc := gd) (by have := HGD.out; have := HQ9.out.2.1.size; have := HGS.out; omega) HDG.out)
            have HZx := Aside0.mk (blk_far HZ9.out (p := ⟨gd, 6, none⟩) HDC.out (.bool (b == 1)))
            clear HQ9 HZ9 HD9 HR cb k0 hd y6 fy6
            refine (rnum_calls w1 _ g r3 false HQx.out).mono ?_
            rintro e w9 ⟨n, r4, bad4, rfl, hrq, hk, hrel⟩
            have HE10 := Aside0.mk (num_step (fun x r => (rdDevs x.toNat [] r).bind fun p => rd5 x0 x1 x2 (b == 1) p.1 p.2) hrel HE9.out)
            have HN10 := Aside0.mk hrel.len.2
            have HL10 := Aside0.mk hrel.len.1
            have HQ10 := Aside0.mk hrq
            have HZ10 := Aside0.mk (blk_kept HZx.out hk (fun e => HNE.out e))
            have HD10 := Aside0.mk (blk_kept HDx.out hk (fun e => HDG.out e.symm))
            clear hrq hk hrel HQx HZx HDx HE9
            go_upto_block 0 with fail
            go_cut [10] from 76 to 94 (fun v10 wc => ∃ (acc l1 : List Int) (bad1 : Bool) (v3 : Value), Aside0 (rdLife l = if bad1 = true then none else rd5 x0 x1 x2 (b == 1) acc l1) ∧ Aside0 (RQ w1 wc g l1 bad1) ∧ Aside0 (wc.heap[gd]? = some (.cells #[.int .i64 x0, .int .i64 x1, .int .i64 x2, v3, .slice none 0 0, .slice none 0 0, .bool (b == 1)] 25 (0, 0))) ∧ Aside0 (wc.heap[gc]? = some (.cells zconf 25 (0, 0))) ∧ Aside0 (Kd.R (Kd.int .i64) 3 wc w1.heap.size (fun _ => True) v3 acc))
            case first =>
              go_wp2_with fail
              go_loopw [10] (fun v10 w' => ∃ (k : Nat) (acc l1 : List Int) (bad1 : Bool) (v3 : Value), v10 = .int .i64 (k : Int) ∧ Aside0 (bad1 = false → n ≤ 1099511627776) ∧ Aside0 (rdLife l = if bad1 = true then none else (rdDevs (n.toNat - k) acc l1).bind fun p => rd5 x0 x1 x2 (b == 1) p.1 p.2) ∧ Aside0 (RQ w1 w' g l1 bad1) ∧ Aside0 (w'.heap[gd]? = some (.cells #[.int .i64 x0, .int .i64 x1, .int .i64 x2, v3, .slice none 0 0, .slice none 0 0, .bool (b == 1)] 25 (0, 0))) ∧ Aside0 (w'.heap[gc]? = some (.cells zconf 25 (0, 0))) ∧ Aside0 (acc.length + l1.length + (if bad1 = true then 0 else 1) ≤ 8589934593) ∧ Aside0 (Kd.R (Kd.int .i64) 3 w' w1.heap.size (fun _ => True) v3 acc)) (fun v10 _ => n.toNat - (intOf v10).toNat)
              case atStart => exact ⟨0, [], r4, bad4, _, rfl, ⟨fun h => (HN10.out h).2.2.2⟩, HE10, HQ10, HD10, HZ10, ⟨by have := HQ10.out.2.2.2.1; cases bad4 <;> simp <;> omega⟩, ⟨Kd.R_nil _ _ _ _ _⟩⟩
              case round =>
                obtain ⟨k, acc, l1, bad1, v3, rfl, HNl, HEl, HQl, HDl, HZl, HLl, HOl⟩ := hrel
                clear HQ10 HZ10 HD10 HE10 HN10 HL10
                obtain ⟨Ag, cg, hgx⟩ := HQl.out.block
                have HGX := Aside0.mk hgx
                have cb : wr.cell? ⟨g, 1, none⟩ = some (.bool bad1) := (blk_cell hgx 1).trans rfl
                clear hgx
                by_cases hk : (k : Int) < n
                · have dk : decide ((k : Int) < n) = true := by simpa using hk
                  cases bad1 with
                  | true =>
                    clear hk
                    go_wp2_with fail
                    go_meet
                    exact ⟨acc, l1, true, v3, HEl, HQl, HDl, HZl, HOl⟩
                  | false =>
                    have hs : n.toNat - k = (n.toNat - k - 1) + 1 := by omega
                    have HEs := Aside0.mk (show rdLife l = if false = true then none else (rdN l1 0 0).bind fun q => (rdDevs (n.toNat - k - 1) (acc ++ [q.1]) q.2).bind fun p => rd5 x0 x1 x2 (b == 1) p.1 p.2 by rw [HEl.out, hs]; simp only [rdDevs]; rw [if_neg (by decide), if_neg (by decide)]; cases rdN l1 0 0 <;> rfl)
                    have hw : wrap64 ((k : Int) + 1) = ((k + 1 : Nat) : Int) := by have := HNl.out rfl; unfold wrap64; omega
                    have HK := Aside0.mk hk
                    have HBND := Aside0.mk (HNl.out rfl)
                    clear hk hs HEl
                    go_wp2_with fail
                    refine start_ (n := 8) (S := fun w' => w'.cell? ⟨gd, 3, none⟩ = some v3) (ds := [7]) #[false, false, false, false, false, false, false, false] (by kernel_rfl) rfl rfl ((blk_cell HDl.out 3).trans rfl) (fun hHeld => ?_)
                    refine pure_ (i := 0) (N := some 88) (v := ?_) (a' := ?_) #[true, false, false, false, false, false, false, false] rfl rfl (by kernel_rfl) (fun _ _ _ h => h) (Or.inl ⟨by rfl, ?_⟩) ?_ ?_
                    rotate_left
                    · intro w'
                      go_simp
                      with_reducible rfl
                    rotate_left
                    · simp only [Act.put, List.setIfInBounds_toArray, List.set_cons_zero, List.set_cons_succ, i64_w, i32_w]
                      rfl
                    refine pure_ (i := 2) (N := some 90) (v := ?_) (a' := ?_) #[true, false, true, false, false, false, false, false] rfl rfl (by kernel_rfl) (fun _ _ _ h => h) (Or.inl ⟨by rfl, ?_⟩) ?_ ?_
                    rotate_left
                    · intro w'
                      go_simp
                      with_reducible rfl
                    rotate_left
                    · simp only [Act.put, List.setIfInBounds_toArray, List.set_cons_zero, List.set_cons_succ, i64_w, i32_w]
                      rfl
                    refine take_ (i := 1) (N := some 89) (v := ?_) (a' := ?_) #[true, true, true, false, false, false, false, false] rfl rfl (by kernel_rfl) (fun _ _ _ h => h) (Or.inl ⟨by rfl, ?_⟩) hHeld ?_ ?_
                    rotate_left
                    · intro w' s0
                      go_simp
                      with_reducible rfl
                    rotate_left
                    · simp only [Act.put, List.setIfInBounds_toArray, List.set_cons_zero, List.set_cons_succ, i64_w, i32_w]
                      rfl
                    refine one_ (i := 3) (N := some 91) #[true, true, true, true, false, false, false, false] rfl rfl (by kernel_rfl) (by decide) (fun K hK => ?_)
                    refine goes_ Try.func34 (by kernel_rfl) rfl #[.pointer (some ⟨g, 0, none⟩)] (by rfl) rfl rfl (by simp only [List.map_toArray, List.map_cons, List.map_nil]; rfl) ?_
                    refine (rnum_calls w1 _ g l1 false (HQl.out.below (below_drew (Below.refl _ _)))).mono ?_
                    rintro e w11 ⟨n8, r8, bad8, rfl, hrq, hk, hrel⟩
                    refine ⟨_, rfl, ?_⟩
                    have HE8 := Aside0.mk (num_step (fun x r => (rdDevs (n.toNat - k - 1) (acc ++ [x]) r).bind fun p => rd5 x0 x1 x2 (b == 1) p.1 p.2) hrel HEs.out)
                    have HQ8 := Aside0.mk hrq
                    have HZ8 := Aside0.mk (blk_kept HZl.out hk (fun e => HNE.out e))
                    have HD8 := Aside0.mk (blk_kept HDl.out hk (fun e => HDG.out e.symm))
                    have HL8 := Aside0.mk (show (acc ++ [n8]).length + r8.length + (if bad8 = true then 0 else 1) ≤ 8589934593 by have h1 := hrel.len; have h2 := HLl.out; simp at h2; cases bad8 <;> simp at h1 ⊢ <;> omega)
                    have HO8 := Aside0.mk (Kd.R_kept (Kd.R_types HOl.out HGX.out (by decide)) hk (fun k hk h => hk.2 h))
                    clear hrq hk hrel
                    refine hK.out _ _ ((blk_cell HD8.out 3).trans rfl) (fun hHeld => ?_)
                    clear hK K
                    refine norm_ (a' := ?_) ?_ ?_
                    rotate_left
                    · show Act.put _ (some 91) _ = _
                      simp only [Act.put, List.setIfInBounds_toArray, List.set_cons_zero, List.set_cons_succ, i64_w, i32_w]
                      rfl
                    refine one_ (i := 4) (N := some 92) #[true, true, true, true, true, false, false, false] rfl rfl (by kernel_rfl) (by decide) (fun K hK => ?_)
                    refine value_ (w1 := ?_) (v := ?_) (by rfl) rfl ?_ ?_
                    rotate_left 2
                    · go_simp
                      constructor
                      · rfl
                      · rfl
                    refine hK.out _ _ ((blk_cell (blk_alloc HD8.out _) 3).trans rfl) (fun hHeld => ?_)
                    clear hK K
                    refine norm_ (a' := ?_) ?_ ?_
                    rotate_left
                    · show Act.put _ (some 92) _ = _
                      simp only [Act.put, List.setIfInBounds_toArray, List.set_cons_zero, List.set_cons_succ, i64_w, i32_w]
                      rfl
                    refine one_ (i := 5) (N := some 93) #[true, true, true, true, true, true, false, false] rfl rfl (by kernel_rfl) (by decide) (fun K hK => ?_)
                    refine Kd.R_append_step (Kd.int .i64) (w0 := w1) w1.heap.size (by rfl) (.tmp 89) (.tmp 92) 22 3 (.int .i64 0) 8 rfl Try.underlying22 info3 rfl (by decide) (by omega) v3 acc n8 [.int .i64 n8] (fun _ => True) (fun _ => False) rfl rfl ?aP (fun _ hk => hk.elim) ?aF ?aO ?aB ?aS ?aL ?_
                    (case aP => exact rfl)
                    (case aF => exact (fun _ _ => trivial))
                    (case aB => exact HQ8.out.2.1)
                    (case aO => exact Kd.R_mono HO8.out (fun _ _ => trivial))
                    (case aS => exact HQ8.out.2.1.size)
                    (case aL => have := HL8.out; simp at this; omega)
                    intro v9 w12 ho hb9 hg9 hat9
                    obtain ⟨A9, q9, e9⟩ := Kd.R_slice ho
                    subst e9
                    have HO9 := Aside0.mk ho
                    have HD9 := Aside0.mk (blk_grown HD8.out hg9 (Kd.R_ne HO8.out HD8.out (by decide)))
                    have HZ9 := Aside0.mk (blk_grown HZ8.out hg9 (Kd.R_ne HO8.out HZ8.out (by decide)))
                    have HQ9 := Aside0.mk (HQ8.out.grown hg9 hb9 (Kd.R_away HO8.out (fun _ hk => hk.2)))
                    have c9 : w12.cell? ⟨gd, 3, none⟩ = some v3 := (blk_cell HD9.out 3).trans rfl
                    have f9 := blk_frozen HD9.out 3
                    clear ho hb9 hg9 hat9
                    refine hK.out _ _ (c9) (fun hHeld => ?_)
                    clear hK K
                    refine norm_ (a' := ?_) ?_ ?_
                    rotate_left
                    · show Act.put _ (some 93) _ = _
                      simp only [Act.put, List.setIfInBounds_toArray, List.set_cons_zero, List.set_cons_succ, i64_w, i32_w]
                      rfl
                    refine pure_ (i := 6) (N := some 94) (v := ?_) (a' := ?_) #[true, true, true, true, true, true, true, false] rfl rfl (by kernel_rfl) (fun _ _ _ h => h) (Or.inl ⟨by rfl, ?_⟩) ?_ ?_
                    rotate_left
                    · intro w'
                      go_simp
                      with_reducible rfl
                    rotate_left
                    · simp only [Act.put, List.setIfInBounds_toArray, List.set_cons_zero, List.set_cons_succ, i64_w, i32_w]
                      rfl
                    refine last_ (i := 7) (N := none) #[true, true, true, true, true, true, true, true] rfl rfl (by kernel_rfl) (by decide) (fun K hK => ?_)
                    refine skip_ (w1 := ?_) (by rfl) rfl ?_ ?_
                    rotate_left
                    · go_simp
                      rfl
                    refine hK.out _ _ ?_
                    clear hK K
                    refine done_ (by kernel_rfl) ?_
                    rw [show (acc ++ [n8]).length = acc.length + 1 from by simp] at HO9
                    have HQe := Aside0.mk (HQ9.out.set (i := 3) (u := .slice A9 (acc.length + 1) q9) (gc := gd) (by have := HGS.out; have := HGD.out; omega) HDG.out)
                    have HDe := Aside0.mk (blk_set HD9.out 3 (.slice A9 (acc.length + 1) q9))
                    have HZe := Aside0.mk (blk_far HZ9.out (p := ⟨gd, 3, none⟩) HDC.out (.slice A9 (acc.length + 1) q9))
                    have HOe := Aside0.mk (Kd.R_set HO9.out HD9.out (by decide) 3 (.slice A9 (acc.length + 1) q9))
                    clear HO9 HD9 HQ9 HZ9 HO8 HD8 HQ8 HZ8 HDl HQl HZl HOl HEs HLl
                    go_wp2_with fail
                    go_roundw
                    case rel => exact ⟨k + 1, acc ++ [n8], r8, bad8, _, by first | rfl | rw [hw] | (congr 1), ⟨fun _ => HBND.out⟩, by rw [show n.toNat - (k + 1) = n.toNat - k - 1 by omega]; exact HE8, HQe, HDe, HZe, HL8, HOe⟩
                    case measure => first | exact meas HK.out | (rw [hw]; exact meas HK.out)
                · have dk : decide ((k : Int) < n) = false := by simpa using hk
                  have HEm := Aside0.mk (show rdLife l = if bad1 = true then none else rd5 x0 x1 x2 (b == 1) acc l1 by rw [HEl.out, show n.toNat - k = 0 by omega]; rfl)
                  clear hk
                  go_wp2_with fail
                  go_meet
                  exact ⟨acc, l1, bad1, v3, HEm, HQl, HDl, HZl, HOl⟩
            case rest =>
              obtain ⟨acc, l1, bad1, v3, HE, HQ, HD, HZ, HO3⟩ := hcut
              clear HQ10 HZ10 HD10 HE10 HN10 HL10
              go_wp2_with fail
              obtain ⟨Ag, cg, hgx⟩ := HQ.out.block
              have HGX := Aside0.mk hgx
              clear hgx
              refine (rsome_calls w1 _ g l1 bad1 HQ.out).mono ?_
              rintro e w20 ⟨v4, xs4, l5, bad5, rfl, hR, hrq, hk, hrel⟩
              have HE5 := Aside0.mk (some_step (fun x r => (rdB r).bind fun p => rd6 (x0, x1, x2, acc, x, p.1, b == 1) p.2) hrel HE.out)
              have HQ5 := Aside0.mk hrq
              have HZ5 := Aside0.mk (blk_kept HZ.out hk (fun e => HNE.out e))
              have HD5 := Aside0.mk (blk_kept HD.out hk (fun e => HDG.out e.symm))
              have HO35 := Aside0.mk (Kd.R_mono (ok' := fun k => k ≠ g) (Kd.R_kept (Kd.R_types HO3.out HGX.out (by decide)) hk (fun k hk h => hk.2 h)) (fun k hk => hk.2))
              obtain ⟨A4, q4, e4⟩ := Kd.R_slice hR
              subst e4
              have HO45 := Aside0.mk (Kd.R_mono (ok' := fun k => k ≠ g) hR (fun k hk => by have := blk_lt HGX.out; omega))
              clear hR hrq hk hrel HE HQ HZ HD HO3 HGX
              have y4 : w20.cell? ⟨gd, 4, none⟩ = some (.slice none 0 0) := (blk_cell HD5.out 4).trans rfl
              have fy4 := blk_frozen HD5.out 4
              go_wp2_with fail
              have HD6 := Aside0.mk (blk_set HD5.out 4 (.slice A4 xs4.length q4))
              have HQ6 := Aside0.mk (HQ5.out.set (i := 4) (u := .slice A4 xs4.length q4) (gc := gd) (by have := HGS.out; have := HGD.out; omega) HDG.out)
              have HZ6 := Aside0.mk (blk_far HZ5.out (p := ⟨gd, 4, none⟩) HDC.out (.slice A4 xs4.length q4))
              have HO36 := Aside0.mk (Kd.R_set HO35.out HD5.out (by decide) 4 (.slice A4 xs4.length q4))
              have HO46 := Aside0.mk (Kd.R_set HO45.out HD5.out (by decide) 4 (.slice A4 xs4.length q4))
              clear HQ5 HZ5 HD5 HO35 HO45 y4 fy4
              obtain ⟨Ag, cg, hgx⟩ := HQ6.out.block
              have HGX := Aside0.mk hgx
              clear hgx
              refine (rsome_calls w1 _ g l5 bad5 HQ6.out).mono ?_
              rintro e w21 ⟨v5, xs5, l6, bad6, rfl, hR, hrq, hk, hrel⟩
              have HE6 := Aside0.mk (some_step (fun x r => rd6 (x0, x1, x2, acc, xs4, x, b == 1) r) hrel HE5.out)
              have HQ7 := Aside0.mk hrq
              have HZ7 := Aside0.mk (blk_kept HZ6.out hk (fun e => HNE.out e))
              have HD7 := Aside0.mk (blk_kept HD6.out hk (fun e => HDG.out e.symm))
              have HO37 := Aside0.mk (Kd.R_kept HO36.out hk (fun k hk h => hk h))
              have HO47 := Aside0.mk (Kd.R_kept HO46.out hk (fun k hk h => hk h))
              obtain ⟨A5, q5, e5⟩ := Kd.R_slice hR
              subst e5
              have HO57 := Aside0.mk (Kd.R_mono (ok' := fun k => k ≠ g) hR (fun k hk => by have := blk_lt HGX.out; omega))
              clear hR hrq hk hrel HE5 HQ6 HZ6 HD6 HO36 HO46 HGX
              have y5 : w21.cell? ⟨gd, 5, none⟩ = some (.slice none 0 0) := (blk_cell HD7.out 5).trans rfl
              have fy5 := blk_frozen HD7.out 5
              go_wp2_with fail
              have HD8 := Aside0.mk (blk_set HD7.out 5 (.slice A5 xs5.length q5))
              have HQ8 := Aside0.mk (HQ7.out.set (i := 5) (u := .slice A5 xs5.length q5) (gc := gd) (by have := HGS.out; have := HGD.out; omega) HDG.out)
              have HZ8 := Aside0.mk (blk_far HZ7.out (p := ⟨gd, 5, none⟩) HDC.out (.slice A5 xs5.length q5))
              have HO38 := Aside0.mk (Kd.R_set HO37.out HD7.out (by decide) 5 (.slice A5 xs5.length q5))
              have HO48 := Aside0.mk (Kd.R_set HO47.out HD7.out (by decide) 5 (.slice A5 xs5.length q5))
              have HO58 := Aside0.mk (Kd.R_set HO57.out HD7.out (by decide) 5 (.slice A5 xs5.length q5))
              clear HQ7 HZ7 HD7 HO37 HO47 HO57 y5 fy5
              refine (rnum_calls w1 _ g l6 bad6 HQ8.out).mono ?_
              rintro e w22 ⟨m, r7, bad7, rfl, hrq, hk, hrel⟩
              have HE7 := Aside0.mk (num_step (fun x r => (rdLabs x.toNat [] r).bind fun p => some ((x0, x1, x2, acc, xs4, xs5, b == 1), p.1, p.2)) hrel HE6.out)
              have HN7 := Aside0.mk hrel.len.2
              have HQ9 := Aside0.mk hrq
              have HZ9 := Aside0.mk (blk_kept HZ8.out hk (fun e => HNE.out e))
              have HD9 := Aside0.mk (blk_kept HD8.out hk (fun e => HDG.out e.symm))
              have HO39 := Aside0.mk (Kd.R_kept HO38.out hk (fun k hk h => hk h))
              have HO49 := Aside0.mk (Kd.R_kept HO48.out hk (fun k hk h => hk h))
              have HO59 := Aside0.mk (Kd.R_kept HO58.out hk (fun k hk h => hk h))
              clear hrq hk hrel HQ8 HZ8 HD8 HO38 HO48 HO58 HE6
              go_upto_block 2 with fail
              go_cut [11, 12] from 103 to 134 (fun v11 v12 wc => ∃ (ls : List S56) (l1 : List Int) (bad1 : Bool), Aside0 (rdLife l = if bad1 = true then none else some ((x0, x1, x2, acc, xs4, xs5, b == 1), ls, l1)) ∧ Aside0 (RQ w1 wc g l1 bad1) ∧ Aside0 (wc.heap[gd]? = some (.cells #[.int .i64 x0, .int .i64 x1, .int .i64 x2, v3, .slice A4 xs4.length q4, .slice A5 xs5.length q5, .bool (b == 1)] 25 (0, 0))) ∧ Aside0 (wc.heap[gc]? = some (.cells zconf 25 (0, 0))) ∧ Aside0 (Kd.R (Kd.int .i64) 3 wc w1.heap.size (fun k => k ≠ g) v3 acc) ∧ Aside0 (Kd.R (Kd.int .u8) 5 wc w1.heap.size (fun k => k ≠ g) (.slice A4 xs4.length q4) xs4) ∧ Aside0 (Kd.R (Kd.int .u8) 5 wc w1.heap.size (fun k => k ≠ g) (.slice A5 xs5.length q5) xs5) ∧ Aside0 (Kd.R k56 56 wc w1.heap.size (fun k => k ≠ g) v11 ls))
              case first =>
                go_wp2_with fail
                go_loopw [11, 12] (fun v11 v12 w' => ∃ (k : Nat) (ls : List S56) (l1 : List Int) (bad1 : Bool), v12 = .int .i64 (k : Int) ∧ Aside0 (bad1 = false → m ≤ 1099511627776) ∧ Aside0 (rdLife l = if bad1 = true then none else (rdLabs (m.toNat - k) ls l1).bind fun p => some ((x0, x1, x2, acc, xs4, xs5, b == 1), p.1, p.2)) ∧ Aside0 (RQ w1 w' g l1 bad1) ∧ Aside0 (w'.heap[gd]? = some (.cells #[.int .i64 x0, .int .i64 x1, .int .i64 x2, v3, .slice A4 xs4.length q4, .slice A5 xs5.length q5, .bool (b == 1)] 25 (0, 0))) ∧ Aside0 (w'.heap[gc]? = some (.cells zconf 25 (0, 0))) ∧ Aside0 (Kd.R (Kd.int .i64) 3 w' w1.heap.size (fun k => k ≠ g) v3 acc) ∧ Aside0 (Kd.R (Kd.int .u8) 5 w' w1.heap.size (fun k => k ≠ g) (.slice A4 xs4.length q4) xs4) ∧ Aside0 (Kd.R (Kd.int .u8) 5 w' w1.heap.size (fun k => k ≠ g) (.slice A5 xs5.length q5) xs5) ∧ Aside0 (ls.length + l1.length + (if bad1 = true then 0 else 1) ≤ 8589934593) ∧ Aside0 (Kd.R k56 56 w' w1.heap.size (fun k => k ≠ g) v11 ls)) (fun _ v12 _ => m.toNat - (intOf v12).toNat)
                case atStart => exact ⟨0, [], r7, bad7, rfl, ⟨fun h => (HN7.out h).2.2.2⟩, HE7, HQ9, HD9, HZ9, HO39, HO49, HO59, ⟨by have := HQ9.out.2.2.2.1; cases bad7 <;> simp <;> omega⟩, ⟨Kd.R_nil _ _ _ _ _⟩⟩
                case round =>
                  obtain ⟨k, ls, l1, bad1, rfl, HNl, HEl, HQl, HDl, HZl, HO3, HO4, HO5, HLl, HOl⟩ := hrel
                  clear HQ9 HZ9 HD9 HE7 HN7 HO39 HO49 HO59
                  obtain ⟨Ag, cg, hgx⟩ := HQl.out.block
                  have HGX := Aside0.mk hgx
                  have cb : wr.cell? ⟨g, 1, none⟩ = some (.bool bad1) := (blk_cell hgx 1).trans rfl
                  clear hgx
                  by_cases hk : (k : Int) < m
                  · have dk : decide ((k : Int) < m) = true := by simpa using hk
                    cases bad1 with
                    | true =>
                      clear hk
                      go_wp2_with fail
                      go_meet
                      exact ⟨ls, l1, true, HEl, HQl, HDl, HZl, HO3, HO4, HO5, HOl⟩
                    | false =>
                      have hs : m.toNat - k = (m.toNat - k - 1) + 1 := by omega
                      have HEs := Aside0.mk (show rdLife l = (rdLabs ((m.toNat - k - 1) + 1) ls l1).bind fun p => some ((x0, x1, x2, acc, xs4, xs5, b == 1), p.1, p.2) by rw [HEl.out, ← hs]; rfl)
                      have hw : wrap64 ((k : Int) + 1) = ((k + 1 : Nat) : Int) := by have := HNl.out rfl; unfold wrap64; omega
                      have HK := Aside0.mk hk
                      have HBND := Aside0.mk (HNl.out rfl)
                      clear hk hs HEl HNl
                      go_wp2_with fail
                      refine (rtake_calls w1 _ g l1 false 1 HQl.out (fun _ => by omega)).mono ?_
                      rintro e w23 ⟨v, xs, l2, bad2, rfl, hR, hrq, hkp, hrel⟩
                      have HQ2 := Aside0.mk hrq
                      have HZ2 := Aside0.mk (blk_kept HZl.out hkp (fun e => HNE.out e))
                      have HD2 := Aside0.mk (blk_kept HDl.out hkp (fun e => HDG.out e.symm))
                      have HO32 := Aside0.mk (Kd.R_kept HO3.out hkp (fun k hk h => hk h))
                      have HO42 := Aside0.mk (Kd.R_kept HO4.out hkp (fun k hk h => hk h))
                      have HO52 := Aside0.mk (Kd.R_kept HO5.out hkp (fun k hk h => hk h))
                      have HOl2a := Aside0.mk (Kd.R_kept HOl.out hkp (fun k hk h => hk h))
                      have HGR := Aside0.mk (show g < wr.heap.size from blk_lt HGX.out)
                      have HRR := Aside0.mk hR
                      obtain ⟨A3, c3, hblk⟩ := HQ2.out.block
                      have cb2 : w23.cell? ⟨g, 1, none⟩ = some (.bool bad2) := (blk_cell hblk 1).trans rfl
                      have HGB2 := Aside0.mk (blk_lt hblk)
                      have HBYL := Aside0.mk HQl.out.2.2.1
                      clear hblk hR hrq hkp cb HGX HQl HZl HDl HO3 HO4 HO5 HOl
                      unfold TakeRel at hrel
                      by_cases hn : (l1.length : Int) < 1
                      · rw [if_pos (.inr hn)] at hrel
                        obtain ⟨rfl, rfl, rfl⟩ := hrel
                        have HEn := Aside0.mk (show rdLife l = if true = true then none else some ((x0, x1, x2, acc, xs4, xs5, b == 1), ls, l2) by
                          rw [HEs.out]
                          have : l2 = [] := by cases l2 with
                            | nil => rfl
                            | cons y r => simp at hn; omega
                          subst this; rfl)
                        clear hn
                        go_wp2_with fail
                        go_meet
                        exact ⟨ls, l2, true, HEn, HQ2, HD2, HZ2, HO32, HO42, HO52, HOl2a⟩
                      · rw [if_neg (by rintro (h | h); cases h; exact hn h)] at hrel
                        cases l1 with
                        | nil => exact absurd (by simp) hn
                        | cons kd l1 =>
                          obtain ⟨ex, er, rfl⟩ := hrel
                          have ex : xs = [kd] := ex
                          have er : l2 = l1 := er
                          subst ex er
                          clear hn
                          obtain ⟨gu, cu2, eu, hgu, _⟩ := Kd.R_form HRR.out (by simp)
                          have eu : v = .slice (some ⟨gu, 0, none⟩) 1 cu2 := eu
                          subst eu
                          obtain ⟨ad, ea, hc0⟩ := Kd.at_int (Kd.R_reads' HRR.out).2.2 0 (by omega) (by simp)
                          cases ea
                          have hcv : w23.cell? ⟨gu, 0, none⟩ = some (.int .u8 kd) := hc0
                          have HGU := Aside0.mk (show ¬ gu = g by have := HRR.out.1 gu rfl; have := HGR.out; omega)
                          have HOl2 := Aside0.mk (show Kd.R k56 56 w23 w1.heap.size (fun k => k ≠ g ∧ k < w23.heap.size) u11 ls from Kd.R_mono (Kd.R_bound HOl2a.out) (fun k hk => ⟨hk.1, hk.2.2.1⟩))
                          have HEq := Aside0.mk (show rdLife l = if false = true then none else (rdN l2 0 0).bind fun q => (rdB q.2).bind fun p => (rdLabs (m.toNat - k - 1) (ls ++ [⟨kd, q.1, p.1⟩]) p.2).bind fun p => some ((x0, x1, x2, acc, xs4, xs5, b == 1), p.1, p.2) by
                            rw [HEs.out, if_neg (by decide)]; simp only [rdLabs]; cases rdN l2 0 0 with
                            | none => rfl
                            | some q => simp only [Option.bind_some]; cases rdB q.2 <;> rfl)
                          have HLs := Aside0.mk (show ls.length + 1 + l2.length + 1 ≤ 8589934593 by have := HLl.out; simp at this; omega)
                          have hkb := (HBND.out)
                          have hb8 := (HBYL.out kd List.mem_cons_self).1
                          have hb9 := (HBYL.out kd List.mem_cons_self).2
                          have hwk : wrap64 kd = kd := by unfold wrap64; omega
                          have HDL := Aside0.mk (blk_lt HD2.out)
                          have HZL := Aside0.mk (blk_lt HZ2.out)
                          have HS1 := Aside0.mk HQ2.out.2.1.size
                          clear hc0 hgu HEs HOl2a HLl hkb HBYL
                          go_wp2_with fail
                          refine start_ (n := 9) (S := fun w' => w'.cell? ⟨gu, 0, none⟩ = some (.int .u8 kd)) (ds := [8]) #[false, false, false, false, false, false, false, false, false] (by kernel_rfl) rfl rfl (hcv) (fun hHeld => ?_)
                          refine pure_ (i := 0) (N := some 121) (v := ?_) (a' := ?_) #[true, false, false, false, false, false, false, false, false] rfl rfl (by kernel_rfl) (fun _ _ _ h => h) (Or.inl ⟨by rfl, ?_⟩) ?_ ?_
                          rotate_left
                          · intro w'
                            go_simp
                            with_reducible rfl
                          rotate_left
                          · simp only [Act.put, List.setIfInBounds_toArray, List.set_cons_zero, List.set_cons_succ, i64_w, i32_w]
                            rfl
                          refine pure_ (i := 1) (N := some 122) (v := ?_) (a' := ?_) #[true, true, false, false, false, false, false, false, false] rfl rfl (by kernel_rfl) (fun _ _ _ h => h) (Or.inl ⟨by rfl, ?_⟩) ?_ ?_
                          rotate_left
                          · intro w'
                            go_simp
                            with_reducible rfl
                          rotate_left
                          · simp only [Act.put, List.setIfInBounds_toArray, List.set_cons_zero, List.set_cons_succ, i64_w, i32_w]
                            rfl
                          refine pure_ (i := 4) (N := some 125) (v := ?_) (a' := ?_) #[true, true, false, false, true, false, false, false, false] rfl rfl (by kernel_rfl) (fun _ _ _ h => h) (Or.inl ⟨by rfl, ?_⟩) ?_ ?_
                          rotate_left
                          · intro w'
                            go_simp
                            with_reducible rfl
                          rotate_left
                          · simp only [Act.put, List.setIfInBounds_toArray, List.set_cons_zero, List.set_cons_succ, i64_w, i32_w]
                            rfl
                          refine take_ (i := 2) (N := some 123) (v := ?_) (a' := ?_) #[true, true, true, false, true, false, false, false, false] rfl rfl (by kernel_rfl) (fun _ _ _ h => h) (Or.inl ⟨by rfl, ?_⟩) hHeld ?_ ?_
                          rotate_left
                          · intro w' s0
                            go_simp
                            with_reducible rfl
                          rotate_left
                          · simp only [Act.put, List.setIfInBounds_toArray, List.set_cons_zero, List.set_cons_succ, i64_w, i32_w]
                            rfl
                          refine pure_ (i := 3) (N := some 124) (v := ?_) (a' := ?_) #[true, true, true, true, true, false, false, false, false] rfl rfl (by kernel_rfl) (fun _ _ _ h => h) (Or.inl ⟨by rfl, ?_⟩) ?_ ?_
                          rotate_left
                          · intro w'
                            go_simp
                            with_reducible rfl
                          rotate_left
                          · simp only [Act.put, List.setIfInBounds_toArray, List.set_cons_zero, List.set_cons_succ, i64_w, i32_w]
                            rfl
                          refine join_ (σ := Nat × Int × List Int × Bool) 1 #[true, true, true, true, true, true, true, true, false] (fun s => [(126, .int .i64 s.2.1), (127, .agg #[.int .i64 kd, .int .i64 s.2.1, .slice none 0 0]), (14, .pointer (some ⟨s.1, 0, none⟩))]) (fun s w' => Aside0 (RQ w1 w' g s.2.2.1 s.2.2.2) ∧ Aside0 (NumRel l2 false s.2.1 s.2.2.1 s.2.2.2) ∧ Aside0 (w'.heap[s.1]? = some (.cells #[.int .i64 0, .int .i64 0, .slice none 0 0] 56 (0, 0))) ∧ Aside0 (w'.heap[gd]? = some (.cells #[.int .i64 x0, .int .i64 x1, .int .i64 x2, v3, .slice A4 xs4.length q4, .slice A5 xs5.length q5, .bool (b == 1)] 25 (0, 0))) ∧ Aside0 (w'.heap[gc]? = some (.cells zconf 25 (0, 0))) ∧ Aside0 (Kd.R (Kd.int .i64) 3 w' w1.heap.size (fun k => k ≠ g) v3 acc) ∧ Aside0 (Kd.R (Kd.int .u8) 5 w' w1.heap.size (fun k => k ≠ g) (.slice A4 xs4.length q4) xs4) ∧ Aside0 (Kd.R (Kd.int .u8) 5 w' w1.heap.size (fun k => k ≠ g) (.slice A5 xs5.length q5) xs5) ∧ Aside0 (Kd.R k56 56 w' w1.heap.size (fun k => k ≠ g ∧ k < w23.heap.size) u11 ls) ∧ Aside0 (w23.heap.size ≤ s.1) ∧ Aside0 (w'.cell? ⟨gu, 0, none⟩ = some (.int .u8 kd))) ?_ ?_
                          rotate_left
                          · intro hCont
                            refine two_ (i := 5) (j := 7) (Ni := some 126) (Nj := some 14) #[true, true, true, true, true, true, false, false, false] #[true, true, true, true, true, false, false, true, false] rfl rfl rfl rfl (by kernel_rfl) (by decide) (by decide) (fun K hK => ?_) (fun K hK => ?_)
                            · skip
                              refine goes_ Try.func34 (by kernel_rfl) rfl #[.pointer (some ⟨g, 0, none⟩)] (by rfl) rfl rfl (by simp only [List.map_toArray, List.map_cons, List.map_nil]; rfl) ?_
                              refine (rnum_calls w1 _ g l2 false (HQ2.out.below (below_drew (Below.refl _ _)))).mono ?_
                              rintro e w25 ⟨n8, l3, bad3, rfl, hrq, hk, hrel⟩
                              refine ⟨_, rfl, ?_⟩
                              have KQ := Aside0.mk hrq
                              have KREL := Aside0.mk hrel
                              have KZ := Aside0.mk (blk_kept HZ2.out hk (fun e => HNE.out e))
                              have KD := Aside0.mk (blk_kept HD2.out hk (fun e => HDG.out e.symm))
                              have KO3 := Aside0.mk (Kd.R_kept HO32.out hk (fun k hk h => hk h))
                              have KO4 := Aside0.mk (Kd.R_kept HO42.out hk (fun k hk h => hk h))
                              have KO5 := Aside0.mk (Kd.R_kept HO52.out hk (fun k hk h => hk h))
                              have KOl := Aside0.mk (Kd.R_kept HOl2.out hk (fun k hk h => hk.1 h))
                              have KC := Aside0.mk (cell_kept hcv hk HGU.out)
                              have KS := Aside0.mk hk.1
                              have KGB := Aside0.mk (show g < w25.heap.size by have := hk.1; have := HGB2.out; exact Nat.lt_of_lt_of_le HGB2.out hk.1)
                              clear hrq hk hrel
                              refine hK.out _ _ (KC.out) (fun hHeld => ?_)
                              clear hK K
                              refine norm_ (a' := ?_) ?_ ?_
                              rotate_left
                              · show Act.put _ (some 126) _ = _
                                simp only [Act.put, List.setIfInBounds_toArray, List.set_cons_zero, List.set_cons_succ, i64_w, i32_w]
                                rfl
                              refine pure_ (i := 6) (N := some 127) (v := ?_) (a' := ?_) #[true, true, true, true, true, true, true, false, false] rfl rfl (by kernel_rfl) (fun _ _ _ h => h) (Or.inl ⟨by rfl, ?_⟩) ?_ ?_
                              rotate_left
                              · intro w'
                                go_simp
                                with_reducible rfl
                              rotate_left
                              · simp only [Act.put, List.setIfInBounds_toArray, List.set_cons_zero, List.set_cons_succ, i64_w, i32_w]
                                rfl
                              refine one_ (i := 7) (N := some 14) #[true, true, true, true, true, true, true, true, false] rfl rfl (by kernel_rfl) (by decide) (fun K hK => ?_)
                              refine value_ (w1 := ?_) (v := ?_) (by rfl) rfl ?_ ?_
                              rotate_left 2
                              · go_simp
                                constructor
                                · rfl
                                · rfl
                              refine hK.out _ _ ((World.cell?_alloc_lt _ _ _ (World.block_lt_of_cell? _ _ KC.out)).trans KC.out) (fun hHeld => ?_)
                              clear hK K
                              refine norm_ (a' := ?_) ?_ ?_
                              rotate_left
                              · show Act.put _ (some 14) _ = _
                                simp only [Act.put, List.setIfInBounds_toArray, List.set_cons_zero, List.set_cons_succ, i64_w, i32_w]
                                rfl
                              exact norm_ (by first | (simp only [putAll, Act.put, List.setIfInBounds_toArray, List.set_cons_zero, List.set_cons_succ]; done) | (simp only [putAll, Act.put, List.setIfInBounds_toArray, List.set_cons_zero, List.set_cons_succ]; rfl)) (hCont (w25.heap.size, n8, l3, bad3) _ ⟨⟨KQ.out.below (below_alloc (Below.refl _ _) _)⟩, KREL, ⟨blk_new _ _⟩, ⟨blk_alloc KD.out _⟩, ⟨blk_alloc KZ.out _⟩, ⟨Kd.R_alloc KO3.out _⟩, ⟨Kd.R_alloc KO4.out _⟩, ⟨Kd.R_alloc KO5.out _⟩, ⟨Kd.R_alloc KOl.out _⟩, ⟨KS.out⟩, ⟨(World.cell?_alloc_lt _ _ _ (World.block_lt_of_cell? _ _ KC.out)).trans KC.out⟩⟩)
                            · skip
                              refine value_ (w1 := ?_) (v := ?_) (by rfl) rfl ?_ ?_
                              rotate_left 2
                              · go_simp
                                constructor
                                · rfl
                                · rfl
                              refine hK.out _ _ ((World.cell?_alloc_lt _ _ _ (World.block_lt_of_cell? _ _ hcv)).trans hcv) (fun hHeld => ?_)
                              clear hK K
                              refine norm_ (a' := ?_) ?_ ?_
                              rotate_left
                              · show Act.put _ (some 14) _ = _
                                simp only [Act.put, List.setIfInBounds_toArray, List.set_cons_zero, List.set_cons_succ, i64_w, i32_w]
                                rfl
                              refine one_ (i := 5) (N := some 126) #[true, true, true, true, true, true, false, true, false] rfl rfl (by kernel_rfl) (by decide) (fun K hK => ?_)
                              refine goes_ Try.func34 (by kernel_rfl) rfl #[.pointer (some ⟨g, 0, none⟩)] (by rfl) rfl rfl (by simp only [List.map_toArray, List.map_cons, List.map_nil]; rfl) ?_
                              refine (rnum_calls w1 _ g l2 false ((HQ2.out.below (below_drew (Below.refl _ _))).below (below_alloc (Below.refl _ _) _))).mono ?_
                              rintro e w25 ⟨n8, l3, bad3, rfl, hrq, hk, hrel⟩
                              refine ⟨_, rfl, ?_⟩
                              have KQ := Aside0.mk hrq
                              have KREL := Aside0.mk hrel
                              have KZ := Aside0.mk (blk_kept (blk_alloc HZ2.out _) hk (fun e => HNE.out e))
                              have KD := Aside0.mk (blk_kept (blk_alloc HD2.out _) hk (fun e => HDG.out e.symm))
                              have KO3 := Aside0.mk (Kd.R_kept (Kd.R_alloc HO32.out _) hk (fun k hk h => hk h))
                              have KO4 := Aside0.mk (Kd.R_kept (Kd.R_alloc HO42.out _) hk (fun k hk h => hk h))
                              have KO5 := Aside0.mk (Kd.R_kept (Kd.R_alloc HO52.out _) hk (fun k hk h => hk h))
                              have KOl := Aside0.mk (Kd.R_kept (Kd.R_alloc HOl2.out _) hk (fun k hk h => hk.1 h))
                              have KC := Aside0.mk (cell_kept ((World.cell?_alloc_lt _ _ _ (World.block_lt_of_cell? _ _ hcv)).trans hcv) hk HGU.out)
                              have KB := Aside0.mk (blk_kept (blk_new _ _) hk (fun e => by have := HGB2.out; simp at e; omega))
                              clear hrq hk hrel
                              refine hK.out _ _ (KC.out) (fun hHeld => ?_)
                              clear hK K
                              refine norm_ (a' := ?_) ?_ ?_
                              rotate_left
                              · show Act.put _ (some 126) _ = _
                                simp only [Act.put, List.setIfInBounds_toArray, List.set_cons_zero, List.set_cons_succ, i64_w, i32_w]
                                rfl
                              refine pure_ (i := 6) (N := some 127) (v := ?_) (a' := ?_) #[true, true, true, true, true, true, true, true, false] rfl rfl (by kernel_rfl) (fun _ _ _ h => h) (Or.inl ⟨by rfl, ?_⟩) ?_ ?_
                              rotate_left
                              · intro w'
                                go_simp
                                with_reducible rfl
                              rotate_left
                              · simp only [Act.put, List.setIfInBounds_toArray, List.set_cons_zero, List.set_cons_succ, i64_w, i32_w]
                                rfl
                              exact norm_ (by first | (simp only [putAll, Act.put, List.setIfInBounds_toArray, List.set_cons_zero, List.set_cons_succ]; done) | (simp only [putAll, Act.put, List.setIfInBounds_toArray, List.set_cons_zero, List.set_cons_succ]; rfl)) (hCont (w23.heap.size, n8, l3, bad3) _ ⟨KQ, KREL, KB, KD, KZ, KO3, KO4, KO5, KOl, ⟨Nat.le_refl _⟩, KC⟩)
                          rintro ⟨gb, n8, l3, bad3⟩ w26 ⟨KQ, KREL, KB, KD, KZ, KO3, KO4, KO5, KOl, KS, KC⟩
                          replace KQ : Aside0 (RQ w1 w26 g l3 bad3) := KQ
                          replace KREL : Aside0 (NumRel l2 false n8 l3 bad3) := KREL
                          replace KB : Aside0 (w26.heap[gb]? = some (.cells #[.int .i64 0, .int .i64 0, .slice none 0 0] 56 (0, 0))) := KB
                          replace KS : Aside0 (w23.heap.size ≤ gb) := KS
                          have hHeld : w26.cell? ⟨gu, 0, none⟩ = some (.int .u8 kd) := KC.out
                          have hb0 : w26.cell? ⟨gb, 0, none⟩ = some (.int .i64 0) := (blk_cell KB.out 0).trans rfl
                          have hb1 : w26.cell? ⟨gb, 1, none⟩ = some (.int .i64 0) := (blk_cell KB.out 1).trans rfl
                          have hb2 : w26.cell? ⟨gb, 2, none⟩ = some (.slice none 0 0) := (blk_cell KB.out 2).trans rfl
                          have hf0 := blk_frozen KB.out 0
                          have hf1 := blk_frozen KB.out 1
                          have hf2 := blk_frozen KB.out 2
                          refine norm_ (a' := ?_) ?_ ?_
                          rotate_left
                          · simp only [putAll, Act.put, List.setIfInBounds_toArray, List.set_cons_zero, List.set_cons_succ]
                            rfl
                          refine last_ (i := 8) (N := none) #[true, true, true, true, true, true, true, true, true] rfl rfl (by kernel_rfl) (by decide) (fun K hK => ?_)
                          refine skip_ (w1 := ?_) (by rfl) rfl ?_ ?_
                          rotate_left
                          · go_simp
                            rfl
                          refine hK.out _ _ ?_
                          clear hK K
                          refine done_ (by kernel_rfl) ?_
                          have HE3 := Aside0.mk (num_step (fun x r => (rdB r).bind fun p => (rdLabs (m.toNat - k - 1) (ls ++ [⟨kd, x, p.1⟩]) p.2).bind fun p => some ((x0, x1, x2, acc, xs4, xs5, b == 1), p.1, p.2)) KREL.out HEq.out)
                          have HLs3 := Aside0.mk (show ls.length + 1 + l3.length + (if bad3 = true then 0 else 1) ≤ 8589934593 by have h1 := KREL.out.len.1; have h2 := HLs.out; cases bad3 <;> simp <;> omega)
                          have G1 := Aside0.mk (show w1.heap.size ≤ gb by have := KS.out; have := HS1.out; omega)
                          have G2 := Aside0.mk (show g ≠ gb by have := KS.out; have := HGB2.out; omega)
                          have G3 := Aside0.mk (show gd ≠ gb by have := KS.out; have := HDL.out; omega)
                          have G4 := Aside0.mk (show gc ≠ gb by have := KS.out; have := HZL.out; omega)
                          have B1 := Aside0.mk (blk_set KB.out 0 (.int .i64 kd))
                          have B2 := Aside0.mk (blk_set B1.out 1 (.int .i64 n8))
                          have B3 := Aside0.mk (blk_set B2.out 2 (.slice none 0 0))
                          have Q3 := Aside0.mk (((KQ.out.set (i := 0) (u := .int .i64 kd) G1.out G2.out).set (i := 1) (u := .int .i64 n8) G1.out G2.out).set (i := 2) (u := .slice none 0 0) G1.out G2.out)
                          have D3 := Aside0.mk (blk_far (blk_far (blk_far KD.out (p := ⟨gb, 0, none⟩) G3.out (.int .i64 kd)) (p := ⟨gb, 1, none⟩) G3.out (.int .i64 n8)) (p := ⟨gb, 2, none⟩) G3.out (.slice none 0 0))
                          have Z3 := Aside0.mk (blk_far (blk_far (blk_far KZ.out (p := ⟨gb, 0, none⟩) G4.out (.int .i64 kd)) (p := ⟨gb, 1, none⟩) G4.out (.int .i64 n8)) (p := ⟨gb, 2, none⟩) G4.out (.slice none 0 0))
                          have O3 := Aside0.mk (Kd.R_set (Kd.R_set (Kd.R_set KO3.out KB.out (by decide) 0 (.int .i64 kd)) B1.out (by decide) 1 (.int .i64 n8)) B2.out (by decide) 2 (.slice none 0 0))
                          have O4 := Aside0.mk (Kd.R_set (Kd.R_set (Kd.R_set KO4.out KB.out (by decide) 0 (.int .i64 kd)) B1.out (by decide) 1 (.int .i64 n8)) B2.out (by decide) 2 (.slice none 0 0))
                          have O5 := Aside0.mk (Kd.R_set (Kd.R_set (Kd.R_set KO5.out KB.out (by decide) 0 (.int .i64 kd)) B1.out (by decide) 1 (.int .i64 n8)) B2.out (by decide) 2 (.slice none 0 0))
                          have hok : ∀ k, (k ≠ g ∧ k < w23.heap.size) → k ≠ gb := fun k hk => by have := KS.out; omega
                          have Ol := Aside0.mk (Kd.R_far (Kd.R_far (Kd.R_far KOl.out (p := ⟨gb, 0, none⟩) hok (.int .i64 kd)) (p := ⟨gb, 1, none⟩) hok (.int .i64 n8)) (p := ⟨gb, 2, none⟩) hok (.slice none 0 0))
                          clear hHeld hb0 hb1 hb2 hf0 hf1 hf2 hok B1 B2 KQ KREL KB KD KZ KO3 KO4 KO5 KOl KC HQ2 HZ2 HD2 HO32 HO42 HO52 HOl2 hcv cb2 hb8 hb9 hwk HEq HLs
                          go_wp2_with fail
                          refine (rsome_calls w1 _ g l3 bad3 Q3.out).mono ?_
                          rintro e w27 ⟨vb, xb, l4, bad4, rfl, hR, hrq, hkp, hrel⟩
                          have HE4 := Aside0.mk (some_step (fun x r => (rdLabs (m.toNat - k - 1) (ls ++ [⟨kd, n8, x⟩]) r).bind fun p => some ((x0, x1, x2, acc, xs4, xs5, b == 1), p.1, p.2)) hrel HE3.out)
                          have HLs4 := Aside0.mk (show ls.length + 1 + l4.length + (if bad4 = true then 0 else 1) ≤ 8589934593 by have h1 := hrel.len; have h2 := HLs3.out; cases bad4 <;> cases bad3 <;> simp at h1 h2 ⊢ <;> omega)
                          have Q4 := Aside0.mk hrq
                          have Z4 := Aside0.mk (blk_kept Z3.out hkp (fun e => HNE.out e))
                          have D4 := Aside0.mk (blk_kept D3.out hkp (fun e => HDG.out e.symm))
                          have B4 := Aside0.mk (blk_kept B3.out hkp (fun e => G2.out e.symm))
                          have O34 := Aside0.mk (Kd.R_kept O3.out hkp (fun k hk h => hk h))
                          have O44 := Aside0.mk (Kd.R_kept O4.out hkp (fun k hk h => hk h))
                          have O54 := Aside0.mk (Kd.R_kept O5.out hkp (fun k hk h => hk h))
                          have Ol4 := Aside0.mk (Kd.R_kept Ol.out hkp (fun k hk h => hk.1 h))
                          obtain ⟨Ab, qb, eb⟩ := Kd.R_slice hR
                          subst eb
                          have Ob := Aside0.mk (Kd.R_mono (ok' := fun k => w23.heap.size ≤ k) hR (fun k hk => by
                            have h1 := blk_lt B3.out
                            have h2 := KS.out
                            omega))
                          clear hR hrq hkp hrel HE3 HLs3 Q3 Z3 D3 B3 O3 O4 O5 Ol
                          have hb0 : w27.cell? ⟨gb, 0, none⟩ = some (.int .i64 kd) := (blk_cell B4.out 0).trans rfl
                          have hb1 : w27.cell? ⟨gb, 1, none⟩ = some (.int .i64 n8) := (blk_cell B4.out 1).trans rfl
                          have hb2 : w27.cell? ⟨gb, 2, none⟩ = some (.slice none 0 0) := (blk_cell B4.out 2).trans rfl
                          have hf2 := blk_frozen B4.out 2
                          have Q5 := Aside0.mk (Q4.out.set (i := 2) (u := .slice Ab xb.length qb) G1.out G2.out)
                          have D5 := Aside0.mk (blk_far D4.out (p := ⟨gb, 2, none⟩) G3.out (.slice Ab xb.length qb))
                          have Z5 := Aside0.mk (blk_far Z4.out (p := ⟨gb, 2, none⟩) G4.out (.slice Ab xb.length qb))
                          have O35 := Aside0.mk (Kd.R_set O34.out B4.out (by decide) 2 (.slice Ab xb.length qb))
                          have O45 := Aside0.mk (Kd.R_set O44.out B4.out (by decide) 2 (.slice Ab xb.length qb))
                          have O55 := Aside0.mk (Kd.R_set O54.out B4.out (by decide) 2 (.slice Ab xb.length qb))
                          have Ob5 := Aside0.mk (Kd.R_set Ob.out B4.out (by decide) 2 (.slice Ab xb.length qb))
                          have Ol5 := Aside0.mk (Kd.R_mono (ok' := fun k => k ≠ g) (Kd.R_far Ol4.out (p := ⟨gb, 2, none⟩) (fun k hk => by have := KS.out; simp only; omega) (.slice Ab xb.length qb)) (fun k hk => hk.1))
                          have HLT := Aside0.mk (fun k (hk : w23.heap.size ≤ k) => (⟨by have := HGB2.out; omega, by rintro e; have := Ol4.out.1 k e.symm; omega⟩ : k ≠ g ∧ some k ≠ (u11 : Value).ownBlock))
                          have HGS7 := Aside0.mk (show g < (w27.setCell ⟨gb, 2, none⟩ (.slice Ab xb.length qb)).heap.size by obtain ⟨_, _, hb⟩ := Q5.out.block; exact blk_lt hb)
                          clear Q4 D4 Z4 O34 O44 O54 Ob Ol4 B4
                          go_wp2_with (first | ((with_reducible refine gate_builtin (b := .append) (xs := #[.tmp 131, .tmp 133]) rfl ?_); go_loud (at_builtin; refine Kd.R_append k56 (w0 := w1) w1.heap.size rfl (.tmp 131) (.tmp 133) 26 56 (.agg #[(.int .i64 0), (.int .i64 0), (.slice none 0 0)]) 40 rfl Try.underlying26 info56 rfl (by decide) (by omega) u11 ls (⟨kd, n8, xb⟩ : S56) [.int .i64 kd, .int .i64 n8, .slice Ab xb.length qb] (fun k => k ≠ g) (fun k => w23.heap.size ≤ k) rfl (by first | rfl | simp [Act.eval]) ?aP ?aQ ?aF ?aO ?aB ?aS ?aL ?_; (case aP => exact k56_mkM _ _ _ (⟨kd, n8, xb⟩ : S56) Ob5.out); (case aQ => exact HLT.out); (case aF => exact (fun k hk => by have := HGS7.out; omega)); (case aO => exact Ol5.out); (case aB => exact Q5.out.2.1); (case aS => exact Q5.out.2.1.size); (case aL => have := HLs4.out; omega); intro v14 w14 ho hbb hg9 hat9; have Ol6 := Aside0.mk ho; have D6 := Aside0.mk (blk_grown D5.out hg9 (Kd.R_ne Ol5.out D5.out (by decide))); have Z6 := Aside0.mk (blk_grown Z5.out hg9 (Kd.R_ne Ol5.out Z5.out (by decide))); have Q6 := Aside0.mk (Q5.out.grown hg9 hbb (Kd.R_away Ol5.out (fun _ hk => hk))); have O36 := Aside0.mk (Kd.R_over O35.out Ol5.out (by decide) hg9); have O46 := Aside0.mk (Kd.R_over O45.out Ol5.out (by decide) hg9); have O56 := Aside0.mk (Kd.R_over O55.out Ol5.out (by decide) hg9); clear ho hbb hg9 hat9)) | fail)
                          go_roundw
                          case rel => exact ⟨k + 1, _, l4, bad4, by first | rfl | rw [hw] | (congr 1), ⟨fun _ => HBND.out⟩, by rw [show m.toNat - (k + 1) = m.toNat - k - 1 by omega]; exact HE4, Q6, D6, Z6, O36, O46, O56, ⟨by have := HLs4.out; simp; omega⟩, Ol6⟩
                          case measure => first | exact meas HK.out | (rw [hw]; exact meas HK.out)
                  · have dk : decide ((k : Int) < m) = false := by simpa using hk
                    have HEm := Aside0.mk (show rdLife l = if bad1 = true then none else some ((x0, x1, x2, acc, xs4, xs5, b == 1), ls, l1) by rw [HEl.out, show m.toNat - k = 0 by omega]; rfl)
                    clear hk
                    go_wp2_with fail
                    go_meet
                    exact ⟨ls, l1, bad1, HEm, HQl, HDl, HZl, HO3, HO4, HO5, HOl⟩
              case rest =>
                obtain ⟨ls, l1, bad1, HE, HQ, HD, HZ, HO3, HO4, HO5, HOl⟩ := hcut
                clear HQ9 HZ9 HD9 HE7 HN7 HO39 HO49 HO59
                have HSG := Aside0.mk (show w1.heap.size ≤ gd by have := HGS.out; have := HGD.out; omega)
                obtain ⟨A3, q3, e3⟩ := Kd.R_slice HO3.out
                subst e3
                obtain ⟨Al, ql, el⟩ := Kd.R_slice HOl.out
                subst el
                have HEr := Aside0.mk (show readL l = if bad1 = true then none else if l1 = [] ∧ rightB x0 x1 x2 acc xs4 xs5 ls = true then some ((x0, x1, x2, acc, xs4, xs5, b == 1), ls) else none by
                  unfold readL; rw [HE.out]; cases bad1 <;> rfl)
                obtain ⟨Ag, cg, hgx⟩ := HQ.out.block
                have cb : wc.cell? ⟨g, 1, none⟩ = some (.bool bad1) := (blk_cell hgx 1).trans rfl
                have cr : wc.cell? ⟨g, 0, none⟩ = some (.slice Ag l1.length cg) := (blk_cell hgx 0).trans rfl
                have z0 : wc.cell? ⟨gc, 0, none⟩ = some (.int .i64 0) := (blk_cell HZ.out 0).trans rfl
                have fz0 := blk_frozen HZ.out 0
                have z1 : wc.cell? ⟨gc, 1, none⟩ = some (.int .i64 0) := (blk_cell HZ.out 1).trans rfl
                have fz1 := blk_frozen HZ.out 1
                have z2 : wc.cell? ⟨gc, 2, none⟩ = some (.int .i64 0) := (blk_cell HZ.out 2).trans rfl
                have fz2 := blk_frozen HZ.out 2
                have z3 : wc.cell? ⟨gc, 3, none⟩ = some (.slice none 0 0) := (blk_cell HZ.out 3).trans rfl
                have fz3 := blk_frozen HZ.out 3
                have z4 : wc.cell? ⟨gc, 4, none⟩ = some (.slice none 0 0) := (blk_cell HZ.out 4).trans rfl
                have fz4 := blk_frozen HZ.out 4
                have z5 : wc.cell? ⟨gc, 5, none⟩ = some (.slice none 0 0) := (blk_cell HZ.out 5).trans rfl
                have fz5 := blk_frozen HZ.out 5
                have z6 : wc.cell? ⟨gc, 6, none⟩ = some (.bool false) := (blk_cell HZ.out 6).trans rfl
                have fz6 := blk_frozen HZ.out 6
                clear hgx HE
                cases bad1 with
                | true =>
                  go_wp2_with fail
                  all_goals exact rread_none HEr.out (zset_blk HZ.out) (zset_below (HB1.out.trans (HQ.out.2.1.mono HB1.out.size)) HGC.out) (by simp) (by simp) (by simp)
                | false =>
                  cases l1 with
                  | cons y r =>
                    have hpos : decide ((0 : Int) < (((y :: r).length : Nat) : Int)) = true := by simp; try omega
                    have HN := Aside0.mk (show readL l = none by rw [HEr.out, if_neg (by decide), if_neg (by rintro ⟨h, _⟩; cases h)])
                    go_wp2_with fail
                    all_goals exact rread_none HN.out (zset_blk HZ.out) (zset_below (HB1.out.trans (HQ.out.2.1.mono HB1.out.size)) HGC.out) (by simp) (by simp) (by simp)
                  | nil =>
                    have hpos : decide ((0 : Int) < ((([] : List Int).length : Nat) : Int)) = false := by decide
                    have y0 : wc.cell? ⟨gd, 0, none⟩ = some (.int .i64 x0) := (blk_cell HD.out 0).trans rfl
                    have y1 : wc.cell? ⟨gd, 1, none⟩ = some (.int .i64 x1) := (blk_cell HD.out 1).trans rfl
                    have y2 : wc.cell? ⟨gd, 2, none⟩ = some (.int .i64 x2) := (blk_cell HD.out 2).trans rfl
                    have y3 : wc.cell? ⟨gd, 3, none⟩ = some (.slice A3 acc.length q3) := (blk_cell HD.out 3).trans rfl
                    have y4 : wc.cell? ⟨gd, 4, none⟩ = some (.slice A4 xs4.length q4) := (blk_cell HD.out 4).trans rfl
                    have y5 : wc.cell? ⟨gd, 5, none⟩ = some (.slice A5 xs5.length q5) := (blk_cell HD.out 5).trans rfl
                    have y6 : wc.cell? ⟨gd, 6, none⟩ = some (.bool (b == 1)) := (blk_cell HD.out 6).trans rfl
                    go_wp2_with fail
                    have P3 := Kd.R_reads' HO3.out
                    have P4 := Kd.R_reads' HO4.out
                    have P5 := Kd.R_reads' HO5.out
                    have Pl := Kd.R_reads' HOl.out
                    obtain ⟨kk, hk⟩ := rright_Ev x0 x1 x2 acc xs4 xs5 (b == 1) ls (by have := P3.2.2.2.1; omega) (by have := Pl.2.2.2.1; omega)
                    refine (citadelref23_Right.calls kk x0 x1 x2 A3 q3 acc A4 q4 xs4 A5 q5 xs5 (b == 1) Al ql ls _ _ P3.2.2 P3.2.1 P4.2.2 P4.2.1 P5.2.2 P5.2.1 Pl.2.2 Pl.2.1 (hk kk (Nat.le_refl kk))).mono ?_
                    clear hk P3 P4 P5 Pl y0 y1 y2 y3 y4 y5 y6 z0 z1 z2 z3 z4 z5 z6 fz0 fz1 fz2 fz3 fz4 fz5 fz6 cb cr
                    rintro e w30 ⟨rfl, hb30⟩
                    have Z9 := Aside0.mk (blk_below HZ.out hb30)
                    have D9 := Aside0.mk (blk_below HD.out hb30)
                    have Q9 := Aside0.mk (HQ.out.below hb30)
                    have B9 := Aside0.mk (HB1.out.trans (Q9.out.2.1.mono HB1.out.size))
                    have O3 := Aside0.mk (Kd.R_below HO3.out hb30)
                    have O4 := Aside0.mk (Kd.R_below HO4.out hb30)
                    have O5 := Aside0.mk (Kd.R_below HO5.out hb30)
                    have Ol := Aside0.mk (Kd.R_below HOl.out hb30)
                    clear hb30 HZ HD HQ HO3 HO4 HO5 HOl
                    have z0 : w30.cell? ⟨gc, 0, none⟩ = some (.int .i64 0) := (blk_cell Z9.out 0).trans rfl
                    have fz0 := blk_frozen Z9.out 0
                    have z1 : w30.cell? ⟨gc, 1, none⟩ = some (.int .i64 0) := (blk_cell Z9.out 1).trans rfl
                    have fz1 := blk_frozen Z9.out 1
                    have z2 : w30.cell? ⟨gc, 2, none⟩ = some (.int .i64 0) := (blk_cell Z9.out 2).trans rfl
                    have fz2 := blk_frozen Z9.out 2
                    have z3 : w30.cell? ⟨gc, 3, none⟩ = some (.slice none 0 0) := (blk_cell Z9.out 3).trans rfl
                    have fz3 := blk_frozen Z9.out 3
                    have z4 : w30.cell? ⟨gc, 4, none⟩ = some (.slice none 0 0) := (blk_cell Z9.out 4).trans rfl
                    have fz4 := blk_frozen Z9.out 4
                    have z5 : w30.cell? ⟨gc, 5, none⟩ = some (.slice none 0 0) := (blk_cell Z9.out 5).trans rfl
                    have fz5 := blk_frozen Z9.out 5
                    have z6 : w30.cell? ⟨gc, 6, none⟩ = some (.bool false) := (blk_cell Z9.out 6).trans rfl
                    have fz6 := blk_frozen Z9.out 6
                    cases hR : rightB x0 x1 x2 acc xs4 xs5 ls with
                    | false =>
                      have HN := Aside0.mk (show readL l = none by rw [HEr.out, if_neg (by decide), if_neg (by rintro ⟨_, h⟩; rw [hR] at h; cases h)])
                      go_wp2_with fail
                      all_goals exact rread_none HN.out (zset_blk Z9.out) (zset_below B9.out HGC.out) (by simp) (by simp) (by simp)
                    | true =>
                      have HN := Aside0.mk (show readL l = some ((x0, x1, x2, acc, xs4, xs5, b == 1), ls) by rw [HEr.out, if_neg (by decide), if_pos (by simp [hR])])
                      have y0 : w30.cell? ⟨gd, 0, none⟩ = some (.int .i64 x0) := (blk_cell D9.out 0).trans rfl
                      have y1 : w30.cell? ⟨gd, 1, none⟩ = some (.int .i64 x1) := (blk_cell D9.out 1).trans rfl
                      have y2 : w30.cell? ⟨gd, 2, none⟩ = some (.int .i64 x2) := (blk_cell D9.out 2).trans rfl
                      have y3 : w30.cell? ⟨gd, 3, none⟩ = some (.slice A3 acc.length q3) := (blk_cell D9.out 3).trans rfl
                      have y4 : w30.cell? ⟨gd, 4, none⟩ = some (.slice A4 xs4.length q4) := (blk_cell D9.out 4).trans rfl
                      have y5 : w30.cell? ⟨gd, 5, none⟩ = some (.slice A5 xs5.length q5) := (blk_cell D9.out 5).trans rfl
                      have y6 : w30.cell? ⟨gd, 6, none⟩ = some (.bool (b == 1)) := (blk_cell D9.out 6).trans rfl
                      go_wp2_with fail
                      have f0 := Z9
                      have f1 := Aside0.mk (blk_set f0.out 0 (.int .i64 x0))
                      have f2 := Aside0.mk (blk_set f1.out 1 (.int .i64 x1))
                      have f3 := Aside0.mk (blk_set f2.out 2 (.int .i64 x2))
                      have f4 := Aside0.mk (blk_set f3.out 3 (.slice A3 acc.length q3))
                      have f5 := Aside0.mk (blk_set f4.out 4 (.slice A4 xs4.length q4))
                      have f6 := Aside0.mk (blk_set f5.out 5 (.slice A5 xs5.length q5))
                      have f7 := Aside0.mk (blk_set f6.out 6 (.bool (b == 1)))
                      refine bodyPost_ret (results_list (rs := [.cell 2 25, .tmp 3, .tmp 4]) rfl (by simp) (.cell gc 25 #[.int .i64 x0, .int .i64 x1, .int .i64 x2, .slice A3 acc.length q3, .slice A4 xs4.length q4, .slice A5 xs5.length q5, .bool (b == 1)] (0, 0) _ rfl f7.out hu25 rfl info25s (.tmp (.tmp .nil)))) rfl ⟨(((((((B9.out.setCell HGC.out _).setCell HGC.out _).setCell HGC.out _).setCell HGC.out _).setCell HGC.out _).setCell HGC.out _).setCell HGC.out _), ?_⟩
                      rw [HN.out]
                      exact ⟨_, _, _, _, rfl, Kd.R_lower (Kd.R_mono (Kd.R_set (Kd.R_set (Kd.R_set (Kd.R_set (Kd.R_set (Kd.R_set (Kd.R_set O3.out f0.out (by decide) 0 _) f1.out (by decide) 1 _) f2.out (by decide) 2 _) f3.out (by decide) 3 _) f4.out (by decide) 4 _) f5.out (by decide) 5 _) f6.out (by decide) 6 _) (fun _ _ => trivial)) HB1.out.size, Kd.R_lower (Kd.R_mono (Kd.R_set (Kd.R_set (Kd.R_set (Kd.R_set (Kd.R_set (Kd.R_set (Kd.R_set O4.out f0.out (by decide) 0 _) f1.out (by decide) 1 _) f2.out (by decide) 2 _) f3.out (by decide) 3 _) f4.out (by decide) 4 _) f5.out (by decide) 5 _) f6.out (by decide) 6 _) (fun _ _ => trivial)) HB1.out.size, Kd.R_lower (Kd.R_mono (Kd.R_set (Kd.R_set (Kd.R_set (Kd.R_set (Kd.R_set (Kd.R_set (Kd.R_set O5.out f0.out (by decide) 0 _) f1.out (by decide) 1 _) f2.out (by decide) 2 _) f3.out (by decide) 3 _) f4.out (by decide) 4 _) f5.out (by decide) 5 _) f6.out (by decide) 6 _) (fun _ _ => trivial)) HB1.out.size, Kd.R_lower (Kd.R_mono (Kd.R_set (Kd.R_set (Kd.R_set (Kd.R_set (Kd.R_set (Kd.R_set (Kd.R_set Ol.out f0.out (by decide) 0 _) f1.out (by decide) 1 _) f2.out (by decide) 2 _) f3.out (by decide) 3 _) f4.out (by decide) 4 _) f5.out (by decide) 5 _) f6.out (by decide) 6 _) (fun _ _ => trivial)) HB1.out.size⟩
    · have HN := Aside0.mk (show readL l = none by
        rw [hl]
        unfold readL rdLife
        rw [if_neg (by simp), if_neg (by intro h; apply hall; simpa using h)]; rfl)
      clear hl
      have z0 : w3.cell? ⟨gc, 0, none⟩ = some (.int .i64 0) := (blk_cell HZ3.out 0).trans rfl
      have fz0 := blk_frozen HZ3.out 0
      have z1 : w3.cell? ⟨gc, 1, none⟩ = some (.int .i64 0) := (blk_cell HZ3.out 1).trans rfl
      have fz1 := blk_frozen HZ3.out 1
      have z2 : w3.cell? ⟨gc, 2, none⟩ = some (.int .i64 0) := (blk_cell HZ3.out 2).trans rfl
      have fz2 := blk_frozen HZ3.out 2
      have z3 : w3.cell? ⟨gc, 3, none⟩ = some (.slice none 0 0) := (blk_cell HZ3.out 3).trans rfl
      have fz3 := blk_frozen HZ3.out 3
      have z4 : w3.cell? ⟨gc, 4, none⟩ = some (.slice none 0 0) := (blk_cell HZ3.out 4).trans rfl
      have fz4 := blk_frozen HZ3.out 4
      have z5 : w3.cell? ⟨gc, 5, none⟩ = some (.slice none 0 0) := (blk_cell HZ3.out 5).trans rfl
      have fz5 := blk_frozen HZ3.out 5
      have z6 : w3.cell? ⟨gc, 6, none⟩ = some (.bool false) := (blk_cell HZ3.out 6).trans rfl
      have fz6 := blk_frozen HZ3.out 6
      by_cases q0 : b0 = 76
      · by_cases q1 : b1 = 73
        · by_cases q2 : b2 = 70
          · have q3 : ¬ b3 = 69 := fun h => hall ⟨q0, q1, q2, h⟩
            subst q0 q1 q2
            have e3 : (b3 == 69) = false := by simpa using q3
            clear hall q3
            go_wp2_with fail
            all_goals exact rread_none HN.out (zset_blk HZ3.out) (zset_below (HB1.out.trans (HQ3.out.2.1.mono HB1.out.size)) HGC.out) (by simp) (by simp) (by simp)
          · subst q0 q1
            have e3 : (b2 == 70) = false := by simpa using q2
            clear hall q2
            go_wp2_with fail
            all_goals exact rread_none HN.out (zset_blk HZ3.out) (zset_below (HB1.out.trans (HQ3.out.2.1.mono HB1.out.size)) HGC.out) (by simp) (by simp) (by simp)
        · subst q0
          have e3 : (b1 == 73) = false := by simpa using q1
          clear hall q1
          go_wp2_with fail
          all_goals exact rread_none HN.out (zset_blk HZ3.out) (zset_below (HB1.out.trans (HQ3.out.2.1.mono HB1.out.size)) HGC.out) (by simp) (by simp) (by simp)
      · have e3 : (b0 == 76) = false := by simpa using q0
        clear hall q0
        go_wp2_with fail
        all_goals exact rread_none HN.out (zset_blk HZ3.out) (zset_below (HB1.out.trans (HQ3.out.2.1.mono HB1.out.size)) HGC.out) (by simp) (by simp) (by simp)
end Go.Proofs.Ytedlmdnineohkaa.PU
