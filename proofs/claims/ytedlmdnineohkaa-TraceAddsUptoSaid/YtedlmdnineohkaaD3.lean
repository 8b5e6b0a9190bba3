import Derived.Test.YtedlmdnineohkaaD1
import Derived.Test.YtedlmdnineohkaaD2
/- The walk of TraceAdds. -/
namespace Go.Proofs.Ytedlmdnineohkaa.PU
open Go.RowKit Go.Proofs.YtedlmdnineohkaaW.PrintWords Go.Proofs.YtedlmdnineohkaaW.PrintLast Go.Proofs.YtedlmdnineohkaaW.PrintMore
set_option linter.unusedVariables false
set_option linter.unusedSimpArgs false

theorem grown_below_none {W w1 : World} (h : W.grownBy w1 none) : Below W.heap.size W w1 := ⟨h.os, h.tape, h.output, h.size, fun i hi => h.block i hi (by simp)⟩
theorem right_take {c : ConfT} {ls : List S56} (k : Nat) (h : rightC c ls = true) : rightC c (ls.take k) = true := by
  unfold rightC rightB at *
  simp only [Bool.and_eq_true] at h ⊢
  exact ⟨h.1, by rw [List.all_eq_true] at *; exact fun x hx => h.2 x (List.mem_of_mem_take hx)⟩
theorem readL_one : readL [1] = none := by rfl
theorem addB_one (more : List S56) : addB [1] more = [] ∧ addE [1] more = 1 := by unfold addB addE; rw [readL_one]; exact ⟨rfl, rfl⟩
theorem cutB_one (n : Int) : cutB [1] n = [] ∧ cutE [1] n = 1 := by unfold cutB cutE; rw [readL_one]; exact ⟨rfl, rfl⟩
theorem place_in (n : Int) (m : Nat) (hm : m ≤ 1048576) : ∃ k : Nat, k ≤ m ∧ citadellaw00_Place.f n ((m : Int) + 1) = some (k : Int) := by
  have hpos : (0 : Int) < (m : Int) + 1 := by omega
  have h1 : Int.tmod n ((m : Int) + 1) < (m : Int) + 1 := Int.tmod_lt_of_pos _ hpos
  have h2 : -((m : Int) + 1) < Int.tmod n ((m : Int) + 1) := Int.lt_tmod_of_pos _ hpos
  unfold citadellaw00_Place.f
  rw [if_neg (by omega)]
  by_cases hneg : Int.tmod n ((m : Int) + 1) < 0
  · rw [if_pos hneg]
    refine ⟨(Int.tmod n ((m : Int) + 1) + ((m : Int) + 1)).toNat, by omega, ?_⟩
    congr 1
    unfold wrap64; omega
  · rw [if_neg hneg]
    exact ⟨(Int.tmod n ((m : Int) + 1)).toNat, by omega, by congr 1; omega⟩

set_option maxRecDepth 100000 in
set_option maxHeartbeats 8000000 in
theorem traceAdds_calls (w : World) (a0 a1 a2 : Int) (l3 l4 l5 : List Int) (a6 : Bool) (C3 C4 C5 A Am : Option Addr) (z3 z4 z5 q qm : Nat) (ls ms : List S56) (n : Int) (hcf : ConfR w (a0, a1, a2, l3, l4, l5, a6) C3 z3 C4 z4 C5 z5) (hls : LabsR w ls A q) (hms : LabsR w ms Am qm)
    (h3 : l3.length ≤ 1048576) (h4 : l4.length ≤ 1048576) (h5 : l5.length ≤ 1048576) (hs : ls.length + ms.length ≤ 1048576) (hf : ∀ x ∈ ls, x.f2.length ≤ 1048576) (hg : ∀ x ∈ ms, x.f2.length ≤ 1048576) (hb4 : Byt l4) (hb5 : Byt l5) (hbf : ∀ x ∈ ls, Byt x.f2) :
    Calls Try.prog 6 #[.agg #[.int .i64 a0, .int .i64 a1, .int .i64 a2, .slice C3 l3.length z3, .slice C4 l4.length z4, .slice C5 l5.length z5, .bool a6], .slice A ls.length q, .slice Am ms.length qm, .int .i64 n] w fun e w' => e = .returned (.bool true) ∧ Below w.heap.size w w' := by
  have hu25 := Try.underlying25
  have HCF := Aside0.mk hcf
  have HLS := Aside0.mk hls
  have HMS := Aside0.mk hms
  have H3 := Aside0.mk h3
  have H4 := Aside0.mk h4
  have H5 := Aside0.mk h5
  have HS := Aside0.mk hs
  have HF := Aside0.mk hf
  have HG := Aside0.mk hg
  have HB4 := Aside0.mk hb4
  have HB5 := Aside0.mk hb5
  have HBF := Aside0.mk hbf
  clear hcf hls hms h3 h4 h5 hs hf hg hb4 hb5 hbf
  go_enter Try.func6, Try.ntmps6
  go_wp2_with (first | ((with_reducible refine gate_dst (N := 4) rfl ?_); go_loud (refine box_event ?hg (N := 4) ?hd (cs := #[.int .i64 a0, .int .i64 a1, .int .i64 a2, .slice C3 l3.length z3, .slice C4 l4.length z4, .slice C5 l5.length z5, .bool a6]) (t := 25) ?hr ?_; (case hd => rfl); (case hg => rfl); (case hr => first | (go_simp; done) | (go_simp; rfl)); intro gb hg w1 hbox hbx; have HLgb := Aside0.mk (show w.heap.size ≤ gb by omega); have HDgb := Aside0.mk hbox; have HXgb := Aside0.mk hbx; have ygb0 : w1.cell? ⟨gb, 0, none⟩ = some (.int .i64 a0) := (blk_cell hbox 0).trans rfl; have ygb1 : w1.cell? ⟨gb, 1, none⟩ = some (.int .i64 a1) := (blk_cell hbox 1).trans rfl; have ygb2 : w1.cell? ⟨gb, 2, none⟩ = some (.int .i64 a2) := (blk_cell hbox 2).trans rfl; have ygb3 : w1.cell? ⟨gb, 3, none⟩ = some (.slice C3 l3.length z3) := (blk_cell hbox 3).trans rfl; have ygb4 : w1.cell? ⟨gb, 4, none⟩ = some (.slice C4 l4.length z4) := (blk_cell hbox 4).trans rfl; have ygb5 : w1.cell? ⟨gb, 5, none⟩ = some (.slice C5 l5.length z5) := (blk_cell hbox 5).trans rfl; have ygb6 : w1.cell? ⟨gb, 6, none⟩ = some (.bool a6) := (blk_cell hbox 6).trans rfl; have fygb0 := blk_frozen hbox 0; have fygb1 := blk_frozen hbox 1; have fygb2 := blk_frozen hbox 2; have fygb3 := blk_frozen hbox 3; have fygb4 := blk_frozen hbox 4; have fygb5 := blk_frozen hbox 5; have fygb6 := blk_frozen hbox 6; clear hg hbox hbx)) | fail)
  have HCF1 := Aside0.mk (HCF.out.below HXgb.out)
  have HLS1 := Aside0.mk (HLS.out.below HXgb.out)
  have HMS1 := Aside0.mk (HMS.out.below HXgb.out)
  have HB1 := Aside0.mk HXgb.out
  clear HCF HLS HMS HDgb HXgb ygb0 fygb0 ygb1 fygb1 ygb2 fygb2 ygb3 fygb3 ygb4 fygb4 ygb5 fygb5 ygb6 fygb6
  refine (confCopied_calls (c := (a0, a1, a2, l3, l4, l5, a6)) HCF1.out H3.out H4.out H5.out).mono ?_
  rintro e w2 ⟨B3, p3, B4, p4, B5, p5, rfl, hcf, hbel⟩
  have HCP2 := Aside0.mk hcf
  have HB2 := Aside0.mk (HB1.out.trans (hbel.mono HB1.out.size))
  have HLS2 := Aside0.mk (HLS1.out.below hbel)
  have HMS2 := Aside0.mk (HMS1.out.below hbel)
  clear hbel HB1 HLS1 HMS1
  clear hcf HCF1
  dsimp only [ConfV]
  go_wp2_with fail
  refine (copied_calls HLS2.out (by have := HS.out; omega) (fun x hx => by have := HF.out x hx; omega)).mono ?_
  rintro e w3 ⟨A1, q1, rfl, hcl, hbel⟩
  have HCL3 := Aside0.mk hcl
  have HB3 := Aside0.mk (HB2.out.trans (hbel.mono HB2.out.size))
  have HLS3 := Aside0.mk (HLS2.out.below hbel)
  have HMS3 := Aside0.mk (HMS2.out.below hbel)
  have HCP3 := Aside0.mk (HCP2.out.below hbel)
  clear hbel HB2 HLS2 HMS2 HCP2
  clear hcl
  go_wp2_with fail
  refine (write_calls (c := (a0, a1, a2, l3, l4, l5, a6)) HCP3.out HCL3.out (by have := HS.out; omega)).mono ?_
  rintro e w4 ⟨Aw, qw, rfl, hbw, hbel⟩
  have HW4 := Aside0.mk hbw
  have HBw4 := Aside0.mk (HB3.out.trans (hbel.mono HB3.out.size))
  have HLS4 := Aside0.mk (HLS3.out.below hbel)
  have HMS4 := Aside0.mk (HMS3.out.below hbel)
  clear hbel HB3 HLS3 HMS3
  clear hbw HCP3 HCL3
  cases hR : rightC (a0, a1, a2, l3, l4, l5, a6) ls with
  | false =>
    have ew : wrB (a0, a1, a2, l3, l4, l5, a6) ls = [] := by unfold wrB; rw [if_neg (by rw [hR]; decide)]
    have ee : wrE (a0, a1, a2, l3, l4, l5, a6) ls = 1 := by unfold wrE; rw [if_neg (by rw [hR]; decide)]
    rw [ew] at HW4 ⊢
    rw [ee]
    clear ew ee hR HW4 HLS4
    go_wp2_with (first | ((with_reducible refine gate_dst (N := 35) rfl ?_); refine Kd.R_lit (Kd.int .u8) (w0 := w) w.heap.size 5 ?hg (N := 35) ?hd (xs := ([1] : List Int)) (inner := [.int .u8 1]) (ok := fun _ => True) (okp := fun _ => True) ?hr ?hp (fun _ hk => hk) trivial HBw4.out (HBw4.out).size (by simp) ?_; (case hd => rfl); (case hg => rfl); (case hr => first | (go_simp; done) | (go_simp; rfl)); (case hp => exact (Reps.one (show Kd.M (Kd.int .u8) _ _ _ 1 [.int .u8 1] from rfl) (Reps.none _ _))); intro v35 w35 ho hbb hgg hnn; obtain ⟨A35, c35, rfl, hl35, hC35⟩ := Kd.R_reads ho; have HO35 := Aside0.mk (show BytR w35 [1] A35 c35 from ⟨hC35, hl35⟩); have HB35 := Aside0.mk hbb; have HG35 := Aside0.mk (grown_below_none hgg); clear ho hbb hgg hnn hl35 hC35) | fail)
    have HMS35 := Aside0.mk (HMS4.out.below HG35.out)
    clear HMS4 HG35
    refine (copied_calls HMS35.out (by have := HS.out; omega) (fun x hx => by have := HG.out x hx; omega)).mono ?_
    rintro e w5 ⟨A5, q5, rfl, hcl, hbel⟩
    have HCL5 := Aside0.mk hcl
    have HB5x := Aside0.mk (HB35.out.trans (hbel.mono HB35.out.size))
    have HO5 := Aside0.mk (HO35.out.below hbel)
    clear hcl hbel HB35 HO35 HMS35
    go_wp2_with fail
    refine (add_calls (lb := [1]) HO5.out (fun y hy => by simp at hy; omega) (by simp) HCL5.out (fun c l h => by rw [readL_one] at h; cases h)).mono ?_
    rw [(addB_one ms).1, (addB_one ms).2]
    rintro e w6 ⟨A6, q6, rfl, hbx, hbel⟩
    have HB6 := Aside0.mk (HB5x.out.trans (hbel.mono HB5x.out.size))
    clear hbx hbel HB5x HO5 HCL5
    go_wp2_with (first | ((with_reducible refine gate_dst (N := 42) rfl ?_); refine Kd.R_lit (Kd.int .u8) (w0 := w) w.heap.size 5 ?hg (N := 42) ?hd (xs := ([1] : List Int)) (inner := [.int .u8 1]) (ok := fun _ => True) (okp := fun _ => True) ?hr ?hp (fun _ hk => hk) trivial HB6.out (HB6.out).size (by simp) ?_; (case hd => rfl); (case hg => rfl); (case hr => first | (go_simp; done) | (go_simp; rfl)); (case hp => exact (Reps.one (show Kd.M (Kd.int .u8) _ _ _ 1 [.int .u8 1] from rfl) (Reps.none _ _))); intro v42 w42 ho hbb hgg hnn; obtain ⟨A42, c42, rfl, hl42, hC42⟩ := Kd.R_reads ho; have HO42 := Aside0.mk (show BytR w42 [1] A42 c42 from ⟨hC42, hl42⟩); have HB42 := Aside0.mk hbb; have HG42 := Aside0.mk (grown_below_none hgg); clear ho hbb hgg hnn hl42 hC42) | fail)
    refine (cut_calls (lb := [1]) (n := 0) HO42.out (fun y hy => by simp at hy; omega) (by simp) (fun c l h => by rw [readL_one] at h; cases h)).mono ?_
    rw [(cutB_one 0).1, (cutB_one 0).2]
    rintro e w7 ⟨A7, q7, rfl, hbx, hbel⟩
    have HB7 := Aside0.mk (HB42.out.trans (hbel.mono HB42.out.size))
    clear hbx hbel HB42 HO42
    go_wp2_with fail
    refine (awake_true _).mono ?_
    rintro e wZ ⟨rfl, hbel⟩
    have HBZ := Aside0.mk (HB7.out.trans (hbel.mono HB7.out.size))
    clear hbel HB7
    go_wp2_with fail
    go_ret
    exact ⟨rfl, HBZ.out⟩
  | true =>
    have ew : wrB (a0, a1, a2, l3, l4, l5, a6) ls = lifeC (a0, a1, a2, l3, l4, l5, a6) ls := by unfold wrB; rw [if_pos hR]
    have ee : wrE (a0, a1, a2, l3, l4, l5, a6) ls = 0 := by unfold wrE; rw [if_pos hR]
    rw [ew] at HW4 ⊢
    rw [ee]
    obtain ⟨lw, hlw⟩ : ∃ lw, lw = lifeC (a0, a1, a2, l3, l4, l5, a6) ls := ⟨_, rfl⟩
    rw [← hlw] at HW4 ⊢
    have HRD := Aside0.mk (show readL lw = some ((a0, a1, a2, l3, l4, l5, a6), ls) by rw [hlw, readL_of _ _ hR (by have := HS.out; omega)])
    have HWB := Aside0.mk (show Byt lw by rw [hlw]; exact lifeC_byt HB4.out HB5.out HBF.out)
    have HWL := Aside0.mk (show lw.length ≤ 8589934592 by rw [hlw]; exact lifeC_len hR (by have := HS.out; omega))
    have HLW := Aside0.mk (show wrB (a0, a1, a2, l3, l4, l5, a6) ls = lw by rw [hlw, ew])
    have HLE := Aside0.mk ee
    have HR := Aside0.mk hR
    have HPR := Aside0.mk (show ∀ c l, readL lw = some (c, l) → (l ++ ms).length ≤ 1048576 by intro c l h; rw [HRD.out] at h; cases h; have := HS.out; simp; omega)
    have HPC := Aside0.mk (show ∀ c l, readL lw = some (c, l) → l.length ≤ 1048576 by intro c l h; rw [HRD.out] at h; cases h; have := HS.out; omega)
    clear hlw ew ee hR
    go_wp2_with fail
    refine (copied_calls HMS4.out (by have := HS.out; omega) (fun x hx => by have := HG.out x hx; omega)).mono ?_
    rintro e w5 ⟨A5, q5, rfl, hcl, hbel⟩
    have HCL5 := Aside0.mk hcl
    have HBw5 := Aside0.mk (HBw4.out.trans (hbel.mono HBw4.out.size))
    have HLS5 := Aside0.mk (HLS4.out.below hbel)
    have HMS5 := Aside0.mk (HMS4.out.below hbel)
    have HW5 := Aside0.mk (HW4.out.below hbel)
    clear hbel HBw4 HLS4 HMS4 HW4
    clear hcl
    obtain ⟨lx, hlx⟩ : ∃ lx, lx = addB lw ms := ⟨_, rfl⟩
    obtain ⟨xe, hxe⟩ : ∃ xe, xe = addE lw ms := ⟨_, rfl⟩
    have HLX := Aside0.mk hlx
    have HXE := Aside0.mk hxe
    clear hlx hxe
    have hne : (xe != xe) = false := by simp
    go_wp2_with fail
    refine (add_calls HW5.out HWB.out HWL.out HCL5.out HPR.out).mono ?_
    rw [← HLX.out, ← HXE.out]
    rintro e w6 ⟨A6, q6, rfl, hbx, hbel⟩
    have HX6 := Aside0.mk hbx
    have HB6 := Aside0.mk (HBw5.out.trans (hbel.mono HBw5.out.size))
    have HLS6 := Aside0.mk (HLS5.out.below hbel)
    have HMS6 := Aside0.mk (HMS5.out.below hbel)
    have HW6 := Aside0.mk (HW5.out.below hbel)
    clear hbel HBw5 HLS5 HMS5 HW5
    clear hbx HCL5
    go_wp2_with fail
    refine (radd_calls HW6.out HWB.out HWL.out HMS6.out HPR.out).mono ?_
    rw [← HLX.out, ← HXE.out]
    rintro e w7 ⟨A7, q7, rfl, hbx, hbel⟩
    have HY7 := Aside0.mk hbx
    have HB7 := Aside0.mk (HB6.out.trans (hbel.mono HB6.out.size))
    have HLS7 := Aside0.mk (HLS6.out.below hbel)
    have HX7 := Aside0.mk (HX6.out.below hbel)
    have HW7 := Aside0.mk (HW6.out.below hbel)
    clear hbel HB6 HLS6 HX6 HW6
    clear hbx HMS6
    go_wp2_with fail
    refine (sameB_same HX7.out HY7.out).mono ?_
    rintro e w8 ⟨rfl, hbel⟩
    have HB8 := Aside0.mk (HB7.out.trans (hbel.mono HB7.out.size))
    have HLS8 := Aside0.mk (HLS7.out.below hbel)
    have HW8 := Aside0.mk (HW7.out.below hbel)
    clear hbel HB7 HLS7 HW7
    clear HX7 HY7 HLX HXE hne
    obtain ⟨ly, hly⟩ : ∃ ly, ly = cutB lw n := ⟨_, rfl⟩
    obtain ⟨ye, hye⟩ : ∃ ye, ye = cutE lw n := ⟨_, rfl⟩
    have HLY := Aside0.mk hly
    have HYE := Aside0.mk hye
    clear hly hye
    have hne : (ye != ye) = false := by simp
    go_wp2_with fail
    refine (cut_calls HW8.out HWB.out HWL.out HPC.out).mono ?_
    rw [← HLY.out, ← HYE.out]
    rintro e w9 ⟨A9, q9, rfl, hbx, hbel⟩
    have HX9 := Aside0.mk hbx
    have HB9 := Aside0.mk (HB8.out.trans (hbel.mono HB8.out.size))
    have HLS9 := Aside0.mk (HLS8.out.below hbel)
    have HW9 := Aside0.mk (HW8.out.below hbel)
    clear hbel HB8 HLS8 HW8
    clear hbx
    go_wp2_with fail
    refine (rcut_calls HW9.out HWB.out HWL.out HPC.out).mono ?_
    rw [← HLY.out, ← HYE.out]
    rintro e w10 ⟨A10, q10, rfl, hbx, hbel⟩
    have HY10 := Aside0.mk hbx
    have HB10 := Aside0.mk (HB9.out.trans (hbel.mono HB9.out.size))
    have HLS10 := Aside0.mk (HLS9.out.below hbel)
    have HX10 := Aside0.mk (HX9.out.below hbel)
    have HW10 := Aside0.mk (HW9.out.below hbel)
    clear hbel HB9 HLS9 HX9 HW9
    clear hbx
    go_wp2_with fail
    refine (sameB_same HX10.out HY10.out).mono ?_
    rintro e w11 ⟨rfl, hbel⟩
    have HB11 := Aside0.mk (HB10.out.trans (hbel.mono HB10.out.size))
    have HLS11 := Aside0.mk (HLS10.out.below hbel)
    have HW11 := Aside0.mk (HW10.out.below hbel)
    clear hbel HB10 HLS10 HW10
    clear HX10 HY10 HLY HYE hne
    obtain ⟨k, hk, hP⟩ := place_in n ls.length (by have := HS.out; omega)
    have HK := Aside0.mk hk
    have HP := Aside0.mk hP
    clear hk hP
    have hsl : ls.length ≤ 1048576 := by have := HS.out; omega
    go_wp2_with fail
    refine (citadellaw00_Place.calls n ((ls.length : Int) + 1) k _ HP.out).mono ?_
    rintro e w12 ⟨rfl, hdr⟩
    have hbel := hdr.below
    have HB12 := Aside0.mk (HB11.out.trans (hbel.mono HB11.out.size))
    have HLS12 := Aside0.mk (HLS11.out.below hbel)
    have HW12 := Aside0.mk (HW11.out.below hbel)
    clear hbel HB11 HLS11 HW11
    clear hdr
    have hcz : cutB lw k = wrB (a0, a1, a2, l3, l4, l5, a6) (ls.take k) ∧ cutE lw k = wrE (a0, a1, a2, l3, l4, l5, a6) (ls.take k) := by have h := cutB_some (n := (k : Int)) HRD.out (by have := HK.out; omega); simpa using h
    have hr2 := right_take k HR.out
    have hz1 : cutB lw k = lifeC (a0, a1, a2, l3, l4, l5, a6) (ls.take k) := by rw [hcz.1]; unfold wrB; rw [if_pos hr2]
    have hz2 : cutE lw k = 0 := by rw [hcz.2]; unfold wrE; rw [if_pos hr2]
    obtain ⟨lz, hlz⟩ : ∃ lz, lz = lifeC (a0, a1, a2, l3, l4, l5, a6) (ls.take k) := ⟨_, rfl⟩
    have HZR := Aside0.mk (show readL lz = some ((a0, a1, a2, l3, l4, l5, a6), ls.take k) by rw [hlz, readL_of _ _ hr2 (by simp; omega)])
    have HZB := Aside0.mk (show Byt lz by rw [hlz]; exact lifeC_byt HB4.out HB5.out (fun x hx => HBF.out x (List.mem_of_mem_take hx)))
    have HZL := Aside0.mk (show lz.length ≤ 8589934592 by rw [hlz]; exact lifeC_len hr2 (by simp; omega))
    have HZA := Aside0.mk (show addB lz (ls.drop k) = lw ∧ addE lz (ls.drop k) = 0 by have h := addB_some (more := ls.drop k) HZR.out; rw [List.take_append_drop] at h; exact ⟨h.1.trans HLW.out, h.2.trans HLE.out⟩)
    have HZP := Aside0.mk (show ∀ c l, readL lz = some (c, l) → (l ++ ls.drop k).length ≤ 1048576 by intro c l h; rw [HZR.out] at h; cases h; rw [List.take_append_drop]; exact hsl)
    rw [← hlz] at hz1
    have HZ1 := Aside0.mk hz1
    have HZ2 := Aside0.mk hz2
    have HSL := Aside0.mk hsl
    clear hcz hr2 hz1 hz2 hlz hsl
    go_wp2_with fail
    refine (cut_calls (n := (k : Int)) HW12.out HWB.out HWL.out HPC.out).mono ?_
    rw [HZ1.out, HZ2.out]
    rintro e w13 ⟨A13, q13, rfl, hbx, hbel⟩
    have HZ13 := Aside0.mk hbx
    have HB13 := Aside0.mk (HB12.out.trans (hbel.mono HB12.out.size))
    have HLS13 := Aside0.mk (HLS12.out.below hbel)
    have HW13 := Aside0.mk (HW12.out.below hbel)
    clear hbel HB12 HLS12 HW12
    clear hbx
    have hcut : ∀ Wc : World, (Instr.slice 26 (.slice A ls.length q) (some (.int .i64 (k : Int))) none none).run Try.prog Wc = .ok (.slice (if q = k then A else A.map (·.add (k * 3))) (ls.length - k) (q - k)) Wc := fun Wc => by
      obtain ⟨i0, hi0, _, hsz, _⟩ := info_parts info56
      have h := cut_from (P := Try.prog) 26 56 .i64 Try.underlying26 hi0 3 hsz A ls.length q (k : Int) (by omega) (by have := HK.out; omega) Wc
      simpa using h
    obtain ⟨Ad, hAd⟩ : ∃ Ad, Ad = (if q = k then A else A.map (·.add (k * 3))) := ⟨_, rfl⟩
    rw [← hAd] at hcut
    have HLT := Aside0.mk (show (ls.drop k).length = ls.length - k by simp)
    have HDR := Aside0.mk (show LabsR w13 (ls.drop k) Ad (q - k) from ⟨by rw [hAd]; exact Kd.C_drop HLS13.out.r (by have := HK.out; omega) HLS13.out.c, by have := HLS13.out.c; rw [HLT.out]; omega⟩)
    clear hAd
    go_wp2_with fail
    have hW := copied_calls HDR.out (by have := HSL.out; simp; omega) (fun x hx => by have := HF.out x (List.mem_of_mem_drop hx); omega)
    rw [HLT.out] at hW
    refine hW.mono ?_
    rintro e w14 ⟨A14, q14, rfl, hcl, hbel⟩
    have HCL14 := Aside0.mk hcl
    have HB14 := Aside0.mk (HB13.out.trans (hbel.mono HB13.out.size))
    have HW14 := Aside0.mk (HW13.out.below hbel)
    have HZ14 := Aside0.mk (HZ13.out.below hbel)
    clear hbel HB13 HW13 HZ13
    clear hcl hW HDR hcut HLS13
    go_wp2_with fail
    have hW := add_calls HZ14.out HZB.out HZL.out HCL14.out HZP.out
    rw [HLT.out, HZA.out.1, HZA.out.2] at hW
    refine hW.mono ?_
    rintro e w15 ⟨A15, q15, rfl, hbx, hbel⟩
    have HU15 := Aside0.mk hbx
    have HB15 := Aside0.mk (HB14.out.trans (hbel.mono HB14.out.size))
    have HW15 := Aside0.mk (HW14.out.below hbel)
    clear hbel HB14 HW14
    clear hbx hW HZ14 HCL14
    go_wp2_with fail
    refine (sameB_same HU15.out HW15.out).mono ?_
    rintro e w16 ⟨rfl, hbel⟩
    have HB16 := Aside0.mk (HB15.out.trans (hbel.mono HB15.out.size))
    clear hbel HB15 
    clear HU15 HW15
    go_wp2_with fail
    refine (awake_true _).mono ?_
    rintro e wZ ⟨rfl, hbel⟩
    have HBZ := Aside0.mk (HB16.out.trans (hbel.mono HB16.out.size))
    clear hbel HB16
    go_wp2_with fail
    go_ret
    exact ⟨rfl, HBZ.out⟩
end Go.Proofs.Ytedlmdnineohkaa.PU
