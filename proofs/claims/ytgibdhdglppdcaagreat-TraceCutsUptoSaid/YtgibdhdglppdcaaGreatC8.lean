import Derived.Test.YtgibdhdglppdcaaGreatQ8
import Derived.Test.YtgibdhdglppdcaaGreatPUx10
/- TraceCuts: the walk. -/
namespace Go.Proofs.YtgibdhdglppdcaaGreat.PU
open Go.RowKit Go.Proofs.YtgibdhdglppdcaaGreatW.PrintWords Go.Proofs.YtgibdhdglppdcaaGreatW.PrintLast Go.Proofs.YtgibdhdglppdcaaGreatW.PrintMore
set_option linter.unusedVariables false
set_option linter.unusedSimpArgs false

theorem lifeC_labs (c : ConfT) (ls : List S56) : ls.length ≤ (lifeC c ls).length := by
  have h : ∀ l : List S56, l.length ≤ (labsB l).length := by
    intro l
    induction l with
    | nil => simp
    | cons x r ih => simp only [labsB, List.flatMap_cons, List.length_append, List.length_cons, labB] at *; simp at *; omega
  have := h ls
  simp only [lifeC, lifeB, tailB, List.length_append]
  omega
theorem lifeC_len2 {c : ConfT} {ls : List S56} (h : rightC c ls = true) (hs : ls.length ≤ 1048576) : (lifeC c ls).length ≤ 8588000000 := by
  obtain ⟨a0, a1, a2, l3, l4, l5, a6⟩ := c
  have h' : rightB a0 a1 a2 l3 l4 l5 ls = true := h
  obtain ⟨p0, p0', p1, p1', p2, p2', p3, p4, p5, pd, pp⟩ := right_parts h'
  have n0 := numB_len10 (n := a0.toNat) (by omega)
  have n1 := numB_len10 (n := a1.toNat) (by omega)
  have n2 := numB_len10 (n := a2.toNat) (by omega)
  have n3 := numB_len10 (n := l3.length) (by omega)
  have n4 := numB_len10 (n := l4.length) (by omega)
  have n5 := numB_len10 (n := l5.length) (by omega)
  have n6 := numB_len10 (n := ls.length) (by omega)
  have m3 := intsB_len pd
  have ml := labsB_len pp
  simp only [lifeC, lifeB, tailB, List.length_append, List.length_cons, List.length_nil]
  omega
theorem lifeC_pos (c : ConfT) (ls : List S56) (h : rightC c ls = true) (hs : ls.length ≤ 1048576) : 4 ≤ (lifeC c ls).length := by
  have h1 := rdLife_of c ls [] h (by omega)
  rw [List.append_nil] at h1
  unfold rdLife at h1
  by_cases h4 : (lifeC c ls).length < 4
  · rw [if_pos h4] at h1; cases h1
  · omega
/-- The beginning of a life is none. -/
theorem readL_cut (c : ConfT) (ls : List S56) (h : rightC c ls = true) (hs : ls.length ≤ 1048576) (hb : Byt (lifeC c ls)) (hl : (lifeC c ls).length ≤ 8588000000) (k : Nat) (hk : k < (lifeC c ls).length) : readL ((lifeC c ls).take k) = none := by
  cases hr : readL ((lifeC c ls).take k) with
  | none => rfl
  | some x =>
    exfalso
    obtain ⟨c', ls'⟩ := x
    obtain ⟨h1, h2⟩ := readL_inv (fun y hy => hb y (List.mem_of_mem_take hy)) hr
    have h3 := lifeC_labs c' ls'
    rw [← h2, List.length_take] at h3
    have h4 := rdLife_of c' ls' ((lifeC c ls).drop k) h1 (by omega)
    rw [← h2, List.take_append_drop] at h4
    have h5 := rdLife_of c ls [] h (by omega)
    rw [List.append_nil, h4] at h5
    injection h5 with h5
    have h6 : (lifeC c ls).drop k = [] := congrArg (fun x => x.2.2) h5
    have h7 := congrArg List.length h6
    rw [List.length_drop] at h7
    simp at h7
    omega
theorem readL_more (c : ConfT) (ls : List S56) (m : List Int) (h : rightC c ls = true) (hs : ls.length ≤ 1048576) : readL (lifeC c ls ++ m) = if m = [] then some (c, ls) else none := by
  unfold readL
  rw [rdLife_of c ls m h (by omega), Option.bind_some]
  simp only [h, and_true]
theorem place_at (n : Int) (m : Nat) (h1 : 1 ≤ m) (hm : m ≤ 8589934592) : ∃ k : Nat, k < m ∧ citadellaw00_Place.f n (m : Int) = some (k : Int) := by
  have hpos : (0 : Int) < (m : Int) := by omega
  have h1 : Int.tmod n (m : Int) < (m : Int) := Int.tmod_lt_of_pos _ hpos
  have h2 : -(m : Int) < Int.tmod n (m : Int) := Int.lt_tmod_of_pos _ hpos
  unfold citadellaw00_Place.f
  rw [if_neg (by omega)]
  by_cases hneg : Int.tmod n (m : Int) < 0
  · rw [if_pos hneg]
    refine ⟨(Int.tmod n (m : Int) + (m : Int)).toNat, by omega, ?_⟩
    congr 1
    unfold wrap64; omega
  · rw [if_neg hneg]
    exact ⟨(Int.tmod n (m : Int)).toNat, by omega, by congr 1; omega⟩
theorem BytR.drewN {W : World} {l : List Int} {A : Option Addr} {q : Nat} (h : BytR W l A q) (n : Nat) : BytR (W.drewN n) l A q := h.below (pw_below_drewN (Below.refl _ _) n)
set_option maxRecDepth 100000 in
set_option maxHeartbeats 1600000 in
/-- Play of what is no life. -/
theorem play_none (w : World) (A : Option Addr) (c : Nat) (l : List Int) (h : BytR w l A c) (hb : Byt l) (hl : l.length ≤ 8589934592) (hN : readL l = none) :
    Calls Tryz.prog 11 #[.slice A l.length c] w fun e w' => e = .returned (.tuple #[.pointer none, .int .i64 1]) ∧ Below w.heap.size w w' := by
  have hu25 := Tryz.underlying25
  have HR := Aside0.mk (read_calls w A c l h.r h.c hb hl)
  have HX := Aside0.mk (show rdX l = ((0, 0, 0, [], [], [], false), [], 1) by unfold rdX; rw [hN])
  clear h hb hl hN
  go_enter Tryz.func11, Tryz.ntmps11
  go_wp2_with fail
  refine HR.out.mono ?_
  intro e w1 hp
  obtain ⟨A3, A3q, A4, A4q, A5, A5q, Al, ql, rfl, hcf, hls, hbel⟩ := read_uni hp
  rw [HX.out]
  have HB1 := Aside0.mk hbel
  clear hp hcf hls hbel HX HR
  dsimp only [ConfV]
  go_wp2_with (first | ((with_reducible refine gate_dst (N := 4) rfl ?_); go_loud (refine box_event ?hg (N := 4) ?hd (cs := #[.int .i64 0, .int .i64 0, .int .i64 0, .slice none 0 0, .slice none 0 0, .slice none 0 0, .bool false]) (t := 25) ?hr ?_; (case hd => rfl); (case hg => rfl); (case hr => first | (go_simp; done) | (go_simp; rfl)); intro g hg w2 hbox hbx; have HLg := Aside0.mk (show w1.heap.size ≤ g by omega); have HXg := Aside0.mk hbx; have yg0 : w2.cell? ⟨g, 0, none⟩ = some (.int .i64 0) := (blk_cell hbox 0).trans rfl; have fyg0 := blk_frozen hbox 0; have yg1 : w2.cell? ⟨g, 1, none⟩ = some (.int .i64 0) := (blk_cell hbox 1).trans rfl; have fyg1 := blk_frozen hbox 1; have yg2 : w2.cell? ⟨g, 2, none⟩ = some (.int .i64 0) := (blk_cell hbox 2).trans rfl; have fyg2 := blk_frozen hbox 2; have yg3 : w2.cell? ⟨g, 3, none⟩ = some (.slice none 0 0) := (blk_cell hbox 3).trans rfl; have fyg3 := blk_frozen hbox 3; have yg4 : w2.cell? ⟨g, 4, none⟩ = some (.slice none 0 0) := (blk_cell hbox 4).trans rfl; have fyg4 := blk_frozen hbox 4; have yg5 : w2.cell? ⟨g, 5, none⟩ = some (.slice none 0 0) := (blk_cell hbox 5).trans rfl; have fyg5 := blk_frozen hbox 5; have yg6 : w2.cell? ⟨g, 6, none⟩ = some (.bool false) := (blk_cell hbox 6).trans rfl; have fyg6 := blk_frozen hbox 6; clear hg hbox hbx)) | fail)
  go_ret2
  exact ⟨rfl, HB1.out.trans ((((((((HXg.out.setCell HLg.out _).setCell HLg.out _).setCell HLg.out _).setCell HLg.out _).setCell HLg.out _).setCell HLg.out _).setCell HLg.out _ : Below w1.heap.size w1 _).mono HB1.out.size)⟩
set_option maxRecDepth 100000 in
set_option maxHeartbeats 4000000 in
theorem traceCuts_calls (w : World) (a0 a1 a2 : Int) (l3 l4 l5 : List Int) (a6 : Bool) (C3 C4 C5 A Ab : Option Addr) (z3 z4 z5 q qb : Nat) (ls : List S56) (lb : List Int) (n : Int) (hcf : ConfR w (a0, a1, a2, l3, l4, l5, a6) C3 z3 C4 z4 C5 z5) (hls : LabsR w ls A q) (hlb : BytR w lb Ab qb)
    (h3 : l3.length ≤ 1048576) (h4 : l4.length ≤ 1048576) (h5 : l5.length ≤ 1048576) (hs : ls.length ≤ 1048576) (hf : ∀ x ∈ ls, x.f2.length ≤ 1048576) (hb4 : Byt l4) (hb5 : Byt l5) (hbf : ∀ x ∈ ls, Byt x.f2) (hb : Byt lb) (hbl : lb.length ≤ 1048576) :
    Calls Tryz.prog 3 #[.agg #[.int .i64 a0, .int .i64 a1, .int .i64 a2, .slice C3 l3.length z3, .slice C4 l4.length z4, .slice C5 l5.length z5, .bool a6], .slice A ls.length q, .int .i64 n, .slice Ab lb.length qb] w fun e w' => e = .returned (.bool true) ∧ Below w.heap.size w w' := by
  have hu25 := Tryz.underlying25
  have HCF := Aside0.mk hcf
  have HLS := Aside0.mk hls
  have HLB := Aside0.mk hlb
  have H3 := Aside0.mk h3
  have H4 := Aside0.mk h4
  have H5 := Aside0.mk h5
  have HS := Aside0.mk hs
  have HF := Aside0.mk hf
  have HB4 := Aside0.mk hb4
  have HB5 := Aside0.mk hb5
  have HBF := Aside0.mk hbf
  have HBB := Aside0.mk hb
  have HBL := Aside0.mk hbl
  clear hcf hls hlb h3 h4 h5 hs hf hb4 hb5 hbf hb
  go_enter Tryz.func3, Tryz.ntmps3
  go_wp2_with (first | ((with_reducible refine gate_dst (N := 4) rfl ?_); go_loud (refine box_event ?hg (N := 4) ?hd (cs := #[.int .i64 a0, .int .i64 a1, .int .i64 a2, .slice C3 l3.length z3, .slice C4 l4.length z4, .slice C5 l5.length z5, .bool a6]) (t := 25) ?hr ?_; (case hd => rfl); (case hg => rfl); (case hr => first | (go_simp; done) | (go_simp; rfl)); intro gb hg w1 hbox hbx; have HLgb := Aside0.mk (show w.heap.size ≤ gb by omega); have HXgb := Aside0.mk hbx; have ygb0 : w1.cell? ⟨gb, 0, none⟩ = some (.int .i64 a0) := (blk_cell hbox 0).trans rfl; have fygb0 := blk_frozen hbox 0; have ygb1 : w1.cell? ⟨gb, 1, none⟩ = some (.int .i64 a1) := (blk_cell hbox 1).trans rfl; have fygb1 := blk_frozen hbox 1; have ygb2 : w1.cell? ⟨gb, 2, none⟩ = some (.int .i64 a2) := (blk_cell hbox 2).trans rfl; have fygb2 := blk_frozen hbox 2; have ygb3 : w1.cell? ⟨gb, 3, none⟩ = some (.slice C3 l3.length z3) := (blk_cell hbox 3).trans rfl; have fygb3 := blk_frozen hbox 3; have ygb4 : w1.cell? ⟨gb, 4, none⟩ = some (.slice C4 l4.length z4) := (blk_cell hbox 4).trans rfl; have fygb4 := blk_frozen hbox 4; have ygb5 : w1.cell? ⟨gb, 5, none⟩ = some (.slice C5 l5.length z5) := (blk_cell hbox 5).trans rfl; have fygb5 := blk_frozen hbox 5; have ygb6 : w1.cell? ⟨gb, 6, none⟩ = some (.bool a6) := (blk_cell hbox 6).trans rfl; have fygb6 := blk_frozen hbox 6; clear hg hbox hbx)) | fail)
  have HCF1 := Aside0.mk (HCF.out.below HXgb.out)
  have HLS1 := Aside0.mk (HLS.out.below HXgb.out)
  have HLB1 := Aside0.mk (HLB.out.below HXgb.out)
  clear HCF HLS HLB ygb0 fygb0 ygb1 fygb1 ygb2 fygb2 ygb3 fygb3 ygb4 fygb4 ygb5 fygb5 ygb6 fygb6
  refine (confCopied_calls (c := (a0, a1, a2, l3, l4, l5, a6)) HCF1.out H3.out H4.out H5.out).mono ?_
  rintro e w2 ⟨B3, p3, B4, p4, B5, p5, rfl, hcf, hbel⟩
  have HCP2 := Aside0.mk hcf
  have HB2 := Aside0.mk (HXgb.out.trans (hbel.mono HXgb.out.size))
  have HLS2 := Aside0.mk (HLS1.out.below hbel)
  have HLB2 := Aside0.mk (HLB1.out.below hbel)
  clear hcf hbel HCF1 HLS1 HLB1 HXgb
  dsimp only [ConfV]
  go_wp2_with fail
  refine (copied_calls HLS2.out HS.out (fun x hx => by have := HF.out x hx; omega)).mono ?_
  rintro e w3 ⟨A1, q1, rfl, hcl, hbel⟩
  have HCL3 := Aside0.mk hcl
  have HB3 := Aside0.mk (HB2.out.trans (hbel.mono HB2.out.size))
  have HCP3 := Aside0.mk (HCP2.out.below hbel)
  have HLB3 := Aside0.mk (HLB2.out.below hbel)
  clear hcl hbel HCP2 HLS2 HLB2 HB2
  go_wp2_with fail
  refine (write_calls (c := (a0, a1, a2, l3, l4, l5, a6)) HCP3.out HCL3.out HS.out).mono ?_
  rintro e w4 ⟨Aw, qw, rfl, hbw, hbel⟩
  have HW4 := Aside0.mk hbw
  have HBx4 := Aside0.mk (HB3.out.trans (hbel.mono HB3.out.size))
  have HLB4 := Aside0.mk (HLB3.out.below hbel)
  clear hbw hbel HCP3 HCL3 HLB3 HB3
  cases hR : rightC (a0, a1, a2, l3, l4, l5, a6) ls with
  | false =>
    have ee : wrE (a0, a1, a2, l3, l4, l5, a6) ls = 1 := by unfold wrE; rw [if_neg (by rw [hR]; decide)]
    rw [ee]
    clear ee hR
    go_wp2_with fail
    refine (awake_true _).mono ?_
    rintro e w5 ⟨rfl, hbel⟩
    have HB5x := Aside0.mk (HBx4.out.trans (hbel.mono HBx4.out.size))
    clear hbel
    go_wp2_with fail
    go_ret
    exact ⟨rfl, HB5x.out⟩
  | true =>
    have ew : wrB (a0, a1, a2, l3, l4, l5, a6) ls = lifeC (a0, a1, a2, l3, l4, l5, a6) ls := by unfold wrB; rw [if_pos hR]
    have ee : wrE (a0, a1, a2, l3, l4, l5, a6) ls = 0 := by unfold wrE; rw [if_pos hR]
    rw [ew] at HW4 ⊢
    rw [ee]
    have hbyt := lifeC_byt (c := (a0, a1, a2, l3, l4, l5, a6)) HB4.out HB5.out HBF.out
    have hlen := lifeC_len2 hR HS.out
    have h4 := lifeC_pos (a0, a1, a2, l3, l4, l5, a6) ls hR HS.out
    have HCUT := Aside0.mk (readL_cut (a0, a1, a2, l3, l4, l5, a6) ls hR HS.out hbyt hlen)
    have HMORE := Aside0.mk (readL_more (a0, a1, a2, l3, l4, l5, a6) ls lb hR HS.out)
    obtain ⟨lw, hlw⟩ : ∃ lw, lw = lifeC (a0, a1, a2, l3, l4, l5, a6) ls := ⟨_, rfl⟩
    rw [← hlw] at HW4 HCUT HMORE hbyt hlen h4 ⊢
    have HBYT := Aside0.mk hbyt
    clear hlw ew ee hR hbyt
    obtain ⟨k, hk, hpl⟩ := place_at n lw.length (by omega) (by omega)
    have HPL := Aside0.mk hpl
    have hlt : (lw.take k).length = k := by rw [List.length_take]; omega
    have HLT := Aside0.mk hlt
    have HNK := Aside0.mk (HCUT.out k hk)
    have HXK := Aside0.mk (show rdX (lw.take k) = ((0, 0, 0, [], [], [], false), [], 1) by unfold rdX; rw [HCUT.out k hk])
    have HBK := Aside0.mk (show Byt (lw.take k) from fun y hy => HBYT.out y (List.mem_of_mem_take hy))
    have HTK := Aside0.mk (fun (W : World) (h : BytR W lw Aw qw) => (show BytR W (lw.take k) Aw qw from ⟨Kd.C_take (m := k) h.r (Nat.le_of_lt hk), by have h1 := h.c; rw [hlt]; exact Nat.le_trans (Nat.le_of_lt hk) h1⟩))
    have hqw := HW4.out.c
    have e0 : ((lw.length : Int) == 0) = false := beq_eq_false_iff_ne.mpr (by omega)
    clear hpl hlt HCUT
    go_wp2_with fail
    refine (citadellaw00_Place.calls n (lw.length : Int) (k : Int) _ HPL.out).mono ?_
    rintro e w5 ⟨rfl, hd5⟩
    have HB5 := Aside0.mk hd5.below
    have HW5 := Aside0.mk (HW4.out.below hd5.below)
    have HLB5 := Aside0.mk (HLB4.out.below hd5.below)
    have HBx5 := Aside0.mk (HBx4.out.trans (hd5.below.mono HBx4.out.size))
    clear hd5 HW4 HLB4 HBx4 e0
    have HRD := Aside0.mk (show Calls Tryz.prog 8 #[.slice Aw k qw] w5 (ReadPost w5 (lw.take k)) by
      have h := HTK.out w5 HW5.out
      have := read_calls w5 Aw qw (lw.take k) h.r h.c HBK.out (by rw [HLT.out]; omega)
      rwa [HLT.out] at this)
    go_wp2_with fail
    refine HRD.out.mono ?_
    intro e w6 hp
    obtain ⟨D3, D3q, D4, D4q, D5, D5q, Dl, ul, rfl, hcf, hls, hbel⟩ := read_uni hp
    rw [HXK.out]
    have HW6 := Aside0.mk (HW5.out.below hbel)
    have HLB6 := Aside0.mk (HLB5.out.below hbel)
    have HBx6 := Aside0.mk (HBx5.out.trans (hbel.mono HBx5.out.size))
    clear hp hcf hls hbel HW5 HLB5 HBx5 HRD HB5
    dsimp only [ConfV]
    go_wp2_with (first | ((with_reducible refine gate_dst (N := 11) rfl ?_); go_loud (refine box_event ?hg (N := 11) ?hd (cs := #[.int .i64 0, .int .i64 0, .int .i64 0, .slice none 0 0, .slice none 0 0, .slice none 0 0, .bool false]) (t := 25) ?hr ?_; (case hd => rfl); (case hg => rfl); (case hr => first | (go_simp; done) | (go_simp; rfl)); intro g1 hg w7 hbox hbx; have HLg1 := Aside0.mk (show w6.heap.size ≤ g1 by omega); have HXg1 := Aside0.mk hbx; have yg10 : w7.cell? ⟨g1, 0, none⟩ = some (.int .i64 0) := (blk_cell hbox 0).trans rfl; have fyg10 := blk_frozen hbox 0; have yg11 : w7.cell? ⟨g1, 1, none⟩ = some (.int .i64 0) := (blk_cell hbox 1).trans rfl; have fyg11 := blk_frozen hbox 1; have yg12 : w7.cell? ⟨g1, 2, none⟩ = some (.int .i64 0) := (blk_cell hbox 2).trans rfl; have fyg12 := blk_frozen hbox 2; have yg13 : w7.cell? ⟨g1, 3, none⟩ = some (.slice none 0 0) := (blk_cell hbox 3).trans rfl; have fyg13 := blk_frozen hbox 3; have yg14 : w7.cell? ⟨g1, 4, none⟩ = some (.slice none 0 0) := (blk_cell hbox 4).trans rfl; have fyg14 := blk_frozen hbox 4; have yg15 : w7.cell? ⟨g1, 5, none⟩ = some (.slice none 0 0) := (blk_cell hbox 5).trans rfl; have fyg15 := blk_frozen hbox 5; have yg16 : w7.cell? ⟨g1, 6, none⟩ = some (.bool false) := (blk_cell hbox 6).trans rfl; have fyg16 := blk_frozen hbox 6; clear hg hbox hbx)) | fail)
    have hb7 : Below w6.heap.size w6 (((((((w7.setCell ⟨g1, 0, none⟩ (.int .i64 0)).setCell ⟨g1, 1, none⟩ (.int .i64 0)).setCell ⟨g1, 2, none⟩ (.int .i64 0)).setCell ⟨g1, 3, none⟩ (.slice D3 0 D3q)).setCell ⟨g1, 4, none⟩ (.slice D4 0 D4q)).setCell ⟨g1, 5, none⟩ (.slice D5 0 D5q)).setCell ⟨g1, 6, none⟩ (.bool false)) := ((((((HXg1.out.setCell HLg1.out _).setCell HLg1.out _).setCell HLg1.out _).setCell HLg1.out _).setCell HLg1.out _).setCell HLg1.out _).setCell HLg1.out _
    obtain ⟨w8, hw8⟩ : ∃ w8, w8 = (((((((w7.setCell ⟨g1, 0, none⟩ (.int .i64 0)).setCell ⟨g1, 1, none⟩ (.int .i64 0)).setCell ⟨g1, 2, none⟩ (.int .i64 0)).setCell ⟨g1, 3, none⟩ (.slice D3 0 D3q)).setCell ⟨g1, 4, none⟩ (.slice D4 0 D4q)).setCell ⟨g1, 5, none⟩ (.slice D5 0 D5q)).setCell ⟨g1, 6, none⟩ (.bool false)) := ⟨_, rfl⟩
    rw [← hw8] at hb7 ⊢
    have HW8 := Aside0.mk (HW6.out.below hb7)
    have HLB8 := Aside0.mk (HLB6.out.below hb7)
    have HBx8 := Aside0.mk (HBx6.out.trans (hb7.mono HBx6.out.size))
    clear hb7 hw8 HW6 HLB6 HBx6 HXg1 HLg1 yg10 fyg10 yg11 fyg11 yg12 fyg12 yg13 fyg13 yg14 fyg14 yg15 fyg15 yg16 fyg16
    refine (citadellaw00_CopyBytes.calls Aw qw lw lw w8 HW8.out.r HW8.out.c (by unfold citadellaw00_CopyBytes.f; rw [if_pos (by simp; omega)]; rfl)).mono ?_
    rintro e w9 ⟨vc, rfl, hrc, hbel⟩
    obtain ⟨Ac, qc, ec⟩ := Kd.R_slice hrc
    subst ec
    have HO9 := Aside0.mk hrc
    have HB9 := Aside0.mk hbel
    have HLB9 := Aside0.mk (HLB8.out.below hbel)
    clear hrc hbel
    go_wp2_with (first | ((with_reducible refine gate_builtin (b := .append) (xs := #[.tmp 46, .tmp 47]) rfl ?_); at_builtin; refine Kd.R_append_rows (Kd.int .u8) (w0 := w8) w8.heap.size rfl (.tmp 46) (.tmp 47) 23 5 (.int .u8 0) 1 rfl Tryz.underlying23 info5 rfl (by decide) (by omega) (.slice Ac lw.length qc) lw lb _ _ _ (fun _ => True) (fun _ => False) rfl rfl ?aO ?aR (fun _ _ h => h) (fun _ h => h.elim) ?aF ?aB ?aS ?aL ?_; (case aR => exact HLB9.out.r); (case aB => exact HB9.out); (case aF => exact (fun _ _ => trivial)); (case aO => exact HO9.out); (case aS => exact HB9.out.size); (case aL => omega); intro vA w10 hoA hbA hgA _; have HOA := Aside0.mk hoA; have HBA := Aside0.mk hbA; clear hoA hbA hgA) | fail)
    obtain ⟨AA, qA, eA⟩ := Kd.R_slice HOA.out
    subst eA
    have HR10 := Aside0.mk (read_calls w10 AA qA (lw ++ lb) (Kd.R_reads' HOA.out).2.2 (Kd.R_reads' HOA.out).2.1 (HBYT.out.app HBB.out) (by simp; omega))
    have HW10 := Aside0.mk (show BytR w10 lw Aw qw from ⟨Kd.C_below HW8.out.r HBA.out, HW8.out.c⟩)
    have HBx10 := Aside0.mk (HBx8.out.trans (HBA.out.mono HBx8.out.size))
    clear HOA HBA HO9 HB9 HLB9 HW8 HLB8 HBx8
    refine HR10.out.mono ?_
    intro e w11 hp
    obtain ⟨E3, E3q, E4, E4q, E5, E5q, El, vl, rfl, hcf, hls, hbel⟩ := read_uni hp
    have HW11 := Aside0.mk (HW10.out.below hbel)
    have HBx11 := Aside0.mk (HBx10.out.trans (hbel.mono HBx10.out.size))
    have HRE := Aside0.mk (show (rdX (lw ++ lb)).2.2 = if lb = [] then 0 else 1 by unfold rdX; rw [HMORE.out]; by_cases c : lb = [] <;> simp [c])
    obtain ⟨X, hX⟩ : ∃ X, X = rdX (lw ++ lb) := ⟨_, rfl⟩
    rw [← hX] at HRE ⊢
    clear hX hp hcf hls hbel HR10 HW10 HBx10 HMORE
    obtain ⟨⟨x0, x1, x2, y3, y4, y5, x6⟩, yl, xe⟩ := X
    simp only at HRE
    have HLX := Aside0.mk (show (lb = [] ∧ xe = 0 ∧ lb.length = 0) ∨ (xe = 1 ∧ 0 < lb.length) by
      have := HRE.out
      by_cases c : lb = []
      · rw [if_pos c] at this; exact .inl ⟨c, this, by rw [c]; rfl⟩
      · rw [if_neg c] at this; exact .inr ⟨this, List.length_pos_iff.2 c⟩)
    clear HRE
    dsimp only [ConfV]
    go_wp2_with (first | ((with_reducible refine gate_dst (N := 14) rfl ?_); go_loud (refine box_event ?hg (N := 14) ?hd (cs := #[.int .i64 0, .int .i64 0, .int .i64 0, .slice none 0 0, .slice none 0 0, .slice none 0 0, .bool false]) (t := 25) ?hr ?_; (case hd => rfl); (case hg => rfl); (case hr => first | (go_simp; done) | (go_simp; rfl)); intro g2 hg w12 hbox hbx; have HLg2 := Aside0.mk (show w11.heap.size ≤ g2 by omega); have HXg2 := Aside0.mk hbx; have yg20 : w12.cell? ⟨g2, 0, none⟩ = some (.int .i64 0) := (blk_cell hbox 0).trans rfl; have fyg20 := blk_frozen hbox 0; have yg21 : w12.cell? ⟨g2, 1, none⟩ = some (.int .i64 0) := (blk_cell hbox 1).trans rfl; have fyg21 := blk_frozen hbox 1; have yg22 : w12.cell? ⟨g2, 2, none⟩ = some (.int .i64 0) := (blk_cell hbox 2).trans rfl; have fyg22 := blk_frozen hbox 2; have yg23 : w12.cell? ⟨g2, 3, none⟩ = some (.slice none 0 0) := (blk_cell hbox 3).trans rfl; have fyg23 := blk_frozen hbox 3; have yg24 : w12.cell? ⟨g2, 4, none⟩ = some (.slice none 0 0) := (blk_cell hbox 4).trans rfl; have fyg24 := blk_frozen hbox 4; have yg25 : w12.cell? ⟨g2, 5, none⟩ = some (.slice none 0 0) := (blk_cell hbox 5).trans rfl; have fyg25 := blk_frozen hbox 5; have yg26 : w12.cell? ⟨g2, 6, none⟩ = some (.bool false) := (blk_cell hbox 6).trans rfl; have fyg26 := blk_frozen hbox 6; clear hg hbox hbx)) | fail)
    have hb12 : Below w11.heap.size w11 (((((((w12.setCell ⟨g2, 0, none⟩ (.int .i64 x0)).setCell ⟨g2, 1, none⟩ (.int .i64 x1)).setCell ⟨g2, 2, none⟩ (.int .i64 x2)).setCell ⟨g2, 3, none⟩ (.slice E3 y3.length E3q)).setCell ⟨g2, 4, none⟩ (.slice E4 y4.length E4q)).setCell ⟨g2, 5, none⟩ (.slice E5 y5.length E5q)).setCell ⟨g2, 6, none⟩ (.bool x6)) := ((((((HXg2.out.setCell HLg2.out _).setCell HLg2.out _).setCell HLg2.out _).setCell HLg2.out _).setCell HLg2.out _).setCell HLg2.out _).setCell HLg2.out _
    obtain ⟨w13, hw13⟩ : ∃ w13, w13 = (((((((w12.setCell ⟨g2, 0, none⟩ (.int .i64 x0)).setCell ⟨g2, 1, none⟩ (.int .i64 x1)).setCell ⟨g2, 2, none⟩ (.int .i64 x2)).setCell ⟨g2, 3, none⟩ (.slice E3 y3.length E3q)).setCell ⟨g2, 4, none⟩ (.slice E4 y4.length E4q)).setCell ⟨g2, 5, none⟩ (.slice E5 y5.length E5q)).setCell ⟨g2, 6, none⟩ (.bool x6)) := ⟨_, rfl⟩
    rw [← hw13] at hb12 ⊢
    have HW13 := Aside0.mk (HW11.out.below hb12)
    have HBx13 := Aside0.mk (HBx11.out.trans (hb12.mono HBx11.out.size))
    clear hb12 hw13 HW11 HBx11 HXg2 HLg2 yg20 fyg20 yg21 fyg21 yg22 fyg22 yg23 fyg23 yg24 fyg24 yg25 fyg25 yg26 fyg26
    refine (citadellaw00_Place.calls n (lw.length : Int) (k : Int) _ HPL.out).mono ?_
    rintro e w14 ⟨rfl, hd⟩
    have HW14 := Aside0.mk (HW13.out.below hd.below)
    have HBx14 := Aside0.mk (HBx13.out.trans (hd.below.mono HBx13.out.size))
    clear hd HW13 HBx13
    have HPY := Aside0.mk (show Calls Tryz.prog 11 #[.slice Aw k qw] w14 _ by
      have h := HTK.out w14 HW14.out
      have := play_none w14 Aw qw (lw.take k) h HBK.out (by rw [HLT.out]; omega) HNK.out
      rw [HLT.out] at this; exact this)
    go_wp2_with fail
    refine HPY.out.mono ?_
    rintro e w15 ⟨rfl, hbel⟩
    have HBx15 := Aside0.mk (HBx14.out.trans (hbel.mono HBx14.out.size))
    clear hbel HPY HW14 HBx14
    rcases HLX.out with ⟨_, hx, hl⟩ | ⟨hx, hl⟩
    · subst hx
      have e1 : decide ((lb.length : Int) > 0) = false := by simp; omega
      have e2 : decide (0 < (lb.length : Int)) = false := by simp; omega
      clear hl HLX
      go_wp2_with fail
      refine (awake_true _).mono ?_
      rintro e w16 ⟨rfl, hbel⟩
      have HBE := Aside0.mk (HBx15.out.trans (hbel.mono HBx15.out.size))
      clear hbel
      go_wp2_with fail
      go_ret
      exact ⟨rfl, HBE.out⟩
    · subst hx
      have e1 : decide ((lb.length : Int) > 0) = true := by simp; omega
      have e2 : decide (0 < (lb.length : Int)) = true := by simp; omega
      clear HLX
      go_wp2_with fail
      refine (awake_true _).mono ?_
      rintro e w16 ⟨rfl, hbel⟩
      have HBE := Aside0.mk (HBx15.out.trans (hbel.mono HBx15.out.size))
      clear hbel
      go_wp2_with fail
      go_ret
      exact ⟨rfl, HBE.out⟩
end Go.Proofs.YtgibdhdglppdcaaGreat.PU
