import Derived.Test.YtedlmdnineohkaaQ8
namespace Go.Proofs.Ytedlmdnineohkaa.PU
open Go.RowKit Go.Proofs.YtedlmdnineohkaaW.PrintWords Go.Proofs.YtedlmdnineohkaaW.PrintLast Go.Proofs.YtedlmdnineohkaaW.PrintMore
set_option linter.unusedVariables false
set_option linter.unusedSimpArgs false

theorem lifeC_labs (c : ConfT) (ls : List S56) : ls.length ≤ (lifeC c ls).length := by
  have h : ∀ l : List S56, l.length ≤ (labsB l).length := by
    intro l
    induction l with
    | nil => simp
    | cons x r ih => simp only [labsB, List.flatMap_cons, List.length_append, List.length_cons, labB] at *; simp at *; omega
  have := h ls
  simp only [lifeC, lifeB, tailB, List.length_append]
  omega
set_option maxRecDepth 100000 in
set_option maxHeartbeats 4000000 in
theorem traceRound_calls (w : World) (a0 a1 a2 : Int) (l3 l4 l5 : List Int) (a6 : Bool) (C3 C4 C5 A Ab : Option Addr) (z3 z4 z5 q qb : Nat) (ls : List S56) (lb : List Int) (hcf : ConfR w (a0, a1, a2, l3, l4, l5, a6) C3 z3 C4 z4 C5 z5) (hls : LabsR w ls A q) (hlb : BytR w lb Ab qb)
    (h3 : l3.length ≤ 1048576) (h4 : l4.length ≤ 1048576) (h5 : l5.length ≤ 1048576) (hs : ls.length ≤ 1048576) (hf : ∀ x ∈ ls, x.f2.length ≤ 1048576) (hb4 : Byt l4) (hb5 : Byt l5) (hbf : ∀ x ∈ ls, Byt x.f2) (hb : Byt lb) (hbl : lb.length ≤ 1048576) :
    Calls Try.prog 5 #[.agg #[.int .i64 a0, .int .i64 a1, .int .i64 a2, .slice C3 l3.length z3, .slice C4 l4.length z4, .slice C5 l5.length z5, .bool a6], .slice A ls.length q, .slice Ab lb.length qb] w fun e w' => e = .returned (.bool true) ∧ Below w.heap.size w w' := by
  have hu25 := Try.underlying25
  have HCF := Aside0.mk hcf
  have HLS := Aside0.mk hls
  have HLB := Aside0.mk hlb
  have H3 := Aside0.mk h3
  have H4 := Aside0.mk h4
  have H5 := Aside0.mk h5
  have HS := Aside0.mk hs
  have HF := Aside0.mk hf
  have HB4 := Aside0.mk hb4
  have HB5 := Aside0.mk hb5
  have HBF := Aside0.mk hbf
  have HBB := Aside0.mk hb
  have HBL := Aside0.mk hbl
  clear hcf hls hlb h3 h4 h5 hs hf hb4 hb5 hbf hb hbl
  go_enter Try.func5, Try.ntmps5
  go_wp2_with (first | ((with_reducible refine gate_dst (N := 3) rfl ?_); go_loud (refine box_event ?hg (N := 3) ?hd (cs := #[.int .i64 a0, .int .i64 a1, .int .i64 a2, .slice C3 l3.length z3, .slice C4 l4.length z4, .slice C5 l5.length z5, .bool a6]) (t := 25) ?hr ?_; (case hd => rfl); (case hg => rfl); (case hr => first | (go_simp; done) | (go_simp; rfl)); intro gb hg w1 hbox hbx; have HLgb := Aside0.mk (show w.heap.size ≤ gb by omega); have HDgb := Aside0.mk hbox; have HXgb := Aside0.mk hbx; have ygb0 : w1.cell? ⟨gb, 0, none⟩ = some (.int .i64 a0) := (blk_cell hbox 0).trans rfl; have ygb1 : w1.cell? ⟨gb, 1, none⟩ = some (.int .i64 a1) := (blk_cell hbox 1).trans rfl; have ygb2 : w1.cell? ⟨gb, 2, none⟩ = some (.int .i64 a2) := (blk_cell hbox 2).trans rfl; have ygb3 : w1.cell? ⟨gb, 3, none⟩ = some (.slice C3 l3.length z3) := (blk_cell hbox 3).trans rfl; have ygb4 : w1.cell? ⟨gb, 4, none⟩ = some (.slice C4 l4.length z4) := (blk_cell hbox 4).trans rfl; have ygb5 : w1.cell? ⟨gb, 5, none⟩ = some (.slice C5 l5.length z5) := (blk_cell hbox 5).trans rfl; have ygb6 : w1.cell? ⟨gb, 6, none⟩ = some (.bool a6) := (blk_cell hbox 6).trans rfl; have fygb0 := blk_frozen hbox 0; have fygb1 := blk_frozen hbox 1; have fygb2 := blk_frozen hbox 2; have fygb3 := blk_frozen hbox 3; have fygb4 := blk_frozen hbox 4; have fygb5 := blk_frozen hbox 5; have fygb6 := blk_frozen hbox 6; clear hg hbox hbx)) | fail)
  have HCF1 := Aside0.mk (HCF.out.below HXgb.out)
  have HLS1 := Aside0.mk (HLS.out.below HXgb.out)
  have HLB1 := Aside0.mk (HLB.out.below HXgb.out)
  clear HCF HLS HLB ygb0 fygb0 ygb1 fygb1 ygb2 fygb2 ygb3 fygb3 ygb4 fygb4 ygb5 fygb5 ygb6 fygb6
  refine (confCopied_calls (c := (a0, a1, a2, l3, l4, l5, a6)) HCF1.out H3.out H4.out H5.out).mono ?_
  rintro e w2 ⟨B3, p3, B4, p4, B5, p5, rfl, hcf, hbel⟩
  have HCP2 := Aside0.mk hcf
  have HB2 := Aside0.mk (HXgb.out.trans (hbel.mono HXgb.out.size))
  have HCF2 := Aside0.mk (HCF1.out.below hbel)
  have HLS2 := Aside0.mk (HLS1.out.below hbel)
  have HLB2 := Aside0.mk (HLB1.out.below hbel)
  have HD2 := Aside0.mk (blk_below HDgb.out hbel)
  clear hcf hbel HCF1 HLS1 HLB1 HDgb HXgb
  dsimp only [ConfV]
  go_wp2_with fail
  refine (copied_calls HLS2.out HS.out (fun x hx => by have := HF.out x hx; omega)).mono ?_
  rintro e w3 ⟨A1, q1, rfl, hcl, hbel⟩
  have HCL3 := Aside0.mk hcl
  have HB3 := Aside0.mk (HB2.out.trans (hbel.mono HB2.out.size))
  have HCP3 := Aside0.mk (HCP2.out.below hbel)
  have HCF3 := Aside0.mk (HCF2.out.below hbel)
  have HLS3 := Aside0.mk (HLS2.out.below hbel)
  have HLB3 := Aside0.mk (HLB2.out.below hbel)
  have HD3 := Aside0.mk (blk_below HD2.out hbel)
  clear hcl hbel HCP2 HCF2 HLS2 HLB2 HD2 HB2
  go_wp2_with fail
  refine (write_calls (c := (a0, a1, a2, l3, l4, l5, a6)) HCP3.out HCL3.out HS.out).mono ?_
  rintro e w4 ⟨Aw, qw, rfl, hbw, hbel⟩
  have HW4 := Aside0.mk hbw
  have HBx4 := Aside0.mk (HB3.out.trans (hbel.mono HB3.out.size))
  have HCF4 := Aside0.mk (HCF3.out.below hbel)
  have HLS4 := Aside0.mk (HLS3.out.below hbel)
  have HLB4 := Aside0.mk (HLB3.out.below hbel)
  have HD4 := Aside0.mk (blk_below HD3.out hbel)
  clear hbw hbel HCP3 HCL3 HCF3 HLS3 HLB3 HD3 HB3
  cases hR : rightC (a0, a1, a2, l3, l4, l5, a6) ls with
  | true =>
    have ew : wrB (a0, a1, a2, l3, l4, l5, a6) ls = lifeC (a0, a1, a2, l3, l4, l5, a6) ls := by unfold wrB; rw [if_pos hR]
    have ee : wrE (a0, a1, a2, l3, l4, l5, a6) ls = 0 := by unfold wrE; rw [if_pos hR]
    rw [ew] at HW4 ⊢
    rw [ee]
    obtain ⟨lw, hlw⟩ : ∃ lw, lw = lifeC (a0, a1, a2, l3, l4, l5, a6) ls := ⟨_, rfl⟩
    rw [← hlw] at HW4 ⊢
    have HRD := Aside0.mk (show rdX lw = ((a0, a1, a2, l3, l4, l5, a6), ls, 0) by unfold rdX; rw [hlw, readL_of _ _ hR (by have := HS.out; omega)])
    have HWB := Aside0.mk (show Byt lw by rw [hlw]; exact lifeC_byt HB4.out HB5.out HBF.out)
    have HWL := Aside0.mk (show lw.length ≤ 8589934592 by rw [hlw]; exact lifeC_len hR HS.out)
    clear hlw ew ee hR
    go_wp2_with fail
    refine (read_calls w4 Aw qw lw HW4.out.r HW4.out.c HWB.out HWL.out).mono ?_
    intro e w5 hp
    obtain ⟨D3, u3, D4, u4, D5, u5, Dl, ul, rfl, hcf, hls, hbel⟩ := read_uni hp
    rw [HRD.out] at hcf hls ⊢
    have HRC5 := Aside0.mk (show ConfR w5 (a0, a1, a2, l3, l4, l5, a6) D3 u3 D4 u4 D5 u5 from hcf)
    have HRL5 := Aside0.mk (show LabsR w5 ls Dl ul from hls)
    have HB5x := Aside0.mk (HBx4.out.trans (hbel.mono HBx4.out.size))
    have HCF5 := Aside0.mk (HCF4.out.below hbel)
    have HLS5 := Aside0.mk (HLS4.out.below hbel)
    have HLB5 := Aside0.mk (HLB4.out.below hbel)
    have HD5 := Aside0.mk (blk_below HD4.out hbel)
    clear hp hcf hls hbel HW4 HCF4 HLS4 HLB4 HD4 HBx4 HRD HWB HWL
    dsimp only [ConfV]
    go_wp2_with (first | ((with_reducible refine gate_dst (N := 9) rfl ?_); go_loud (refine box_event ?hg (N := 9) ?hd (cs := #[.int .i64 0, .int .i64 0, .int .i64 0, .slice none 0 0, .slice none 0 0, .slice none 0 0, .bool false]) (t := 25) ?hr ?_; (case hd => rfl); (case hg => rfl); (case hr => first | (go_simp; done) | (go_simp; rfl)); intro g9 hg w6 hbox hbx; have HLg9 := Aside0.mk (show w5.heap.size ≤ g9 by omega); have HDg9 := Aside0.mk hbox; have HXg9 := Aside0.mk hbx; have yg90 : w6.cell? ⟨g9, 0, none⟩ = some (.int .i64 0) := (blk_cell hbox 0).trans rfl; have yg91 : w6.cell? ⟨g9, 1, none⟩ = some (.int .i64 0) := (blk_cell hbox 1).trans rfl; have yg92 : w6.cell? ⟨g9, 2, none⟩ = some (.int .i64 0) := (blk_cell hbox 2).trans rfl; have yg93 : w6.cell? ⟨g9, 3, none⟩ = some (.slice none 0 0) := (blk_cell hbox 3).trans rfl; have yg94 : w6.cell? ⟨g9, 4, none⟩ = some (.slice none 0 0) := (blk_cell hbox 4).trans rfl; have yg95 : w6.cell? ⟨g9, 5, none⟩ = some (.slice none 0 0) := (blk_cell hbox 5).trans rfl; have yg96 : w6.cell? ⟨g9, 6, none⟩ = some (.bool false) := (blk_cell hbox 6).trans rfl; have fyg90 := blk_frozen hbox 0; have fyg91 := blk_frozen hbox 1; have fyg92 := blk_frozen hbox 2; have fyg93 := blk_frozen hbox 3; have fyg94 := blk_frozen hbox 4; have fyg95 := blk_frozen hbox 5; have fyg96 := blk_frozen hbox 6; have x0 : w6.cell? ⟨gb, 0, none⟩ = some (.int .i64 a0) := (blk_cell (blk_below HD5.out hbx) 0).trans rfl; have x1 : w6.cell? ⟨gb, 1, none⟩ = some (.int .i64 a1) := (blk_cell (blk_below HD5.out hbx) 1).trans rfl; have x2 : w6.cell? ⟨gb, 2, none⟩ = some (.int .i64 a2) := (blk_cell (blk_below HD5.out hbx) 2).trans rfl; have x3 : w6.cell? ⟨gb, 3, none⟩ = some (.slice C3 l3.length z3) := (blk_cell (blk_below HD5.out hbx) 3).trans rfl; have x4 : w6.cell? ⟨gb, 4, none⟩ = some (.slice C4 l4.length z4) := (blk_cell (blk_below HD5.out hbx) 4).trans rfl; have x5 : w6.cell? ⟨gb, 5, none⟩ = some (.slice C5 l5.length z5) := (blk_cell (blk_below HD5.out hbx) 5).trans rfl; have x6 : w6.cell? ⟨gb, 6, none⟩ = some (.bool a6) := (blk_cell (blk_below HD5.out hbx) 6).trans rfl; have hne : gb ≠ g9 := (by have h9 := blk_lt HD5.out; omega); clear hg hbox hbx)) | fail)
    have hb9 : Below w5.heap.size w5 (((((((w6.setCell ⟨g9, 0, none⟩ (.int .i64 a0)).setCell ⟨g9, 1, none⟩ (.int .i64 a1)).setCell ⟨g9, 2, none⟩ (.int .i64 a2)).setCell ⟨g9, 3, none⟩ (.slice D3 l3.length u3)).setCell ⟨g9, 4, none⟩ (.slice D4 l4.length u4)).setCell ⟨g9, 5, none⟩ (.slice D5 l5.length u5)).setCell ⟨g9, 6, none⟩ (.bool a6)) := (((((((HXg9.out.setCell HLg9.out _).setCell HLg9.out _).setCell HLg9.out _).setCell HLg9.out _).setCell HLg9.out _).setCell HLg9.out _).setCell HLg9.out _)
    have HB7 := Aside0.mk (HB5x.out.trans (hb9.mono HB5x.out.size))
    have HRC7 := Aside0.mk (HRC5.out.below hb9)
    have HRL7 := Aside0.mk (HRL5.out.below hb9)
    have HCF7 := Aside0.mk (HCF5.out.below hb9)
    have HLS7 := Aside0.mk (HLS5.out.below hb9)
    have HLB7 := Aside0.mk (HLB5.out.below hb9)
    clear hb9 HB5x HRC5 HRL5 HCF5 HLS5 HLB5 HD5 HDg9 HXg9 HLg9 hne yg90 fyg90 yg91 fyg91 yg92 fyg92 yg93 fyg93 yg94 fyg94 yg95 fyg95 yg96 fyg96 x0 x1 x2 x3 x4 x5 x6
    refine (sameConf_same (c := (a0, a1, a2, l3, l4, l5, a6)) HCF7.out HRC7.out).mono ?_
    rintro e w8 ⟨rfl, hbel⟩
    have HB8 := Aside0.mk (HB7.out.trans (hbel.mono HB7.out.size))
    have HRL8 := Aside0.mk (HRL7.out.below hbel)
    have HLS8 := Aside0.mk (HLS7.out.below hbel)
    have HLB8 := Aside0.mk (HLB7.out.below hbel)
    clear hbel HB7 HRC7 HRL7 HCF7 HLS7 HLB7
    go_wp2_with fail
    refine (sameLab_same HRL8.out HLS8.out).mono ?_
    rintro e wT ⟨rfl, hbel⟩
    have HBT := Aside0.mk (HB8.out.trans (hbel.mono HB8.out.size))
    have HLBT := Aside0.mk (HLB8.out.below hbel)
    clear hbel HB8 HRL8 HLS8 HLB8
    go_wp2_with fail
    refine (read_calls _ Ab qb lb HLBT.out.r HLBT.out.c HBB.out (by have := HBL.out; omega)).mono ?_
    intro e wU hp
    obtain ⟨E3, s3, E4, s4, E5, s5, El, sl, rfl, hcf, hls, hbel⟩ := read_uni hp
    have HBU := Aside0.mk (HBT.out.trans (hbel.mono HBT.out.size))
    have HLBU := Aside0.mk (HLBT.out.below hbel)
    clear hp hbel HBT HLBT
    cases hL : readL lb with
    | none =>
      have hX : rdX lb = ((0, 0, 0, [], [], [], false), [], 1) := by unfold rdX; rw [hL]
      rw [hX]
      clear hX hL hcf hls
      dsimp only [ConfV]
      go_wp2_with (first | ((with_reducible refine gate_dst (N := 12) rfl ?_); go_loud (refine box_event ?hg (N := 12) ?hd (cs := #[.int .i64 0, .int .i64 0, .int .i64 0, .slice none 0 0, .slice none 0 0, .slice none 0 0, .bool false]) (t := 25) ?hr ?_; (case hd => rfl); (case hg => rfl); (case hr => first | (go_simp; done) | (go_simp; rfl)); intro gx hg wV hbox hbx; have HLgx := Aside0.mk (show wU.heap.size ≤ gx by omega); have HDgx := Aside0.mk hbox; have HXgx := Aside0.mk hbx; have ygx0 : wV.cell? ⟨gx, 0, none⟩ = some (.int .i64 0) := (blk_cell hbox 0).trans rfl; have ygx1 : wV.cell? ⟨gx, 1, none⟩ = some (.int .i64 0) := (blk_cell hbox 1).trans rfl; have ygx2 : wV.cell? ⟨gx, 2, none⟩ = some (.int .i64 0) := (blk_cell hbox 2).trans rfl; have ygx3 : wV.cell? ⟨gx, 3, none⟩ = some (.slice none 0 0) := (blk_cell hbox 3).trans rfl; have ygx4 : wV.cell? ⟨gx, 4, none⟩ = some (.slice none 0 0) := (blk_cell hbox 4).trans rfl; have ygx5 : wV.cell? ⟨gx, 5, none⟩ = some (.slice none 0 0) := (blk_cell hbox 5).trans rfl; have ygx6 : wV.cell? ⟨gx, 6, none⟩ = some (.bool false) := (blk_cell hbox 6).trans rfl; have fygx0 := blk_frozen hbox 0; have fygx1 := blk_frozen hbox 1; have fygx2 := blk_frozen hbox 2; have fygx3 := blk_frozen hbox 3; have fygx4 := blk_frozen hbox 4; have fygx5 := blk_frozen hbox 5; have fygx6 := blk_frozen hbox 6; clear hg hbox hbx)) | fail)
      have hb12 : Below wU.heap.size wU (((((((wV.setCell ⟨gx, 0, none⟩ (.int .i64 0)).setCell ⟨gx, 1, none⟩ (.int .i64 0)).setCell ⟨gx, 2, none⟩ (.int .i64 0)).setCell ⟨gx, 3, none⟩ (.slice E3 0 s3)).setCell ⟨gx, 4, none⟩ (.slice E4 0 s4)).setCell ⟨gx, 5, none⟩ (.slice E5 0 s5)).setCell ⟨gx, 6, none⟩ (.bool false)) := (((((((HXgx.out.setCell HLgx.out _).setCell HLgx.out _).setCell HLgx.out _).setCell HLgx.out _).setCell HLgx.out _).setCell HLgx.out _).setCell HLgx.out _)
      have HBV := Aside0.mk (HBU.out.trans (hb12.mono HBU.out.size))
      clear hb12 HBU HLBU HDgx HXgx HLgx ygx0 fygx0 ygx1 fygx1 ygx2 fygx2 ygx3 fygx3 ygx4 fygx4 ygx5 fygx5 ygx6 fygx6
      refine (awake_true _).mono ?_
      rintro e wZ ⟨rfl, hbel⟩
      have HBZ := Aside0.mk (HBV.out.trans (hbel.mono HBV.out.size))
      clear hbel HBV
      go_wp2_with fail
      go_ret
      exact ⟨rfl, HBZ.out⟩
    | some x =>
      obtain ⟨⟨d0, d1, d2, m3, m4, m5, d6⟩, lm⟩ := x
      have hX : rdX lb = ((d0, d1, d2, m3, m4, m5, d6), lm, 0) := by unfold rdX; rw [hL]
      obtain ⟨hr2, he2⟩ := readL_inv HBB.out hL
      have HM := Aside0.mk (show lm.length ≤ 1048576 by have h1 := lifeC_labs (d0, d1, d2, m3, m4, m5, d6) lm; rw [← he2] at h1; have := HBL.out; omega)
      have HWR := Aside0.mk (show wrB (d0, d1, d2, m3, m4, m5, d6) lm = lb by unfold wrB; rw [if_pos hr2, ← he2])
      have HWE := Aside0.mk (show wrE (d0, d1, d2, m3, m4, m5, d6) lm = 0 by unfold wrE; rw [if_pos hr2])
      rw [hX] at hcf hls ⊢
      have HC := Aside0.mk (show ConfR wU (d0, d1, d2, m3, m4, m5, d6) E3 s3 E4 s4 E5 s5 from hcf)
      have HL := Aside0.mk (show LabsR wU lm El sl from hls)
      clear hX hL hcf hls hr2 he2
      dsimp only [ConfV]
      go_wp2_with (first | ((with_reducible refine gate_dst (N := 12) rfl ?_); go_loud (refine box_event ?hg (N := 12) ?hd (cs := #[.int .i64 0, .int .i64 0, .int .i64 0, .slice none 0 0, .slice none 0 0, .slice none 0 0, .bool false]) (t := 25) ?hr ?_; (case hd => rfl); (case hg => rfl); (case hr => first | (go_simp; done) | (go_simp; rfl)); intro gx hg wV hbox hbx; have HLgx := Aside0.mk (show wU.heap.size ≤ gx by omega); have HDgx := Aside0.mk hbox; have HXgx := Aside0.mk hbx; have ygx0 : wV.cell? ⟨gx, 0, none⟩ = some (.int .i64 0) := (blk_cell hbox 0).trans rfl; have ygx1 : wV.cell? ⟨gx, 1, none⟩ = some (.int .i64 0) := (blk_cell hbox 1).trans rfl; have ygx2 : wV.cell? ⟨gx, 2, none⟩ = some (.int .i64 0) := (blk_cell hbox 2).trans rfl; have ygx3 : wV.cell? ⟨gx, 3, none⟩ = some (.slice none 0 0) := (blk_cell hbox 3).trans rfl; have ygx4 : wV.cell? ⟨gx, 4, none⟩ = some (.slice none 0 0) := (blk_cell hbox 4).trans rfl; have ygx5 : wV.cell? ⟨gx, 5, none⟩ = some (.slice none 0 0) := (blk_cell hbox 5).trans rfl; have ygx6 : wV.cell? ⟨gx, 6, none⟩ = some (.bool false) := (blk_cell hbox 6).trans rfl; have fygx0 := blk_frozen hbox 0; have fygx1 := blk_frozen hbox 1; have fygx2 := blk_frozen hbox 2; have fygx3 := blk_frozen hbox 3; have fygx4 := blk_frozen hbox 4; have fygx5 := blk_frozen hbox 5; have fygx6 := blk_frozen hbox 6; clear hg hbox hbx)) | fail)
      have hb12 : Below wU.heap.size wU (((((((wV.setCell ⟨gx, 0, none⟩ (.int .i64 d0)).setCell ⟨gx, 1, none⟩ (.int .i64 d1)).setCell ⟨gx, 2, none⟩ (.int .i64 d2)).setCell ⟨gx, 3, none⟩ (.slice E3 m3.length s3)).setCell ⟨gx, 4, none⟩ (.slice E4 m4.length s4)).setCell ⟨gx, 5, none⟩ (.slice E5 m5.length s5)).setCell ⟨gx, 6, none⟩ (.bool d6)) := (((((((HXgx.out.setCell HLgx.out _).setCell HLgx.out _).setCell HLgx.out _).setCell HLgx.out _).setCell HLgx.out _).setCell HLgx.out _).setCell HLgx.out _)
      have HBV := Aside0.mk (HBU.out.trans (hb12.mono HBU.out.size))
      have HCV := Aside0.mk (HC.out.below hb12)
      have HLV := Aside0.mk (HL.out.below hb12)
      have HLBV := Aside0.mk (HLBU.out.below hb12)
      clear hb12 HBU HLBU HC HL HDgx HXgx HLgx ygx0 fygx0 ygx1 fygx1 ygx2 fygx2 ygx3 fygx3 ygx4 fygx4 ygx5 fygx5 ygx6 fygx6
      refine (write_calls (c := (d0, d1, d2, m3, m4, m5, d6)) HCV.out HLV.out HM.out).mono ?_
      rintro e wX ⟨Ax, qx, rfl, hbw, hbel⟩
      rw [HWR.out] at hbw ⊢
      rw [HWE.out]
      have HWX := Aside0.mk hbw
      have HBX := Aside0.mk (HBV.out.trans (hbel.mono HBV.out.size))
      have HLBX := Aside0.mk (HLBV.out.below hbel)
      clear hbw hbel HBV HCV HLV HLBV HWR HWE
      go_wp2_with fail
      refine (sameB_same HWX.out HLBX.out).mono ?_
      rintro e wY ⟨rfl, hbel⟩
      have HBY := Aside0.mk (HBX.out.trans (hbel.mono HBX.out.size))
      clear hbel HBX HWX HLBX
      go_wp2_with fail
      refine (awake_true _).mono ?_
      rintro e wZ ⟨rfl, hbel⟩
      have HBZ := Aside0.mk (HBY.out.trans (hbel.mono HBY.out.size))
      clear hbel HBY
      go_wp2_with fail
      go_ret
      exact ⟨rfl, HBZ.out⟩
  | false =>
    have ew : wrB (a0, a1, a2, l3, l4, l5, a6) ls = [] := by unfold wrB; rw [if_neg (by rw [hR]; decide)]
    have ee : wrE (a0, a1, a2, l3, l4, l5, a6) ls = 1 := by unfold wrE; rw [if_neg (by rw [hR]; decide)]
    rw [ew] at HW4 ⊢
    rw [ee]
    have HBT := HBx4
    have HLBT := HLB4
    clear ew ee hR HBx4 HLB4 HW4 HCF4 HLS4 HD4
    go_wp2_with fail
    refine (read_calls _ Ab qb lb HLBT.out.r HLBT.out.c HBB.out (by have := HBL.out; omega)).mono ?_
    intro e wU hp
    obtain ⟨E3, s3, E4, s4, E5, s5, El, sl, rfl, hcf, hls, hbel⟩ := read_uni hp
    have HBU := Aside0.mk (HBT.out.trans (hbel.mono HBT.out.size))
    have HLBU := Aside0.mk (HLBT.out.below hbel)
    clear hp hbel HBT HLBT
    cases hL : readL lb with
    | none =>
      have hX : rdX lb = ((0, 0, 0, [], [], [], false), [], 1) := by unfold rdX; rw [hL]
      rw [hX]
      clear hX hL hcf hls
      dsimp only [ConfV]
      go_wp2_with (first | ((with_reducible refine gate_dst (N := 12) rfl ?_); go_loud (refine box_event ?hg (N := 12) ?hd (cs := #[.int .i64 0, .int .i64 0, .int .i64 0, .slice none 0 0, .slice none 0 0, .slice none 0 0, .bool false]) (t := 25) ?hr ?_; (case hd => rfl); (case hg => rfl); (case hr => first | (go_simp; done) | (go_simp; rfl)); intro gx hg wV hbox hbx; have HLgx := Aside0.mk (show wU.heap.size ≤ gx by omega); have HDgx := Aside0.mk hbox; have HXgx := Aside0.mk hbx; have ygx0 : wV.cell? ⟨gx, 0, none⟩ = some (.int .i64 0) := (blk_cell hbox 0).trans rfl; have ygx1 : wV.cell? ⟨gx, 1, none⟩ = some (.int .i64 0) := (blk_cell hbox 1).trans rfl; have ygx2 : wV.cell? ⟨gx, 2, none⟩ = some (.int .i64 0) := (blk_cell hbox 2).trans rfl; have ygx3 : wV.cell? ⟨gx, 3, none⟩ = some (.slice none 0 0) := (blk_cell hbox 3).trans rfl; have ygx4 : wV.cell? ⟨gx, 4, none⟩ = some (.slice none 0 0) := (blk_cell hbox 4).trans rfl; have ygx5 : wV.cell? ⟨gx, 5, none⟩ = some (.slice none 0 0) := (blk_cell hbox 5).trans rfl; have ygx6 : wV.cell? ⟨gx, 6, none⟩ = some (.bool false) := (blk_cell hbox 6).trans rfl; have fygx0 := blk_frozen hbox 0; have fygx1 := blk_frozen hbox 1; have fygx2 := blk_frozen hbox 2; have fygx3 := blk_frozen hbox 3; have fygx4 := blk_frozen hbox 4; have fygx5 := blk_frozen hbox 5; have fygx6 := blk_frozen hbox 6; clear hg hbox hbx)) | fail)
      have hb12 : Below wU.heap.size wU (((((((wV.setCell ⟨gx, 0, none⟩ (.int .i64 0)).setCell ⟨gx, 1, none⟩ (.int .i64 0)).setCell ⟨gx, 2, none⟩ (.int .i64 0)).setCell ⟨gx, 3, none⟩ (.slice E3 0 s3)).setCell ⟨gx, 4, none⟩ (.slice E4 0 s4)).setCell ⟨gx, 5, none⟩ (.slice E5 0 s5)).setCell ⟨gx, 6, none⟩ (.bool false)) := (((((((HXgx.out.setCell HLgx.out _).setCell HLgx.out _).setCell HLgx.out _).setCell HLgx.out _).setCell HLgx.out _).setCell HLgx.out _).setCell HLgx.out _)
      have HBV := Aside0.mk (HBU.out.trans (hb12.mono HBU.out.size))
      clear hb12 HBU HLBU HDgx HXgx HLgx ygx0 fygx0 ygx1 fygx1 ygx2 fygx2 ygx3 fygx3 ygx4 fygx4 ygx5 fygx5 ygx6 fygx6
      refine (awake_true _).mono ?_
      rintro e wZ ⟨rfl, hbel⟩
      have HBZ := Aside0.mk (HBV.out.trans (hbel.mono HBV.out.size))
      clear hbel HBV
      go_wp2_with fail
      go_ret
      exact ⟨rfl, HBZ.out⟩
    | some x =>
      obtain ⟨⟨d0, d1, d2, m3, m4, m5, d6⟩, lm⟩ := x
      have hX : rdX lb = ((d0, d1, d2, m3, m4, m5, d6), lm, 0) := by unfold rdX; rw [hL]
      obtain ⟨hr2, he2⟩ := readL_inv HBB.out hL
      have HM := Aside0.mk (show lm.length ≤ 1048576 by have h1 := lifeC_labs (d0, d1, d2, m3, m4, m5, d6) lm; rw [← he2] at h1; have := HBL.out; omega)
      have HWR := Aside0.mk (show wrB (d0, d1, d2, m3, m4, m5, d6) lm = lb by unfold wrB; rw [if_pos hr2, ← he2])
      have HWE := Aside0.mk (show wrE (d0, d1, d2, m3, m4, m5, d6) lm = 0 by unfold wrE; rw [if_pos hr2])
      rw [hX] at hcf hls ⊢
      have HC := Aside0.mk (show ConfR wU (d0, d1, d2, m3, m4, m5, d6) E3 s3 E4 s4 E5 s5 from hcf)
      have HL := Aside0.mk (show LabsR wU lm El sl from hls)
      clear hX hL hcf hls hr2 he2
      dsimp only [ConfV]
      go_wp2_with (first | ((with_reducible refine gate_dst (N := 12) rfl ?_); go_loud (refine box_event ?hg (N := 12) ?hd (cs := #[.int .i64 0, .int .i64 0, .int .i64 0, .slice none 0 0, .slice none 0 0, .slice none 0 0, .bool false]) (t := 25) ?hr ?_; (case hd => rfl); (case hg => rfl); (case hr => first | (go_simp; done) | (go_simp; rfl)); intro gx hg wV hbox hbx; have HLgx := Aside0.mk (show wU.heap.size ≤ gx by omega); have HDgx := Aside0.mk hbox; have HXgx := Aside0.mk hbx; have ygx0 : wV.cell? ⟨gx, 0, none⟩ = some (.int .i64 0) := (blk_cell hbox 0).trans rfl; have ygx1 : wV.cell? ⟨gx, 1, none⟩ = some (.int .i64 0) := (blk_cell hbox 1).trans rfl; have ygx2 : wV.cell? ⟨gx, 2, none⟩ = some (.int .i64 0) := (blk_cell hbox 2).trans rfl; have ygx3 : wV.cell? ⟨gx, 3, none⟩ = some (.slice none 0 0) := (blk_cell hbox 3).trans rfl; have ygx4 : wV.cell? ⟨gx, 4, none⟩ = some (.slice none 0 0) := (blk_cell hbox 4).trans rfl; have ygx5 : wV.cell? ⟨gx, 5, none⟩ = some (.slice none 0 0) := (blk_cell hbox 5).trans rfl; have ygx6 : wV.cell? ⟨gx, 6, none⟩ = some (.bool false) := (blk_cell hbox 6).trans rfl; have fygx0 := blk_frozen hbox 0; have fygx1 := blk_frozen hbox 1; have fygx2 := blk_frozen hbox 2; have fygx3 := blk_frozen hbox 3; have fygx4 := blk_frozen hbox 4; have fygx5 := blk_frozen hbox 5; have fygx6 := blk_frozen hbox 6; clear hg hbox hbx)) | fail)
      have hb12 : Below wU.heap.size wU (((((((wV.setCell ⟨gx, 0, none⟩ (.int .i64 d0)).setCell ⟨gx, 1, none⟩ (.int .i64 d1)).setCell ⟨gx, 2, none⟩ (.int .i64 d2)).setCell ⟨gx, 3, none⟩ (.slice E3 m3.length s3)).setCell ⟨gx, 4, none⟩ (.slice E4 m4.length s4)).setCell ⟨gx, 5, none⟩ (.slice E5 m5.length s5)).setCell ⟨gx, 6, none⟩ (.bool d6)) := (((((((HXgx.out.setCell HLgx.out _).setCell HLgx.out _).setCell HLgx.out _).setCell HLgx.out _).setCell HLgx.out _).setCell HLgx.out _).setCell HLgx.out _)
      have HBV := Aside0.mk (HBU.out.trans (hb12.mono HBU.out.size))
      have HCV := Aside0.mk (HC.out.below hb12)
      have HLV := Aside0.mk (HL.out.below hb12)
      have HLBV := Aside0.mk (HLBU.out.below hb12)
      clear hb12 HBU HLBU HC HL HDgx HXgx HLgx ygx0 fygx0 ygx1 fygx1 ygx2 fygx2 ygx3 fygx3 ygx4 fygx4 ygx5 fygx5 ygx6 fygx6
      refine (write_calls (c := (d0, d1, d2, m3, m4, m5, d6)) HCV.out HLV.out HM.out).mono ?_
      rintro e wX ⟨Ax, qx, rfl, hbw, hbel⟩
      rw [HWR.out] at hbw ⊢
      rw [HWE.out]
      have HWX := Aside0.mk hbw
      have HBX := Aside0.mk (HBV.out.trans (hbel.mono HBV.out.size))
      have HLBX := Aside0.mk (HLBV.out.below hbel)
      clear hbw hbel HBV HCV HLV HLBV HWR HWE
      go_wp2_with fail
      refine (sameB_same HWX.out HLBX.out).mono ?_
      rintro e wY ⟨rfl, hbel⟩
      have HBY := Aside0.mk (HBX.out.trans (hbel.mono HBX.out.size))
      clear hbel HBX HWX HLBX
      go_wp2_with fail
      refine (awake_true _).mono ?_
      rintro e wZ ⟨rfl, hbel⟩
      have HBZ := Aside0.mk (HBY.out.trans (hbel.mono HBY.out.size))
      clear hbel HBY
      go_wp2_with fail
      go_ret
      exact ⟨rfl, HBZ.out⟩
end Go.Proofs.Ytedlmdnineohkaa.PU
