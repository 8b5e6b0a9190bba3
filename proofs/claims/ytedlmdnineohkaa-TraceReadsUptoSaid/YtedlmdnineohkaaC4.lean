import Derived.Test.YtedlmdnineohkaaC3
namespace Go.Proofs.Ytedlmdnineohkaa.PU
open Go.RowKit Go.Proofs.YtedlmdnineohkaaW.PrintWords Go.Proofs.YtedlmdnineohkaaW.PrintLast Go.Proofs.YtedlmdnineohkaaW.PrintMore
set_option linter.unusedVariables false
set_option linter.unusedSimpArgs false

set_option maxRecDepth 100000 in
set_option maxHeartbeats 2000000 in
theorem traceReads_calls (w : World) (A : Option Addr) (c : Nat) (l : List Int) (hr : Kd.C (Kd.int .u8) w A l.length l) (hc : l.length ≤ c) (hb : ∀ x ∈ l, 0 ≤ x ∧ x < 256) (hl : l.length ≤ 4294967296) :
    Calls Try.prog 4 #[.slice A l.length c] w fun e w' => e = .returned (.bool true) ∧ Below w.heap.size w w' := by
  have hu25 := Try.underlying25
  have HR := Aside0.mk hr
  have HBY := Aside0.mk hb
  have HLL := Aside0.mk hl
  have HC := Aside0.mk hc
  clear hr hb hl hc
  go_enter Try.func4, Try.ntmps4
  go_wp2_with fail
  refine (lend_calls w A c l HR.out HC.out HLL.out).mono ?_
  rintro e w1 ⟨A1, c1, n1, rfl, hn, hnc, hlc, hr1, hr2, hb1⟩
  have HN := Aside0.mk hn
  have HNC := Aside0.mk hnc
  have HLC := Aside0.mk hlc
  have H1 := Aside0.mk hr1
  have H2 := Aside0.mk hr2
  have HB1 := Aside0.mk hb1
  have HR1 := Aside0.mk (Kd.C_below HR.out hb1)
  clear hn hnc hlc hr1 hr2 hb1 HR
  go_wp2_with fail
  refine (read_calls w1 A1 c1 l H1.out HLC.out HBY.out HLL.out).mono ?_
  intro e w2 hp
  obtain ⟨A3, q3, A4, q4, A5, q5, Al, ql, rfl, hcf, hls, hb2⟩ := read_uni hp
  have HCF := Aside0.mk hcf
  have HLS := Aside0.mk hls
  have HB2 := Aside0.mk (HB1.out.trans (hb2.mono HB1.out.size))
  have HR2 := Aside0.mk (Kd.C_below HR1.out hb2)
  have HM2 := Aside0.mk (Kd.C_below H2.out hb2)
  clear hp hcf hls hb2 HR1 H1 H2 HB1
  obtain ⟨⟨⟨a0, a1, a2, l3, l4, l5, a6⟩, ls, er⟩, hX⟩ : ∃ X, X = rdX l := ⟨_, rfl⟩
  simp only [ConfV]
  rw [← hX] at HCF HLS ⊢
  have HXX := Aside0.mk hX
  clear hX
  dsimp only at HLS ⊢
  go_wp2_with (first | ((with_reducible refine gate_dst (N := 5) rfl ?_); go_loud (refine box_event ?hg (N := 5) ?hd (cs := zconf) (t := 25) ?hr ?_; (case hd => rfl); (case hg => rfl); (case hr => first | (go_simp; done) | (go_simp; rfl)); intro g5 hg w3 hbox hb; have HL5 := Aside0.mk (show w2.heap.size ≤ g5 by omega); have HD5 := Aside0.mk hbox; have HBx5 := Aside0.mk hb; have y0 : w3.cell? ⟨g5, 0, none⟩ = some (.int .i64 0) := (blk_cell hbox 0).trans rfl; have fy0 := blk_frozen hbox 0; have y1 : w3.cell? ⟨g5, 1, none⟩ = some (.int .i64 0) := (blk_cell hbox 1).trans rfl; have fy1 := blk_frozen hbox 1; have y2 : w3.cell? ⟨g5, 2, none⟩ = some (.int .i64 0) := (blk_cell hbox 2).trans rfl; have fy2 := blk_frozen hbox 2; have y3 : w3.cell? ⟨g5, 3, none⟩ = some (.slice none 0 0) := (blk_cell hbox 3).trans rfl; have fy3 := blk_frozen hbox 3; have y4 : w3.cell? ⟨g5, 4, none⟩ = some (.slice none 0 0) := (blk_cell hbox 4).trans rfl; have fy4 := blk_frozen hbox 4; have y5 : w3.cell? ⟨g5, 5, none⟩ = some (.slice none 0 0) := (blk_cell hbox 5).trans rfl; have fy5 := blk_frozen hbox 5; have y6 : w3.cell? ⟨g5, 6, none⟩ = some (.bool false) := (blk_cell hbox 6).trans rfl; have fy6 := blk_frozen hbox 6; clear hg hbox hb)) | fail)
  have hb4 : Below w2.heap.size w2 (((((((w3.setCell ⟨g5, 0, none⟩ (.int .i64 a0)).setCell ⟨g5, 1, none⟩ (.int .i64 a1)).setCell ⟨g5, 2, none⟩ (.int .i64 a2)).setCell ⟨g5, 3, none⟩ (.slice A3 l3.length q3)).setCell ⟨g5, 4, none⟩ (.slice A4 l4.length q4)).setCell ⟨g5, 5, none⟩ (.slice A5 l5.length q5)).setCell ⟨g5, 6, none⟩ (.bool a6)) := (((((((HBx5.out.setCell HL5.out _).setCell HL5.out _).setCell HL5.out _).setCell HL5.out _).setCell HL5.out _).setCell HL5.out _).setCell HL5.out _)
  have HB4 := Aside0.mk (HB2.out.trans (hb4.mono HB2.out.size))
  have HR4 := Aside0.mk (Kd.C_below HR2.out hb4)
  have HM4 := Aside0.mk (Kd.C_below HM2.out hb4)
  have HCF4 := Aside0.mk (HCF.out.below hb4)
  have HLS4 := Aside0.mk (HLS.out.below hb4)
  have HD4 := Aside0.mk (show (((((((w3.setCell ⟨g5, 0, none⟩ (.int .i64 a0)).setCell ⟨g5, 1, none⟩ (.int .i64 a1)).setCell ⟨g5, 2, none⟩ (.int .i64 a2)).setCell ⟨g5, 3, none⟩ (.slice A3 l3.length q3)).setCell ⟨g5, 4, none⟩ (.slice A4 l4.length q4)).setCell ⟨g5, 5, none⟩ (.slice A5 l5.length q5)).setCell ⟨g5, 6, none⟩ (.bool a6)).heap[g5]? = some (.cells #[.int .i64 a0, .int .i64 a1, .int .i64 a2, .slice A3 l3.length q3, .slice A4 l4.length q4, .slice A5 l5.length q5, .bool a6] 25 (0, 0)) from (blk_set (blk_set (blk_set (blk_set (blk_set (blk_set (blk_set HD5.out 0 (.int .i64 a0)) 1 (.int .i64 a1)) 2 (.int .i64 a2)) 3 (.slice A3 l3.length q3)) 4 (.slice A4 l4.length q4)) 5 (.slice A5 l5.length q5)) 6 (.bool a6)))
  clear hb4 HB2 HR2 HM2 HCF HLS HD5 y0 fy0 y1 fy1 y2 fy2 y3 fy3 y4 fy4 y5 fy5 y6 fy6
  refine (rread_calls _ A c l HR4.out HC.out HBY.out HLL.out).mono ?_
  intro e w5 hp
  obtain ⟨B3, p3, B4, p4, B5, p5, Bl, pl, rfl, hcf, hls, hb5⟩ := read_uni hp
  have HCB := Aside0.mk hcf
  have HLB := Aside0.mk hls
  have HB5 := Aside0.mk (HB4.out.trans (hb5.mono HB4.out.size))
  have HR5 := Aside0.mk (Kd.C_below HR4.out hb5)
  have HM5 := Aside0.mk (Kd.C_below HM4.out hb5)
  have HCF5 := Aside0.mk (HCF4.out.below hb5)
  have HLS5 := Aside0.mk (HLS4.out.below hb5)
  have HD5 := Aside0.mk (blk_below HD4.out hb5)
  clear hp hcf hls hb5 HR4 HM4 HB4 HCF4 HLS4 HD4 HBx5 HL5
  simp only [ConfV]
  rw [← HXX.out] at HCB HLB ⊢
  dsimp only at HLB ⊢
  go_wp2_with (first | ((with_reducible refine gate_dst (N := 8) rfl ?_); go_loud (refine box_event ?hg (N := 8) ?hd (cs := zconf) (t := 25) ?hr ?_; (case hd => rfl); (case hg => rfl); (case hr => first | (go_simp; done) | (go_simp; rfl)); intro g8 hg w6 hbox hb; have HL8 := Aside0.mk (show w5.heap.size ≤ g8 by omega); have HD8 := Aside0.mk hbox; have HBx8 := Aside0.mk hb; have y0 : w6.cell? ⟨g8, 0, none⟩ = some (.int .i64 0) := (blk_cell hbox 0).trans rfl; have fy0 := blk_frozen hbox 0; have y1 : w6.cell? ⟨g8, 1, none⟩ = some (.int .i64 0) := (blk_cell hbox 1).trans rfl; have fy1 := blk_frozen hbox 1; have y2 : w6.cell? ⟨g8, 2, none⟩ = some (.int .i64 0) := (blk_cell hbox 2).trans rfl; have fy2 := blk_frozen hbox 2; have y3 : w6.cell? ⟨g8, 3, none⟩ = some (.slice none 0 0) := (blk_cell hbox 3).trans rfl; have fy3 := blk_frozen hbox 3; have y4 : w6.cell? ⟨g8, 4, none⟩ = some (.slice none 0 0) := (blk_cell hbox 4).trans rfl; have fy4 := blk_frozen hbox 4; have y5 : w6.cell? ⟨g8, 5, none⟩ = some (.slice none 0 0) := (blk_cell hbox 5).trans rfl; have fy5 := blk_frozen hbox 5; have y6 : w6.cell? ⟨g8, 6, none⟩ = some (.bool false) := (blk_cell hbox 6).trans rfl; have fy6 := blk_frozen hbox 6; have x0 : w6.cell? ⟨g5, 0, none⟩ = some (.int .i64 a0) := (blk_cell (blk_below HD5.out hb) 0).trans rfl; have x1 : w6.cell? ⟨g5, 1, none⟩ = some (.int .i64 a1) := (blk_cell (blk_below HD5.out hb) 1).trans rfl; have x2 : w6.cell? ⟨g5, 2, none⟩ = some (.int .i64 a2) := (blk_cell (blk_below HD5.out hb) 2).trans rfl; have x3 : w6.cell? ⟨g5, 3, none⟩ = some (.slice A3 l3.length q3) := (blk_cell (blk_below HD5.out hb) 3).trans rfl; have x4 : w6.cell? ⟨g5, 4, none⟩ = some (.slice A4 l4.length q4) := (blk_cell (blk_below HD5.out hb) 4).trans rfl; have x5 : w6.cell? ⟨g5, 5, none⟩ = some (.slice A5 l5.length q5) := (blk_cell (blk_below HD5.out hb) 5).trans rfl; have x6 : w6.cell? ⟨g5, 6, none⟩ = some (.bool a6) := (blk_cell (blk_below HD5.out hb) 6).trans rfl; have hne : g5 ≠ g8 := (by have h9 := blk_lt HD5.out; omega); clear hg hbox hb)) | fail)
  have hb9 : Below w5.heap.size w5 (((((((w6.setCell ⟨g8, 0, none⟩ (.int .i64 a0)).setCell ⟨g8, 1, none⟩ (.int .i64 a1)).setCell ⟨g8, 2, none⟩ (.int .i64 a2)).setCell ⟨g8, 3, none⟩ (.slice B3 l3.length p3)).setCell ⟨g8, 4, none⟩ (.slice B4 l4.length p4)).setCell ⟨g8, 5, none⟩ (.slice B5 l5.length p5)).setCell ⟨g8, 6, none⟩ (.bool a6)) := (((((((HBx8.out.setCell HL8.out _).setCell HL8.out _).setCell HL8.out _).setCell HL8.out _).setCell HL8.out _).setCell HL8.out _).setCell HL8.out _)
  have HB9 := Aside0.mk (HB5.out.trans (hb9.mono HB5.out.size))
  have HR9 := Aside0.mk (Kd.C_below HR5.out hb9)
  have HM9 := Aside0.mk (Kd.C_below HM5.out hb9)
  have HCF9 := Aside0.mk (HCF5.out.below hb9)
  have HLS9 := Aside0.mk (HLS5.out.below hb9)
  have HCB9 := Aside0.mk (HCB.out.below hb9)
  have HLB9 := Aside0.mk (HLB.out.below hb9)
  clear hb9 HB5 HR5 HM5 HCF5 HLS5 HD5 HD8 y0 fy0 y1 fy1 y2 fy2 y3 fy3 y4 fy4 y5 fy5 y6 fy6 x0 x1 x2 x3 x4 x5 x6 HCB HLB HBx8 HL8 hne
  refine (sameConf_same (c := (a0, a1, a2, l3, l4, l5, a6)) HCF9.out HCB9.out).mono ?_
  rintro e w10 ⟨rfl, hb⟩
  have HB10 := Aside0.mk (HB9.out.trans (hb.mono HB9.out.size))
  have HR10 := Aside0.mk (Kd.C_below HR9.out hb)
  have HM10 := Aside0.mk (Kd.C_below HM9.out hb)
  have HLS10 := Aside0.mk (HLS9.out.below hb)
  have HLB10 := Aside0.mk (HLB9.out.below hb)
  clear hb HB9 HR9 HM9 HCF9 HLS9 HCB9 HLB9
  go_wp2_with fail
  refine (sameLab_same HLS10.out HLB10.out).mono ?_
  rintro e w11 ⟨rfl, hb⟩
  have HB11 := Aside0.mk (HB10.out.trans (hb.mono HB10.out.size))
  have HR11 := Aside0.mk (Kd.C_below HR10.out hb)
  have HM11 := Aside0.mk (Kd.C_below HM10.out hb)
  clear hb HB10 HR10 HM10 HLS10 HLB10
  go_wp2_with fail
  refine (back_same HN.out HLL.out HR11.out HC.out HM11.out (by rw [← HN.out]; exact HNC.out)).mono ?_
  rintro e w12 ⟨rfl, hb⟩
  have HB12 := Aside0.mk (HB11.out.trans (hb.mono HB11.out.size))
  clear hb HB11 HR11 HM11
  go_wp2_with fail
  refine (awake_true _).mono ?_
  rintro e w13 ⟨rfl, hb⟩
  have HB13 := Aside0.mk (HB12.out.trans (hb.mono HB12.out.size))
  clear hb HB12
  go_wp2_with fail
  go_ret
  exact ⟨rfl, HB13.out⟩
end Go.Proofs.Ytedlmdnineohkaa.PU
