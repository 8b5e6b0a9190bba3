import Derived.Test.YtgibdhdglppdcaaGreatA9
namespace Go.Proofs.YtgibdhdglppdcaaGreat.PU
set_option maxRecDepth 100000
open Go.RowKit Go.Proofs.YtgibdhdglppdcaaGreatW.PrintWords Go.Proofs.YtgibdhdglppdcaaGreatW.PrintLast Go.Proofs.YtgibdhdglppdcaaGreatW.PrintMore
set_option linter.unusedVariables false
set_option linter.unusedSimpArgs false

def rightC (c : ConfT) (ls : List S56) : Bool := rightB c.1 c.2.1 c.2.2.1 c.2.2.2.1 c.2.2.2.2.1 c.2.2.2.2.2.1 ls
/-- What Read answers. -/
def readL (l : List Int) : Option (ConfT × List S56) := (rdLife l).bind fun x => if x.2.2 = [] ∧ rightC x.1 x.2.1 = true then some (x.1, x.2.1) else none
def ReadPost (w : World) (l : List Int) (e : Ending) (w' : World) : Prop := Below w.heap.size w w' ∧ match readL l with
  | none => e = .returned (.tuple #[.agg zconf, .slice none 0 0, .int .i64 1])
  | some x => ∃ v3 v4 v5 vl, e = .returned (.tuple #[.agg #[.int .i64 x.1.1, .int .i64 x.1.2.1, .int .i64 x.1.2.2.1, v3, v4, v5, .bool x.1.2.2.2.2.2.2], vl, .int .i64 0]) ∧ Kd.R (Kd.int .i64) 3 w' w.heap.size (fun _ => True) v3 x.1.2.2.2.1 ∧ Kd.R (Kd.int .u8) 5 w' w.heap.size (fun _ => True) v4 x.1.2.2.2.2.1 ∧ Kd.R (Kd.int .u8) 5 w' w.heap.size (fun _ => True) v5 x.1.2.2.2.2.2.1 ∧ Kd.R k56 45 w' w.heap.size (fun _ => True) vl x.2

theorem info25s : (Tryz.prog.info? 25).map (·.size) = some 7 := by kernel_rfl
theorem results14 {tmps : Array Value} {w : World} {gc gl ge : Nat} {cs : Array Value} {vl ve : Value} (hs : cs.size = 7) (hc : w.heap[gc]? = some (.cells cs 25 (0, 0))) (hl : w.heap[gl]? = some (.cells #[vl] 26 (0, 0))) (he : w.heap[ge]? = some (.cells #[ve] 27 (0, 0))) 
    (h2 : tmps.getD 2 undef = .pointer (some ⟨gc, 0, none⟩)) (h3 : tmps.getD 3 undef = .pointer (some ⟨gl, 0, none⟩)) (h4 : tmps.getD 4 undef = .pointer (some ⟨ge, 0, none⟩)) : (results Tryz.f8 tmps).run Tryz.prog w = .ok (.tuple #[.agg cs, vl, ve]) w := by
  have cl : w.cell? ⟨gl, 0, none⟩ = some vl := (blk_cell hl 0).trans rfl
  have ce : w.cell? ⟨ge, 0, none⟩ = some ve := (blk_cell he 0).trans rfl
  have r1 : (loadVar 25 ⟨gc, 0, none⟩).run Tryz.prog w = .ok (.agg cs) w := run_loadVar_row w gc 25 _ cs (0, 0) _ hc Tryz.underlying25 rfl (by rw [hs]; exact info25s)
  have r2 : (loadVar 26 ⟨gl, 0, none⟩).run Tryz.prog w = .ok vl w := by simp [go_sem, Tryz.underlying26, cl]
  have r3 : (loadVar 27 ⟨ge, 0, none⟩).run Tryz.prog w = .ok ve w := by simp [go_sem, Tryz.underlying27, ce]
  unfold results
  rw [show Tryz.f8.results = [ResultVar.cell 2 25, .cell 3 26, .cell 4 27].toArray from rfl, List.mapM_toArray]
  simp only [Array.getD_eq_getD_getElem?] at h2 h3 h4
  simp [List.mapM_cons, h2, h3, h4, asAddr, r1, r2, r3]
/-- Behind a panic. -/
theorem read_leaves {w w4 : World} {l : List Int} {tmps : Array Value} {gc gl ge : Nat} {x0 x1 x2 x3 x4 x5 x6 vl ve : Value} (hN : readL l = none) (hc : w4.heap[gc]? = some (.cells #[x0, x1, x2, x3, x4, x5, x6] 25 (0, 0))) (hl : w4.heap[gl]? = some (.cells #[vl] 26 (0, 0))) (he : w4.heap[ge]? = some (.cells #[ve] 27 (0, 0))) (hbc : w.heap.size ≤ gc) (hbl : w.heap.size ≤ gl) (hbe : w.heap.size ≤ ge) (hB : Below w.heap.size w w4)
    (h2 : tmps.getD 2 undef = .pointer (some ⟨gc, 0, none⟩)) (h3 : tmps.getD 3 undef = .pointer (some ⟨gl, 0, none⟩)) (h4 : tmps.getD 4 undef = .pointer (some ⟨ge, 0, none⟩)) :
    Leaves Tryz.prog Tryz.f8 tmps (ReadPost w l) [{ target := .fn (.func 16) #[.pointer (some ⟨gc, 0, none⟩), .pointer (some ⟨gl, 0, none⟩), .pointer (some ⟨ge, 0, none⟩)], args := #[] }] (.panicking cutChain) w4 := by
  refine leaves_cons (f := 16) (args := #[.pointer (some ⟨gc, 0, none⟩), .pointer (some ⟨gl, 0, none⟩), .pointer (some ⟨ge, 0, none⟩)]) (by simp [cutChain]) (by simp [go_sem]) ?_
  refine (catch_panicking gc gl ge x0 x1 x2 x3 x4 x5 x6 vl ve 53 (.agg #[]) [] w4 hc hl he w.heap.size hbc hbl hbe w hB).mono ?_
  rintro e u' w5 ⟨rfl, rfl, k1, k2, k3, k4⟩
  refine ⟨_, results14 rfl k1 k2 k3 h2 h3 h4, k4, ?_⟩
  rw [hN]

set_option maxRecDepth 100000 in
set_option maxHeartbeats 4000000 in
theorem read_calls (w : World) (A : Option Addr) (c : Nat) (l : List Int) (hr : Kd.C (Kd.int .u8) w A l.length l) (hc : l.length ≤ c) (hb : ∀ x ∈ l, 0 ≤ x ∧ x < 256) (hl : l.length ≤ 8589934592) :
    Calls Tryz.prog 8 #[.slice A l.length c] w (ReadPost w l) := by
  have hu25 := Tryz.underlying25
  have HR := Aside0.mk hr
  have HBY := Aside0.mk hb
  have HLL := Aside0.mk hl
  have HC := Aside0.mk hc
  clear hr hb hl hc
  have hmf := hmf
  go_enter_defers Tryz.func8, Tryz.ntmps8
  go_wp2_with (first | ((with_reducible refine gate_dst (N := 2) rfl ?_); refine box_event ?hg (N := 2) ?hd (cs := #[.int .i64 0, .int .i64 0, .int .i64 0, .slice none 0 0, .slice none 0 0, .slice none 0 0, .bool false]) (t := 25) ?hr ?_; (case hd => rfl); (case hg => rfl); (case hr => first | (go_simp; done) | (go_simp; rfl)); intro gc hg w1 hbox hb; have HGC := Aside0.mk (show w.heap.size ≤ gc by omega); have HBC := Aside0.mk hbox; have HB1 := Aside0.mk hb; clear hg hbox hb) | ((with_reducible refine gate_dst (N := 3) rfl ?_); refine box_event ?hg (N := 3) ?hd (cs := #[.slice none 0 0]) (t := 26) ?hr ?_; (case hd => rfl); (case hg => rfl); (case hr => first | (go_simp; done) | (go_simp; rfl)); intro gl hg w2 hbox hb; have HGL := Aside0.mk (show w.heap.size ≤ gl by have := HB1.out.size; omega); have HBL := Aside0.mk hbox; have HBC2 := Aside0.mk (blk_below HBC.out hb); have HB2 := Aside0.mk (HB1.out.trans (hb.mono HB1.out.size)); clear hg hbox hb HBC HB1) | ((with_reducible refine gate_dst (N := 4) rfl ?_); refine box_event ?hg (N := 4) ?hd (cs := #[.int .i64 0]) (t := 27) ?hr ?_; (case hd => rfl); (case hg => rfl); (case hr => first | (go_simp; done) | (go_simp; rfl)); intro ge hg w3 hbox hb; have HGE := Aside0.mk (show w.heap.size ≤ ge by have := HB2.out.size; omega); have HBE := Aside0.mk hbox; have HBC3 := Aside0.mk (blk_below HBC2.out hb); have HBL3 := Aside0.mk (blk_below HBL.out hb); have HB3 := Aside0.mk (HB2.out.trans (hb.mono HB2.out.size)); clear hg hbox hb HBC2 HB2 HBL) | ((with_reducible refine gate_dst (N := 9) rfl ?_); refine box_event ?hg (N := 9) ?hd (cs := #[.slice A l.length c]) (t := 49) ?hr ?_; (case hd => rfl); (case hg => rfl); (case hr => first | (go_simp; done) | (go_simp; rfl)); intro g hg w4 hbox hb; have HGG := Aside0.mk hg; have HBG := Aside0.mk hbox; have HB4 := Aside0.mk hb; clear hg hbox hb) | fail)
  have HRS := Aside0.mk (show RS w3 w4 g l from ⟨by rw [HGG.out]; exact Nat.le_refl _, HB4.out, A, c, HBG.out, HC.out, Kd.C_below HR.out HB3.out⟩)
  refine (life_calls w3 w4 g l HRS.out (blk_lt HBG.out) HBY.out HLL.out).mono ?_
  intro e w5 hp
  unfold LifePost at hp
  cases hE : rdLife l with
  | none =>
    rw [hE] at hp
    obtain ⟨rfl, hb5⟩ := hp
    exact read_leaves (by unfold readL; rw [hE]; rfl) (blk_below HBC3.out hb5) (blk_below HBL3.out hb5) (blk_below HBE.out hb5) HGC.out HGL.out HGE.out (HB3.out.trans (hb5.mono HB3.out.size)) (by simp) (by simp) (by simp)
  | some x =>
    rw [hE] at hp
    obtain ⟨⟨a0, a1, a2, l3, l4, l5, a6⟩, ls, r⟩ := x
    obtain ⟨v3, v4, v5, vl, rfl, hr3, hr4, hr5, hrl, hrs⟩ := hp
    obtain ⟨A3, q3, e3⟩ := Kd.R_slice hr3
    obtain ⟨A4, q4, e4⟩ := Kd.R_slice hr4
    obtain ⟨A5, q5, e5⟩ := Kd.R_slice hr5
    obtain ⟨Al, ql, el⟩ := Kd.R_slice hrl
    simp only at e3 e4 e5 el
    subst e3 e4 e5 el
    have HE := Aside0.mk (show readL l = if r = [] ∧ rightB a0 a1 a2 l3 l4 l5 ls = true then some ((a0, a1, a2, l3, l4, l5, a6), ls) else none by unfold readL; rw [hE]; rfl)
    have s0 := Aside0.mk (blk_below HBC3.out hrs.2.1)
    have t0 := Aside0.mk (blk_below HBL3.out hrs.2.1)
    have u0 := Aside0.mk (blk_below HBE.out hrs.2.1)
    have hr3' : Kd.R (Kd.int .i64) 3 w5 w3.heap.size (fun _ => True) (.slice A3 l3.length q3) l3 := hr3
    have hr4' : Kd.R (Kd.int .u8) 5 w5 w3.heap.size (fun _ => True) (.slice A4 l4.length q4) l4 := hr4
    have hr5' : Kd.R (Kd.int .u8) 5 w5 w3.heap.size (fun _ => True) (.slice A5 l5.length q5) l5 := hr5
    have hrl' : Kd.R k56 45 w5 w3.heap.size (fun k => k ≠ g) (.slice Al ls.length ql) ls := hrl
    have hrs' : RS w3 w5 g r := hrs
    have HO3 := Aside0.mk hr3'
    have HO4 := Aside0.mk hr4'
    have HO5 := Aside0.mk hr5'
    have HOl := Aside0.mk hrl'
    have HRS5 := Aside0.mk hrs'
    clear hr3 hr4 hr5 hrl hrs hr3' hr4' hr5' hrl' hrs' hE
    have d1 := blk_ne s0.out t0.out (by decide)
    have D1 := Aside0.mk d1
    have D2 := Aside0.mk (blk_ne s0.out u0.out (by decide))
    have D3 := Aside0.mk (blk_ne t0.out u0.out (by decide))
    have HLC := Aside0.mk (show gc < w3.heap.size from blk_lt HBC3.out)
    have HLL3 := Aside0.mk (show gl < w3.heap.size from blk_lt HBL3.out)
    have HLE3 := Aside0.mk (show ge < w3.heap.size from blk_lt HBE.out)
    have HGN := Aside0.mk (show w3.heap.size ≤ g from HRS5.out.1)
    have c0 : w5.cell? ⟨gc, 0, none⟩ = some (.int .i64 0) := (blk_cell s0.out 0).trans rfl
    have fc0 := blk_frozen s0.out 0
    have c1 : w5.cell? ⟨gc, 1, none⟩ = some (.int .i64 0) := (blk_cell s0.out 1).trans rfl
    have fc1 := blk_frozen s0.out 1
    have c2 : w5.cell? ⟨gc, 2, none⟩ = some (.int .i64 0) := (blk_cell s0.out 2).trans rfl
    have fc2 := blk_frozen s0.out 2
    have c3 : w5.cell? ⟨gc, 3, none⟩ = some (.slice none 0 0) := (blk_cell s0.out 3).trans rfl
    have fc3 := blk_frozen s0.out 3
    have c4 : w5.cell? ⟨gc, 4, none⟩ = some (.slice none 0 0) := (blk_cell s0.out 4).trans rfl
    have fc4 := blk_frozen s0.out 4
    have c5 : w5.cell? ⟨gc, 5, none⟩ = some (.slice none 0 0) := (blk_cell s0.out 5).trans rfl
    have fc5 := blk_frozen s0.out 5
    have c6 : w5.cell? ⟨gc, 6, none⟩ = some (.bool false) := (blk_cell s0.out 6).trans rfl
    have fc6 := blk_frozen s0.out 6
    have cl : w5.cell? ⟨gl, 0, none⟩ = some (.slice none 0 0) := (blk_cell t0.out 0).trans rfl
    have fl := blk_frozen t0.out 0
    clear HR HC HBY HLL HRS HBG HB4 HBC3 HBL3 HBE
    obtain ⟨Ar, cr, hgr⟩ := HRS5.out.block
    have HGR := Aside0.mk hgr
    have cg : w5.cell? ⟨g, 0, none⟩ = some (.slice Ar r.length cr) := (blk_cell hgr 0).trans rfl
    have d4 : g ≠ gc := by have := HLC.out; have := HGN.out; omega
    have d5 : g ≠ gl := by have := HLL3.out; have := HGN.out; omega
    clear hgr
    have s1 := Aside0.mk (blk_set s0.out 0 (.int .i64 a0))
    have s2 := Aside0.mk (blk_set s1.out 1 (.int .i64 a1))
    have s3 := Aside0.mk (blk_set s2.out 2 (.int .i64 a2))
    have s4 := Aside0.mk (blk_set s3.out 3 (.slice A3 l3.length q3))
    have s5 := Aside0.mk (blk_set s4.out 4 (.slice A4 l4.length q4))
    have s6 := Aside0.mk (blk_set s5.out 5 (.slice A5 l5.length q5))
    have s7 := Aside0.mk (blk_set s6.out 6 (.bool a6))
    have S8 := Aside0.mk (show ((((((((w5.setCell ⟨gc, 0, none⟩ (.int .i64 a0)).setCell ⟨gc, 1, none⟩ (.int .i64 a1)).setCell ⟨gc, 2, none⟩ (.int .i64 a2)).setCell ⟨gc, 3, none⟩ (.slice A3 l3.length q3)).setCell ⟨gc, 4, none⟩ (.slice A4 l4.length q4)).setCell ⟨gc, 5, none⟩ (.slice A5 l5.length q5)).setCell ⟨gc, 6, none⟩ (.bool a6)).setCell ⟨gl, 0, none⟩ (.slice Al ls.length ql)).heap[gc]? = some (.cells #[.int .i64 a0, .int .i64 a1, .int .i64 a2, .slice A3 l3.length q3, .slice A4 l4.length q4, .slice A5 l5.length q5, .bool a6] 25 (0, 0)) from blk_far s7.out (p := ⟨gl, 0, none⟩) D1.out _)
    have t7 := Aside0.mk (blk_far (blk_far (blk_far (blk_far (blk_far (blk_far (blk_far t0.out (p := ⟨gc, 0, none⟩) (Ne.symm D1.out) (.int .i64 a0)) (p := ⟨gc, 1, none⟩) (Ne.symm D1.out) (.int .i64 a1)) (p := ⟨gc, 2, none⟩) (Ne.symm D1.out) (.int .i64 a2)) (p := ⟨gc, 3, none⟩) (Ne.symm D1.out) (.slice A3 l3.length q3)) (p := ⟨gc, 4, none⟩) (Ne.symm D1.out) (.slice A4 l4.length q4)) (p := ⟨gc, 5, none⟩) (Ne.symm D1.out) (.slice A5 l5.length q5)) (p := ⟨gc, 6, none⟩) (Ne.symm D1.out) (.bool a6))
    have T8 := Aside0.mk (show ((((((((w5.setCell ⟨gc, 0, none⟩ (.int .i64 a0)).setCell ⟨gc, 1, none⟩ (.int .i64 a1)).setCell ⟨gc, 2, none⟩ (.int .i64 a2)).setCell ⟨gc, 3, none⟩ (.slice A3 l3.length q3)).setCell ⟨gc, 4, none⟩ (.slice A4 l4.length q4)).setCell ⟨gc, 5, none⟩ (.slice A5 l5.length q5)).setCell ⟨gc, 6, none⟩ (.bool a6)).setCell ⟨gl, 0, none⟩ (.slice Al ls.length ql)).heap[gl]? = some (.cells #[.slice Al ls.length ql] 26 (0, 0)) from blk_set t7.out 0 _)
    have U8 := Aside0.mk (show ((((((((w5.setCell ⟨gc, 0, none⟩ (.int .i64 a0)).setCell ⟨gc, 1, none⟩ (.int .i64 a1)).setCell ⟨gc, 2, none⟩ (.int .i64 a2)).setCell ⟨gc, 3, none⟩ (.slice A3 l3.length q3)).setCell ⟨gc, 4, none⟩ (.slice A4 l4.length q4)).setCell ⟨gc, 5, none⟩ (.slice A5 l5.length q5)).setCell ⟨gc, 6, none⟩ (.bool a6)).setCell ⟨gl, 0, none⟩ (.slice Al ls.length ql)).heap[ge]? = some (.cells #[.int .i64 0] 27 (0, 0)) from blk_far (blk_far (blk_far (blk_far (blk_far (blk_far (blk_far (blk_far u0.out (p := ⟨gc, 0, none⟩) (Ne.symm D2.out) (.int .i64 a0)) (p := ⟨gc, 1, none⟩) (Ne.symm D2.out) (.int .i64 a1)) (p := ⟨gc, 2, none⟩) (Ne.symm D2.out) (.int .i64 a2)) (p := ⟨gc, 3, none⟩) (Ne.symm D2.out) (.slice A3 l3.length q3)) (p := ⟨gc, 4, none⟩) (Ne.symm D2.out) (.slice A4 l4.length q4)) (p := ⟨gc, 5, none⟩) (Ne.symm D2.out) (.slice A5 l5.length q5)) (p := ⟨gc, 6, none⟩) (Ne.symm D2.out) (.bool a6)) (p := ⟨gl, 0, none⟩) (Ne.symm D3.out) _)
    have B8 := Aside0.mk (show Below w.heap.size w ((((((((w5.setCell ⟨gc, 0, none⟩ (.int .i64 a0)).setCell ⟨gc, 1, none⟩ (.int .i64 a1)).setCell ⟨gc, 2, none⟩ (.int .i64 a2)).setCell ⟨gc, 3, none⟩ (.slice A3 l3.length q3)).setCell ⟨gc, 4, none⟩ (.slice A4 l4.length q4)).setCell ⟨gc, 5, none⟩ (.slice A5 l5.length q5)).setCell ⟨gc, 6, none⟩ (.bool a6)).setCell ⟨gl, 0, none⟩ (.slice Al ls.length ql)) from ((((((((HB3.out.trans (HRS5.out.2.1.mono HB3.out.size)).setCell HGC.out _).setCell HGC.out _).setCell HGC.out _).setCell HGC.out _).setCell HGC.out _).setCell HGC.out _).setCell HGC.out _).setCell HGL.out _)
    have P3x := Aside0.mk (show Kd.R (Kd.int .i64) 3 ((((((((w5.setCell ⟨gc, 0, none⟩ (.int .i64 a0)).setCell ⟨gc, 1, none⟩ (.int .i64 a1)).setCell ⟨gc, 2, none⟩ (.int .i64 a2)).setCell ⟨gc, 3, none⟩ (.slice A3 l3.length q3)).setCell ⟨gc, 4, none⟩ (.slice A4 l4.length q4)).setCell ⟨gc, 5, none⟩ (.slice A5 l5.length q5)).setCell ⟨gc, 6, none⟩ (.bool a6)).setCell ⟨gl, 0, none⟩ (.slice Al ls.length ql)) w3.heap.size (fun _ => True) (.slice A3 l3.length q3) l3 from Kd.R_set (Kd.R_set (Kd.R_set (Kd.R_set (Kd.R_set (Kd.R_set (Kd.R_set (Kd.R_set HO3.out s0.out (by decide) 0 _) s1.out (by decide) 1 _) s2.out (by decide) 2 _) s3.out (by decide) 3 _) s4.out (by decide) 4 _) s5.out (by decide) 5 _) s6.out (by decide) 6 _) t7.out (by decide) 0 _)
    have P3 := Aside0.mk (Kd.R_reads' P3x.out)
    have P4x := Aside0.mk (show Kd.R (Kd.int .u8) 5 ((((((((w5.setCell ⟨gc, 0, none⟩ (.int .i64 a0)).setCell ⟨gc, 1, none⟩ (.int .i64 a1)).setCell ⟨gc, 2, none⟩ (.int .i64 a2)).setCell ⟨gc, 3, none⟩ (.slice A3 l3.length q3)).setCell ⟨gc, 4, none⟩ (.slice A4 l4.length q4)).setCell ⟨gc, 5, none⟩ (.slice A5 l5.length q5)).setCell ⟨gc, 6, none⟩ (.bool a6)).setCell ⟨gl, 0, none⟩ (.slice Al ls.length ql)) w3.heap.size (fun _ => True) (.slice A4 l4.length q4) l4 from Kd.R_set (Kd.R_set (Kd.R_set (Kd.R_set (Kd.R_set (Kd.R_set (Kd.R_set (Kd.R_set HO4.out s0.out (by decide) 0 _) s1.out (by decide) 1 _) s2.out (by decide) 2 _) s3.out (by decide) 3 _) s4.out (by decide) 4 _) s5.out (by decide) 5 _) s6.out (by decide) 6 _) t7.out (by decide) 0 _)
    have P4 := Aside0.mk (Kd.R_reads' P4x.out)
    have P5x := Aside0.mk (show Kd.R (Kd.int .u8) 5 ((((((((w5.setCell ⟨gc, 0, none⟩ (.int .i64 a0)).setCell ⟨gc, 1, none⟩ (.int .i64 a1)).setCell ⟨gc, 2, none⟩ (.int .i64 a2)).setCell ⟨gc, 3, none⟩ (.slice A3 l3.length q3)).setCell ⟨gc, 4, none⟩ (.slice A4 l4.length q4)).setCell ⟨gc, 5, none⟩ (.slice A5 l5.length q5)).setCell ⟨gc, 6, none⟩ (.bool a6)).setCell ⟨gl, 0, none⟩ (.slice Al ls.length ql)) w3.heap.size (fun _ => True) (.slice A5 l5.length q5) l5 from Kd.R_set (Kd.R_set (Kd.R_set (Kd.R_set (Kd.R_set (Kd.R_set (Kd.R_set (Kd.R_set HO5.out s0.out (by decide) 0 _) s1.out (by decide) 1 _) s2.out (by decide) 2 _) s3.out (by decide) 3 _) s4.out (by decide) 4 _) s5.out (by decide) 5 _) s6.out (by decide) 6 _) t7.out (by decide) 0 _)
    have P5 := Aside0.mk (Kd.R_reads' P5x.out)
    have Plx := Aside0.mk (show Kd.R k56 45 ((((((((w5.setCell ⟨gc, 0, none⟩ (.int .i64 a0)).setCell ⟨gc, 1, none⟩ (.int .i64 a1)).setCell ⟨gc, 2, none⟩ (.int .i64 a2)).setCell ⟨gc, 3, none⟩ (.slice A3 l3.length q3)).setCell ⟨gc, 4, none⟩ (.slice A4 l4.length q4)).setCell ⟨gc, 5, none⟩ (.slice A5 l5.length q5)).setCell ⟨gc, 6, none⟩ (.bool a6)).setCell ⟨gl, 0, none⟩ (.slice Al ls.length ql)) w3.heap.size (fun k => k ≠ g) (.slice Al ls.length ql) ls from Kd.R_set (Kd.R_set (Kd.R_set (Kd.R_set (Kd.R_set (Kd.R_set (Kd.R_set (Kd.R_set HOl.out s0.out (by decide) 0 _) s1.out (by decide) 1 _) s2.out (by decide) 2 _) s3.out (by decide) 3 _) s4.out (by decide) 4 _) s5.out (by decide) 5 _) s6.out (by decide) 6 _) t7.out (by decide) 0 _)
    have Pl := Aside0.mk (Kd.R_reads' Plx.out)
    have HL3 := Aside0.mk (show l3.length ≤ 9223372036854775807 by have := P3.out.2.2.2.1; omega)
    cases r with
    | cons x r =>
      have hpos : decide ((0 : Int) < (((x :: r).length : Nat) : Int)) = true := by simp; try omega
      go_wp2_with fail
      exact read_leaves (HE.out.trans (if_neg (by rintro ⟨h, _⟩; cases h))) S8.out T8.out U8.out HGC.out HGL.out HGE.out B8.out (by simp) (by simp) (by simp)
    | nil =>
      have hpos : decide ((0 : Int) < ((([] : List Int).length : Nat) : Int)) = false := by decide
      go_wp2_with fail
      obtain ⟨k, hk⟩ := right_Ev a0 a1 a2 l3 l4 l5 a6 ls HL3.out
      refine (trace_right.calls k a0 a1 a2 A3 q3 l3 A4 q4 l4 A5 q5 l5 a6 Al ql ls _ _ P3.out.2.2 P3.out.2.1 P4.out.2.2 P4.out.2.1 P5.out.2.2 P5.out.2.1 Pl.out.2.2 Pl.out.2.1 (hk k (Nat.le_refl k))).mono ?_
      clear hk
      rintro e w7 ⟨rfl, hb7⟩
      have S9 := Aside0.mk (blk_below S8.out hb7)
      have T9 := Aside0.mk (blk_below T8.out hb7)
      have U9 := Aside0.mk (blk_below U8.out hb7)
      have B9 := Aside0.mk (B8.out.trans (hb7.mono B8.out.size))
      have O3 := Aside0.mk (Kd.R_below P3x.out hb7)
      have O4 := Aside0.mk (Kd.R_below P4x.out hb7)
      have O5 := Aside0.mk (Kd.R_below P5x.out hb7)
      have Ol := Aside0.mk (Kd.R_below Plx.out hb7)
      clear hb7 S8 T8 U8 B8 P3 P4 P5 Pl P3x P4x P5x Plx c0 fc0 c1 fc1 c2 fc2 c3 fc3 c4 fc4 c5 fc5 c6 fc6 cl fl cg d1 d4 d5
      cases hR : rightB a0 a1 a2 l3 l4 l5 ls with
      | false =>
        go_wp2_with fail
        exact read_leaves (HE.out.trans (if_neg (by rintro ⟨_, h⟩; rw [hR] at h; cases h))) S9.out T9.out U9.out HGC.out HGL.out HGE.out B9.out (by simp) (by simp) (by simp)
      | true =>
        have c0 : w7.cell? ⟨gc, 0, none⟩ = some (.int .i64 a0) := (blk_cell S9.out 0).trans rfl
        have fc0 := blk_frozen S9.out 0
        have c1 : w7.cell? ⟨gc, 1, none⟩ = some (.int .i64 a1) := (blk_cell S9.out 1).trans rfl
        have fc1 := blk_frozen S9.out 1
        have c2 : w7.cell? ⟨gc, 2, none⟩ = some (.int .i64 a2) := (blk_cell S9.out 2).trans rfl
        have fc2 := blk_frozen S9.out 2
        have c3 : w7.cell? ⟨gc, 3, none⟩ = some (.slice A3 l3.length q3) := (blk_cell S9.out 3).trans rfl
        have fc3 := blk_frozen S9.out 3
        have c4 : w7.cell? ⟨gc, 4, none⟩ = some (.slice A4 l4.length q4) := (blk_cell S9.out 4).trans rfl
        have fc4 := blk_frozen S9.out 4
        have c5 : w7.cell? ⟨gc, 5, none⟩ = some (.slice A5 l5.length q5) := (blk_cell S9.out 5).trans rfl
        have fc5 := blk_frozen S9.out 5
        have c6 : w7.cell? ⟨gc, 6, none⟩ = some (.bool a6) := (blk_cell S9.out 6).trans rfl
        have fc6 := blk_frozen S9.out 6
        have e0 : w7.cell? ⟨ge, 0, none⟩ = some (.int .i64 0) := (blk_cell U9.out 0).trans rfl
        have fe0 := blk_frozen U9.out 0
        have cl : w7.cell? ⟨gl, 0, none⟩ = some (.slice Al ls.length ql) := (blk_cell T9.out 0).trans rfl
        have fl := blk_frozen T9.out 0
        have d1 := D1.out
        have d2 := D2.out
        have d3 := D3.out
        go_wp2_with fail
        refine wp_region_noPanic ?_
        go_region
        refine NoPanic.normal ?_
        have y1 := Aside0.mk (blk_set S9.out 0 (.int .i64 a0))
        have y2 := Aside0.mk (blk_set y1.out 1 (.int .i64 a1))
        have y3 := Aside0.mk (blk_set y2.out 2 (.int .i64 a2))
        have y4 := Aside0.mk (blk_set y3.out 3 (.slice A3 l3.length q3))
        have y5 := Aside0.mk (blk_set y4.out 4 (.slice A4 l4.length q4))
        have y6 := Aside0.mk (blk_set y5.out 5 (.slice A5 l5.length q5))
        have y7 := Aside0.mk (blk_set y6.out 6 (.bool a6))
        have SX := Aside0.mk (show (((((((((w7.setCell ⟨gc, 0, none⟩ (.int .i64 a0)).setCell ⟨gc, 1, none⟩ (.int .i64 a1)).setCell ⟨gc, 2, none⟩ (.int .i64 a2)).setCell ⟨gc, 3, none⟩ (.slice A3 l3.length q3)).setCell ⟨gc, 4, none⟩ (.slice A4 l4.length q4)).setCell ⟨gc, 5, none⟩ (.slice A5 l5.length q5)).setCell ⟨gc, 6, none⟩ (.bool a6)).setCell ⟨gl, 0, none⟩ (.slice Al ls.length ql)).setCell ⟨ge, 0, none⟩ (.int .i64 0)).drew.heap[gc]? = some (.cells #[.int .i64 a0, .int .i64 a1, .int .i64 a2, .slice A3 l3.length q3, .slice A4 l4.length q4, .slice A5 l5.length q5, .bool a6] 25 (0, 0)) from blk_drew (blk_far (blk_far y7.out (p := ⟨gl, 0, none⟩) D1.out _) (p := ⟨ge, 0, none⟩) D2.out _))
        have z7 := Aside0.mk (blk_far (blk_far (blk_far (blk_far (blk_far (blk_far (blk_far T9.out (p := ⟨gc, 0, none⟩) (Ne.symm D1.out) (.int .i64 a0)) (p := ⟨gc, 1, none⟩) (Ne.symm D1.out) (.int .i64 a1)) (p := ⟨gc, 2, none⟩) (Ne.symm D1.out) (.int .i64 a2)) (p := ⟨gc, 3, none⟩) (Ne.symm D1.out) (.slice A3 l3.length q3)) (p := ⟨gc, 4, none⟩) (Ne.symm D1.out) (.slice A4 l4.length q4)) (p := ⟨gc, 5, none⟩) (Ne.symm D1.out) (.slice A5 l5.length q5)) (p := ⟨gc, 6, none⟩) (Ne.symm D1.out) (.bool a6))
        have z8 := Aside0.mk (blk_set z7.out 0 (.slice Al ls.length ql))
        have TX := Aside0.mk (show (((((((((w7.setCell ⟨gc, 0, none⟩ (.int .i64 a0)).setCell ⟨gc, 1, none⟩ (.int .i64 a1)).setCell ⟨gc, 2, none⟩ (.int .i64 a2)).setCell ⟨gc, 3, none⟩ (.slice A3 l3.length q3)).setCell ⟨gc, 4, none⟩ (.slice A4 l4.length q4)).setCell ⟨gc, 5, none⟩ (.slice A5 l5.length q5)).setCell ⟨gc, 6, none⟩ (.bool a6)).setCell ⟨gl, 0, none⟩ (.slice Al ls.length ql)).setCell ⟨ge, 0, none⟩ (.int .i64 0)).drew.heap[gl]? = some (.cells #[.slice Al ls.length ql] 26 (0, 0)) from blk_drew (blk_far z8.out (p := ⟨ge, 0, none⟩) D3.out _))
        have x8 := Aside0.mk (blk_far (blk_far (blk_far (blk_far (blk_far (blk_far (blk_far (blk_far U9.out (p := ⟨gc, 0, none⟩) (Ne.symm D2.out) (.int .i64 a0)) (p := ⟨gc, 1, none⟩) (Ne.symm D2.out) (.int .i64 a1)) (p := ⟨gc, 2, none⟩) (Ne.symm D2.out) (.int .i64 a2)) (p := ⟨gc, 3, none⟩) (Ne.symm D2.out) (.slice A3 l3.length q3)) (p := ⟨gc, 4, none⟩) (Ne.symm D2.out) (.slice A4 l4.length q4)) (p := ⟨gc, 5, none⟩) (Ne.symm D2.out) (.slice A5 l5.length q5)) (p := ⟨gc, 6, none⟩) (Ne.symm D2.out) (.bool a6)) (p := ⟨gl, 0, none⟩) (Ne.symm D3.out) (.slice Al ls.length ql))
        have UX := Aside0.mk (show (((((((((w7.setCell ⟨gc, 0, none⟩ (.int .i64 a0)).setCell ⟨gc, 1, none⟩ (.int .i64 a1)).setCell ⟨gc, 2, none⟩ (.int .i64 a2)).setCell ⟨gc, 3, none⟩ (.slice A3 l3.length q3)).setCell ⟨gc, 4, none⟩ (.slice A4 l4.length q4)).setCell ⟨gc, 5, none⟩ (.slice A5 l5.length q5)).setCell ⟨gc, 6, none⟩ (.bool a6)).setCell ⟨gl, 0, none⟩ (.slice Al ls.length ql)).setCell ⟨ge, 0, none⟩ (.int .i64 0)).drew.heap[ge]? = some (.cells #[.int .i64 0] 27 (0, 0)) from blk_drew (blk_set x8.out 0 (.int .i64 0)))
        have BX := Aside0.mk (show Below w.heap.size w (((((((((w7.setCell ⟨gc, 0, none⟩ (.int .i64 a0)).setCell ⟨gc, 1, none⟩ (.int .i64 a1)).setCell ⟨gc, 2, none⟩ (.int .i64 a2)).setCell ⟨gc, 3, none⟩ (.slice A3 l3.length q3)).setCell ⟨gc, 4, none⟩ (.slice A4 l4.length q4)).setCell ⟨gc, 5, none⟩ (.slice A5 l5.length q5)).setCell ⟨gc, 6, none⟩ (.bool a6)).setCell ⟨gl, 0, none⟩ (.slice Al ls.length ql)).setCell ⟨ge, 0, none⟩ (.int .i64 0)).drew from below_drew (((((((((B9.out.setCell HGC.out _).setCell HGC.out _).setCell HGC.out _).setCell HGC.out _).setCell HGC.out _).setCell HGC.out _).setCell HGC.out _).setCell HGL.out _).setCell HGE.out _))
        have O3x := Aside0.mk (show Kd.R (Kd.int .i64) 3 (((((((((w7.setCell ⟨gc, 0, none⟩ (.int .i64 a0)).setCell ⟨gc, 1, none⟩ (.int .i64 a1)).setCell ⟨gc, 2, none⟩ (.int .i64 a2)).setCell ⟨gc, 3, none⟩ (.slice A3 l3.length q3)).setCell ⟨gc, 4, none⟩ (.slice A4 l4.length q4)).setCell ⟨gc, 5, none⟩ (.slice A5 l5.length q5)).setCell ⟨gc, 6, none⟩ (.bool a6)).setCell ⟨gl, 0, none⟩ (.slice Al ls.length ql)).setCell ⟨ge, 0, none⟩ (.int .i64 0)).drew w.heap.size (fun _ => True) (.slice A3 l3.length q3) l3 from Kd.R_lower (Kd.R_drew (Kd.R_mono (Kd.R_set (Kd.R_set (Kd.R_set (Kd.R_set (Kd.R_set (Kd.R_set (Kd.R_set (Kd.R_set (Kd.R_set O3.out S9.out (by decide) 0 _) y1.out (by decide) 1 _) y2.out (by decide) 2 _) y3.out (by decide) 3 _) y4.out (by decide) 4 _) y5.out (by decide) 5 _) y6.out (by decide) 6 _) z7.out (by decide) 0 _) x8.out (by decide) 0 _) (fun _ _ => trivial))) HB3.out.size)
        have O4x := Aside0.mk (show Kd.R (Kd.int .u8) 5 (((((((((w7.setCell ⟨gc, 0, none⟩ (.int .i64 a0)).setCell ⟨gc, 1, none⟩ (.int .i64 a1)).setCell ⟨gc, 2, none⟩ (.int .i64 a2)).setCell ⟨gc, 3, none⟩ (.slice A3 l3.length q3)).setCell ⟨gc, 4, none⟩ (.slice A4 l4.length q4)).setCell ⟨gc, 5, none⟩ (.slice A5 l5.length q5)).setCell ⟨gc, 6, none⟩ (.bool a6)).setCell ⟨gl, 0, none⟩ (.slice Al ls.length ql)).setCell ⟨ge, 0, none⟩ (.int .i64 0)).drew w.heap.size (fun _ => True) (.slice A4 l4.length q4) l4 from Kd.R_lower (Kd.R_drew (Kd.R_mono (Kd.R_set (Kd.R_set (Kd.R_set (Kd.R_set (Kd.R_set (Kd.R_set (Kd.R_set (Kd.R_set (Kd.R_set O4.out S9.out (by decide) 0 _) y1.out (by decide) 1 _) y2.out (by decide) 2 _) y3.out (by decide) 3 _) y4.out (by decide) 4 _) y5.out (by decide) 5 _) y6.out (by decide) 6 _) z7.out (by decide) 0 _) x8.out (by decide) 0 _) (fun _ _ => trivial))) HB3.out.size)
        have O5x := Aside0.mk (show Kd.R (Kd.int .u8) 5 (((((((((w7.setCell ⟨gc, 0, none⟩ (.int .i64 a0)).setCell ⟨gc, 1, none⟩ (.int .i64 a1)).setCell ⟨gc, 2, none⟩ (.int .i64 a2)).setCell ⟨gc, 3, none⟩ (.slice A3 l3.length q3)).setCell ⟨gc, 4, none⟩ (.slice A4 l4.length q4)).setCell ⟨gc, 5, none⟩ (.slice A5 l5.length q5)).setCell ⟨gc, 6, none⟩ (.bool a6)).setCell ⟨gl, 0, none⟩ (.slice Al ls.length ql)).setCell ⟨ge, 0, none⟩ (.int .i64 0)).drew w.heap.size (fun _ => True) (.slice A5 l5.length q5) l5 from Kd.R_lower (Kd.R_drew (Kd.R_mono (Kd.R_set (Kd.R_set (Kd.R_set (Kd.R_set (Kd.R_set (Kd.R_set (Kd.R_set (Kd.R_set (Kd.R_set O5.out S9.out (by decide) 0 _) y1.out (by decide) 1 _) y2.out (by decide) 2 _) y3.out (by decide) 3 _) y4.out (by decide) 4 _) y5.out (by decide) 5 _) y6.out (by decide) 6 _) z7.out (by decide) 0 _) x8.out (by decide) 0 _) (fun _ _ => trivial))) HB3.out.size)
        have Olx := Aside0.mk (show Kd.R k56 45 (((((((((w7.setCell ⟨gc, 0, none⟩ (.int .i64 a0)).setCell ⟨gc, 1, none⟩ (.int .i64 a1)).setCell ⟨gc, 2, none⟩ (.int .i64 a2)).setCell ⟨gc, 3, none⟩ (.slice A3 l3.length q3)).setCell ⟨gc, 4, none⟩ (.slice A4 l4.length q4)).setCell ⟨gc, 5, none⟩ (.slice A5 l5.length q5)).setCell ⟨gc, 6, none⟩ (.bool a6)).setCell ⟨gl, 0, none⟩ (.slice Al ls.length ql)).setCell ⟨ge, 0, none⟩ (.int .i64 0)).drew w.heap.size (fun _ => True) (.slice Al ls.length ql) ls from Kd.R_lower (Kd.R_drew (Kd.R_mono (Kd.R_set (Kd.R_set (Kd.R_set (Kd.R_set (Kd.R_set (Kd.R_set (Kd.R_set (Kd.R_set (Kd.R_set Ol.out S9.out (by decide) 0 _) y1.out (by decide) 1 _) y2.out (by decide) 2 _) y3.out (by decide) 3 _) y4.out (by decide) 4 _) y5.out (by decide) 5 _) y6.out (by decide) 6 _) z7.out (by decide) 0 _) x8.out (by decide) 0 _) (fun _ _ => trivial))) HB3.out.size)
        go_wp2_with fail
        refine leaves_cons (f := 16) (args := #[.pointer (some ⟨gc, 0, none⟩), .pointer (some ⟨gl, 0, none⟩), .pointer (some ⟨ge, 0, none⟩)]) (by simp) (by simp [go_sem]) ?_
        refine (catch_idle _ _ _ _).mono ?_
        rintro e u' w8 ⟨rfl, rfl, rfl⟩
        refine ⟨_, results14 rfl SX.out TX.out UX.out (by simp) (by simp) (by simp), BX.out, ?_⟩
        rw [HE.out, if_pos (by simp [hR])]
        exact ⟨_, _, _, _, rfl, O3x.out, O4x.out, O5x.out, Olx.out⟩
end Go.Proofs.YtgibdhdglppdcaaGreat.PU
