import Derived.Test.YtedlmdnineohkaaD0
namespace Go.Proofs.Ytedlmdnineohkaa.PU
open Go.RowKit Go.Proofs.YtedlmdnineohkaaW.PrintWords Go.Proofs.YtedlmdnineohkaaW.PrintLast Go.Proofs.YtedlmdnineohkaaW.PrintMore
set_option linter.unusedVariables false
set_option linter.unusedSimpArgs false

set_option maxRecDepth 100000 in
set_option maxHeartbeats 4000000 in
theorem radd_calls {W : World} {lb : List Int} {Ab A : Option Addr} {qb q : Nat} {more : List S56} (hb : BytR W lb Ab qb) (hy : Byt lb) (hl : lb.length ≤ 8589934592) (k : LabsR W more A q) (hs : ∀ c ls, readL lb = some (c, ls) → (ls ++ more).length ≤ 1048576) :
    Calls Try.prog 21 #[.slice Ab lb.length qb, .slice A more.length q] W fun e w' => ∃ A1 q1, e = .returned (.tuple #[.slice A1 (addB lb more).length q1, .int .i64 (addE lb more)]) ∧ BytR w' (addB lb more) A1 q1 ∧ Below W.heap.size W w' := by
  have hu25 := Try.underlying25
  have HB := Aside0.mk hb
  have HY := Aside0.mk hy
  have HLL := Aside0.mk hl
  have HK := Aside0.mk k
  have HS := Aside0.mk hs
  clear hb hy hl k hs
  go_enter Try.func21, Try.ntmps21
  go_wp2_with fail
  refine (rread_calls W Ab qb lb HB.out.r HB.out.c HY.out HLL.out).mono ?_
  intro e w1 hp
  obtain ⟨hbel, hp⟩ := hp
  have HB1 := Aside0.mk hbel
  clear hbel
  cases hL : readL lb with
  | none =>
    rw [hL] at hp
    obtain rfl := hp
    have HN := Aside0.mk hL
    clear hL
    dsimp only [zconf]
    go_wp2_with (first | ((with_reducible refine gate_dst (N := 6) rfl ?_); go_loud (refine box_event ?hg (N := 6) ?hd (cs := #[.int .i64 0, .int .i64 0, .int .i64 0, .slice none 0 0, .slice none 0 0, .slice none 0 0, .bool false]) (t := 25) ?hr ?_; (case hd => rfl); (case hg => rfl); (case hr => first | (go_simp; done) | (go_simp; rfl)); intro gx hg w2 hbox hbx; have HLgx := Aside0.mk (show w1.heap.size ≤ gx by omega); have HDgx := Aside0.mk hbox; have HXgx := Aside0.mk hbx; have ygx0 : w2.cell? ⟨gx, 0, none⟩ = some (.int .i64 0) := (blk_cell hbox 0).trans rfl; have ygx1 : w2.cell? ⟨gx, 1, none⟩ = some (.int .i64 0) := (blk_cell hbox 1).trans rfl; have ygx2 : w2.cell? ⟨gx, 2, none⟩ = some (.int .i64 0) := (blk_cell hbox 2).trans rfl; have ygx3 : w2.cell? ⟨gx, 3, none⟩ = some (.slice none 0 0) := (blk_cell hbox 3).trans rfl; have ygx4 : w2.cell? ⟨gx, 4, none⟩ = some (.slice none 0 0) := (blk_cell hbox 4).trans rfl; have ygx5 : w2.cell? ⟨gx, 5, none⟩ = some (.slice none 0 0) := (blk_cell hbox 5).trans rfl; have ygx6 : w2.cell? ⟨gx, 6, none⟩ = some (.bool false) := (blk_cell hbox 6).trans rfl; have fygx0 := blk_frozen hbox 0; have fygx1 := blk_frozen hbox 1; have fygx2 := blk_frozen hbox 2; have fygx3 := blk_frozen hbox 3; have fygx4 := blk_frozen hbox 4; have fygx5 := blk_frozen hbox 5; have fygx6 := blk_frozen hbox 6; clear hg hbox hbx)) | fail)
    go_wp2_with fail
    refine bodyPost_ret (results_list (rs := [.tmp 4, .tmp 5]) rfl (by simp) (.tmp (.tmp .nil))) rfl ?_
    exact ⟨none, 0, by simp only [addB, addE, HN.out]; rfl, ⟨by simp only [addB, HN.out]; exact Kd.C_nil _ _, by simp [addB, HN.out]⟩, HB1.out.trans (((((((((HXgx.out.setCell HLgx.out _).setCell HLgx.out _).setCell HLgx.out _).setCell HLgx.out _).setCell HLgx.out _).setCell HLgx.out _).setCell HLgx.out _)).mono HB1.out.size)⟩
  | some x =>
    obtain ⟨⟨d0, d1, d2, m3, m4, m5, d6⟩, ls⟩ := x
    rw [hL] at hp
    obtain ⟨v3, v4, v5, vl, rfl, hr3, hr4, hr5, hrl⟩ := hp
    obtain ⟨E3, s3, rfl, g3, k3⟩ := Kd.R_reads hr3
    obtain ⟨E4, s4, rfl, g4, k4⟩ := Kd.R_reads hr4
    obtain ⟨E5, s5, rfl, g5, k5⟩ := Kd.R_reads hr5
    have R31 := Aside0.mk hr3
    have R41 := Aside0.mk hr4
    have R51 := Aside0.mk hr5
    have HO1 := Aside0.mk hrl
    have HX := Aside0.mk hL
    have HSX := Aside0.mk (HS.out _ _ hL)
    clear hL hr3 hr4 hr5 hrl g3 k3 g4 k4 g5 k5 HS
    obtain ⟨El, sl, rfl⟩ := Kd.R_slice HO1.out
    go_wp2_with (first | ((with_reducible refine gate_dst (N := 6) rfl ?_); go_loud (refine box_event ?hg (N := 6) ?hd (cs := #[.int .i64 0, .int .i64 0, .int .i64 0, .slice none 0 0, .slice none 0 0, .slice none 0 0, .bool false]) (t := 25) ?hr ?_; (case hd => rfl); (case hg => rfl); (case hr => first | (go_simp; done) | (go_simp; rfl)); intro gx hg w2 hbox hbx; have HLgx := Aside0.mk (show w1.heap.size ≤ gx by omega); have HDgx := Aside0.mk hbox; have HXgx := Aside0.mk hbx; have ygx0 : w2.cell? ⟨gx, 0, none⟩ = some (.int .i64 0) := (blk_cell hbox 0).trans rfl; have ygx1 : w2.cell? ⟨gx, 1, none⟩ = some (.int .i64 0) := (blk_cell hbox 1).trans rfl; have ygx2 : w2.cell? ⟨gx, 2, none⟩ = some (.int .i64 0) := (blk_cell hbox 2).trans rfl; have ygx3 : w2.cell? ⟨gx, 3, none⟩ = some (.slice none 0 0) := (blk_cell hbox 3).trans rfl; have ygx4 : w2.cell? ⟨gx, 4, none⟩ = some (.slice none 0 0) := (blk_cell hbox 4).trans rfl; have ygx5 : w2.cell? ⟨gx, 5, none⟩ = some (.slice none 0 0) := (blk_cell hbox 5).trans rfl; have ygx6 : w2.cell? ⟨gx, 6, none⟩ = some (.bool false) := (blk_cell hbox 6).trans rfl; have fygx0 := blk_frozen hbox 0; have fygx1 := blk_frozen hbox 1; have fygx2 := blk_frozen hbox 2; have fygx3 := blk_frozen hbox 3; have fygx4 := blk_frozen hbox 4; have fygx5 := blk_frozen hbox 5; have fygx6 := blk_frozen hbox 6; clear hg hbox hbx)) | fail)
    have hb3 : Below w1.heap.size w1 (((((((w2.setCell ⟨gx, 0, none⟩ (.int .i64 d0)).setCell ⟨gx, 1, none⟩ (.int .i64 d1)).setCell ⟨gx, 2, none⟩ (.int .i64 d2)).setCell ⟨gx, 3, none⟩ (.slice E3 m3.length s3)).setCell ⟨gx, 4, none⟩ (.slice E4 m4.length s4)).setCell ⟨gx, 5, none⟩ (.slice E5 m5.length s5)).setCell ⟨gx, 6, none⟩ (.bool d6)) := (((((((HXgx.out.setCell HLgx.out _).setCell HLgx.out _).setCell HLgx.out _).setCell HLgx.out _).setCell HLgx.out _).setCell HLgx.out _).setCell HLgx.out _)
    have hd3 := (show _ = some (.cells #[.int .i64 d0, .int .i64 d1, .int .i64 d2, .slice E3 m3.length s3, .slice E4 m4.length s4, .slice E5 m5.length s5, .bool d6] 25 (0, 0)) from (blk_set (blk_set (blk_set (blk_set (blk_set (blk_set (blk_set (HDgx.out) 0 (.int .i64 d0)) 1 (.int .i64 d1)) 2 (.int .i64 d2)) 3 (.slice E3 m3.length s3)) 4 (.slice E4 m4.length s4)) 5 (.slice E5 m5.length s5)) 6 (.bool d6)).trans rfl)
    obtain ⟨w3, hw3⟩ : ∃ w3, w3 = (((((((w2.setCell ⟨gx, 0, none⟩ (.int .i64 d0)).setCell ⟨gx, 1, none⟩ (.int .i64 d1)).setCell ⟨gx, 2, none⟩ (.int .i64 d2)).setCell ⟨gx, 3, none⟩ (.slice E3 m3.length s3)).setCell ⟨gx, 4, none⟩ (.slice E4 m4.length s4)).setCell ⟨gx, 5, none⟩ (.slice E5 m5.length s5)).setCell ⟨gx, 6, none⟩ (.bool d6)) := ⟨_, rfl⟩
    rw [← hw3] at hb3 hd3 ⊢
    have HD3 := Aside0.mk hd3
    have R33 := Aside0.mk (Kd.R_below R31.out hb3)
    have R43 := Aside0.mk (Kd.R_below R41.out hb3)
    have R53 := Aside0.mk (Kd.R_below R51.out hb3)
    have HO3 := Aside0.mk (Kd.R_below HO1.out hb3)
    have HB3 := Aside0.mk (HB1.out.trans (hb3.mono HB1.out.size))
    have HGX := Aside0.mk (show W.heap.size ≤ gx by have := HB1.out.size; have := HLgx.out; omega)
    clear hw3 hb3 hd3 R31 R41 R51 HO1 HDgx HXgx HLgx ygx0 fygx0 ygx1 fygx1 ygx2 fygx2 ygx3 fygx3 ygx4 fygx4 ygx5 fygx5 ygx6 fygx6
    have hcell : w3.cell? ⟨gx, 0, none⟩ = some (.int .i64 d0) ∧ w3.cell? ⟨gx, 1, none⟩ = some (.int .i64 d1) ∧ w3.cell? ⟨gx, 2, none⟩ = some (.int .i64 d2) ∧ w3.cell? ⟨gx, 3, none⟩ = some (.slice E3 m3.length s3) ∧ w3.cell? ⟨gx, 4, none⟩ = some (.slice E4 m4.length s4) ∧ w3.cell? ⟨gx, 5, none⟩ = some (.slice E5 m5.length s5) ∧ w3.cell? ⟨gx, 6, none⟩ = some (.bool d6) := ⟨(blk_cell HD3.out 0).trans rfl, (blk_cell HD3.out 1).trans rfl, (blk_cell HD3.out 2).trans rfl, (blk_cell HD3.out 3).trans rfl, (blk_cell HD3.out 4).trans rfl, (blk_cell HD3.out 5).trans rfl, (blk_cell HD3.out 6).trans rfl⟩
    obtain ⟨hx0, hx1, hx2, hx3, hx4, hx5, hx6⟩ := hcell
    have HBd := Aside0.mk (below_drew HB3.out)
    have R3d := Aside0.mk (Kd.R_drew R33.out)
    have R4d := Aside0.mk (Kd.R_drew R43.out)
    have R5d := Aside0.mk (Kd.R_drew R53.out)
    have HOd := Aside0.mk (Kd.R_drew HO3.out)
    have HDd := Aside0.mk (show w3.drew.heap[gx]? = _ from HD3.out)
    have HLd := Aside0.mk (show W.heap.size ≤ w3.drew.heap.size from HB3.out.size)
    have HMd := Aside0.mk (kmix_of56 (w0 := W) HOd.out)
    refine start_ (n := 10) (S := fun w' => w'.cell? ⟨gx, 0, none⟩ = some (.int .i64 d0) ∧ w'.cell? ⟨gx, 1, none⟩ = some (.int .i64 d1) ∧ w'.cell? ⟨gx, 2, none⟩ = some (.int .i64 d2) ∧ w'.cell? ⟨gx, 3, none⟩ = some (.slice E3 m3.length s3) ∧ w'.cell? ⟨gx, 4, none⟩ = some (.slice E4 m4.length s4) ∧ w'.cell? ⟨gx, 5, none⟩ = some (.slice E5 m5.length s5) ∧ w'.cell? ⟨gx, 6, none⟩ = some (.bool d6)) (ds := [5]) #[false, false, false, false, false, false, false, false, false, false] (by kernel_rfl) rfl rfl ⟨(blk_cell HDd.out 0).trans rfl, (blk_cell HDd.out 1).trans rfl, (blk_cell HDd.out 2).trans rfl, (blk_cell HDd.out 3).trans rfl, (blk_cell HDd.out 4).trans rfl, (blk_cell HDd.out 5).trans rfl, (blk_cell HDd.out 6).trans rfl⟩ (fun hHeld => ?_)
    refine pure_ (i := 1) (N := some 18) (v := ?_) (a' := ?_) #[false, true, false, false, false, false, false, false, false, false] rfl rfl (by kernel_rfl) (fun _ _ _ h => h) (Or.inl ⟨by rfl, ?_⟩) ?_ ?_
    rotate_left
    · intro w'
      go_simp
      with_reducible rfl
    rotate_left
    · simp only [Act.put, List.setIfInBounds_toArray, List.set_cons_zero, List.set_cons_succ, i64_w, i32_w]
      rfl
    refine pure_ (i := 3) (N := some 20) (v := ?_) (a' := ?_) #[false, true, false, true, false, false, false, false, false, false] rfl rfl (by kernel_rfl) (fun _ _ _ h => h) (Or.inl ⟨by rfl, ?_⟩) ?_ ?_
    rotate_left
    · intro w'
      go_simp
      with_reducible rfl
    rotate_left
    · simp only [Act.put, List.setIfInBounds_toArray, List.set_cons_zero, List.set_cons_succ, i64_w, i32_w]
      rfl
    refine take_ (i := 0) (N := some 17) (v := ?_) (a' := ?_) #[true, true, false, true, false, false, false, false, false, false] rfl rfl (by kernel_rfl) (fun _ _ _ h => h) (Or.inl ⟨by rfl, ?_⟩) hHeld ?_ ?_
    rotate_left
    · rintro w' ⟨s0, s1, s2, s3, s4, s5, s6⟩
      go_simp
      with_reducible rfl
    rotate_left
    · simp only [Act.put, List.setIfInBounds_toArray, List.set_cons_zero, List.set_cons_succ, i64_w, i32_w]
      rfl
    refine one_ (i := 2) (N := some 19) #[true, true, true, true, false, false, false, false, false, false] rfl rfl (by kernel_rfl) (by decide) (fun K hK => ?_)
    obtain ⟨Az, cz, ez, hlz, hrz⟩ := OwnRow.reads HMd.out.2
    injection ez with ez1 ez2 ez3
    subst ez1 ez3
    refine Kd.R_append_rows_step (kmix W) (Rr := fun x cs => (kmix W).M w3.drew W.heap.size (fun k => True ∧ some k ≠ (Value.slice El ls.length sl).ownBlock) x cs) (w0 := W) W.heap.size (by rfl) (.const (.slice none 0 0)) (.tmp 18) 26 56 (.agg #[.int .i64 0, .int .i64 0, .slice none 0 0]) 40 rfl Try.underlying26 info56 rfl (show 0 < 3 by decide) (by omega) (.slice none 0 0) ([] : List S56) ls _ _ _ (fun _ => True) (fun _ => True) rfl rfl ?aO ?aR (fun _ _ h => (kmix W).M_mono (fun _ _ => trivial) h) (fun _ _ => ⟨trivial, fun e => by cases e⟩) (fun _ _ => trivial) ?aB ?aS ?aL ?_
    (case aO => exact Kd.R_nil _ _ _ _ _)
    (case aR => exact hrz)
    (case aB => exact HBd.out)
    (case aS => exact HLd.out)
    (case aL => have := HSX.out; simp at this ⊢; omega)
    intro v6 w6 ho hb6 hg6 hat6
    obtain ⟨A6, q6, e6⟩ := Kd.R_slice ho
    subst e6
    have HO6 := Aside0.mk (show Kd.R (kmix W) 56 w6 W.heap.size (fun _ => True) (.slice A6 ls.length q6) ls from ho)
    have HB6 := Aside0.mk hb6
    have R36 := Aside0.mk (Kd.R_over (R3d.out) (Kd.R_nil k56 56 _ W.heap.size (fun _ => True)) (by decide) hg6)
    have R46 := Aside0.mk (Kd.R_over (R4d.out) (Kd.R_nil k56 56 _ W.heap.size (fun _ => True)) (by decide) hg6)
    have R56 := Aside0.mk (Kd.R_over (R5d.out) (Kd.R_nil k56 56 _ W.heap.size (fun _ => True)) (by decide) hg6)
    have HD6 := Aside0.mk (blk_grown HDd.out hg6 (Kd.R_ne (Kd.R_nil k56 56 _ W.heap.size (fun _ => True)) HDd.out (by decide)))
    clear ho hb6 hg6 hat6
    refine hK.out _ _ ⟨(blk_cell HD6.out 0).trans rfl, (blk_cell HD6.out 1).trans rfl, (blk_cell HD6.out 2).trans rfl, (blk_cell HD6.out 3).trans rfl, (blk_cell HD6.out 4).trans rfl, (blk_cell HD6.out 5).trans rfl, (blk_cell HD6.out 6).trans rfl⟩ (fun hHeld => ?_)
    clear hK K
    refine norm_ (a' := ?_) ?_ ?_
    rotate_left
    · show Act.put _ (some 19) _ = _
      simp only [Act.put, List.setIfInBounds_toArray, List.set_cons_zero, List.set_cons_succ, i64_w, i32_w]
      rfl
    refine one_ (i := 4) (N := some 21) #[true, true, true, true, true, false, false, false, false, false] rfl rfl (by kernel_rfl) (by decide) (fun K hK => ?_)
    refine Kd.R_append_rows_step (kmix W) (w0 := W) W.heap.size (by rfl) (.tmp 19) (.tmp 20) 26 56 (.agg #[.int .i64 0, .int .i64 0, .slice none 0 0]) 40 rfl Try.underlying26 info56 rfl (show 0 < 3 by decide) (by omega) (.slice A6 ls.length q6) ls more _ _ _ (fun _ => True) (fun _ => False) rfl rfl ?aO ?aR (fun _ _ h => kmix_came h) (fun _ hk => hk.elim) (fun _ _ => trivial) ?aB ?aS ?aL ?_
    (case aO => exact HO6.out)
    (case aR => exact labs_rows HK.out HB6.out)
    (case aB => exact HB6.out)
    (case aS => exact HB6.out.size)
    (case aL => have := HSX.out; simp at this ⊢; omega)
    intro v7 w7 ho hb7 hg7 hat7
    obtain ⟨A7, q7, e7⟩ := Kd.R_slice ho
    subst e7
    have HO7 := Aside0.mk ho
    have HB7 := Aside0.mk hb7
    have R37 := Aside0.mk (Kd.R_over (R36.out) HO6.out (by decide) hg7)
    have R47 := Aside0.mk (Kd.R_over (R46.out) HO6.out (by decide) hg7)
    have R57 := Aside0.mk (Kd.R_over (R56.out) HO6.out (by decide) hg7)
    have HD7 := Aside0.mk (blk_grown HD6.out hg7 (Kd.R_ne HO6.out HD6.out (by decide)))
    clear ho hb7 hg7 hat7
    have HCF := Aside0.mk (show ConfR _ (d0, d1, d2, m3, m4, m5, d6) E3 s3 E4 s4 E5 s5 from ⟨(Kd.R_reads' R37.out).2.2, (Kd.R_reads' R37.out).2.1, (Kd.R_reads' R47.out).2.2, (Kd.R_reads' R47.out).2.1, (Kd.R_reads' R57.out).2.2, (Kd.R_reads' R57.out).2.1⟩)
    have HLS := Aside0.mk (show LabsR _ (ls ++ more) A7 q7 from ⟨kmix_read HB7.out (Kd.R_reads' HO7.out).2.2, (Kd.R_reads' HO7.out).2.1⟩)
    refine hK.out _ _ ⟨(blk_cell HD7.out 0).trans rfl, (blk_cell HD7.out 1).trans rfl, (blk_cell HD7.out 2).trans rfl, (blk_cell HD7.out 3).trans rfl, (blk_cell HD7.out 4).trans rfl, (blk_cell HD7.out 5).trans rfl, (blk_cell HD7.out 6).trans rfl⟩ (fun hHeld => ?_)
    clear hK K
    refine norm_ (a' := ?_) ?_ ?_
    rotate_left
    · show Act.put _ (some 21) _ = _
      simp only [Act.put, List.setIfInBounds_toArray, List.set_cons_zero, List.set_cons_succ, i64_w, i32_w]
      rfl
    refine last_ (i := 5) (N := some 22) #[true, true, true, true, true, true, false, false, false, false] rfl rfl (by kernel_rfl) (by decide) (fun K hK => ?_)
    refine goes_ Try.func10 (by kernel_rfl) rfl #[.agg #[.int .i64 d0, .int .i64 d1, .int .i64 d2, .slice E3 m3.length s3, .slice E4 m4.length s4, .slice E5 m5.length s5, .bool d6], .slice A7 (ls ++ more).length q7] (by rfl) rfl rfl (by simp only [List.map_toArray, List.map_cons, List.map_nil]; rfl) ?_
    refine (rwrite_calls (c := (d0, d1, d2, m3, m4, m5, d6)) (ls := ls ++ more) HCF.out HLS.out HSX.out).mono ?_
    rintro e w8 ⟨A8, q8, rfl, hbw, hbel⟩
    refine ⟨_, rfl, ?_⟩
    have HW8 := Aside0.mk hbw
    have HB8 := Aside0.mk (HB7.out.trans (hbel.mono HB7.out.size))
    clear hbw hbel
    refine hK.out _ _ ?_
    clear hK K
    refine norm_ (a' := ?_) ?_ ?_
    rotate_left
    · show Act.put _ (some 22) _ = _
      simp only [Act.put, List.setIfInBounds_toArray, List.set_cons_zero, List.set_cons_succ, i64_w, i32_w]
      rfl
    refine pure_ (i := 6) (N := some 23) (v := ?_) (a' := ?_) #[true, true, true, true, true, true, true, false, false, false] rfl rfl (by kernel_rfl) (fun _ _ _ h => h) (Or.inl ⟨by rfl, ?_⟩) ?_ ?_
    rotate_left
    · intro w'
      go_simp
      with_reducible rfl
    rotate_left
    · simp only [Act.put, List.setIfInBounds_toArray, List.set_cons_zero, List.set_cons_succ, i64_w, i32_w]
      rfl
    refine pure_ (i := 7) (N := some 24) (v := ?_) (a' := ?_) #[true, true, true, true, true, true, true, true, false, false] rfl rfl (by kernel_rfl) (fun _ _ _ h => h) (Or.inl ⟨by rfl, ?_⟩) ?_ ?_
    rotate_left
    · intro w'
      go_simp
      with_reducible rfl
    rotate_left
    · simp only [Act.put, List.setIfInBounds_toArray, List.set_cons_zero, List.set_cons_succ, i64_w, i32_w]
      rfl
    refine pure_ (i := 8) (N := some 4) (v := ?_) (a' := ?_) #[true, true, true, true, true, true, true, true, true, false] rfl rfl (by kernel_rfl) (fun _ _ _ h => h) (Or.inl ⟨by rfl, ?_⟩) ?_ ?_
    rotate_left
    · intro w'
      go_simp
      with_reducible rfl
    rotate_left
    · simp only [Act.put, List.setIfInBounds_toArray, List.set_cons_zero, List.set_cons_succ, i64_w, i32_w]
      rfl
    refine pure_ (i := 9) (N := some 5) (v := ?_) (a' := ?_) #[true, true, true, true, true, true, true, true, true, true] rfl rfl (by kernel_rfl) (fun _ _ _ h => h) (Or.inl ⟨by rfl, ?_⟩) ?_ ?_
    rotate_left
    · intro w'
      go_simp
      with_reducible rfl
    rotate_left
    · simp only [Act.put, List.setIfInBounds_toArray, List.set_cons_zero, List.set_cons_succ, i64_w, i32_w]
      rfl
    refine done_ (by kernel_rfl) ?_
    go_wp2_with fail
    refine bodyPost_ret (results_list (rs := [.tmp 4, .tmp 5]) rfl (by simp) (.tmp (.tmp .nil))) rfl ?_
    exact ⟨A8, q8, by rw [(addB_some HX.out).1, (addB_some HX.out).2]; rfl, by rw [(addB_some HX.out).1]; exact HW8.out, HB8.out⟩

set_option maxRecDepth 100000 in
set_option maxHeartbeats 4000000 in
theorem rcut_calls {W : World} {lb : List Int} {Ab : Option Addr} {qb : Nat} {n : Int} (hb : BytR W lb Ab qb) (hy : Byt lb) (hl : lb.length ≤ 8589934592) (hs : ∀ c ls, readL lb = some (c, ls) → ls.length ≤ 1048576) :
    Calls Try.prog 22 #[.slice Ab lb.length qb, .int .i64 n] W fun e w' => ∃ A1 q1, e = .returned (.tuple #[.slice A1 (cutB lb n).length q1, .int .i64 (cutE lb n)]) ∧ BytR w' (cutB lb n) A1 q1 ∧ Below W.heap.size W w' := by
  have hu25 := Try.underlying25
  have HB := Aside0.mk hb
  have HY := Aside0.mk hy
  have HLL := Aside0.mk hl
  have HS := Aside0.mk hs
  clear hb hy hl hs
  go_enter Try.func22, Try.ntmps22
  go_wp2_with fail
  refine (rread_calls W Ab qb lb HB.out.r HB.out.c HY.out HLL.out).mono ?_
  intro e w1 hp
  obtain ⟨hbel, hp⟩ := hp
  have HB1 := Aside0.mk hbel
  clear hbel
  cases hL : readL lb with
  | none =>
    rw [hL] at hp
    obtain rfl := hp
    have HN := Aside0.mk hL
    clear hL
    dsimp only [zconf]
    go_wp2_with (first | ((with_reducible refine gate_dst (N := 6) rfl ?_); go_loud (refine box_event ?hg (N := 6) ?hd (cs := #[.int .i64 0, .int .i64 0, .int .i64 0, .slice none 0 0, .slice none 0 0, .slice none 0 0, .bool false]) (t := 25) ?hr ?_; (case hd => rfl); (case hg => rfl); (case hr => first | (go_simp; done) | (go_simp; rfl)); intro gx hg w2 hbox hbx; have HLgx := Aside0.mk (show w1.heap.size ≤ gx by omega); have HDgx := Aside0.mk hbox; have HXgx := Aside0.mk hbx; have ygx0 : w2.cell? ⟨gx, 0, none⟩ = some (.int .i64 0) := (blk_cell hbox 0).trans rfl; have ygx1 : w2.cell? ⟨gx, 1, none⟩ = some (.int .i64 0) := (blk_cell hbox 1).trans rfl; have ygx2 : w2.cell? ⟨gx, 2, none⟩ = some (.int .i64 0) := (blk_cell hbox 2).trans rfl; have ygx3 : w2.cell? ⟨gx, 3, none⟩ = some (.slice none 0 0) := (blk_cell hbox 3).trans rfl; have ygx4 : w2.cell? ⟨gx, 4, none⟩ = some (.slice none 0 0) := (blk_cell hbox 4).trans rfl; have ygx5 : w2.cell? ⟨gx, 5, none⟩ = some (.slice none 0 0) := (blk_cell hbox 5).trans rfl; have ygx6 : w2.cell? ⟨gx, 6, none⟩ = some (.bool false) := (blk_cell hbox 6).trans rfl; have fygx0 := blk_frozen hbox 0; have fygx1 := blk_frozen hbox 1; have fygx2 := blk_frozen hbox 2; have fygx3 := blk_frozen hbox 3; have fygx4 := blk_frozen hbox 4; have fygx5 := blk_frozen hbox 5; have fygx6 := blk_frozen hbox 6; clear hg hbox hbx)) | fail)
    go_wp2_with fail
    refine bodyPost_ret (results_list (rs := [.tmp 4, .tmp 5]) rfl (by simp) (.tmp (.tmp .nil))) rfl ?_
    exact ⟨none, 0, by simp only [cutB, cutE, HN.out]; rfl, ⟨by simp only [cutB, HN.out]; exact Kd.C_nil _ _, by simp [cutB, HN.out]⟩, HB1.out.trans (((((((((HXgx.out.setCell HLgx.out _).setCell HLgx.out _).setCell HLgx.out _).setCell HLgx.out _).setCell HLgx.out _).setCell HLgx.out _).setCell HLgx.out _)).mono HB1.out.size)⟩
  | some x =>
    obtain ⟨⟨d0, d1, d2, m3, m4, m5, d6⟩, ls⟩ := x
    rw [hL] at hp
    obtain ⟨v3, v4, v5, vl, rfl, hr3, hr4, hr5, hrl⟩ := hp
    obtain ⟨E3, s3, rfl, g3, k3⟩ := Kd.R_reads hr3
    obtain ⟨E4, s4, rfl, g4, k4⟩ := Kd.R_reads hr4
    obtain ⟨E5, s5, rfl, g5, k5⟩ := Kd.R_reads hr5
    have R31 := Aside0.mk hr3
    have R41 := Aside0.mk hr4
    have R51 := Aside0.mk hr5
    have HO1 := Aside0.mk hrl
    have HX := Aside0.mk hL
    have HSX := Aside0.mk (HS.out _ _ hL)
    clear hL hr3 hr4 hr5 hrl g3 k3 g4 k4 g5 k5 HS
    obtain ⟨El, sl, rfl⟩ := Kd.R_slice HO1.out
    by_cases hn0 : n < 0
    · have hd0 : decide (n < 0) = true := by simp; omega
      have HN0 := Aside0.mk hn0
      clear hn0
      go_wp2_with (first | ((with_reducible refine gate_dst (N := 6) rfl ?_); go_loud (refine box_event ?hg (N := 6) ?hd (cs := #[.int .i64 0, .int .i64 0, .int .i64 0, .slice none 0 0, .slice none 0 0, .slice none 0 0, .bool false]) (t := 25) ?hr ?_; (case hd => rfl); (case hg => rfl); (case hr => first | (go_simp; done) | (go_simp; rfl)); intro gx hg w2 hbox hbx; have HLgx := Aside0.mk (show w1.heap.size ≤ gx by omega); have HDgx := Aside0.mk hbox; have HXgx := Aside0.mk hbx; have ygx0 : w2.cell? ⟨gx, 0, none⟩ = some (.int .i64 0) := (blk_cell hbox 0).trans rfl; have ygx1 : w2.cell? ⟨gx, 1, none⟩ = some (.int .i64 0) := (blk_cell hbox 1).trans rfl; have ygx2 : w2.cell? ⟨gx, 2, none⟩ = some (.int .i64 0) := (blk_cell hbox 2).trans rfl; have ygx3 : w2.cell? ⟨gx, 3, none⟩ = some (.slice none 0 0) := (blk_cell hbox 3).trans rfl; have ygx4 : w2.cell? ⟨gx, 4, none⟩ = some (.slice none 0 0) := (blk_cell hbox 4).trans rfl; have ygx5 : w2.cell? ⟨gx, 5, none⟩ = some (.slice none 0 0) := (blk_cell hbox 5).trans rfl; have ygx6 : w2.cell? ⟨gx, 6, none⟩ = some (.bool false) := (blk_cell hbox 6).trans rfl; have fygx0 := blk_frozen hbox 0; have fygx1 := blk_frozen hbox 1; have fygx2 := blk_frozen hbox 2; have fygx3 := blk_frozen hbox 3; have fygx4 := blk_frozen hbox 4; have fygx5 := blk_frozen hbox 5; have fygx6 := blk_frozen hbox 6; clear hg hbox hbx)) | fail)
      have hb3 : Below w1.heap.size w1 (((((((w2.setCell ⟨gx, 0, none⟩ (.int .i64 d0)).setCell ⟨gx, 1, none⟩ (.int .i64 d1)).setCell ⟨gx, 2, none⟩ (.int .i64 d2)).setCell ⟨gx, 3, none⟩ (.slice E3 m3.length s3)).setCell ⟨gx, 4, none⟩ (.slice E4 m4.length s4)).setCell ⟨gx, 5, none⟩ (.slice E5 m5.length s5)).setCell ⟨gx, 6, none⟩ (.bool d6)) := (((((((HXgx.out.setCell HLgx.out _).setCell HLgx.out _).setCell HLgx.out _).setCell HLgx.out _).setCell HLgx.out _).setCell HLgx.out _).setCell HLgx.out _)
      have hd3 := (show _ = some (.cells #[.int .i64 d0, .int .i64 d1, .int .i64 d2, .slice E3 m3.length s3, .slice E4 m4.length s4, .slice E5 m5.length s5, .bool d6] 25 (0, 0)) from (blk_set (blk_set (blk_set (blk_set (blk_set (blk_set (blk_set (HDgx.out) 0 (.int .i64 d0)) 1 (.int .i64 d1)) 2 (.int .i64 d2)) 3 (.slice E3 m3.length s3)) 4 (.slice E4 m4.length s4)) 5 (.slice E5 m5.length s5)) 6 (.bool d6)).trans rfl)
      obtain ⟨w3, hw3⟩ : ∃ w3, w3 = (((((((w2.setCell ⟨gx, 0, none⟩ (.int .i64 d0)).setCell ⟨gx, 1, none⟩ (.int .i64 d1)).setCell ⟨gx, 2, none⟩ (.int .i64 d2)).setCell ⟨gx, 3, none⟩ (.slice E3 m3.length s3)).setCell ⟨gx, 4, none⟩ (.slice E4 m4.length s4)).setCell ⟨gx, 5, none⟩ (.slice E5 m5.length s5)).setCell ⟨gx, 6, none⟩ (.bool d6)) := ⟨_, rfl⟩
      rw [← hw3] at hb3 hd3 ⊢
      have HD3 := Aside0.mk hd3
      have R33 := Aside0.mk (Kd.R_below R31.out hb3)
      have R43 := Aside0.mk (Kd.R_below R41.out hb3)
      have R53 := Aside0.mk (Kd.R_below R51.out hb3)
      have HO3 := Aside0.mk (Kd.R_below HO1.out hb3)
      have HB3 := Aside0.mk (HB1.out.trans (hb3.mono HB1.out.size))
      have HGX := Aside0.mk (show W.heap.size ≤ gx by have := HB1.out.size; have := HLgx.out; omega)
      clear hw3 hb3 hd3 R31 R41 R51 HO1 HDgx HXgx HLgx ygx0 fygx0 ygx1 fygx1 ygx2 fygx2 ygx3 fygx3 ygx4 fygx4 ygx5 fygx5 ygx6 fygx6
      have hcell : w3.cell? ⟨gx, 0, none⟩ = some (.int .i64 d0) ∧ w3.cell? ⟨gx, 1, none⟩ = some (.int .i64 d1) ∧ w3.cell? ⟨gx, 2, none⟩ = some (.int .i64 d2) ∧ w3.cell? ⟨gx, 3, none⟩ = some (.slice E3 m3.length s3) ∧ w3.cell? ⟨gx, 4, none⟩ = some (.slice E4 m4.length s4) ∧ w3.cell? ⟨gx, 5, none⟩ = some (.slice E5 m5.length s5) ∧ w3.cell? ⟨gx, 6, none⟩ = some (.bool d6) := ⟨(blk_cell HD3.out 0).trans rfl, (blk_cell HD3.out 1).trans rfl, (blk_cell HD3.out 2).trans rfl, (blk_cell HD3.out 3).trans rfl, (blk_cell HD3.out 4).trans rfl, (blk_cell HD3.out 5).trans rfl, (blk_cell HD3.out 6).trans rfl⟩
      obtain ⟨hx0, hx1, hx2, hx3, hx4, hx5, hx6⟩ := hcell
      refine bodyPost_ret (results_list (rs := [.tmp 4, .tmp 5]) rfl (by simp) (.tmp (.tmp .nil))) rfl ?_
      exact ⟨none, 0, by rw [(cutB_out HX.out (.inl HN0.out)).1, (cutB_out HX.out (.inl HN0.out)).2]; rfl, by rw [(cutB_out HX.out (.inl HN0.out)).1]; exact ⟨Kd.C_nil _ _, by simp⟩, HB3.out⟩
    have hd0 : decide (n < 0) = false := by simp; omega
    by_cases hn1 : (ls.length : Int) < n
    · have hd1 : decide ((ls.length : Int) < n) = true := by simp; omega
      have HN0 := Aside0.mk hn1
      clear hn0 hn1
      go_wp2_with (first | ((with_reducible refine gate_dst (N := 6) rfl ?_); go_loud (refine box_event ?hg (N := 6) ?hd (cs := #[.int .i64 0, .int .i64 0, .int .i64 0, .slice none 0 0, .slice none 0 0, .slice none 0 0, .bool false]) (t := 25) ?hr ?_; (case hd => rfl); (case hg => rfl); (case hr => first | (go_simp; done) | (go_simp; rfl)); intro gx hg w2 hbox hbx; have HLgx := Aside0.mk (show w1.heap.size ≤ gx by omega); have HDgx := Aside0.mk hbox; have HXgx := Aside0.mk hbx; have ygx0 : w2.cell? ⟨gx, 0, none⟩ = some (.int .i64 0) := (blk_cell hbox 0).trans rfl; have ygx1 : w2.cell? ⟨gx, 1, none⟩ = some (.int .i64 0) := (blk_cell hbox 1).trans rfl; have ygx2 : w2.cell? ⟨gx, 2, none⟩ = some (.int .i64 0) := (blk_cell hbox 2).trans rfl; have ygx3 : w2.cell? ⟨gx, 3, none⟩ = some (.slice none 0 0) := (blk_cell hbox 3).trans rfl; have ygx4 : w2.cell? ⟨gx, 4, none⟩ = some (.slice none 0 0) := (blk_cell hbox 4).trans rfl; have ygx5 : w2.cell? ⟨gx, 5, none⟩ = some (.slice none 0 0) := (blk_cell hbox 5).trans rfl; have ygx6 : w2.cell? ⟨gx, 6, none⟩ = some (.bool false) := (blk_cell hbox 6).trans rfl; have fygx0 := blk_frozen hbox 0; have fygx1 := blk_frozen hbox 1; have fygx2 := blk_frozen hbox 2; have fygx3 := blk_frozen hbox 3; have fygx4 := blk_frozen hbox 4; have fygx5 := blk_frozen hbox 5; have fygx6 := blk_frozen hbox 6; clear hg hbox hbx)) | fail)
      have hb3 : Below w1.heap.size w1 (((((((w2.setCell ⟨gx, 0, none⟩ (.int .i64 d0)).setCell ⟨gx, 1, none⟩ (.int .i64 d1)).setCell ⟨gx, 2, none⟩ (.int .i64 d2)).setCell ⟨gx, 3, none⟩ (.slice E3 m3.length s3)).setCell ⟨gx, 4, none⟩ (.slice E4 m4.length s4)).setCell ⟨gx, 5, none⟩ (.slice E5 m5.length s5)).setCell ⟨gx, 6, none⟩ (.bool d6)) := (((((((HXgx.out.setCell HLgx.out _).setCell HLgx.out _).setCell HLgx.out _).setCell HLgx.out _).setCell HLgx.out _).setCell HLgx.out _).setCell HLgx.out _)
      have hd3 := (show _ = some (.cells #[.int .i64 d0, .int .i64 d1, .int .i64 d2, .slice E3 m3.length s3, .slice E4 m4.length s4, .slice E5 m5.length s5, .bool d6] 25 (0, 0)) from (blk_set (blk_set (blk_set (blk_set (blk_set (blk_set (blk_set (HDgx.out) 0 (.int .i64 d0)) 1 (.int .i64 d1)) 2 (.int .i64 d2)) 3 (.slice E3 m3.length s3)) 4 (.slice E4 m4.length s4)) 5 (.slice E5 m5.length s5)) 6 (.bool d6)).trans rfl)
      obtain ⟨w3, hw3⟩ : ∃ w3, w3 = (((((((w2.setCell ⟨gx, 0, none⟩ (.int .i64 d0)).setCell ⟨gx, 1, none⟩ (.int .i64 d1)).setCell ⟨gx, 2, none⟩ (.int .i64 d2)).setCell ⟨gx, 3, none⟩ (.slice E3 m3.length s3)).setCell ⟨gx, 4, none⟩ (.slice E4 m4.length s4)).setCell ⟨gx, 5, none⟩ (.slice E5 m5.length s5)).setCell ⟨gx, 6, none⟩ (.bool d6)) := ⟨_, rfl⟩
      rw [← hw3] at hb3 hd3 ⊢
      have HD3 := Aside0.mk hd3
      have R33 := Aside0.mk (Kd.R_below R31.out hb3)
      have R43 := Aside0.mk (Kd.R_below R41.out hb3)
      have R53 := Aside0.mk (Kd.R_below R51.out hb3)
      have HO3 := Aside0.mk (Kd.R_below HO1.out hb3)
      have HB3 := Aside0.mk (HB1.out.trans (hb3.mono HB1.out.size))
      have HGX := Aside0.mk (show W.heap.size ≤ gx by have := HB1.out.size; have := HLgx.out; omega)
      clear hw3 hb3 hd3 R31 R41 R51 HO1 HDgx HXgx HLgx ygx0 fygx0 ygx1 fygx1 ygx2 fygx2 ygx3 fygx3 ygx4 fygx4 ygx5 fygx5 ygx6 fygx6
      have hcell : w3.cell? ⟨gx, 0, none⟩ = some (.int .i64 d0) ∧ w3.cell? ⟨gx, 1, none⟩ = some (.int .i64 d1) ∧ w3.cell? ⟨gx, 2, none⟩ = some (.int .i64 d2) ∧ w3.cell? ⟨gx, 3, none⟩ = some (.slice E3 m3.length s3) ∧ w3.cell? ⟨gx, 4, none⟩ = some (.slice E4 m4.length s4) ∧ w3.cell? ⟨gx, 5, none⟩ = some (.slice E5 m5.length s5) ∧ w3.cell? ⟨gx, 6, none⟩ = some (.bool d6) := ⟨(blk_cell HD3.out 0).trans rfl, (blk_cell HD3.out 1).trans rfl, (blk_cell HD3.out 2).trans rfl, (blk_cell HD3.out 3).trans rfl, (blk_cell HD3.out 4).trans rfl, (blk_cell HD3.out 5).trans rfl, (blk_cell HD3.out 6).trans rfl⟩
      obtain ⟨hx0, hx1, hx2, hx3, hx4, hx5, hx6⟩ := hcell
      refine bodyPost_ret (results_list (rs := [.tmp 4, .tmp 5]) rfl (by simp) (.tmp (.tmp .nil))) rfl ?_
      exact ⟨none, 0, by rw [(cutB_out HX.out (.inr HN0.out)).1, (cutB_out HX.out (.inr HN0.out)).2]; rfl, by rw [(cutB_out HX.out (.inr HN0.out)).1]; exact ⟨Kd.C_nil _ _, by simp⟩, HB3.out⟩
    have hd1 : decide ((ls.length : Int) < n) = false := by simp; omega
    have HN0 := Aside0.mk (show ¬ (n < 0 ∨ (ls.length : Int) < n) by omega)
    go_wp2_with (first | ((with_reducible refine gate_dst (N := 6) rfl ?_); go_loud (refine box_event ?hg (N := 6) ?hd (cs := #[.int .i64 0, .int .i64 0, .int .i64 0, .slice none 0 0, .slice none 0 0, .slice none 0 0, .bool false]) (t := 25) ?hr ?_; (case hd => rfl); (case hg => rfl); (case hr => first | (go_simp; done) | (go_simp; rfl)); intro gx hg w2 hbox hbx; have HLgx := Aside0.mk (show w1.heap.size ≤ gx by omega); have HDgx := Aside0.mk hbox; have HXgx := Aside0.mk hbx; have ygx0 : w2.cell? ⟨gx, 0, none⟩ = some (.int .i64 0) := (blk_cell hbox 0).trans rfl; have ygx1 : w2.cell? ⟨gx, 1, none⟩ = some (.int .i64 0) := (blk_cell hbox 1).trans rfl; have ygx2 : w2.cell? ⟨gx, 2, none⟩ = some (.int .i64 0) := (blk_cell hbox 2).trans rfl; have ygx3 : w2.cell? ⟨gx, 3, none⟩ = some (.slice none 0 0) := (blk_cell hbox 3).trans rfl; have ygx4 : w2.cell? ⟨gx, 4, none⟩ = some (.slice none 0 0) := (blk_cell hbox 4).trans rfl; have ygx5 : w2.cell? ⟨gx, 5, none⟩ = some (.slice none 0 0) := (blk_cell hbox 5).trans rfl; have ygx6 : w2.cell? ⟨gx, 6, none⟩ = some (.bool false) := (blk_cell hbox 6).trans rfl; have fygx0 := blk_frozen hbox 0; have fygx1 := blk_frozen hbox 1; have fygx2 := blk_frozen hbox 2; have fygx3 := blk_frozen hbox 3; have fygx4 := blk_frozen hbox 4; have fygx5 := blk_frozen hbox 5; have fygx6 := blk_frozen hbox 6; clear hg hbox hbx)) | fail)
    have hb3 : Below w1.heap.size w1 (((((((w2.setCell ⟨gx, 0, none⟩ (.int .i64 d0)).setCell ⟨gx, 1, none⟩ (.int .i64 d1)).setCell ⟨gx, 2, none⟩ (.int .i64 d2)).setCell ⟨gx, 3, none⟩ (.slice E3 m3.length s3)).setCell ⟨gx, 4, none⟩ (.slice E4 m4.length s4)).setCell ⟨gx, 5, none⟩ (.slice E5 m5.length s5)).setCell ⟨gx, 6, none⟩ (.bool d6)) := (((((((HXgx.out.setCell HLgx.out _).setCell HLgx.out _).setCell HLgx.out _).setCell HLgx.out _).setCell HLgx.out _).setCell HLgx.out _).setCell HLgx.out _)
    have hd3 := (show _ = some (.cells #[.int .i64 d0, .int .i64 d1, .int .i64 d2, .slice E3 m3.length s3, .slice E4 m4.length s4, .slice E5 m5.length s5, .bool d6] 25 (0, 0)) from (blk_set (blk_set (blk_set (blk_set (blk_set (blk_set (blk_set (HDgx.out) 0 (.int .i64 d0)) 1 (.int .i64 d1)) 2 (.int .i64 d2)) 3 (.slice E3 m3.length s3)) 4 (.slice E4 m4.length s4)) 5 (.slice E5 m5.length s5)) 6 (.bool d6)).trans rfl)
    obtain ⟨w3, hw3⟩ : ∃ w3, w3 = (((((((w2.setCell ⟨gx, 0, none⟩ (.int .i64 d0)).setCell ⟨gx, 1, none⟩ (.int .i64 d1)).setCell ⟨gx, 2, none⟩ (.int .i64 d2)).setCell ⟨gx, 3, none⟩ (.slice E3 m3.length s3)).setCell ⟨gx, 4, none⟩ (.slice E4 m4.length s4)).setCell ⟨gx, 5, none⟩ (.slice E5 m5.length s5)).setCell ⟨gx, 6, none⟩ (.bool d6)) := ⟨_, rfl⟩
    rw [← hw3] at hb3 hd3 ⊢
    have HD3 := Aside0.mk hd3
    have R33 := Aside0.mk (Kd.R_below R31.out hb3)
    have R43 := Aside0.mk (Kd.R_below R41.out hb3)
    have R53 := Aside0.mk (Kd.R_below R51.out hb3)
    have HO3 := Aside0.mk (Kd.R_below HO1.out hb3)
    have HB3 := Aside0.mk (HB1.out.trans (hb3.mono HB1.out.size))
    have HGX := Aside0.mk (show W.heap.size ≤ gx by have := HB1.out.size; have := HLgx.out; omega)
    clear hw3 hb3 hd3 R31 R41 R51 HO1 HDgx HXgx HLgx ygx0 fygx0 ygx1 fygx1 ygx2 fygx2 ygx3 fygx3 ygx4 fygx4 ygx5 fygx5 ygx6 fygx6
    have hcell : w3.cell? ⟨gx, 0, none⟩ = some (.int .i64 d0) ∧ w3.cell? ⟨gx, 1, none⟩ = some (.int .i64 d1) ∧ w3.cell? ⟨gx, 2, none⟩ = some (.int .i64 d2) ∧ w3.cell? ⟨gx, 3, none⟩ = some (.slice E3 m3.length s3) ∧ w3.cell? ⟨gx, 4, none⟩ = some (.slice E4 m4.length s4) ∧ w3.cell? ⟨gx, 5, none⟩ = some (.slice E5 m5.length s5) ∧ w3.cell? ⟨gx, 6, none⟩ = some (.bool d6) := ⟨(blk_cell HD3.out 0).trans rfl, (blk_cell HD3.out 1).trans rfl, (blk_cell HD3.out 2).trans rfl, (blk_cell HD3.out 3).trans rfl, (blk_cell HD3.out 4).trans rfl, (blk_cell HD3.out 5).trans rfl, (blk_cell HD3.out 6).trans rfl⟩
    obtain ⟨hx0, hx1, hx2, hx3, hx4, hx5, hx6⟩ := hcell
    have hn0 := HN0.out
    have hlt : (ls.take n.toNat).length = n.toNat := by rw [List.length_take]; omega
    have hsl : ls.length ≤ sl := (Kd.R_reads' HO3.out).2.1
    have HTK := Aside0.mk (show Kd.R k56 56 w3 W.heap.size (fun _ => True) (.slice El (ls.take n.toNat).length sl) (ls.take n.toNat) by rw [hlt]; exact Kd.R_take HO3.out (by omega))
    have HST := Aside0.mk (show (ls.take n.toNat).length ≤ 1048576 by have := HSX.out; rw [hlt]; omega)
    have HCF := Aside0.mk (show ConfR w3.drew (d0, d1, d2, m3, m4, m5, d6) E3 s3 E4 s4 E5 s5 from ConfR.below (W := w3) ⟨(Kd.R_reads' R33.out).2.2, (Kd.R_reads' R33.out).2.1, (Kd.R_reads' R43.out).2.2, (Kd.R_reads' R43.out).2.1, (Kd.R_reads' R53.out).2.2, (Kd.R_reads' R53.out).2.1⟩ (below_drew (Below.refl _ _)))
    have HLS := Aside0.mk (show LabsR w3.drew (ls.take n.toNat) El sl from LabsR.below (W := w3) ⟨(Kd.R_reads' HTK.out).2.2, (Kd.R_reads' HTK.out).2.1⟩ (below_drew (Below.refl _ _)))
    have HBd := Aside0.mk (below_drew HB3.out)
    have HDd := Aside0.mk (show w3.drew.heap[gx]? = _ from HD3.out)
    have HLT := Aside0.mk hlt
    have hcut : ∀ Wc : World, (Instr.slice 26 (.slice El ls.length sl) none (some (.int .i64 n)) none).run Try.prog Wc = .ok (.slice El n.toNat sl) Wc := fun Wc => by
      obtain ⟨i0, hi0, _, hsz, _⟩ := info_parts info56
      exact cut_to (P := Try.prog) 26 56 .i64 Try.underlying26 hi0 El ls.length sl n (by omega) (by omega) hsl Wc
    clear hn0 hlt hsl
    refine start_ (n := 9) (S := fun w' => w'.cell? ⟨gx, 0, none⟩ = some (.int .i64 d0) ∧ w'.cell? ⟨gx, 1, none⟩ = some (.int .i64 d1) ∧ w'.cell? ⟨gx, 2, none⟩ = some (.int .i64 d2) ∧ w'.cell? ⟨gx, 3, none⟩ = some (.slice E3 m3.length s3) ∧ w'.cell? ⟨gx, 4, none⟩ = some (.slice E4 m4.length s4) ∧ w'.cell? ⟨gx, 5, none⟩ = some (.slice E5 m5.length s5) ∧ w'.cell? ⟨gx, 6, none⟩ = some (.bool d6)) (ds := [4]) #[false, false, false, false, false, false, false, false, false] (by kernel_rfl) rfl rfl ⟨(blk_cell HDd.out 0).trans rfl, (blk_cell HDd.out 1).trans rfl, (blk_cell HDd.out 2).trans rfl, (blk_cell HDd.out 3).trans rfl, (blk_cell HDd.out 4).trans rfl, (blk_cell HDd.out 5).trans rfl, (blk_cell HDd.out 6).trans rfl⟩ (fun hHeld => ?_)
    refine pure_ (i := 1) (N := some 28) (v := ?_) (a' := ?_) #[false, true, false, false, false, false, false, false, false] rfl rfl (by kernel_rfl) (fun _ _ _ h => h) (Or.inl ⟨by rfl, ?_⟩) ?_ ?_
    rotate_left
    · intro w'
      go_simp
      with_reducible rfl
    rotate_left
    · simp only [Act.put, List.setIfInBounds_toArray, List.set_cons_zero, List.set_cons_succ, i64_w, i32_w]
      rfl
    refine pure_ (i := 2) (N := some 29) (v := ?_) (a' := ?_) #[false, true, true, false, false, false, false, false, false] rfl rfl (by kernel_rfl) (fun _ _ _ h => h) (Or.inl ⟨by rfl, ?_⟩) ?_ ?_
    rotate_left
    · intro w'
      go_simp
      with_reducible rfl
    rotate_left
    · simp only [Act.put, List.setIfInBounds_toArray, List.set_cons_zero, List.set_cons_succ, i64_w, i32_w]
      rfl
    refine pure_ (i := 3) (N := some 30) (v := ?_) (a' := ?_) #[false, true, true, true, false, false, false, false, false] rfl rfl (by kernel_rfl) (fun _ _ _ h => h) (Or.inl ⟨by rfl, ?_⟩) ?_ ?_
    rotate_left
    · intro w'
      go_simp
      with_reducible rfl
    rotate_left
    · simp only [Act.put, List.setIfInBounds_toArray, List.set_cons_zero, List.set_cons_succ, i64_w, i32_w]
      rfl
    refine take_ (i := 0) (N := some 27) (v := ?_) (a' := ?_) #[true, true, true, true, false, false, false, false, false] rfl rfl (by kernel_rfl) (fun _ _ _ h => h) (Or.inl ⟨by rfl, ?_⟩) hHeld ?_ ?_
    rotate_left
    · rintro w' ⟨s0, s1, s2, s3, s4, s5, s6⟩
      go_simp
      with_reducible rfl
    rotate_left
    · simp only [Act.put, List.setIfInBounds_toArray, List.set_cons_zero, List.set_cons_succ, i64_w, i32_w]
      rfl
    refine last_ (i := 4) (N := some 31) #[true, true, true, true, true, false, false, false, false] rfl rfl (by kernel_rfl) (by decide) (fun K hK => ?_)
    refine goes_ Try.func10 (by kernel_rfl) rfl #[.agg #[.int .i64 d0, .int .i64 d1, .int .i64 d2, .slice E3 m3.length s3, .slice E4 m4.length s4, .slice E5 m5.length s5, .bool d6], .slice El n.toNat sl] (by rfl) rfl rfl (by simp only [List.map_toArray, List.map_cons, List.map_nil]; rfl) ?_
    have hW := rwrite_calls (c := (d0, d1, d2, m3, m4, m5, d6)) (ls := ls.take n.toNat) HCF.out HLS.out HST.out
    rw [HLT.out] at hW
    refine hW.mono ?_
    rintro e w8 ⟨A8, q8, rfl, hbw, hbel⟩
    refine ⟨_, rfl, ?_⟩
    have HW8 := Aside0.mk hbw
    have HB8 := Aside0.mk (HBd.out.trans (hbel.mono HBd.out.size))
    clear hbw hbel
    refine hK.out _ _ ?_
    clear hK K
    refine norm_ (a' := ?_) ?_ ?_
    rotate_left
    · show Act.put _ (some 31) _ = _
      simp only [Act.put, List.setIfInBounds_toArray, List.set_cons_zero, List.set_cons_succ, i64_w, i32_w]
      rfl
    refine pure_ (i := 5) (N := some 32) (v := ?_) (a' := ?_) #[true, true, true, true, true, true, false, false, false] rfl rfl (by kernel_rfl) (fun _ _ _ h => h) (Or.inl ⟨by rfl, ?_⟩) ?_ ?_
    rotate_left
    · intro w'
      go_simp
      with_reducible rfl
    rotate_left
    · simp only [Act.put, List.setIfInBounds_toArray, List.set_cons_zero, List.set_cons_succ, i64_w, i32_w]
      rfl
    refine pure_ (i := 6) (N := some 33) (v := ?_) (a' := ?_) #[true, true, true, true, true, true, true, false, false] rfl rfl (by kernel_rfl) (fun _ _ _ h => h) (Or.inl ⟨by rfl, ?_⟩) ?_ ?_
    rotate_left
    · intro w'
      go_simp
      with_reducible rfl
    rotate_left
    · simp only [Act.put, List.setIfInBounds_toArray, List.set_cons_zero, List.set_cons_succ, i64_w, i32_w]
      rfl
    refine pure_ (i := 7) (N := some 4) (v := ?_) (a' := ?_) #[true, true, true, true, true, true, true, true, false] rfl rfl (by kernel_rfl) (fun _ _ _ h => h) (Or.inl ⟨by rfl, ?_⟩) ?_ ?_
    rotate_left
    · intro w'
      go_simp
      with_reducible rfl
    rotate_left
    · simp only [Act.put, List.setIfInBounds_toArray, List.set_cons_zero, List.set_cons_succ, i64_w, i32_w]
      rfl
    refine pure_ (i := 8) (N := some 5) (v := ?_) (a' := ?_) #[true, true, true, true, true, true, true, true, true] rfl rfl (by kernel_rfl) (fun _ _ _ h => h) (Or.inl ⟨by rfl, ?_⟩) ?_ ?_
    rotate_left
    · intro w'
      go_simp
      with_reducible rfl
    rotate_left
    · simp only [Act.put, List.setIfInBounds_toArray, List.set_cons_zero, List.set_cons_succ, i64_w, i32_w]
      rfl
    refine done_ (by kernel_rfl) ?_
    go_wp2_with fail
    refine bodyPost_ret (results_list (rs := [.tmp 4, .tmp 5]) rfl (by simp) (.tmp (.tmp .nil))) rfl ?_
    exact ⟨A8, q8, by rw [(cutB_some HX.out HN0.out).1, (cutB_some HX.out HN0.out).2]; rfl, by rw [(cutB_some HX.out HN0.out).1]; exact HW8.out, HB8.out⟩
end Go.Proofs.Ytedlmdnineohkaa.PU
