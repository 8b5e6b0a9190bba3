/- The walk of AsmBack. -/
import Derived.Test.YtjapahcbhjjeiaaGreatDoorK16
namespace Go.Proofs.YtjapahcbhjjeiaaGreatDoor.AS
open Go.RowKit Go.MapKept Go.Proofs.YtjapahcbhjjeiaaGreatDoorW.PrintWords Go.Proofs.YtjapahcbhjjeiaaGreatDoorW.PrintLast Go.Proofs.YtjapahcbhjjeiaaGreatDoorW.PrintMore Go.Proofs.YtjapahcbhjjeiaaGreatDoor.PA
set_option linter.unusedVariables false
set_option linter.unusedSimpArgs false

theorem told_short (i : Ins) (hf : Fit i) (what : Nat) : (toldL i what).length ≤ 31 := by
  have b0 := hf.rdr; have b1 := hf.rs1r; have b2 := hf.rs2r; have b3 := hf.lo; have b4 := hf.hi
  have ht : -4294967296 ≤ i.imm.tdiv 4096 ∧ i.imm.tdiv 4096 ≤ 4294967296 := by
    rw [Int.tdiv_eq_ediv, show Int.sign 4096 = 1 from rfl]
    split <;> omega
  have e0 := itoa_short i.rd (by omega) (by omega); have e1 := itoa_short i.rs1 (by omega) (by omega); have e2 := itoa_short i.rs2 (by omega) (by omega); have e3 := itoa_short i.imm (by omega) (by omega); have e4 := itoa_short (i.imm.tdiv 4096) (by omega) (by omega)
  unfold toldL
  repeat' split
  all_goals first | (simp only [List.length_cons]; omega) | omega
theorem line_short (i : Ins) (hf : Fit i) : (lineI i).length ≤ 400 := by
  unfold lineI
  rw [List.length_append]
  have h1 := name_len i hf
  have h2 := fill_len (formL i.kind).1 ((formL i.kind).2.map (toldL i)) 31 (fun a ha => by
    obtain ⟨k, _, rfl⟩ := List.mem_map.1 ha
    exact told_short i hf k)
  have h3 := (shape_len i.kind).1
  have h4 : (formL i.kind).1.length * (31 + 1) ≤ 10 * (31 + 1) := Nat.mul_le_mul_right _ h3
  omega

set_option maxRecDepth 100000 in
set_option maxHeartbeats 8000000 in
theorem asmBack_calls (i : Ins) (l : List UInt8) (hl : l.length ≤ 1073741824) (W : World) (hgw : GW W) : Calls Tryz.prog 5 #[insV i, .string (bB l)] W fun e w' => e = .returned (.bool true) ∧ Below W.heap.size W w' := by
  obtain ⟨kd, fn, rv, r1, r2, imm, sz, sg⟩ := i
  unfold insV
  dsimp only
  have HB := Aside0.mk (Below.refl W.heap.size W)
  have HG := Aside0.mk hgw
  have hu23 := Tryz.underlying23
  have AW := awake_calls
  have PC2 := parse_calls l hl
  obtain ⟨j0, hj0⟩ : ∃ x, x = (parseL mayL l).getD zeroI := ⟨_, rfl⟩
  obtain ⟨ok2, hok2⟩ : ∃ x, x = (parseL mayL l).isSome := ⟨_, rfl⟩
  rw [← hj0, ← hok2] at PC2
  obtain ⟨jkd, jfn, jrv, jr1, jr2, jimm, jsz, jsg⟩ := j0
  unfold insV at PC2
  dsimp only at PC2
  have HJ := Aside0.mk hj0
  have HOK2 := Aside0.mk hok2
  clear hl hgw hj0 hok2
  cases hm : mayL ⟨kd, fn, rv, r1, r2, imm, sz, sg⟩ with
  | true =>
    have E : ∀ W, Calls Tryz.prog 15 #[.agg #[.int .i64 kd, .int .i64 fn, .int .i64 rv, .int .i64 r1, .int .i64 r2, .int .i64 imm, .int .i64 sz, .bool sg]] W fun e w' => e = .returned (.tuple #[.int .u32 (encL ⟨kd, fn, rv, r1, r2, imm, sz, sg⟩), .bool true]) ∧ Below W.heap.size W w' := fun W => by
      have := Encode_calls ⟨kd, fn, rv, r1, r2, imm, sz, sg⟩ W
      rw [hm] at this
      exact this
    have L : ∀ W, GW W → Calls Tryz.prog 10 #[.agg #[.int .i64 kd, .int .i64 fn, .int .i64 rv, .int .i64 r1, .int .i64 r2, .int .i64 imm, .int .i64 sz, .bool sg]] W fun e w' => e = .returned (.tuple #[.string (bB (lineI ⟨kd, fn, rv, r1, r2, imm, sz, sg⟩)), .bool true]) ∧ Below W.heap.size W w' := fun W hg => Line_yes ⟨kd, fn, rv, r1, r2, imm, sz, sg⟩ hm W hg
    have PC1 := parse_calls (lineI ⟨kd, fn, rv, r1, r2, imm, sz, sg⟩) (by have := line_short ⟨kd, fn, rv, r1, r2, imm, sz, sg⟩ (mayL_fit _ hm); omega)
    rw [parseL_line mayL_fit hm] at PC1
    simp only [Option.getD_some, Option.isSome_some, insV] at PC1
    obtain ⟨s, hs⟩ : ∃ x, x = lineI ⟨kd, fn, rv, r1, r2, imm, sz, sg⟩ := ⟨_, rfl⟩
    obtain ⟨en, hen⟩ : ∃ x, x = encL ⟨kd, fn, rv, r1, r2, imm, sz, sg⟩ := ⟨_, rfl⟩
    rw [← hs] at L PC1
    rw [← hen] at E
    clear hs hen hm
    go_enter Tryz.func5, Tryz.ntmps5
    go_wp2_with (first | ((with_reducible refine gate_dst (N := 2) rfl ?_); refine box_event ?hg (N := 2) ?hd (cs := #[.int .i64 kd, .int .i64 fn, .int .i64 rv, .int .i64 r1, .int .i64 r2, .int .i64 imm, .int .i64 sz, .bool sg]) (t := 23) ?hr ?_; (case hd => rfl); (case hg => rfl); (case hr => first | (go_simp; done) | (go_simp; rfl)); intro g2 hg w3 hbox hb; have HX3 := Aside0.mk hbox; have HB3 := Aside0.mk (below_step HB.out hb); have HG3 := Aside0.mk (HG.out.below hb); clear HB HG; obtain ⟨y0, y1, y2, y3, y4, y5, y6, y7, yf0, yf1, yf2, yf3, yf4, yf5, yf6, yf7⟩ := cells8 HX3.out; clear hbox hb hg) | fail)
    refine (L _ HG3.out).mono ?_
    rintro e w4 ⟨rfl, hb⟩
    have HB4 := Aside0.mk (below_step HB3.out hb)
    have HX4 := Aside0.mk (blk_below HX3.out hb)
    have HG4 := Aside0.mk (HG3.out.below hb)
    clear hb L HB3 HX3 HG3 y0 y1 y2 y3 y4 y5 y6 y7 yf0 yf1 yf2 yf3 yf4 yf5 yf6 yf7
    obtain ⟨y0, y1, y2, y3, y4, y5, y6, y7, yf0, yf1, yf2, yf3, yf4, yf5, yf6, yf7⟩ := cells8 HX4.out
    go_wp2_with fail
    refine (E _).mono ?_
    rintro e w5 ⟨rfl, hb⟩
    have HB5 := Aside0.mk (below_step HB4.out hb)
    have HX5 := Aside0.mk (blk_below HX4.out hb)
    have HG5 := Aside0.mk (HG4.out.below hb)
    clear hb E HB4 HX4 HG4 y0 y1 y2 y3 y4 y5 y6 y7 yf0 yf1 yf2 yf3 yf4 yf5 yf6 yf7
    go_wp2_with fail
    refine (PC1 _ HG5.out).mono ?_
    rintro e w6 ⟨rfl, hb⟩
    have HB6 := Aside0.mk (below_step HB5.out hb)
    have HX6 := Aside0.mk (blk_below HX5.out hb)
    have HG6 := Aside0.mk (HG5.out.below hb)
    clear hb PC1 HB5 HX5 HG5
    go_wp2_with (first | ((with_reducible refine gate_dst (N := 9) rfl ?_); refine box_event ?hg (N := 9) ?hd (cs := #[.int .i64 0, .int .i64 0, .int .i64 0, .int .i64 0, .int .i64 0, .int .i64 0, .int .i64 0, .bool false]) (t := 23) ?hr ?_; (case hd => rfl); (case hg => rfl); (case hr => first | (go_simp; done) | (go_simp; rfl)); intro g9 hg w7 hbox hb; have HX9 := Aside0.mk hbox; have HB7 := Aside0.mk (below_step HB6.out hb); have HG7 := Aside0.mk (HG6.out.below hb); have HX7 := Aside0.mk (blk_below HX6.out hb); have HD7 := Aside0.mk (show Below w6.heap.size w6 w7 from hb); have HL9 := Aside0.mk (show w6.heap.size ≤ g9 by omega); have HN9 := Aside0.mk (show g2 ≠ g9 by have := blk_lt HX6.out; omega); clear hbox hb hg) | ((with_reducible refine gate_store (t := 23) rfl ?_); refine store_event rfl 23 (.tmp 9) (.tmp 31) rfl (g := g9) #[.int .i64 kd, .int .i64 fn, .int .i64 rv, .int .i64 r1, .int .i64 r2, .int .i64 imm, .int .i64 sz, .bool sg] HX9.out rfl rfl (by kernel_rfl) rfl rfl ?_; intro w8 hbox hfar hbel; have HY8 := Aside0.mk hbox; have HX8 := Aside0.mk (far_blk hfar HN9.out HX7.out); have HB8 := Aside0.mk (hbel _ _ HB7.out (by have := HB6.out.size; have := HL9.out; omega)); have HG8 := Aside0.mk (HG6.out.below (hbel w6.heap.size w6 HD7.out HL9.out)); clear hbox hfar hbel HX9 HX7 HB7 HG7; obtain ⟨y0, y1, y2, y3, y4, y5, y6, y7, yf0, yf1, yf2, yf3, yf4, yf5, yf6, yf7⟩ := cells8 HX8.out; obtain ⟨q0, q1, q2, q3, q4, q5, q6, q7, qf0, qf1, qf2, qf3, qf4, qf5, qf6, qf7⟩ := cells8 HY8.out) | fail)
    refine (PC2 _ HG8.out).mono ?_
    rintro e w9 ⟨rfl, hb⟩
    have HG9 := Aside0.mk (HG8.out.below hb)
    have HB9 := Aside0.mk (below_step HB8.out hb)
    clear hb PC2 HG8 HB8 y0 y1 y2 y3 y4 y5 y6 y7 yf0 yf1 yf2 yf3 yf4 yf5 yf6 yf7 q0 q1 q2 q3 q4 q5 q6 q7 qf0 qf1 qf2 qf3 qf4 qf5 qf6 qf7
    cases ok2 with
    | false =>
      have HP : Aside0 ((⟨jkd, jfn, jrv, jr1, jr2, jimm, jsz, jsg⟩ : Ins) = zeroI) := ⟨by
        have h1 := HOK2.out; have h2 := HJ.out
        cases h : parseL mayL l with
        | none => rw [h] at h2; exact h2
        | some j => rw [h] at h1; cases h1⟩
      obtain ⟨rfl, rfl, rfl, rfl, rfl, rfl, rfl, rfl⟩ : jkd = 0 ∧ jfn = 0 ∧ jrv = 0 ∧ jr1 = 0 ∧ jr2 = 0 ∧ jimm = 0 ∧ jsz = 0 ∧ jsg = false := by
        have := HP.out
        unfold zeroI at this
        injection this with a b c d e f g h
        exact ⟨a, b, c, d, e, f, g, h⟩
      go_wp2_with (first | ((with_reducible refine gate_dst (N := 11) rfl ?_); refine box_event ?hg (N := 11) ?hd (cs := #[.int .i64 0, .int .i64 0, .int .i64 0, .int .i64 0, .int .i64 0, .int .i64 0, .int .i64 0, .bool false]) (t := 23) ?hr ?_; (case hd => rfl); (case hg => rfl); (case hr => first | (go_simp; done) | (go_simp; rfl)); intro g11 hg w10 hbox hb; have HX11 := Aside0.mk hbox; have HB10 := Aside0.mk (show Below w9.heap.size w9 w10 from hb); have HL11 := Aside0.mk (show w9.heap.size ≤ g11 by omega); clear hbox hb hg) | ((with_reducible refine gate_store (t := 23) rfl ?_); refine store_event rfl 23 (.tmp 11) (.tmp 43) rfl (g := g11) #[.int .i64 0, .int .i64 0, .int .i64 0, .int .i64 0, .int .i64 0, .int .i64 0, .int .i64 0, .bool false] HX11.out rfl rfl (by kernel_rfl) rfl rfl ?_; intro w11 hbox hfar hbel; have HY11 := Aside0.mk hbox; have HG11 := Aside0.mk (HG9.out.below (hbel w9.heap.size w9 HB10.out HL11.out)); have HB11 := Aside0.mk (below_step HB9.out (hbel w9.heap.size w9 HB10.out HL11.out)); clear hbox hfar hbel HX11; obtain ⟨j0, j1, j2, j3, j4, j5, j6, j7, jf0, jf1, jf2, jf3, jf4, jf5, jf6, jf7⟩ := cells8 HY11.out) | fail)
      refine (AW _ HG11.out).mono ?_
      rintro e w12 ⟨rfl, hb⟩
      have HB12 := Aside0.mk (below_step HB11.out hb)
      clear hb
      go_wp2
      go_ret
      exact ⟨rfl, HB12.out⟩
    | true =>
      have HP : Aside0 (parseL mayL l = some ⟨jkd, jfn, jrv, jr1, jr2, jimm, jsz, jsg⟩) := ⟨by
        have h1 := HOK2.out; have h2 := HJ.out
        cases h : parseL mayL l with
        | none => rw [h] at h1; cases h1
        | some j => rw [h] at h2; rw [h2]; rfl⟩
      have LJ : ∀ W, GW W → Calls Tryz.prog 10 #[.agg #[.int .i64 jkd, .int .i64 jfn, .int .i64 jrv, .int .i64 jr1, .int .i64 jr2, .int .i64 jimm, .int .i64 jsz, .bool jsg]] W fun e w' => e = .returned (.tuple #[.string (bB l), .bool true]) ∧ Below W.heap.size W w' := fun W hg => by
        have := Line_yes ⟨jkd, jfn, jrv, jr1, jr2, jimm, jsz, jsg⟩ (parseL_some HP.out).1 W hg
        rw [(parseL_some HP.out).2] at this
        exact this
      go_wp2_with (first | ((with_reducible refine gate_dst (N := 11) rfl ?_); refine box_event ?hg (N := 11) ?hd (cs := #[.int .i64 0, .int .i64 0, .int .i64 0, .int .i64 0, .int .i64 0, .int .i64 0, .int .i64 0, .bool false]) (t := 23) ?hr ?_; (case hd => rfl); (case hg => rfl); (case hr => first | (go_simp; done) | (go_simp; rfl)); intro g11 hg w10 hbox hb; have HX11 := Aside0.mk hbox; have HB10 := Aside0.mk (show Below w9.heap.size w9 w10 from hb); have HL11 := Aside0.mk (show w9.heap.size ≤ g11 by omega); clear hbox hb hg) | ((with_reducible refine gate_store (t := 23) rfl ?_); refine store_event rfl 23 (.tmp 11) (.tmp 43) rfl (g := g11) #[.int .i64 jkd, .int .i64 jfn, .int .i64 jrv, .int .i64 jr1, .int .i64 jr2, .int .i64 jimm, .int .i64 jsz, .bool jsg] HX11.out rfl rfl (by kernel_rfl) rfl rfl ?_; intro w11 hbox hfar hbel; have HY11 := Aside0.mk hbox; have HG11 := Aside0.mk (HG9.out.below (hbel w9.heap.size w9 HB10.out HL11.out)); have HB11 := Aside0.mk (below_step HB9.out (hbel w9.heap.size w9 HB10.out HL11.out)); clear hbox hfar hbel HX11; obtain ⟨j0, j1, j2, j3, j4, j5, j6, j7, jf0, jf1, jf2, jf3, jf4, jf5, jf6, jf7⟩ := cells8 HY11.out) | fail)
      refine (LJ _ HG11.out).mono ?_
      rintro e w12 ⟨rfl, hb⟩
      have HG12 := Aside0.mk (HG11.out.below hb)
      have HB12 := Aside0.mk (below_step HB11.out hb)
      have hse : ((bB l).toList == (bB l).toList) = true := by simp
      clear hb LJ j0 j1 j2 j3 j4 j5 j6 j7 jf0 jf1 jf2 jf3 jf4 jf5 jf6 jf7
      go_wp2_with fail
      refine (AW _ HG12.out).mono ?_
      rintro e w13 ⟨rfl, hb⟩
      have HB13 := Aside0.mk (below_step HB12.out hb)
      clear hb
      go_wp2
      go_ret
      exact ⟨rfl, HB13.out⟩
  | false =>
    have E : ∀ W, Calls Tryz.prog 15 #[.agg #[.int .i64 kd, .int .i64 fn, .int .i64 rv, .int .i64 r1, .int .i64 r2, .int .i64 imm, .int .i64 sz, .bool sg]] W fun e w' => e = .returned (.tuple #[.int .u32 0, .bool false]) ∧ Below W.heap.size W w' := fun W => by
      have := Encode_calls ⟨kd, fn, rv, r1, r2, imm, sz, sg⟩ W
      rw [hm] at this
      exact this
    have L : ∀ W, Calls Tryz.prog 10 #[.agg #[.int .i64 kd, .int .i64 fn, .int .i64 rv, .int .i64 r1, .int .i64 r2, .int .i64 imm, .int .i64 sz, .bool sg]] W fun e w' => e = .returned (.tuple #[.string ⟨#[]⟩, .bool false]) ∧ Below W.heap.size W w' := fun W => Line_no ⟨kd, fn, rv, r1, r2, imm, sz, sg⟩ hm W
    clear hm
    go_enter Tryz.func5, Tryz.ntmps5
    go_wp2_with (first | ((with_reducible refine gate_dst (N := 2) rfl ?_); refine box_event ?hg (N := 2) ?hd (cs := #[.int .i64 kd, .int .i64 fn, .int .i64 rv, .int .i64 r1, .int .i64 r2, .int .i64 imm, .int .i64 sz, .bool sg]) (t := 23) ?hr ?_; (case hd => rfl); (case hg => rfl); (case hr => first | (go_simp; done) | (go_simp; rfl)); intro g2 hg w3 hbox hb; have HX3 := Aside0.mk hbox; have HB3 := Aside0.mk (below_step HB.out hb); have HG3 := Aside0.mk (HG.out.below hb); clear HB HG; obtain ⟨y0, y1, y2, y3, y4, y5, y6, y7, yf0, yf1, yf2, yf3, yf4, yf5, yf6, yf7⟩ := cells8 HX3.out; clear hbox hb hg) | fail)
    refine (L _).mono ?_
    rintro e w4 ⟨rfl, hb⟩
    have HB4 := Aside0.mk (below_step HB3.out hb)
    have HX4 := Aside0.mk (blk_below HX3.out hb)
    have HG4 := Aside0.mk (HG3.out.below hb)
    clear hb L HB3 HX3 HG3 y0 y1 y2 y3 y4 y5 y6 y7 yf0 yf1 yf2 yf3 yf4 yf5 yf6 yf7
    obtain ⟨y0, y1, y2, y3, y4, y5, y6, y7, yf0, yf1, yf2, yf3, yf4, yf5, yf6, yf7⟩ := cells8 HX4.out
    go_wp2_with fail
    refine (E _).mono ?_
    rintro e w8 ⟨rfl, hb⟩
    have HB8 := Aside0.mk (below_step HB4.out hb)
    have HG8 := Aside0.mk (HG4.out.below hb)
    clear hb E HB4 HX4 HG4 y0 y1 y2 y3 y4 y5 y6 y7 yf0 yf1 yf2 yf3 yf4 yf5 yf6 yf7
    go_wp2_with fail
    refine (PC2 _ HG8.out).mono ?_
    rintro e w9 ⟨rfl, hb⟩
    have HG9 := Aside0.mk (HG8.out.below hb)
    have HB9 := Aside0.mk (below_step HB8.out hb)
    clear hb PC2 HG8 HB8 
    cases ok2 with
    | false =>
      have HP : Aside0 ((⟨jkd, jfn, jrv, jr1, jr2, jimm, jsz, jsg⟩ : Ins) = zeroI) := ⟨by
        have h1 := HOK2.out; have h2 := HJ.out
        cases h : parseL mayL l with
        | none => rw [h] at h2; exact h2
        | some j => rw [h] at h1; cases h1⟩
      obtain ⟨rfl, rfl, rfl, rfl, rfl, rfl, rfl, rfl⟩ : jkd = 0 ∧ jfn = 0 ∧ jrv = 0 ∧ jr1 = 0 ∧ jr2 = 0 ∧ jimm = 0 ∧ jsz = 0 ∧ jsg = false := by
        have := HP.out
        unfold zeroI at this
        injection this with a b c d e f g h
        exact ⟨a, b, c, d, e, f, g, h⟩
      go_wp2_with (first | ((with_reducible refine gate_dst (N := 11) rfl ?_); refine box_event ?hg (N := 11) ?hd (cs := #[.int .i64 0, .int .i64 0, .int .i64 0, .int .i64 0, .int .i64 0, .int .i64 0, .int .i64 0, .bool false]) (t := 23) ?hr ?_; (case hd => rfl); (case hg => rfl); (case hr => first | (go_simp; done) | (go_simp; rfl)); intro g11 hg w10 hbox hb; have HX11 := Aside0.mk hbox; have HB10 := Aside0.mk (show Below w9.heap.size w9 w10 from hb); have HL11 := Aside0.mk (show w9.heap.size ≤ g11 by omega); clear hbox hb hg) | ((with_reducible refine gate_store (t := 23) rfl ?_); refine store_event rfl 23 (.tmp 11) (.tmp 43) rfl (g := g11) #[.int .i64 0, .int .i64 0, .int .i64 0, .int .i64 0, .int .i64 0, .int .i64 0, .int .i64 0, .bool false] HX11.out rfl rfl (by kernel_rfl) rfl rfl ?_; intro w11 hbox hfar hbel; have HY11 := Aside0.mk hbox; have HG11 := Aside0.mk (HG9.out.below (hbel w9.heap.size w9 HB10.out HL11.out)); have HB11 := Aside0.mk (below_step HB9.out (hbel w9.heap.size w9 HB10.out HL11.out)); clear hbox hfar hbel HX11; obtain ⟨j0, j1, j2, j3, j4, j5, j6, j7, jf0, jf1, jf2, jf3, jf4, jf5, jf6, jf7⟩ := cells8 HY11.out) | fail)
      refine (AW _ HG11.out).mono ?_
      rintro e w12 ⟨rfl, hb⟩
      have HB12 := Aside0.mk (below_step HB11.out hb)
      clear hb
      go_wp2
      go_ret
      exact ⟨rfl, HB12.out⟩
    | true =>
      have HP : Aside0 (parseL mayL l = some ⟨jkd, jfn, jrv, jr1, jr2, jimm, jsz, jsg⟩) := ⟨by
        have h1 := HOK2.out; have h2 := HJ.out
        cases h : parseL mayL l with
        | none => rw [h] at h1; cases h1
        | some j => rw [h] at h2; rw [h2]; rfl⟩
      have LJ : ∀ W, GW W → Calls Tryz.prog 10 #[.agg #[.int .i64 jkd, .int .i64 jfn, .int .i64 jrv, .int .i64 jr1, .int .i64 jr2, .int .i64 jimm, .int .i64 jsz, .bool jsg]] W fun e w' => e = .returned (.tuple #[.string (bB l), .bool true]) ∧ Below W.heap.size W w' := fun W hg => by
        have := Line_yes ⟨jkd, jfn, jrv, jr1, jr2, jimm, jsz, jsg⟩ (parseL_some HP.out).1 W hg
        rw [(parseL_some HP.out).2] at this
        exact this
      go_wp2_with (first | ((with_reducible refine gate_dst (N := 11) rfl ?_); refine box_event ?hg (N := 11) ?hd (cs := #[.int .i64 0, .int .i64 0, .int .i64 0, .int .i64 0, .int .i64 0, .int .i64 0, .int .i64 0, .bool false]) (t := 23) ?hr ?_; (case hd => rfl); (case hg => rfl); (case hr => first | (go_simp; done) | (go_simp; rfl)); intro g11 hg w10 hbox hb; have HX11 := Aside0.mk hbox; have HB10 := Aside0.mk (show Below w9.heap.size w9 w10 from hb); have HL11 := Aside0.mk (show w9.heap.size ≤ g11 by omega); clear hbox hb hg) | ((with_reducible refine gate_store (t := 23) rfl ?_); refine store_event rfl 23 (.tmp 11) (.tmp 43) rfl (g := g11) #[.int .i64 jkd, .int .i64 jfn, .int .i64 jrv, .int .i64 jr1, .int .i64 jr2, .int .i64 jimm, .int .i64 jsz, .bool jsg] HX11.out rfl rfl (by kernel_rfl) rfl rfl ?_; intro w11 hbox hfar hbel; have HY11 := Aside0.mk hbox; have HG11 := Aside0.mk (HG9.out.below (hbel w9.heap.size w9 HB10.out HL11.out)); have HB11 := Aside0.mk (below_step HB9.out (hbel w9.heap.size w9 HB10.out HL11.out)); clear hbox hfar hbel HX11; obtain ⟨j0, j1, j2, j3, j4, j5, j6, j7, jf0, jf1, jf2, jf3, jf4, jf5, jf6, jf7⟩ := cells8 HY11.out) | fail)
      refine (LJ _ HG11.out).mono ?_
      rintro e w12 ⟨rfl, hb⟩
      have HG12 := Aside0.mk (HG11.out.below hb)
      have HB12 := Aside0.mk (below_step HB11.out hb)
      have hse : ((bB l).toList == (bB l).toList) = true := by simp
      clear hb LJ j0 j1 j2 j3 j4 j5 j6 j7 jf0 jf1 jf2 jf3 jf4 jf5 jf6 jf7
      go_wp2_with fail
      refine (AW _ HG12.out).mono ?_
      rintro e w13 ⟨rfl, hb⟩
      have HB13 := Aside0.mk (below_step HB12.out hb)
      clear hb
      go_wp2
      go_ret
      exact ⟨rfl, HB13.out⟩

end Go.Proofs.YtjapahcbhjjeiaaGreatDoor.AS
