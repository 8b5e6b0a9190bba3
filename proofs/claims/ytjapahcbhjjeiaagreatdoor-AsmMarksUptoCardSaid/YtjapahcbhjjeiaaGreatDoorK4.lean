/- The walk of asm.Line. -/
import Derived.Test.YtjapahcbhjjeiaaGreatDoorK1
import Derived.Test.YtjapahcbhjjeiaaGreatDoorK3
import Derived.BigCall
namespace Go.Proofs.YtjapahcbhjjeiaaGreatDoor.AS
open Go.RowKit Go.Proofs.YtjapahcbhjjeiaaGreatDoorW.PrintWords Go.Proofs.YtjapahcbhjjeiaaGreatDoorW.PrintLast Go.Proofs.YtjapahcbhjjeiaaGreatDoorW.PrintMore Go.Proofs.YtjapahcbhjjeiaaGreatDoor.PA
set_option linter.unusedVariables false
set_option linter.unusedSimpArgs false

theorem new_builder {w : World} {b : Nat} (h : w.heap[b]? = some (.cells #[.pointer none, .slice none 0 0] 55 (0, 0))) : Lib.IsBuilderF 55 5 b b [] w :=
  .inl ⟨Nat.le_refl _, .slice none 0 0, h, ⟨by simp, .inl ⟨rfl, rfl⟩⟩, by simp [Value.ownBlock]⟩
theorem strCells_bB (l : List UInt8) : Lib.strCells (bB l) = Lib.byteCells l := by simp [Lib.strCells, Lib.byteCells, bB]
theorem bcells_append (a b : List UInt8) : Lib.byteCells (a ++ b) = Lib.byteCells a ++ Lib.byteCells b := by simp [Lib.byteCells]
theorem bcells_one (b : UInt8) : Lib.byteCells [b] = [.int .u8 b.toNat] := by simp [Lib.byteCells]

theorem IB_below {b : Nat} {bs : List Value} {w w1 : World} (h : Lib.IsBuilderF 55 5 b b bs w) (hb : Below w.heap.size w w1) : Lib.IsBuilderF 55 5 b b bs w1 := by
  have K : ∀ p, Lib.BuilderAtF 55 5 b b p bs w → Lib.BuilderAtF 55 5 b b p bs w1 := by
    rintro p ⟨hB, v, hbk, hown, hne⟩
    refine ⟨hB, v, blk_below hbk hb, ⟨hown.1, ?_⟩, hne⟩
    rcases hown.2 with h | ⟨g, cap, cur, fz, hv, hg1, hg2, r⟩
    · exact .inl h
    · exact .inr ⟨g, cap, cur, fz, hv, hg1, blk_below hg2 hb, r⟩
  exact h.elim (fun x => .inl (K _ x)) (fun x => .inr (K _ x))
theorem iter_below {w w1 : World} {k : Nat} {o : Obj} (h : w.heap[k]? = some o) (hb : Below w.heap.size w w1) : w1.heap[k]? = some o := blk_below h hb

set_option maxRecDepth 100000 in
set_option maxHeartbeats 4000000 in
theorem Line_no (i : Ins) (hm : mayL i = false) (W : World) : Calls Tryz.prog 10 #[.agg #[.int .i64 i.kind, .int .i64 i.fn, .int .i64 i.rd, .int .i64 i.rs1, .int .i64 i.rs2, .int .i64 i.imm, .int .i64 i.size, .bool i.sg]] W fun e w' => e = .returned (.tuple #[.string ⟨#[]⟩, .bool false]) ∧ Below W.heap.size W w' := by
  have HB := Aside0.mk (Below.refl W.heap.size W)
  have hu23 := Tryz.underlying23
  have E : ∀ W, Calls Tryz.prog 15 #[.agg #[.int .i64 i.kind, .int .i64 i.fn, .int .i64 i.rd, .int .i64 i.rs1, .int .i64 i.rs2, .int .i64 i.imm, .int .i64 i.size, .bool i.sg]] W fun e w' => e = .returned (.tuple #[.int .u32 0, .bool false]) ∧ Below W.heap.size W w' := fun W => by
    have := Encode_calls i W
    rw [hm] at this
    exact this
  clear hm
  go_enter Tryz.func10, Tryz.ntmps10
  go_wp2_with (first | ((with_reducible refine gate_dst (N := 1) rfl ?_); refine box_event (by rfl) (N := 1) (by rfl) (cs := #[.int .i64 i.kind, .int .i64 i.fn, .int .i64 i.rd, .int .i64 i.rs1, .int .i64 i.rs2, .int .i64 i.imm, .int .i64 i.size, .bool i.sg]) (t := 23) (by first | (go_simp; done) | (go_simp; rfl)) ?_; intro g3 hg w3 hbox hb; have H3 := Aside0.mk hbox; have HB' := Aside0.mk (below_step HB.out hb); have HL3 := Aside0.mk (show W.heap.size ≤ g3 by omega); clear HB; have HB := HB'; clear HB'; obtain ⟨y0, y1, y2, y3, y4, y5, y6, y7, yf0, yf1, yf2, yf3, yf4, yf5, yf6, yf7⟩ := cells8 H3.out; clear hbox hb hg) | fail)
  refine (E _).mono ?_
  rintro e w' ⟨rfl, hb⟩
  have HBa := Aside0.mk (below_step HB.out hb)
  clear HB hb
  have HB := HBa
  go_wp2
  go_ret2
  exact ⟨rfl, by repeat (first | (with_reducible first | exact HB.out | apply below_alloc | apply pw_below_drewN | apply below_drew1) | exact HB.out)⟩

set_option maxRecDepth 100000 in
set_option maxHeartbeats 8000000 in
theorem Line_yes (i : Ins) (hm : mayL i = true) (W : World) (hgw : GW W) : Calls Tryz.prog 10 #[.agg #[.int .i64 i.kind, .int .i64 i.fn, .int .i64 i.rd, .int .i64 i.rs1, .int .i64 i.rs2, .int .i64 i.imm, .int .i64 i.size, .bool i.sg]] W fun e w' => e = .returned (.tuple #[.string (bB (lineI i)), .bool true]) ∧ Below W.heap.size W w' := by
  have HB := Aside0.mk (Below.refl W.heap.size W)
  have HG := Aside0.mk hgw
  have HF := Aside0.mk (mayL_fit i hm)
  have hu23 := Tryz.underlying23
  obtain ⟨i0, hi0, _, hsz, _⟩ := info_parts info3
  have HI0 := Aside0.mk hi0
  have HSZ := Aside0.mk hsz
  have E : ∀ W, Calls Tryz.prog 15 #[.agg #[.int .i64 i.kind, .int .i64 i.fn, .int .i64 i.rd, .int .i64 i.rs1, .int .i64 i.rs2, .int .i64 i.imm, .int .i64 i.size, .bool i.sg]] W fun e w' => e = .returned (.tuple #[.int .u32 (encL i), .bool true]) ∧ Below W.heap.size W w' := fun W => by
    have := Encode_calls i W
    rw [hm] at this
    exact this
  obtain ⟨sh, hsh⟩ : ∃ x, x = (formL i.kind).1 := ⟨_, rfl⟩
  obtain ⟨ks, has⟩ : ∃ x, x = (formL i.kind).2 := ⟨_, rfl⟩
  obtain ⟨ln, hln⟩ : ∃ x, x = lineI i := ⟨_, rfl⟩
  have HLN : Aside0 (nameI i ++ fillS sh (ks.map (toldL i)) = ln) := ⟨by rw [hln, hsh, has]; rfl⟩
  have HLL : Aside0 (ln.length ≤ 100000000000) := ⟨by rw [hln]; exact line_len i HF.out⟩
  have HAS : Aside0 (∀ x ∈ sh, x.toNat < 128) := ⟨by rw [hsh]; exact shape_ascii _⟩
  have HPC : Aside0 (ks.length = sh.count 37) := ⟨by rw [hsh, has]; rcases formL_cases i.kind with e | e | e | e | e | e | e | e | e | e | e | e | e <;> rw [e] <;> decide⟩
  have FO : ∀ W, Calls Tryz.prog 25 #[.int .i64 i.kind] W fun e w' => ∃ A c, e = .returned (.tuple #[.string (bB sh), .slice A ks.length c]) ∧ ks.length ≤ c ∧ Kd.C (Kd.int .i64) w' A ks.length (natI ks) ∧ Below W.heap.size W w' := fun W => by rw [hsh, has]; exact form_calls i.kind W
  have NA : ∀ W, Calls Tryz.prog 27 #[.agg #[.int .i64 i.kind, .int .i64 i.fn, .int .i64 i.rd, .int .i64 i.rs1, .int .i64 i.rs2, .int .i64 i.imm, .int .i64 i.size, .bool i.sg]] W fun e w' => e = .returned (.string (bB (nameI i))) ∧ Below W.heap.size W w' := fun W => name_calls i W
  rw [← hln]
  clear hm hgw hsh has hln hi0 hsz
  go_enter Tryz.func10, Tryz.ntmps10
  go_wp2_with (first | ((with_reducible refine gate_dst (N := 1) rfl ?_); refine box_event (by rfl) (N := 1) (by rfl) (cs := #[.int .i64 i.kind, .int .i64 i.fn, .int .i64 i.rd, .int .i64 i.rs1, .int .i64 i.rs2, .int .i64 i.imm, .int .i64 i.size, .bool i.sg]) (t := 23) (by first | (go_simp; done) | (go_simp; rfl)) ?_; intro g3 hg w3 hbox hb; have H3 := Aside0.mk hbox; have HB' := Aside0.mk (below_step HB.out hb); have HG' := Aside0.mk (HG.out.below hb); have HL3 := Aside0.mk (show W.heap.size ≤ g3 by omega); clear HB HG; have HB := HB'; have HG := HG'; clear HB' HG'; obtain ⟨y0, y1, y2, y3, y4, y5, y6, y7, yf0, yf1, yf2, yf3, yf4, yf5, yf6, yf7⟩ := cells8 H3.out; clear hbox hb hg) | fail)
  refine (E _).mono ?_
  rintro e w4 ⟨rfl, hb⟩
  have HB2 := Aside0.mk (below_step HB.out hb)
  have H32 := Aside0.mk (blk_below H3.out hb)
  have HG2 := Aside0.mk (HG.out.below hb)
  clear HB HG H3 hb E y0 y1 y2 y3 y4 y5 y6 y7 yf0 yf1 yf2 yf3 yf4 yf5 yf6 yf7
  have HB := HB2; have HG := HG2; have H3 := H32
  clear HB2 HG2 H32
  obtain ⟨y0, y1, y2, y3, y4, y5, y6, y7, yf0, yf1, yf2, yf3, yf4, yf5, yf6, yf7⟩ := cells8 H3.out
  go_wp2_with fail
  refine (FO _).mono ?_
  rintro e w5 ⟨A, c, rfl, hc, hC, hb⟩
  have HB5 := Aside0.mk (below_step HB.out hb)
  have H35 := Aside0.mk (blk_below H3.out hb)
  have HG5 := Aside0.mk (HG.out.below hb)
  have HC5 := Aside0.mk hC
  have HCC := Aside0.mk hc
  clear HB HG H3 hb hC hc FO y0 y1 y2 y3 y4 y5 y6 y7 yf0 yf1 yf2 yf3 yf4 yf5 yf6 yf7
  go_wp2_with (first | ((with_reducible refine gate_dst (N := 8) rfl ?_); refine box_event (by rfl) (N := 8) (by rfl) (cs := #[.pointer none, .slice none 0 0]) (t := 55) (by first | (go_simp; done) | (go_simp; rfl)) ?_; intro b hg w8 hbox hb; have HBX := Aside0.mk hbox; have HLb := Aside0.mk (show w5.heap.size ≤ b by omega); have B8 := Aside0.mk (show Below w5.heap.size w5 w8 from hb); have H38 := Aside0.mk (blk_below H35.out hb); have HLt := Aside0.mk (blk_lt hbox); clear hbox hb hg; obtain ⟨y0, y1, y2, y3, y4, y5, y6, y7, yf0, yf1, yf2, yf3, yf4, yf5, yf6, yf7⟩ := cells8 H38.out) | fail)
  refine (NA _).mono ?_
  rintro e w9 ⟨rfl, hb⟩
  have HI9 := Aside0.mk (new_builder (blk_below HBX.out hb))
  have B9 := Aside0.mk (below_step B8.out hb)
  have HL9 := Aside0.mk (show b < w9.heap.size from Nat.lt_of_lt_of_le HLt.out hb.size)
  have HNL := Aside0.mk (show (nameI i).length ≤ ln.length by rw [← HLN.out, List.length_append]; omega)
  clear hb HBX B8 H38 NA HLt y0 y1 y2 y3 y4 y5 y6 y7 yf0 yf1 yf2 yf3 yf4 yf5 yf6 yf7
  go_wp2_with fail
  refine (WriteString_k b b [] (bB (nameI i)) _ HI9.out (by have h1 := HLL.out; have h2 := HNL.out; simp [bB_size]; omega) (Nat.le_of_lt HL9.out)).mono ?_
  rintro e w10 ⟨rfl, hI, hb, hk⟩
  have HI10 := Aside0.mk (show Lib.IsBuilderF 55 5 b b (Lib.byteCells (nameI i)) w10 from .inr (by rw [List.nil_append, strCells_bB] at hI; exact hI))
  have B10 := Aside0.mk (B9.out.trans (hb.mono HLb.out))
  have HL10 := Aside0.mk (show b < w10.heap.size from (Lib.BuilderAtF.lt hI))
  clear hb hI hk HI9 B9 HL9 HNL
  go_wp2
  go_loopw [7] (fun v7 wr => ∃ (pos : Nat) (acc : List UInt8) (ws : List Nat) (A' : Option Addr) (c' : Nat), v7 = .slice A' ws.length c' ∧ ws.length ≤ c' ∧ Kd.C (Kd.int .i64) w5 A' ws.length (natI ws) ∧ Lib.IsBuilderF 55 5 b b (Lib.byteCells acc) wr ∧ wr.heap[w10.heap.size]? = some (.stringIter (bB sh) pos) ∧ Below w5.heap.size w5 wr ∧ acc ++ fillS (sh.drop pos) (ws.map (toldL i)) = ln ∧ pos ≤ sh.length ∧ ws.length = (sh.drop pos).count 37) (fun _ wr => sh.length - wr.iterPos w10.heap.size)
  case atStart => exact ⟨0, nameI i, ks, A, c, rfl, HCC.out, HC5.out, HI10.out.alloc _, World.iter_heap _ _ _, below_alloc B10.out _, by simpa using HLN.out, Nat.zero_le _, by simpa using HPC.out⟩
  case round =>
    obtain ⟨pos, acc, ws, A', c', rfl, hc, hC, hI, hit, hB, hacc, hpl, hws⟩ := hrel
    have HKB : Aside0 (w10.heap.size ≠ b) := ⟨by have := HL10.out; omega⟩
    have hsz0 : w10.heap.size < wr.heap.size := (Array.getElem?_eq_some_iff.1 hit).1
    have HIr := Aside0.mk hI
    have Hit := Aside0.mk hit
    have HBr := Aside0.mk hB
    have HCr := Aside0.mk hC
    have Hcc := Aside0.mk hc
    have Hacc := Aside0.mk hacc
    have Hws := Aside0.mk hws
    by_cases hp : pos < sh.length
    · obtain ⟨x, hx⟩ : ∃ x, x = sh[pos] := ⟨_, rfl⟩
      have hdr : sh.drop pos = x :: sh.drop (pos + 1) := by rw [hx]; exact List.drop_eq_getElem_cons hp
      have hxa : x.toNat < 128 := HAS.out x (by rw [hx]; exact List.getElem_mem hp)
      have hps : pos < (bB sh).size := by rw [bB_size]; exact hp
      have hgx : (bB sh)[pos]'hps = x := by rw [hx]; rfl
      obtain ⟨wi, hwi⟩ : ∃ w, w = wr.iterAt w10.heap.size (bB sh) (pos + 1) := ⟨_, rfl⟩
      have hnx : ∀ ty, (Instr.next (.pointer (some ⟨w10.heap.size, 0, none⟩)) true ty).run Tryz.prog wr = .ok (.tuple #[.bool true, .int .i64 pos, .int .i32 (x.toNat : Int)]) wi := fun ty => by
        rw [Lib.run_next_ascii_at wr w10.heap.size (bB sh) pos ty Hit.out hps (by rw [hgx]; exact hxa), hgx, hwi]
      have HIi : Aside0 (Lib.IsBuilderF 55 5 b b (Lib.byteCells acc) wi) := ⟨by rw [hwi]; exact HIr.out.iterAt Hit.out _⟩
      have hiti : wi.heap[w10.heap.size]? = some (.stringIter (bB sh) (pos + 1)) := by rw [hwi]; exact Lib.iterAt_heap _ _ _ _ _ Hit.out
      have Hiti := Aside0.mk hiti
      have Bi : Aside0 (Below w5.heap.size w5 wi) := ⟨by rw [hwi]; exact Lib.below_iterAt HBr.out (by have h1 := HL10.out; have h2 := HLb.out; omega) _ _⟩
      have HLi : Aside0 (b < wi.heap.size) := ⟨by rw [hwi, Lib.iterAt_size]; have h1 := HL10.out; omega⟩
      have HAL : Aside0 (acc.length + (fillS (x :: sh.drop (pos + 1)) (ws.map (toldL i))).length ≤ 100000000000) := ⟨by rw [← hdr, ← List.length_append, Hacc.out]; exact HLL.out⟩
      have HDR := Aside0.mk hdr
      have HXA0 := Aside0.mk hxa
      have HHP := Aside0.mk hp
      clear hI hit hB hacc hpl hws hC hc hsz0 hx hxa hps hgx hwi hiti hdr
      by_cases h37 : x = 37
      · subst h37
        have e37 : (((37 : UInt8).toNat : Nat) : Int) = 37 := rfl
        rw [e37] at hnx
        clear e37
        obtain ⟨k1, ws, rfl⟩ : ∃ k1 ws', ws = k1 :: ws' := by
          cases ws with
          | nil => have := Hws.out; rw [HDR.out] at this; simp at this
          | cons k1 ws' => exact ⟨k1, ws', rfl⟩
        obtain ⟨ad, rfl, hck⟩ := Kd.at_int HCr.out 0 (by decide) (by simp)
        have HCK : Aside0 (w5.cell? ad = some (.int .i64 (k1 : Nat))) := ⟨by have h1 : w5.cell? (ad.add 0) = some (.int .i64 (k1 : Nat)) := hck; rw [show ad.add 0 = ad by simp [Addr.add]] at h1; exact h1⟩
        have hl0 : (0 : Int) < (ws.length : Int) + 1 := by omega
        have hl1 : (1 : Int) ≤ (ws.length : Int) + 1 := by omega
        clear hck
        obtain ⟨A2, hcut, hA2, hC2⟩ := print_drop_of (P := Tryz.prog) (Value.int .i64) 0 50 3 .i64 Tryz.underlying50 HI0.out HSZ.out (some ad) c' (natI (k1 :: ws)) 1 (by decide) (by simp [natI]; omega) (by simpa [natI] using Hcc.out)
        have HC2 : Aside0 (Kd.C (Kd.int .i64) w5 A2 ws.length (natI ws)) := ⟨by
          have hn : ∀ l : List Nat, (natI l).length = l.length := fun l => by simp [natI]
          have h1 := Kd.C_of_reads (h1 := fun _ => rfl) (hA2 w5 (Kd.reads_of_C (d := 0) (h1 := fun _ => rfl) (show Kd.C (Kd.int .i64) w5 (some ad) (natI (k1 :: ws)).length (natI (k1 :: ws)) by rw [hn]; exact HCr.out)))
          rw [show (natI (k1 :: ws)).drop (Int.toNat 1) = natI ws from rfl, hn] at h1
          exact h1⟩
        have Hc2 : Aside0 (ws.length ≤ c' - 1) := ⟨by simpa [natI] using hC2⟩
        have hcut1 : ∀ W, (Instr.slice 50 (.slice (some ad) (ws.length + 1) c') (some (.int .i64 1)) none none).run Tryz.prog W = .ok (.slice A2 ws.length (c' - 1)) W := fun W => by simpa [natI] using hcut W
        clear hcut hA2 hC2
        have HAL : Aside0 (acc.length + (toldL i k1).length ≤ 100000000000) := ⟨by have h1 := HAL.out; simp only [List.map_cons, fillS, if_true, List.length_append] at h1; omega⟩
        simp only [List.length_cons] at *
        go_upto_region 12 with fail
        refine start_ (n := 6) (S := fun w' => w'.cell? ⟨g3, 0, none⟩ = some (.int .i64 i.kind) ∧ w'.cell? ⟨g3, 1, none⟩ = some (.int .i64 i.fn) ∧ w'.cell? ⟨g3, 2, none⟩ = some (.int .i64 i.rd) ∧ w'.cell? ⟨g3, 3, none⟩ = some (.int .i64 i.rs1) ∧ w'.cell? ⟨g3, 4, none⟩ = some (.int .i64 i.rs2) ∧ w'.cell? ⟨g3, 5, none⟩ = some (.int .i64 i.imm) ∧ w'.cell? ⟨g3, 6, none⟩ = some (.int .i64 i.size) ∧ w'.cell? ⟨g3, 7, none⟩ = some (.bool i.sg) ∧ w'.cell? ad = some (.int .i64 k1)) (ds := []) #[false, false, false, false, false, false] (by kernel_rfl) rfl rfl ⟨(blk_cell (blk_below H35.out (below_drew1 Bi.out)) 0).trans rfl, (blk_cell (blk_below H35.out (below_drew1 Bi.out)) 1).trans rfl, (blk_cell (blk_below H35.out (below_drew1 Bi.out)) 2).trans rfl, (blk_cell (blk_below H35.out (below_drew1 Bi.out)) 3).trans rfl, (blk_cell (blk_below H35.out (below_drew1 Bi.out)) 4).trans rfl, (blk_cell (blk_below H35.out (below_drew1 Bi.out)) 5).trans rfl, (blk_cell (blk_below H35.out (below_drew1 Bi.out)) 6).trans rfl, (blk_cell (blk_below H35.out (below_drew1 Bi.out)) 7).trans rfl, (pw_cell_below (below_drew1 Bi.out) HCK.out)⟩ (fun hHeld => ?_)
        refine pure_ (i := 1) (N := some 37) (v := ?_) (a' := ?_) #[false, true, false, false, false, false] rfl rfl (by kernel_rfl) (fun _ _ _ h => h) (Or.inl ⟨by rfl, ?_⟩) ?_ ?_
        rotate_left
        · intro w'
          go_simp
          with_reducible rfl
        rotate_left
        · simp only [Act.put, putS]
          rfl
        refine pure_ (i := 2) (N := some 38) (v := ?_) (a' := ?_) #[false, true, true, false, false, false] rfl rfl (by kernel_rfl) (fun _ _ _ h => h) (Or.inl ⟨by rfl, ?_⟩) ?_ ?_
        rotate_left
        · intro w'
          go_simp
          with_reducible rfl
        rotate_left
        · simp only [Act.put, putS]
          rfl
        refine take_ (i := 0) (N := some 36) (v := ?_) (a' := ?_) #[true, true, true, false, false, false] rfl rfl (by kernel_rfl) (fun _ _ _ h => h) (Or.inl ⟨by rfl, ?_⟩) hHeld ?_ ?_
        rotate_left
        · rintro w' ⟨s0, s1, s2, s3, s4, s5, s6, s7, s8⟩
          go_simp
          with_reducible rfl
        rotate_left
        · simp only [Act.put, putS]
          rfl
        refine take_ (i := 3) (N := some 39) (v := ?_) (a' := ?_) #[true, true, true, true, false, false] rfl rfl (by kernel_rfl) (fun _ _ _ h => h) (Or.inl ⟨by rfl, ?_⟩) hHeld ?_ ?_
        rotate_left
        · rintro w' ⟨s0, s1, s2, s3, s4, s5, s6, s7, s8⟩
          go_simp
          with_reducible rfl
        rotate_left
        · simp only [Act.put, putS]
          rfl
        refine one_ (i := 4) (N := some 40) #[true, true, true, true, true, false] rfl rfl (by kernel_rfl) (by decide) (fun K hK => ?_)
        refine goes_ Tryz.func29 (by kernel_rfl) rfl #[.agg #[.int .i64 i.kind, .int .i64 i.fn, .int .i64 i.rd, .int .i64 i.rs1, .int .i64 i.rs2, .int .i64 i.imm, .int .i64 i.size, .bool i.sg], .int .i64 (k1 : Nat)] (by rfl) rfl rfl (by simp only [List.map_toArray, List.map_cons, List.map_nil]; rfl) ?_
        refine (told_calls i k1 _ (HG5.out.below (below_drew1 Bi.out)) HF.out).mono ?_
        rintro e w12 ⟨rfl, hb⟩
        refine ⟨_, rfl, ?_⟩
        have B12 := Aside0.mk (below_step (below_drew1 Bi.out) hb)
        have I12 := Aside0.mk (show Lib.IsBuilderF 55 5 b b (Lib.byteCells acc) w12 from IB_below (w := wi.drew) HIi.out hb)
        have T12 := Aside0.mk (iter_below (w := wi.drew) Hiti.out hb)
        have L12 := Aside0.mk (show b < w12.heap.size from Nat.lt_of_lt_of_le HLi.out hb.size)
        clear hb
        refine hK.out _ _ ⟨(blk_cell (blk_below H35.out B12.out) 0).trans rfl, (blk_cell (blk_below H35.out B12.out) 1).trans rfl, (blk_cell (blk_below H35.out B12.out) 2).trans rfl, (blk_cell (blk_below H35.out B12.out) 3).trans rfl, (blk_cell (blk_below H35.out B12.out) 4).trans rfl, (blk_cell (blk_below H35.out B12.out) 5).trans rfl, (blk_cell (blk_below H35.out B12.out) 6).trans rfl, (blk_cell (blk_below H35.out B12.out) 7).trans rfl, (pw_cell_below B12.out HCK.out)⟩ (fun hHeld => ?_)
        clear hK K
        refine norm_ (a' := ?_) ?_ ?_
        rotate_left
        · show Act.put _ (some 40) _ = _
          simp only [Act.put, putS]
          rfl
        refine one_ (i := 5) (N := some 41) #[true, true, true, true, true, true] rfl rfl (by kernel_rfl) (by decide) (fun K hK => ?_)
        refine goes_ Tryz.func26 (by kernel_rfl) rfl #[.pointer (some ⟨b, 0, none⟩), .string (bB (toldL i k1))] (by rfl) rfl rfl (by simp only [List.map_toArray, List.map_cons, List.map_nil]; rfl) ?_
        refine (WriteString_k b b (Lib.byteCells acc) (bB (toldL i k1)) _ I12.out (by have h1 := HLL.out; have h2 := HAL.out; simp [bB_size, Lib.byteCells_length]; omega) (Nat.le_of_lt L12.out)).mono ?_
        rintro e w13 ⟨rfl, hI3, hb, hk⟩
        refine ⟨_, rfl, ?_⟩
        have B13 := Aside0.mk (B12.out.trans (hb.mono HLb.out))
        have I13 := Aside0.mk (show Lib.IsBuilderF 55 5 b b (Lib.byteCells (acc ++ toldL i k1)) w13 from .inr (by rw [strCells_bB, ← bcells_append] at hI3; exact hI3))
        have T13 := Aside0.mk (hk.iter T12.out HKB.out)
        clear hb hI3 hk
        refine hK.out _ _ ⟨(blk_cell (blk_below H35.out B13.out) 0).trans rfl, (blk_cell (blk_below H35.out B13.out) 1).trans rfl, (blk_cell (blk_below H35.out B13.out) 2).trans rfl, (blk_cell (blk_below H35.out B13.out) 3).trans rfl, (blk_cell (blk_below H35.out B13.out) 4).trans rfl, (blk_cell (blk_below H35.out B13.out) 5).trans rfl, (blk_cell (blk_below H35.out B13.out) 6).trans rfl, (blk_cell (blk_below H35.out B13.out) 7).trans rfl, (pw_cell_below B13.out HCK.out)⟩ (fun hHeld => ?_)
        clear hK K
        refine norm_ (a' := ?_) ?_ ?_
        rotate_left
        · show Act.put _ (some 41) _ = _
          simp only [Act.put, putS]
          rfl
        refine done_ (by kernel_rfl) ?_
        go_wp2
        go_roundw
        case rel =>
          refine ⟨pos + 1, acc ++ toldL i k1, ws, A2, c' - 1, by first | rfl | simp, Hc2.out, HC2.out, I13.out, T13.out, B13.out, ?_, by have := HHP.out; omega, ?_⟩
          · have h1 := Hacc.out
            rw [HDR.out] at h1
            simpa [fillS, List.append_assoc] using h1
          · have h1 := Hws.out
            rw [HDR.out] at h1
            simpa using h1
        case measure =>
          simp only [World.iterPos, T13.out, Hit.out]
          have := HHP.out
          omega
      · have hne : (((x.toNat : Nat) : Int) != 37) = true := by
          have : x.toNat ≠ 37 := fun e => h37 (UInt8.toNat_inj.1 e)
          simp; omega
        have HXA := Aside0.mk (show (0 : Int) ≤ (x.toNat : Int) ∧ (x.toNat : Int) ≤ 127 from ⟨by omega, by have := HXA0.out; omega⟩)
        have H37 := Aside0.mk h37
        obtain ⟨rv, hrv⟩ : ∃ r : Int, r = (x.toNat : Int) := ⟨_, rfl⟩
        rw [← hrv] at hne hnx HXA
        have HRV := Aside0.mk hrv
        clear hrv h37
        go_wp2_with fail
        refine (WriteRune_k b b (Lib.byteCells acc) rv HXA.out.1 HXA.out.2 _ HIi.out (by have h1 := HAL.out; simp [Lib.byteCells_length]; omega) (Nat.le_of_lt HLi.out)).mono ?_
        rintro e w13 ⟨⟨v, rfl⟩, hI3, hb, hk⟩
        have B13 := Aside0.mk (Bi.out.trans (hb.mono HLb.out))
        have I13 := Aside0.mk (show Lib.IsBuilderF 55 5 b b (Lib.byteCells (acc ++ [x])) w13 from .inr (by rw [bcells_append, bcells_one, ← HRV.out]; exact hI3))
        have T13 := Aside0.mk (hk.iter Hiti.out HKB.out)
        clear hb hI3 hk
        go_wp2
        go_roundw
        case rel =>
          refine ⟨pos + 1, acc ++ [x], ws, A', c', by first | rfl | simp, Hcc.out, HCr.out, I13.out, T13.out, B13.out, ?_, by have := HHP.out; omega, ?_⟩
          · have h1 := Hacc.out
            rw [HDR.out] at h1
            cases ws with
            | nil => simpa [fillS] using h1
            | cons a r => simpa [fillS, H37.out] using h1
          · have h1 := Hws.out
            rw [HDR.out, List.count_cons_of_ne (by simpa using H37.out)] at h1
            exact h1
        case measure =>
          simp only [World.iterPos, T13.out, Hit.out]
          have := HHP.out
          omega
    · have hnx : ∀ ty, (Instr.next (.pointer (some ⟨w10.heap.size, 0, none⟩)) true ty).run Tryz.prog wr = .ok (.tuple #[.bool false]) wr := fun ty => Lib.run_next_end_at wr w10.heap.size (bB sh) pos ty Hit.out (by rw [bB_size]; exact hp)
      have HAE : Aside0 (acc = ln) := ⟨by
        have h1 := Hacc.out
        have h2 := Hws.out
        rw [List.drop_eq_nil_of_le (by omega)] at h1 h2
        simpa [fillS] using h1⟩
      have HLr := Aside0.mk (show b ≤ wr.heap.size by have h1 := HL10.out; omega)
      clear hI hit hB hacc hpl hws hC hc hsz0 hp
      go_wp2_with fail
      refine (Tryz.Builder_String_any_k b b acc _ HIr.out HLr.out).mono ?_
      rintro e w14 ⟨rfl, _, hb, _⟩
      have B14 := Aside0.mk (HBr.out.trans (hb.mono HLb.out))
      clear hb
      go_wp2
      go_ret2
      exact ⟨by rw [HAE.out]; rfl, below_step HB5.out B14.out⟩

end Go.Proofs.YtjapahcbhjjeiaaGreatDoor.AS
