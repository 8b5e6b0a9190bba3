/- The walk of asm.Parse. -/
import Derived.Test.YtjapahcbhjjeiaaGreatDoorK4
import Derived.Test.YtjapahcbhjjeiaaGreatDoorK6
import Derived.Test.YtjapahcbhjjeiaaGreatDoorK8
namespace Go.Proofs.YtjapahcbhjjeiaaGreatDoor.AS
open Go.RowKit Go.Proofs.YtjapahcbhjjeiaaGreatDoorW.PrintWords Go.Proofs.YtjapahcbhjjeiaaGreatDoorW.PrintLast Go.Proofs.YtjapahcbhjjeiaaGreatDoorW.PrintMore Go.Proofs.YtjapahcbhjjeiaaGreatDoor.PA
set_option linter.unusedVariables false
set_option linter.unusedSimpArgs false

def parseW (AL : List Ins) (line : List UInt8) : List (List UInt8) → Option Ins
  | [] => none
  | n :: ws => AL.findSome? (tryL mayL line n ws)
theorem parse_W (line : List UInt8) : parseL mayL line = parseW allI line (wordsL line) := by
  unfold parseL
  cases wordsL line <;> rfl

theorem all_calls_of (AL : List Ins) (h : AL = allI) (W : World) : Calls Tryz.prog 39 #[] W fun e w' => ∃ A c, e = .returned (.slice A AL.length c) ∧ AL.length ≤ c ∧ Kd.C k23 w' A AL.length (AL.map toS) ∧ Below W.heap.size W w' := by
  subst h
  exact all_calls W

theorem all_cell {w : World} {A : Option Addr} {AL : List Ins} {kd fn rv r1 r2 imm sz : Int} {sg : Bool} {r : List Ins} {k : Nat} (hC : Kd.C k23 w A AL.length (AL.map toS)) (hk : AL.drop k = ⟨kd, fn, rv, r1, r2, imm, sz, sg⟩ :: r) :
    ∃ ad, A = some ad ∧ w.cell? (ad.add (k * 8)) = some (.int .i64 kd) ∧ w.cell? { block := (ad.add (k * 8)).block, off := (ad.add (k * 8)).off + 1 } = some (.int .i64 fn) ∧ w.cell? { block := (ad.add (k * 8)).block, off := (ad.add (k * 8)).off + 2 } = some (.int .i64 rv) ∧
      w.cell? { block := (ad.add (k * 8)).block, off := (ad.add (k * 8)).off + 3 } = some (.int .i64 r1) ∧ w.cell? { block := (ad.add (k * 8)).block, off := (ad.add (k * 8)).off + 4 } = some (.int .i64 r2) ∧ w.cell? { block := (ad.add (k * 8)).block, off := (ad.add (k * 8)).off + 5 } = some (.int .i64 imm) ∧
      w.cell? { block := (ad.add (k * 8)).block, off := (ad.add (k * 8)).off + 6 } = some (.int .i64 sz) ∧ w.cell? { block := (ad.add (k * 8)).block, off := (ad.add (k * 8)).off + 7 } = some (.bool sg) := by
  have hlt : k < AL.length := by
    rcases Nat.lt_or_ge k AL.length with h | h
    · exact h
    · rw [List.drop_eq_nil_of_le h] at hk; cases hk
  have h := at_T23 hC (k : Int) (by omega) (by omega)
  have hrd : rd_T23 (AL.map toS) (k : Int) = ⟨kd, fn, rv, r1, r2, imm, sz, sg⟩ := by
    rw [List.drop_eq_getElem_cons hlt] at hk
    injection hk with h1 _
    simp [rd_T23, hlt, h1, toS]
  rw [hrd, Int.toNat_natCast] at h
  exact h

theorem bB_eq {a b : List UInt8} : bB a = bB b ↔ a = b := by
  constructor
  · intro h
    have := congrArg (fun x => x.data.toList) h
    simpa [bB] using this
  · intro h; rw [h]

theorem toList_loop (b : ByteArray) : ∀ (n i : Nat) (r : List UInt8), b.size - i = n → ByteArray.toList.loop b i r = r.reverse ++ b.data.toList.drop i
  | 0, i, r, h => by
    have h1 : ¬ i < b.size := by omega
    rw [ByteArray.toList.loop, if_neg h1, List.drop_eq_nil_of_le (by have : b.data.toList.length = b.size := Array.length_toList
                                                                     omega), List.append_nil]
  | n + 1, i, r, h => by
    have h1 : i < b.size := by omega
    have h2 : i < b.data.toList.length := by rw [Array.length_toList]; exact h1
    rw [ByteArray.toList.loop, if_pos h1, toList_loop b n (i + 1) _ (by omega), List.drop_eq_getElem_cons h2]
    have h3 : b.get! i = b.data.toList[i] := by
      have h4 : i < b.data.size := h1
      show b.data[i]! = _
      rw [getElem!_pos b.data i h4]
      simp
    simp [h3]
theorem toList_bB (l : List UInt8) : (bB l).toList = l := by
  unfold ByteArray.toList
  rw [toList_loop _ _ 0 [] rfl]
  simp [bB]
theorem seq_t {a b : List UInt8} (h : a = b) : ((bB a).toList == (bB b).toList) = true := by simp [h]
theorem seq_f {a b : List UInt8} (h : a ≠ b) : ((bB a).toList == (bB b).toList) = false := by rw [toList_bB, toList_bB]; simpa using h

theorem split_len : ∀ (l cur : List UInt8), ∀ a ∈ split cur l, a.length ≤ cur.length + l.length := by
  intro l
  induction l with
  | nil =>
    intro cur a ha
    unfold split at ha
    split at ha
    · cases ha
    · simp only [List.mem_singleton] at ha; subst ha; simp
  | cons b r ih =>
    intro cur a ha
    unfold split at ha
    split at ha
    · split at ha
      · have := ih [] a ha; simp at this ⊢; omega
      · rcases List.mem_cons.1 ha with rfl | h
        · simp
        · have := ih [] a h; simp at this ⊢; omega
    · have := ih _ a ha
      simp at this ⊢; omega

set_option maxRecDepth 100000 in
set_option maxHeartbeats 8000000 in
theorem parse_calls (line : List UInt8) (hl : line.length ≤ 1073741824) (W : World) (hgw : GW W) : Calls Tryz.prog 13 #[.string (bB line)] W fun e w' => e = .returned (.tuple #[insV ((parseL mayL line).getD zeroI), .bool (parseL mayL line).isSome]) ∧ Below W.heap.size W w' := by
  have HB := Aside0.mk (Below.refl W.heap.size W)
  have HG := Aside0.mk hgw
  have hu23 := Tryz.underlying23
  have hu36 := Tryz.underlying36
  obtain ⟨tot, htot⟩ : ∃ x, x = parseL mayL line := ⟨_, rfl⟩
  obtain ⟨wds, hwds⟩ : ∃ x, x = wordsL line := ⟨_, rfl⟩
  obtain ⟨AL, hAL⟩ : ∃ x, x = allI := ⟨_, rfl⟩
  have WC : ∀ W, Calls Tryz.prog 38 #[.string (bB line)] W fun e w' => ∃ v, e = .returned v ∧ Kd.R Kd.string 9 w' W.heap.size (fun _ => True) v (wds.map bB) ∧ Below W.heap.size W w' := fun W => by rw [hwds]; exact words_calls line hl W
  have HWL : Aside0 (∀ a ∈ wds, a.length ≤ 1099511627776) := ⟨by
    intro a ha
    rw [hwds] at ha
    have := split_len line [] a ha
    simp at this
    omega⟩
  have AC := all_calls_of AL hAL
  have HAN : Aside0 (AL.length = 5800) := ⟨by rw [hAL]; exact allI_len⟩
  have HT : Aside0 (parseW AL line wds = tot) := ⟨by rw [htot, hwds, hAL, parse_W]⟩
  rw [← htot]
  clear hl htot hwds hAL hgw
  go_enter Tryz.func13, Tryz.ntmps13
  go_wp2_with (first | ((with_reducible refine gate_dst (N := 2) rfl ?_); refine box_event (by rfl) (N := 2) (by rfl) (cs := #[.int .i64 0, .int .i64 0, .int .i64 0, .int .i64 0, .int .i64 0, .int .i64 0, .int .i64 0, .bool false]) (t := 23) (by first | (go_simp; done) | (go_simp; rfl)) ?_; intro g2 hg w2 hbox hb; have H2 := Aside0.mk hbox; have HB' := Aside0.mk (below_step HB.out hb); have HG' := Aside0.mk (HG.out.below hb); have HL2 := Aside0.mk (show W.heap.size ≤ g2 by omega); clear HB HG; have HB := HB'; have HG := HG'; clear HB' HG'; clear hbox hb hg) | fail)
  refine (WC _).mono ?_
  rintro e w3 ⟨v, rfl, hR, hb⟩
  have HB3 := Aside0.mk (below_step HB.out hb)
  have H23 := Aside0.mk (blk_below H2.out hb)
  have HG3 := Aside0.mk (HG.out.below hb)
  obtain ⟨A3, c3, rfl, hc3, hC3⟩ := Kd.R_reads hR
  have HC3 := Aside0.mk hC3
  have HL3 := Aside0.mk hc3
  clear HB H2 HG hb hR hC3 hc3 WC
  have HB := HB3; have H2 := H23; have HG := HG3
  clear HB3 H23 HG3
  obtain ⟨q0, hq0⟩ : ∃ x, x = (wds.map bB).length := ⟨_, rfl⟩
  have hlen := HC3
  rw [← hq0] at hlen ⊢
  clear HC3
  have HC3 := hlen
  have HQ0 := Aside0.mk hq0
  clear hlen hq0
  cases wds with
  | nil =>
    obtain rfl : q0 = 0 := HQ0.out
    go_wp2_with (first | ((with_reducible refine gate_store (t := 23) rfl ?_); refine store_event rfl 23 (.tmp 2) (.tmp 14) rfl (g := g2) #[.int .i64 0, .int .i64 0, .int .i64 0, .int .i64 0, .int .i64 0, .int .i64 0, .int .i64 0, .bool false] H2.out rfl rfl (by kernel_rfl) rfl rfl ?_; intro w6 hbox hfar hbel; have H2' := Aside0.mk hbox; have HB' := Aside0.mk (hbel _ _ HB.out HL2.out); clear hbox hfar hbel H2 HB; have H2 := H2'; have HB := HB'; clear H2' HB') | fail)
    refine bodyPost_ret (results_ct rfl _ _ g2 23 #[.int .i64 0, .int .i64 0, .int .i64 0, .int .i64 0, .int .i64 0, .int .i64 0, .int .i64 0, .bool false] (0, 0) _ rfl H2.out Tryz.underlying23 rfl (by kernel_rfl)) rfl ?_
    exact ⟨by rw [← HT.out]; rfl, HB.out⟩
  | cons n0 ws =>
    have hq0 : q0 = ws.length + 1 := by rw [HQ0.out]; simp
    have HC3' := HC3
    rw [hq0] at HC3' ⊢
    clear HC3
    have hz : (((ws.length + 1 : Nat) : Int) == 0) = false := by simp; omega
    have hz' : (((ws.length : Nat) : Int) + 1 == 0) = false := by simp; omega
    go_wp2_with fail
    refine (AC _).mono ?_
    rintro e w5 ⟨A5, c5, rfl, hc5, hC5, hb⟩
    have HB5 := Aside0.mk (below_step HB.out hb)
    have H25 := Aside0.mk (blk_below H2.out hb)
    have HG5 := Aside0.mk (HG.out.below hb)
    have HW5 := Aside0.mk (Kd.C_below HC3'.out hb)
    have HA5 := Aside0.mk hC5
    have HC5c := Aside0.mk hc5
    clear HB H2 HG HC3' hb hC5 hc5 AC hz hz'
    go_wp2
    go_loopw [17] (fun v17 wr => ∃ (k : Nat), v17 = .int .i64 (k : Int) ∧ k ≤ AL.length ∧ Below w5.heap.size w5 wr ∧ (AL.drop k).findSome? (tryL mayL line n0 ws) = tot) (fun v17 _ => AL.length - (intOf v17).toNat)
    case atStart => exact ⟨0, rfl, Nat.zero_le _, Below.refl _ _, HT.out⟩
    case round =>
      obtain ⟨k, rfl, hk, hB, hgo⟩ := hrel
      have HBr := Aside0.mk hB
      have HGO := Aside0.mk hgo
      have H2r := Aside0.mk (blk_below H25.out hB)
      clear hB hgo
      by_cases hlt : k < AL.length
      · have hk58 : k < 5800 := by have := HAN.out; omega
        obtain ⟨cc, hcc⟩ : ∃ x, x = AL[k] := ⟨_, rfl⟩
        have hdk : AL.drop k = cc :: AL.drop (k + 1) := by rw [hcc]; exact List.drop_eq_getElem_cons hlt
        obtain ⟨kd, fn, rv, r1, r2, imm, sz, sg⟩ := cc
        obtain ⟨ad5, rfl, z0, z1, z2, z3, z4, z5, z6, z7⟩ := all_cell (Kd.C_below HA5.out HBr.out) hdk
        have hlt' : (k : Int) < (AL.length : Int) := by omega
        have hd0 : decide ((k : Int) < (AL.length : Int)) = true := by simpa using hlt
        have HGO2 := Aside0.mk (show List.findSome? (tryL mayL line n0 ws) (⟨kd, fn, rv, r1, r2, imm, sz, sg⟩ :: AL.drop (k + 1)) = tot by rw [← hdk]; exact HGO.out)
        have HKL := Aside0.mk hlt
        clear hcc hdk HGO hk hlt
        go_upto_region 7 with (first | ((with_reducible refine gate_dst (N := 6) rfl ?_); refine box_event (by rfl) (N := 6) (by rfl) (cs := #[.int .i64 0, .int .i64 0, .int .i64 0, .int .i64 0, .int .i64 0, .int .i64 0, .int .i64 0, .bool false]) (t := 23) (by first | (go_simp; done) | (go_simp; rfl)) ?_; intro g6 hg w6 hbox hb; have HX6 := Aside0.mk hbox; have HB6 := Aside0.mk (show Below wr.heap.size wr w6 from hb); have HGE := Aside0.mk hg; clear z0 z1 z2 z3 z4 z5 z6 z7; clear hbox hb hg) | ((with_reducible refine gate_store (t := 23) rfl ?_); refine store_event rfl 23 (.tmp 6) (.tmp 20) rfl (g := g6) #[.int .i64 kd, .int .i64 fn, .int .i64 rv, .int .i64 r1, .int .i64 r2, .int .i64 imm, .int .i64 sz, .bool sg] HX6.out rfl rfl (by kernel_rfl) rfl rfl ?_; intro w7 hbox hfar hbel; have HX7 := Aside0.mk hbox; have HB7 := Aside0.mk (hbel wr.heap.size wr HB6.out (Nat.le_of_eq HGE.out.symm)); clear hbox hfar hbel HX6 HB6; obtain ⟨y0, y1, y2, y3, y4, y5, y6, y7, yf0, yf1, yf2, yf3, yf4, yf5, yf6, yf7⟩ := cells8 HX7.out) | fail)
        have hq : q0 = ws.length + 1 := HQ0.out.trans (by simp)
        obtain ⟨ad3, rfl, hw0⟩ := word_cell (ws := n0 :: ws) (k := 0) (t := n0) (r := ws) (Kd.C_below (Kd.C_below HW5.out HBr.out) HB7.out) rfl
        have HW0 := Aside0.mk (show w7.cell? ad3 = some (.string (bB n0)) by rw [show ad3.add 0 = ad3 by simp [Addr.add]] at hw0; exact hw0)
        obtain ⟨i9, hi9, _, hs9, _⟩ := info_parts infoS
        obtain ⟨A2, hcut, hA2, hC2⟩ := print_drop_of (P := Tryz.prog) Value.string ByteArray.empty 36 9 .i64 Tryz.underlying36 hi9 hs9 (some ad3) c3 ((n0 :: ws).map bB) 1 (by decide) (by simp; omega) HL3.out
        have HC2 : Aside0 (Kd.C Kd.string w5 A2 ws.length (ws.map bB)) := ⟨by
          have h1 : Kd.C Kd.string w5 A2 (((n0 :: ws).map bB).drop (Int.toNat 1)).length (((n0 :: ws).map bB).drop (Int.toNat 1)) := Kd.C_of_reads (h1 := fun _ => rfl) (hA2 w5 (Kd.reads_of_C (d := ByteArray.empty) (h1 := fun _ => rfl) (show Kd.C Kd.string w5 (some ad3) ((n0 :: ws).map bB).length ((n0 :: ws).map bB) by simpa using HW5.out)))
          simpa using h1⟩
        have HC3c : Aside0 (ws.length ≤ c3 - 1) := ⟨by simpa using hC2⟩
        have hcut1 : ∀ W, (Instr.slice 36 (.slice (some ad3) (ws.length + 1) c3) (some (.int .i64 1)) none none).run Tryz.prog W = .ok (.slice A2 ws.length (c3 - 1)) W := fun W => by simpa using hcut W
        have HB57 := Aside0.mk (show Below w5.heap.size w5 w7 from HBr.out.trans (HB7.out.mono HBr.out.size))
        have HG56 := Aside0.mk (show w5.heap.size ≤ g6 by rw [HGE.out]; exact HBr.out.size)
        have hl0 : (0 : Int) < (ws.length : Int) + 1 := by omega
        have hl1 : (1 : Int) ≤ (ws.length : Int) + 1 := by omega
        clear hcut hA2 hC2 hw0 hi9 hs9 hlt' hd0
        obtain ⟨nm, hnm⟩ : ∃ x, x = nameI ⟨kd, fn, rv, r1, r2, imm, sz, sg⟩ := ⟨_, rfl⟩
        have NA : ∀ W, Calls Tryz.prog 27 #[.agg #[.int .i64 kd, .int .i64 fn, .int .i64 rv, .int .i64 r1, .int .i64 r2, .int .i64 imm, .int .i64 sz, .bool sg]] W fun e w' => e = .returned (.string (bB nm)) ∧ Below W.heap.size W w' := fun W => by rw [hnm]; exact name_calls ⟨kd, fn, rv, r1, r2, imm, sz, sg⟩ W
        have HNM := Aside0.mk hnm
        clear hnm
        by_cases hen : nm = n0
        · have hx1 := seq_t hen
          have HEN := Aside0.mk hen
          clear hen
          obtain ⟨ok, hok⟩ : ∃ x, x = (fillL ⟨kd, fn, rv, r1, r2, imm, sz, sg⟩ ws).isSome := ⟨_, rfl⟩
          have HOK := Aside0.mk hok.symm
          clear hok
          refine start_ (n := 12) (S := fun w' => w'.cell? ⟨g6, 0, none⟩ = some (.int .i64 kd) ∧ w'.cell? ⟨g6, 1, none⟩ = some (.int .i64 fn) ∧ w'.cell? ⟨g6, 2, none⟩ = some (.int .i64 rv) ∧ w'.cell? ⟨g6, 3, none⟩ = some (.int .i64 r1) ∧ w'.cell? ⟨g6, 4, none⟩ = some (.int .i64 r2) ∧ w'.cell? ⟨g6, 5, none⟩ = some (.int .i64 imm) ∧ w'.cell? ⟨g6, 6, none⟩ = some (.int .i64 sz) ∧ w'.cell? ⟨g6, 7, none⟩ = some (.bool sg) ∧ w'.cell? ad3 = some (.string (bB n0))) (ds := [9]) #[false, false, false, false, false, false, false, false, false, false, false, false] (by kernel_rfl) rfl rfl ⟨(blk_cell (blk_drew HX7.out) 0).trans rfl, (blk_cell (blk_drew HX7.out) 1).trans rfl, (blk_cell (blk_drew HX7.out) 2).trans rfl, (blk_cell (blk_drew HX7.out) 3).trans rfl, (blk_cell (blk_drew HX7.out) 4).trans rfl, (blk_cell (blk_drew HX7.out) 5).trans rfl, (blk_cell (blk_drew HX7.out) 6).trans rfl, (blk_cell (blk_drew HX7.out) 7).trans rfl, (pw_cell_below (below_drew1 (Below.refl _ _)) HW0.out)⟩ (fun hHeld => ?_)
          refine pure_ (i := 2) (N := some 23) (v := ?_) (a' := ?_) #[false, false, true, false, false, false, false, false, false, false, false, false] rfl rfl (by kernel_rfl) (fun _ _ _ h => h) (Or.inl ⟨by rfl, ?_⟩) ?_ ?_
          rotate_left
          · intro w'
            go_simp
            with_reducible rfl
          rotate_left
          · simp only [Act.put, putS]
            rfl
          refine pure_ (i := 3) (N := some 24) (v := ?_) (a' := ?_) #[false, false, true, true, false, false, false, false, false, false, false, false] rfl rfl (by kernel_rfl) (fun _ _ _ h => h) (Or.inl ⟨by rfl, ?_⟩) ?_ ?_
          rotate_left
          · intro w'
            go_simp
            with_reducible rfl
          rotate_left
          · simp only [Act.put, putS]
            rfl
          refine take_ (i := 0) (N := some 21) (v := ?_) (a' := ?_) #[true, false, true, true, false, false, false, false, false, false, false, false] rfl rfl (by kernel_rfl) (fun _ _ _ h => h) (Or.inl ⟨by rfl, ?_⟩) hHeld ?_ ?_
          rotate_left
          · rintro w' ⟨s0, s1, s2, s3, s4, s5, s6, s7, s8⟩
            go_simp
            with_reducible rfl
          rotate_left
          · simp only [Act.put, putS]
            rfl
          refine take_ (i := 4) (N := some 25) (v := ?_) (a' := ?_) #[true, false, true, true, true, false, false, false, false, false, false, false] rfl rfl (by kernel_rfl) (fun _ _ _ h => h) (Or.inl ⟨by rfl, ?_⟩) hHeld ?_ ?_
          rotate_left
          · rintro w' ⟨s0, s1, s2, s3, s4, s5, s6, s7, s8⟩
            go_simp
            with_reducible rfl
          rotate_left
          · simp only [Act.put, putS]
            rfl
          refine one_ (i := 1) (N := some 22) #[true, true, true, true, true, false, false, false, false, false, false, false] rfl rfl (by kernel_rfl) (by decide) (fun K hK => ?_)
          refine goes_ Tryz.func27 (by kernel_rfl) rfl #[.agg #[.int .i64 kd, .int .i64 fn, .int .i64 rv, .int .i64 r1, .int .i64 r2, .int .i64 imm, .int .i64 sz, .bool sg]] (by rfl) rfl rfl (by simp only [List.map_toArray, List.map_cons, List.map_nil]; rfl) ?_
          refine (NA _).mono ?_
          rintro e w8 ⟨rfl, hb⟩
          refine ⟨_, rfl, ?_⟩
          have B8 := Aside0.mk (show Below w7.heap.size w7 w8 from below_step (below_drew1 (Below.refl _ _)) hb)
          have B58 := Aside0.mk (show Below w5.heap.size w5 w8 from HB57.out.trans (B8.out.mono HB57.out.size))
          have HX8 := Aside0.mk (blk_below HX7.out B8.out)
          clear hb
          refine hK.out _ _ ⟨(blk_cell HX8.out 0).trans rfl, (blk_cell HX8.out 1).trans rfl, (blk_cell HX8.out 2).trans rfl, (blk_cell HX8.out 3).trans rfl, (blk_cell HX8.out 4).trans rfl, (blk_cell HX8.out 5).trans rfl, (blk_cell HX8.out 6).trans rfl, (blk_cell HX8.out 7).trans rfl, (pw_cell_below B8.out HW0.out)⟩ (fun hHeld => ?_)
          clear hK K
          refine norm_ (a' := ?_) ?_ ?_
          rotate_left
          · show Act.put _ (some 22) _ = _
            simp only [Act.put, putS]
            rfl
          refine pure_ (i := 5) (N := some 26) (v := ?_) (a' := ?_) #[true, true, true, true, true, true, false, false, false, false, false, false] rfl rfl (by kernel_rfl) (fun _ _ _ h => h) (Or.inl ⟨by rfl, ?_⟩) ?_ ?_
          rotate_left
          · intro w'
            go_simp
            with_reducible rfl
          rotate_left
          · simp only [Act.put, putS]
            rfl
          refine pure_ (i := 6) (N := some 27) (v := ?_) (a' := ?_) #[true, true, true, true, true, true, true, false, false, false, false, false] rfl rfl (by kernel_rfl) (fun _ _ _ h => h) (Or.inl ⟨by rfl, ?_⟩) ?_ ?_
          rotate_left
          · intro w'
            go_simp
            with_reducible rfl
          rotate_left
          · simp only [Act.put, putS]
            rfl
          refine pure_ (i := 7) (N := some 28) (v := ?_) (a' := ?_) #[true, true, true, true, true, true, true, true, false, false, false, false] rfl rfl (by kernel_rfl) (fun _ _ _ h => h) (Or.inl ⟨by rfl, ?_⟩) ?_ ?_
          rotate_left
          · intro w'
            go_simp
            with_reducible rfl
          rotate_left
          · simp only [Act.put, putS]
            rfl
          refine pure_ (i := 8) (N := some 29) (v := ?_) (a' := ?_) #[true, true, true, true, true, true, true, true, true, false, false, false] rfl rfl (by kernel_rfl) (fun _ _ _ h => h) (Or.inl ⟨by rfl, ?_⟩) ?_ ?_
          rotate_left
          · intro w'
            go_simp
            with_reducible rfl
          rotate_left
          · simp only [Act.put, putS]
            rfl
          refine last_ (i := 9) (N := some 30) #[true, true, true, true, true, true, true, true, true, true, false, false] rfl rfl (by kernel_rfl) (by decide) (fun K hK => ?_)
          refine goes_ Tryz.func40 (by kernel_rfl) rfl #[.pointer (some ⟨g6, 0, none⟩), .slice A2 ws.length (c3 - 1)] (by rfl) rfl rfl (by simp only [List.map_toArray, List.map_cons, List.map_nil]; rfl) ?_
          refine (fill_calls ⟨kd, fn, rv, r1, r2, imm, sz, sg⟩ ws g6 A2 (c3 - 1) _ (fun w hb => HG5.out.below (B58.out.trans (hb.mono HG56.out))) HX8.out HC3c.out (fun w hb => Kd.C_below HC2.out (B58.out.trans (hb.mono HG56.out))) (fun a ha => HWL.out a (List.mem_cons_of_mem _ ha))).mono ?_
          rintro e w9 ⟨jj, he, hbj, hj, hbel⟩
          rw [HOK.out] at he
          subst he
          refine ⟨_, rfl, ?_⟩
          have HX9 := Aside0.mk hbj
          have HJ := Aside0.mk hj
          have B9 := Aside0.mk hbel
          clear hbj hj hbel
          refine hK.out _ _ ?_
          clear hK K
          refine norm_ (a' := ?_) ?_ ?_
          rotate_left
          · show Act.put _ (some 30) _ = _
            simp only [Act.put, putS]
            rfl
          refine pure_ (i := 10) (N := some 31) (v := ?_) (a' := ?_) #[true, true, true, true, true, true, true, true, true, true, true, false] rfl rfl (by kernel_rfl) (fun _ _ _ h => h) (Or.inl ⟨by rfl, ?_⟩) ?_ ?_
          rotate_left
          · intro w'
            go_simp
            with_reducible rfl
          rotate_left
          · simp only [Act.put, putS]
            rfl
          refine pure_ (i := 11) (N := some 32) (v := ?_) (a' := ?_) #[true, true, true, true, true, true, true, true, true, true, true, true] rfl rfl (by kernel_rfl) (fun _ _ _ h => h) (Or.inl ⟨by rfl, ?_⟩) ?_ ?_
          rotate_left
          · intro w'
            go_simp
            with_reducible rfl
          rotate_left
          · simp only [Act.put, putS]
            rfl
          refine done_ (by kernel_rfl) ?_
          have HB59 := Aside0.mk (show Below w5.heap.size w5 w9 from B58.out.trans (B9.out.mono HG56.out))
          have HTRY : Aside0 (tryL mayL line n0 ws ⟨kd, fn, rv, r1, r2, imm, sz, sg⟩ = (fillL ⟨kd, fn, rv, r1, r2, imm, sz, sg⟩ ws).bind fun i => if mayL i = true ∧ lineI i = line then some i else none) := ⟨by unfold tryL; rw [← HNM.out, if_pos HEN.out]⟩
          cases ok with
          | false =>
            go_wp2
            go_roundw
            case rel =>
              refine ⟨k + 1, by go_num, by have := HKL.out; omega, HB59.out, ?_⟩
              have h1 := HGO2.out
              rw [List.findSome?_cons, HTRY.out, show fillL ⟨kd, fn, rv, r1, r2, imm, sz, sg⟩ ws = none by have h2 := HOK.out; cases hf : fillL ⟨kd, fn, rv, r1, r2, imm, sz, sg⟩ ws with | none => rfl | some j => rw [hf] at h2; cases h2] at h1
              exact h1
            case measure => simp [intOf]; have := HKL.out; omega
          | true =>
            obtain ⟨jkd, jfn, jrv, jr1, jr2, jimm, jsz, jsg⟩ := jj
            have HFJ : Aside0 (fillL ⟨kd, fn, rv, r1, r2, imm, sz, sg⟩ ws = some ⟨jkd, jfn, jrv, jr1, jr2, jimm, jsz, jsg⟩) := ⟨by
              have h2 := HOK.out
              cases hf : fillL ⟨kd, fn, rv, r1, r2, imm, sz, sg⟩ ws with
              | none => rw [hf] at h2; cases h2
              | some j => rw [HJ.out j hf]⟩
            have HGO3 : Aside0 ((if mayL ⟨jkd, jfn, jrv, jr1, jr2, jimm, jsz, jsg⟩ = true ∧ lineI ⟨jkd, jfn, jrv, jr1, jr2, jimm, jsz, jsg⟩ = line then some (⟨jkd, jfn, jrv, jr1, jr2, jimm, jsz, jsg⟩ : Ins) else List.findSome? (tryL mayL line n0 ws) (AL.drop (k + 1))) = tot) := ⟨by
              have h1 := HGO2.out
              rw [List.findSome?_cons, HTRY.out, HFJ.out, Option.bind_some] at h1
              by_cases hc : mayL ⟨jkd, jfn, jrv, jr1, jr2, jimm, jsz, jsg⟩ = true ∧ lineI ⟨jkd, jfn, jrv, jr1, jr2, jimm, jsz, jsg⟩ = line
              · rw [if_pos hc] at h1 ⊢; exact h1
              · rw [if_neg hc] at h1 ⊢; exact h1⟩
            obtain ⟨j0, j1, j2, j3, j4, j5, j6, j7, jf0, jf1, jf2, jf3, jf4, jf5, jf6, jf7⟩ := cells8 HX9.out
            clear HGO2
            go_wp2_with fail
            by_cases hm : mayL ⟨jkd, jfn, jrv, jr1, jr2, jimm, jsz, jsg⟩ = true
            · refine (Line_yes ⟨jkd, jfn, jrv, jr1, jr2, jimm, jsz, jsg⟩ hm _ (HG5.out.below HB59.out)).mono ?_
              rintro e w10 ⟨rfl, hb⟩
              have HM := Aside0.mk hm
              have HB10 := Aside0.mk (show Below w5.heap.size w5 w10 from HB59.out.trans (hb.mono HB59.out.size))
              have HX10 := Aside0.mk (blk_below HX9.out hb)
              have H210 := Aside0.mk (blk_below H25.out HB10.out)
              clear hm hb j0 j1 j2 j3 j4 j5 j6 j7 jf0 jf1 jf2 jf3 jf4 jf5 jf6 jf7
              by_cases hle : lineI ⟨jkd, jfn, jrv, jr1, jr2, jimm, jsz, jsg⟩ = line
              · have hs := seq_t hle
                have HLE := Aside0.mk hle
                have HTS : Aside0 (tot = some ⟨jkd, jfn, jrv, jr1, jr2, jimm, jsz, jsg⟩) := ⟨by rw [← HGO3.out, if_pos ⟨HM.out, HLE.out⟩]⟩
                clear hle
                obtain ⟨j0, j1, j2, j3, j4, j5, j6, j7, jf0, jf1, jf2, jf3, jf4, jf5, jf6, jf7⟩ := cells8 HX10.out
                go_wp2_with (first | ((with_reducible refine gate_store (t := 23) rfl ?_); refine store_event rfl 23 (.tmp 2) (.tmp 44) rfl (g := g2) #[.int .i64 jkd, .int .i64 jfn, .int .i64 jrv, .int .i64 jr1, .int .i64 jr2, .int .i64 jimm, .int .i64 jsz, .bool jsg] H210.out rfl rfl (by kernel_rfl) rfl rfl ?_; intro w11 hbox hfar hbel; have H2z := Aside0.mk hbox; have HBz := Aside0.mk (hbel _ _ (HB5.out.trans (HB10.out.mono HB5.out.size)) HL2.out); clear hbox hfar hbel) | fail)
                refine bodyPost_ret (results_ct rfl _ _ g2 23 #[.int .i64 jkd, .int .i64 jfn, .int .i64 jrv, .int .i64 jr1, .int .i64 jr2, .int .i64 jimm, .int .i64 jsz, .bool jsg] (0, 0) _ rfl H2z.out Tryz.underlying23 rfl (by kernel_rfl)) rfl ?_
                exact ⟨by rw [HTS.out]; rfl, HBz.out⟩
              · have hs := seq_f hle
                have HLE := Aside0.mk hle
                clear hle
                go_wp2
                go_roundw
                case rel =>
                  refine ⟨k + 1, by go_num, by have := HKL.out; omega, HB10.out, ?_⟩
                  have h1 := HGO3.out
                  rw [if_neg (fun h => HLE.out h.2)] at h1
                  exact h1
                case measure => simp [intOf]; have := HKL.out; omega
            · refine (Line_no ⟨jkd, jfn, jrv, jr1, jr2, jimm, jsz, jsg⟩ (by simpa using hm) _).mono ?_
              rintro e w10 ⟨rfl, hb⟩
              have HM := Aside0.mk hm
              have HB10 := Aside0.mk (show Below w5.heap.size w5 w10 from HB59.out.trans (hb.mono HB59.out.size))
              clear hm hb j0 j1 j2 j3 j4 j5 j6 j7 jf0 jf1 jf2 jf3 jf4 jf5 jf6 jf7
              go_wp2
              go_roundw
              case rel =>
                refine ⟨k + 1, by go_num, by have := HKL.out; omega, HB10.out, ?_⟩
                have h1 := HGO3.out
                rw [if_neg (fun h => HM.out h.1)] at h1
                exact h1
              case measure => simp [intOf]; have := HKL.out; omega
        · have hx1 := seq_f hen
          have HEN := Aside0.mk hen
          clear hen
          refine start_ (n := 12) (S := fun w' => w'.cell? ⟨g6, 0, none⟩ = some (.int .i64 kd) ∧ w'.cell? ⟨g6, 1, none⟩ = some (.int .i64 fn) ∧ w'.cell? ⟨g6, 2, none⟩ = some (.int .i64 rv) ∧ w'.cell? ⟨g6, 3, none⟩ = some (.int .i64 r1) ∧ w'.cell? ⟨g6, 4, none⟩ = some (.int .i64 r2) ∧ w'.cell? ⟨g6, 5, none⟩ = some (.int .i64 imm) ∧ w'.cell? ⟨g6, 6, none⟩ = some (.int .i64 sz) ∧ w'.cell? ⟨g6, 7, none⟩ = some (.bool sg) ∧ w'.cell? ad3 = some (.string (bB n0))) (ds := []) #[false, false, false, false, false, false, false, false, false, false, false, false] (by kernel_rfl) rfl rfl ⟨(blk_cell (blk_drew HX7.out) 0).trans rfl, (blk_cell (blk_drew HX7.out) 1).trans rfl, (blk_cell (blk_drew HX7.out) 2).trans rfl, (blk_cell (blk_drew HX7.out) 3).trans rfl, (blk_cell (blk_drew HX7.out) 4).trans rfl, (blk_cell (blk_drew HX7.out) 5).trans rfl, (blk_cell (blk_drew HX7.out) 6).trans rfl, (blk_cell (blk_drew HX7.out) 7).trans rfl, (pw_cell_below (below_drew1 (Below.refl _ _)) HW0.out)⟩ (fun hHeld => ?_)
          refine pure_ (i := 2) (N := some 23) (v := ?_) (a' := ?_) #[false, false, true, false, false, false, false, false, false, false, false, false] rfl rfl (by kernel_rfl) (fun _ _ _ h => h) (Or.inl ⟨by rfl, ?_⟩) ?_ ?_
          rotate_left
          · intro w'
            go_simp
            with_reducible rfl
          rotate_left
          · simp only [Act.put, putS]
            rfl
          refine pure_ (i := 3) (N := some 24) (v := ?_) (a' := ?_) #[false, false, true, true, false, false, false, false, false, false, false, false] rfl rfl (by kernel_rfl) (fun _ _ _ h => h) (Or.inl ⟨by rfl, ?_⟩) ?_ ?_
          rotate_left
          · intro w'
            go_simp
            with_reducible rfl
          rotate_left
          · simp only [Act.put, putS]
            rfl
          refine take_ (i := 0) (N := some 21) (v := ?_) (a' := ?_) #[true, false, true, true, false, false, false, false, false, false, false, false] rfl rfl (by kernel_rfl) (fun _ _ _ h => h) (Or.inl ⟨by rfl, ?_⟩) hHeld ?_ ?_
          rotate_left
          · rintro w' ⟨s0, s1, s2, s3, s4, s5, s6, s7, s8⟩
            go_simp
            with_reducible rfl
          rotate_left
          · simp only [Act.put, putS]
            rfl
          refine take_ (i := 4) (N := some 25) (v := ?_) (a' := ?_) #[true, false, true, true, true, false, false, false, false, false, false, false] rfl rfl (by kernel_rfl) (fun _ _ _ h => h) (Or.inl ⟨by rfl, ?_⟩) hHeld ?_ ?_
          rotate_left
          · rintro w' ⟨s0, s1, s2, s3, s4, s5, s6, s7, s8⟩
            go_simp
            with_reducible rfl
          rotate_left
          · simp only [Act.put, putS]
            rfl
          refine one_ (i := 1) (N := some 22) #[true, true, true, true, true, false, false, false, false, false, false, false] rfl rfl (by kernel_rfl) (by decide) (fun K hK => ?_)
          refine goes_ Tryz.func27 (by kernel_rfl) rfl #[.agg #[.int .i64 kd, .int .i64 fn, .int .i64 rv, .int .i64 r1, .int .i64 r2, .int .i64 imm, .int .i64 sz, .bool sg]] (by rfl) rfl rfl (by simp only [List.map_toArray, List.map_cons, List.map_nil]; rfl) ?_
          refine (NA _).mono ?_
          rintro e w8 ⟨rfl, hb⟩
          refine ⟨_, rfl, ?_⟩
          have B8 := Aside0.mk (show Below w7.heap.size w7 w8 from below_step (below_drew1 (Below.refl _ _)) hb)
          have B58 := Aside0.mk (show Below w5.heap.size w5 w8 from HB57.out.trans (B8.out.mono HB57.out.size))
          have HX8 := Aside0.mk (blk_below HX7.out B8.out)
          clear hb
          refine hK.out _ _ ⟨(blk_cell HX8.out 0).trans rfl, (blk_cell HX8.out 1).trans rfl, (blk_cell HX8.out 2).trans rfl, (blk_cell HX8.out 3).trans rfl, (blk_cell HX8.out 4).trans rfl, (blk_cell HX8.out 5).trans rfl, (blk_cell HX8.out 6).trans rfl, (blk_cell HX8.out 7).trans rfl, (pw_cell_below B8.out HW0.out)⟩ (fun hHeld => ?_)
          clear hK K
          refine norm_ (a' := ?_) ?_ ?_
          rotate_left
          · show Act.put _ (some 22) _ = _
            simp only [Act.put, putS]
            rfl
          refine pure_ (i := 5) (N := some 26) (v := ?_) (a' := ?_) #[true, true, true, true, true, true, false, false, false, false, false, false] rfl rfl (by kernel_rfl) (fun _ _ _ h => h) (Or.inl ⟨by rfl, ?_⟩) ?_ ?_
          rotate_left
          · intro w'
            go_simp
            with_reducible rfl
          rotate_left
          · simp only [Act.put, putS]
            rfl
          refine pure_ (i := 6) (N := some 27) (v := ?_) (a' := ?_) #[true, true, true, true, true, true, true, false, false, false, false, false] rfl rfl (by kernel_rfl) (fun _ _ _ h => h) (Or.inl ⟨by rfl, ?_⟩) ?_ ?_
          rotate_left
          · intro w'
            go_simp
            with_reducible rfl
          rotate_left
          · simp only [Act.put, putS]
            rfl
          refine pure_ (i := 7) (N := some 28) (v := undef) (a' := ?_) #[true, true, true, true, true, true, true, true, false, false, false, false] rfl rfl (by kernel_rfl) (fun _ _ _ h => h) (Or.inr ⟨by rfl, rfl⟩) ?_ ?_
          rotate_left
          · simp only [Act.put, putS]
            rfl
          refine pure_ (i := 8) (N := some 29) (v := undef) (a' := ?_) #[true, true, true, true, true, true, true, true, true, false, false, false] rfl rfl (by kernel_rfl) (fun _ _ _ h => h) (Or.inr ⟨by rfl, rfl⟩) ?_ ?_
          rotate_left
          · simp only [Act.put, putS]
            rfl
          refine pure_ (i := 9) (N := some 30) (v := undef) (a' := ?_) #[true, true, true, true, true, true, true, true, true, true, false, false] rfl rfl (by kernel_rfl) (fun _ _ _ h => h) (Or.inr ⟨by rfl, rfl⟩) ?_ ?_
          rotate_left
          · simp only [Act.put, putS]
            rfl
          refine pure_ (i := 10) (N := some 31) (v := undef) (a' := ?_) #[true, true, true, true, true, true, true, true, true, true, true, false] rfl rfl (by kernel_rfl) (fun _ _ _ h => h) (Or.inr ⟨by rfl, rfl⟩) ?_ ?_
          rotate_left
          · simp only [Act.put, putS]
            rfl
          refine pure_ (i := 11) (N := some 32) (v := ?_) (a' := ?_) #[true, true, true, true, true, true, true, true, true, true, true, true] rfl rfl (by kernel_rfl) (fun _ _ _ h => h) (Or.inl ⟨by rfl, ?_⟩) ?_ ?_
          rotate_left
          · intro w'
            go_simp
            with_reducible rfl
          rotate_left
          · simp only [Act.put, putS]
            rfl
          refine done_ (by kernel_rfl) ?_
          go_wp2
          go_roundw
          case rel =>
            refine ⟨k + 1, by go_num, by have := HKL.out; omega, B58.out, ?_⟩
            have h1 := HGO2.out
            rw [List.findSome?_cons, show tryL mayL line n0 ws ⟨kd, fn, rv, r1, r2, imm, sz, sg⟩ = none by unfold tryL; rw [← HNM.out, if_neg HEN.out]] at h1
            exact h1
          case measure => simp [intOf]; have := HKL.out; omega
      · obtain rfl : k = AL.length := by omega
        have hd0 : decide (((AL.length : Nat) : Int) < (AL.length : Int)) = false := by simp
        have HT2 : Aside0 (tot = none) := ⟨by have h1 := HGO.out; rw [List.drop_length] at h1; exact h1.symm⟩
        clear hlt
        go_wp2_with (first | ((with_reducible refine gate_store (t := 23) rfl ?_); refine store_event rfl 23 (.tmp 2) (.tmp 46) rfl (g := g2) #[.int .i64 0, .int .i64 0, .int .i64 0, .int .i64 0, .int .i64 0, .int .i64 0, .int .i64 0, .bool false] H2r.out rfl rfl (by kernel_rfl) rfl rfl ?_; intro w6 hbox hfar hbel; have H2' := Aside0.mk hbox; have HBx := Aside0.mk (hbel _ _ (HB5.out.trans (HBr.out.mono HB5.out.size)) HL2.out); clear hbox hfar hbel H2r; have H2r := H2'; clear H2') | fail)
        refine bodyPost_ret (results_ct rfl _ _ g2 23 #[.int .i64 0, .int .i64 0, .int .i64 0, .int .i64 0, .int .i64 0, .int .i64 0, .int .i64 0, .bool false] (0, 0) _ rfl H2r.out Tryz.underlying23 rfl (by kernel_rfl)) rfl ?_
        exact ⟨by rw [HT2.out]; rfl, HBx.out⟩

end Go.Proofs.YtjapahcbhjjeiaaGreatDoor.AS
