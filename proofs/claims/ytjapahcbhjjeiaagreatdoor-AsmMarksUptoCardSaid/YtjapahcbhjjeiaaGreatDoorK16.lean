/- Several texts in one. -/
import Derived.Test.YtjapahcbhjjeiaaGreatDoorK13
import Derived.Test.YtjapahcbhjjeiaaGreatDoorPAy15
/- asm.Assemble by its contract, over what asm.word answers to each line. -/
namespace Go.Proofs.YtjapahcbhjjeiaaGreatDoor.AS
open Go.RowKit Go.MapKept Go.Proofs.YtjapahcbhjjeiaaGreatDoorW.PrintWords Go.Proofs.YtjapahcbhjjeiaaGreatDoorW.PrintLast Go.Proofs.YtjapahcbhjjeiaaGreatDoorW.PrintMore Go.Proofs.YtjapahcbhjjeiaaGreatDoor.PA
set_option linter.unusedVariables false
set_option linter.unusedSimpArgs false

def valN (ps : List Mk) (m : List UInt8) : Nat := match ps.find? (fun x => x.1 == m) with | some x => x.2.2 | none => 0
def isHere (ps : List Mk) (l : List UInt8) (i : Nat) : Bool := match markL l with | some m => valN ps m == i | none => false
def le4 (v : Int) : List Int := [v % 256, v / 256 % 256, v / 65536 % 256, v / 16777216]

def asmGo (wd : Nat → List UInt8 → Option Int) (ps : List Mk) : List Int → Nat → List (List UInt8) → List Int × Nat
  | b, i, [] => (b, 0)
  | b, i, l :: r =>
    if nothingL l = true then asmGo wd ps b (i + 1) r
    else if isHere ps l i = true then asmGo wd ps b (i + 1) r
    else match wd b.length l with
      | none => ([], i + 1)
      | some v => if b.length + 4 > 65536 then ([], i + 1) else asmGo wd ps (b ++ le4 v) (i + 1) r

def WordOk (ps : List Mk) (wd : Nat → List UInt8 → Option Int) (l : List UInt8) : Prop :=
  ∀ (p at_ : Nat) (W : World), at_ ≤ 65536 → GW W → MapAt W p (rowsP ps) → Calls Tryz.prog 49 #[.string (bB l), .map (some p), .int .i64 (at_ : Int)] W fun e w' =>
    ∃ v ok, e = .returned (.tuple #[.int .u32 v, .bool ok]) ∧ wd at_ l = (if ok = true then some v else none) ∧ (ok = true → 0 ≤ v ∧ v < 4294967296) ∧ Below W.heap.size W w'

theorem look_valN {w : World} {b : Nat} {ps : List Mk} (hM : MapAt w b (rowsN ps)) (hU : Uniq ps) (m : List UInt8) : (Instr.lookup 74 (.map (some b)) (.string (bB m)) false).run Tryz.prog w = .ok (.int .i64 (valN ps m : Nat)) w := by
  unfold valN
  cases hf : ps.find? (fun x => x.1 == m) with
  | none =>
    have := missN hM (m := m) (fun x hx e => by have := List.find?_eq_none.1 hf x hx; simp [e] at this) false
    simpa using this
  | some x =>
    have hxm : x.1 = m := by have := List.find?_some hf; simpa using this
    have := lookN hM hU (List.mem_of_find?_eq_some hf) false
    rw [hxm] at this
    simpa using this

theorem lit8_C (w : World) (xs : List Int) (hl : xs.length ≤ 1000) : Kd.C (Kd.int .u8) (w.alloc (.cells (xs.map (Value.int .u8)).toArray 5)) (some ⟨w.heap.size, 0, none⟩) xs.length xs := by
  refine ⟨rfl, by omega, fun _ => ⟨_, rfl, fun j p hj => ⟨[.int .u8 p], rfl, rfl, ?_⟩⟩⟩
  intro i u hu
  match i, hu with
  | 0, hu =>
    simp only [List.getElem?_cons_zero, Option.some.injEq] at hu
    subst hu
    have e : ((⟨w.heap.size, 0, none⟩ : Addr).add (j * 1 + 0)) = ⟨w.heap.size, j, none⟩ := by unfold Addr.add; split <;> simp_all
    show (w.alloc _).cell? ((⟨w.heap.size, 0, none⟩ : Addr).add (j * 1 + 0)) = _
    rw [e, blk_cell (blk_new w _) j]
    simp [hj]
section
variable {P : Program} {ops : Array Oper} {rest : List Oper} {o : Oper} {a : Act} {Q : Exit → Act → World → Prop}
theorem lit8_event {W : World} (hgd : o.guard = none) {N : Tmp} (_hd : o.dst = some N) (xs : List Int) (hl : xs.length ≤ 1000)
    (hrun : (execOp a.eval o).run P W = .ok (.value (.slice (some ⟨W.heap.size, 0, none⟩) xs.length xs.length)) (W.alloc (.cells (xs.map (Value.int .u8)).toArray 5)))
    (h : ∀ A w1, Kd.C (Kd.int .u8) w1 A xs.length xs → Below W.heap.size W w1 → wpList P ops Q rest (a.put o.dst (.slice A xs.length xs.length)) w1) : wpList P ops Q (o :: rest) a W :=
  Kd.event_run hgd hrun (h _ _ (lit8_C W xs hl) (below_alloc (Below.refl _ _) _))
end
theorem info5' : (Tryz.prog.info? 5).map (fun i => (i.zero, i.size, i.bytes)) = some (some (.int .u8 0), 1, 1) := by kernel_rfl

theorem cutLines_mem : ∀ (l cur : List UInt8), ∀ a ∈ cutLines cur l, a.length ≤ cur.length + l.length
  | [], cur, a, ha => by
    unfold cutLines at ha
    split at ha
    · cases ha
    · simp only [List.mem_singleton] at ha; subst ha; simp
  | b :: r, cur, a, ha => by
    unfold cutLines at ha
    split at ha
    · rcases List.mem_cons.1 ha with rfl | h
      · simp
      · have := cutLines_mem r [] a h; simp at this ⊢; omega
    · have := cutLines_mem r _ a ha
      simp at this ⊢
      omega
theorem cutLines_num : ∀ (l cur : List UInt8), (cutLines cur l).length ≤ l.length + 1
  | [], cur => by unfold cutLines; split <;> simp
  | b :: r, cur => by
    unfold cutLines
    split
    · have := cutLines_num r []; simp; omega
    · have := cutLines_num r (cur ++ [b]); simp; omega

set_option maxRecDepth 100000 in
set_option maxHeartbeats 8000000 in
theorem assemble_calls (text : List UInt8) (hl : text.length ≤ 1073741824) (wd : Nat → List UInt8 → Option Int) (W : World) (hgw : GW W)
    (hwd : ∀ l ∈ linesB text, nothingL l = false → Uniq (placesL (linesB text)) → WordOk (placesL (linesB text)) wd l) :
    Calls Tryz.prog 18 #[.string (bB text)] W fun e w' => ∃ A n c, e = .returned (.tuple #[.slice A n c, .int .i64 ((asmGo wd (placesL (linesB text)) [] 0 (linesB text)).2 : Nat)]) ∧ n = (asmGo wd (placesL (linesB text)) [] 0 (linesB text)).1.length ∧ n ≤ c ∧ Kd.C (Kd.int .u8) w' A n (asmGo wd (placesL (linesB text)) [] 0 (linesB text)).1 ∧ Below W.heap.size W w' := by
  have HB := Aside0.mk (Below.refl W.heap.size W)
  have HG := Aside0.mk hgw
  have LC := lines_calls text hl
  obtain ⟨ls, hls⟩ : ∃ x, x = linesB text := ⟨_, rfl⟩
  rw [← hls] at LC hwd ⊢
  have HLL : Aside0 (∀ a ∈ ls, a.length ≤ 1073741824) := ⟨by
    intro a ha
    rw [hls] at ha
    obtain ⟨x, hx, rfl⟩ := List.mem_map.1 ha
    have h1 := cutLines_mem text [] x hx
    have h2 := trimB_len x 32
    simp at h1
    omega⟩
  have HLN : Aside0 (ls.length ≤ 1073741825) := ⟨by
    rw [hls]
    unfold linesB
    rw [List.length_map]
    have := cutLines_num text []
    omega⟩
  clear hls hl hgw
  obtain ⟨ps, hps⟩ : ∃ x, x = placesL ls := ⟨_, rfl⟩
  rw [← hps] at hwd ⊢
  have HWD := Aside0.mk hwd
  have HPS := Aside0.mk hps
  obtain ⟨tot, htot⟩ : ∃ x, x = asmGo wd ps [] 0 ls := ⟨_, rfl⟩
  rw [← htot]
  have HT := Aside0.mk htot
  clear hwd hps htot
  go_enter Tryz.func18, Tryz.ntmps18
  go_wp2_with fail
  refine (LC _).mono ?_
  rintro e w3 ⟨v, rfl, hR, hb⟩
  have HB3 := Aside0.mk (below_step HB.out hb)
  obtain ⟨A3, c3, rfl, hc3, hC3⟩ := Kd.R_reads hR
  obtain ⟨n0, hn0⟩ : ∃ x, x = (ls.map bB).length := ⟨_, rfl⟩
  rw [← hn0] at hc3 hC3 ⊢
  obtain rfl : n0 = ls.length := by rw [hn0]; simp
  have HC3 := Aside0.mk hC3
  have HG3 := Aside0.mk (HG.out.below hb)
  have PL := places_calls ls (by have := HLN.out; omega) (fun a ha => by have := HLL.out a ha; omega) A3 c3
  have PL2 := PL _ hC3 hc3
  rw [← HPS.out] at PL2
  have PL3 := Aside0.mk PL2
  clear HB HG hb hR hc3 hC3 hn0 LC PL PL2
  go_wp2_with fail
  refine PL3.out.mono ?_
  rintro e w5 ⟨p, q, rfl, hMp, hMq, hU, hb⟩
  have HB5 := Aside0.mk (below_step HB3.out hb)
  have HMp := Aside0.mk hMp
  have HMq := Aside0.mk hMq
  have HU := Aside0.mk hU
  have HC5 := Aside0.mk (Kd.C_below HC3.out hb)
  have HG5 := Aside0.mk (HG3.out.below hb)
  clear hMp hMq hU hb HB3 HC3 HG3 PL3
  go_wp2
  go_loopw [2, 22] (fun v2 v22 wr => ∃ (k : Nat) (b : List Int), v22 = .int .i64 (k : Int) ∧ k ≤ ls.length ∧ Kd.R (Kd.int .u8) 5 wr w5.heap.size (fun _ => True) v2 b ∧ b.length ≤ 65536 ∧ Below w5.heap.size w5 wr ∧ asmGo wd ps b k (ls.drop k) = tot) (fun _ v22 _ => ls.length - (intOf v22).toNat)
  case atStart => exact ⟨0, [], rfl, Nat.zero_le _, Kd.R_nil _ _ _ _ _, by simp, Below.refl _ _, HT.out.symm⟩
  case round =>
    obtain ⟨k, b, rfl, hk, hR, hbl, hB, hgo⟩ := hrel
    obtain ⟨A2, c2, hv2⟩ := Kd.R_slice hR
    subst hv2
    obtain ⟨m, hm⟩ : ∃ m, m = b.length := ⟨_, rfl⟩
    rw [← hm] at hR ⊢
    have HR := Aside0.mk hR
    have HBr := Aside0.mk hB
    have HGO := Aside0.mk hgo
    have HM := Aside0.mk hm
    have hm64 : (m : Int) ≤ 65536 := by omega
    clear hR hB hgo hm hbl
    by_cases hlt : k < ls.length
    · obtain ⟨t, ht⟩ : ∃ x, x = ls[k] := ⟨_, rfl⟩
      have hdt : ls.drop k = t :: ls.drop (k + 1) := by rw [ht]; exact List.drop_eq_getElem_cons hlt
      have hmem : t ∈ ls := by rw [ht]; exact List.getElem_mem _
      have htl : t.length ≤ 1099511627776 := by have := HLL.out t hmem; omega
      obtain ⟨ad, rfl, y6⟩ := word_cell (Kd.C_below HC5.out HBr.out) hdt
      have HGO2 : Aside0 (asmGo wd ps b k (t :: ls.drop (k + 1)) = tot) := ⟨by rw [← hdt]; exact HGO.out⟩
      have NT := nothing_calls t
      have MK := mark_calls t htl
      have HMEM := Aside0.mk hmem
      obtain ⟨nb, hnb⟩ : ∃ x, x = nothingL t := ⟨_, rfl⟩
      rw [← hnb] at NT
      have hk40 : (k : Int) ≤ 1099511627776 := by have := HLN.out; omega
      have hlt' : (k : Int) < (ls.length : Int) := by omega
      have hd0 : decide ((k : Int) < (ls.length : Int)) = true := by simpa using hlt
      have HLT := Aside0.mk hlt
      have HNB := Aside0.mk hnb
      clear HGO hdt ht hlt htl hk hnb hmem
      go_wp2_with fail
      refine (NT _).mono ?_
      rintro e w6 ⟨rfl, hb⟩
      have HB6 := Aside0.mk (below_step HBr.out hb)
      have HR6 := Aside0.mk (Kd.R_below HR.out hb)
      clear hb NT y6 HR HBr
      cases nb with
      | true =>
        clear MK
        go_wp2
        go_roundw
        case rel =>
          refine ⟨k + 1, b, by go_num, HLT.out, HR6.out, by have := HM.out; omega, HB6.out, ?_⟩
          have h1 := HGO2.out
          rw [asmGo, if_pos HNB.out.symm] at h1
          exact h1
        case measure => simp [intOf]; have := HLT.out; omega
      | false =>
        have HGO3 : Aside0 ((if isHere ps t k = true then asmGo wd ps b (k + 1) (ls.drop (k + 1)) else match wd b.length t with | none => ([], k + 1) | some v => if b.length + 4 > 65536 then ([], k + 1) else asmGo wd ps (b ++ le4 v) (k + 1) (ls.drop (k + 1))) = tot) := ⟨by
          have h1 := HGO2.out
          rw [asmGo, if_neg (by rw [← HNB.out]; simp)] at h1
          exact h1⟩
        have HWO := Aside0.mk (HWD.out t HMEM.out HNB.out.symm HU.out)
        clear HGO2
        go_wp2_with fail
        refine (MK _).mono ?_
        rintro e w7 ⟨rfl, hb⟩
        have HB7 := Aside0.mk (below_step HB6.out hb)
        have HR7 := Aside0.mk (Kd.R_below HR6.out hb)
        have HG7 := Aside0.mk (HG5.out.below HB7.out)
        have HMp7 := Aside0.mk (HMp.out.below HB7.out)
        have HMq7 := Aside0.mk (HMq.out.below HB7.out)
        clear hb MK HB6 HR6
        cases hmk : markL t with
        | none =>
          have HGO4 : Aside0 ((match wd m t with | none => ([], k + 1) | some v => if m + 4 > 65536 then ([], k + 1) else asmGo wd ps (b ++ le4 v) (k + 1) (ls.drop (k + 1))) = tot) := ⟨by
            have h1 := HGO3.out
            have h2 : isHere ps t k = false := by unfold isHere; rw [hmk]
            rw [if_neg (by rw [h2]; simp), ← HM.out] at h1
            exact h1⟩
          have hs : (none : Option (List UInt8)).isSome = false := rfl
          clear hmk HGO3
          go_wp2_with fail
          refine (HWO.out p m _ (by have := hm64; omega) HG7.out HMp7.out).mono ?_
          rintro e w8 ⟨v, ok, rfl, hwv, hvb, hb⟩
          have HB8 := Aside0.mk (below_step HB7.out hb)
          have HR8 := Aside0.mk (Kd.R_below HR7.out hb)
          have HWV := Aside0.mk hwv
          have HVB := Aside0.mk hvb
          clear hb hwv hvb HR7 HB7 hs
          cases ok with
          | false =>
            have HTOT : Aside0 (tot = ([], k + 1)) := ⟨by have h1 := HGO4.out; rw [HWV.out] at h1; exact h1.symm⟩
            go_wp2
            go_ret2
            refine ⟨none, 0, 0, by rw [HTOT.out]; rfl, by rw [HTOT.out]; rfl, Nat.le_refl _, ?_, HB5.out.trans (HB8.out.mono HB5.out.size)⟩
            rw [HTOT.out]
            exact (Kd.R_reads' (Kd.R_nil (Kd.int .u8) 5 w8 0 (fun _ => True))).2.2
          | true =>
            obtain ⟨hv0, hv1⟩ := HVB.out rfl
            have HGO5 : Aside0 ((if m + 4 > 65536 then ([], k + 1) else asmGo wd ps (b ++ le4 v) (k + 1) (ls.drop (k + 1))) = tot) := ⟨by have h1 := HGO4.out; rw [HWV.out] at h1; exact h1⟩
            by_cases hbig : m + 4 > 65536
            · have hd4 : decide ((m : Int) + 4 > 65536) = true := by simp; omega
              have hd4' : decide (65536 < (m : Int) + 4) = true := by simp; omega
              have HTOT : Aside0 (tot = ([], k + 1)) := ⟨by have h1 := HGO5.out; rw [if_pos hbig] at h1; exact h1.symm⟩
              clear hbig
              go_wp2
              go_ret2
              refine ⟨none, 0, 0, by rw [HTOT.out]; rfl, by rw [HTOT.out]; rfl, Nat.le_refl _, ?_, HB5.out.trans (HB8.out.mono HB5.out.size)⟩
              rw [HTOT.out]
              exact (Kd.R_reads' (Kd.R_nil (Kd.int .u8) 5 w8 0 (fun _ => True))).2.2
            · have hd4 : decide ((m : Int) + 4 > 65536) = false := by simp; omega
              have hd4' : decide (65536 < (m : Int) + 4) = false := by simp; omega
              have HGO6 : Aside0 (asmGo wd ps (b ++ le4 v) (k + 1) (ls.drop (k + 1)) = tot) := ⟨by have h1 := HGO5.out; rw [if_neg hbig] at h1; exact h1⟩
              have HSM : Aside0 (m + 4 ≤ 65536) := ⟨by omega⟩
              clear hbig
              go_wp2_with (first | ((with_reducible refine gate_dst (N := 72) rfl ?_); refine lit8_event ?hg (N := 72) ?hd (le4 v) (by simp [le4]) ?hr ?_; (case hd => rfl); (case hg => rfl); (case hr => unfold le4; first | (go_simp; done) | (go_simp; rfl)); intro A9 w9 hC9 hb9; have HC9 := Aside0.mk hC9; have HB9 := Aside0.mk (below_step HB8.out hb9); have HR9 := Aside0.mk (Kd.R_below HR8.out hb9); clear hC9 hb9) | ((with_reducible refine gate_dst (N := 73) rfl ?_); at_builtin; refine Kd.R_append_rows (Kd.int .u8) (w0 := w5) w5.heap.size rfl (.tmp 60) (.tmp 72) 38 5 (.int .u8 0) 1 rfl Tryz.underlying38 info5' rfl (by decide) (by decide) (.slice A2 m c2) b (le4 v) A9 _ _ (fun _ => True) (fun _ => False) rfl rfl ?aO ?aR (fun _ _ h => h) (fun _ h => h.elim) (fun _ _ => trivial) ?aB ?aS ?aL ?_; (case aR => exact HC9.out); (case aO => exact HR9.out); (case aB => exact HB9.out); (case aS => exact (HB9.out).size); (case aL => have h1 := HM.out; simp [le4]; omega); intro v10 w10 ho hb hg hat; have HR10 := Aside0.mk ho; have HB10 := Aside0.mk hb; clear ho hb hg hat) | fail)
              go_wp2
              go_roundw
              case rel => exact ⟨k + 1, b ++ le4 v, by go_num, HLT.out, HR10.out, by rw [List.length_append, ← HM.out]; exact HSM.out, HB10.out, HGO6.out⟩
              case measure => simp [intOf]; have := HLT.out; omega
        | some mk =>
          have hmm : mk = markN t := by
            have h1 := markL_some t
            rw [hmk] at h1
            split at h1
            · injection h1
            · cases h1
          rw [← hmm]
          obtain ⟨vn, hvn⟩ : ∃ x, x = valN ps mk := ⟨_, rfl⟩
          have hlk := look_valN HMq7.out HU.out mk
          rw [← hvn] at hlk
          have HH : Aside0 (isHere ps t k = (vn == k)) := ⟨by unfold isHere; rw [hmk, hvn]⟩
          have hs : (some mk : Option (List UInt8)).isSome = true := rfl
          clear hmk hmm hvn
          by_cases hvk : vn = k
          · have hvb : ((vn : Int) == (k : Int)) = true := by rw [hvk]; simp
            have HVK := Aside0.mk hvk
            clear hvk
            go_wp2
            go_roundw
            case rel =>
              refine ⟨k + 1, b, by go_num, HLT.out, HR7.out, by have := HM.out; omega, HB7.out, ?_⟩
              have h1 := HGO3.out
              rw [if_pos (by rw [HH.out, HVK.out]; simp)] at h1
              exact h1
            case measure => simp [intOf]; have := HLT.out; omega
          · have hvb : ((vn : Int) == (k : Int)) = false := beq_f (by omega)
            have HGO4 : Aside0 ((match wd m t with | none => ([], k + 1) | some v => if m + 4 > 65536 then ([], k + 1) else asmGo wd ps (b ++ le4 v) (k + 1) (ls.drop (k + 1))) = tot) := ⟨by
              have h1 := HGO3.out
              have h2 : isHere ps t k = false := by rw [HH.out]; simpa using hvk
              rw [if_neg (by rw [h2]; simp), ← HM.out] at h1
              exact h1⟩
            clear HGO3 hvk
            go_wp2_with fail
            refine (HWO.out p m _ (by have := hm64; omega) HG7.out HMp7.out).mono ?_
            rintro e w8 ⟨v, ok, rfl, hwv, hvb, hb⟩
            have HB8 := Aside0.mk (below_step HB7.out hb)
            have HR8 := Aside0.mk (Kd.R_below HR7.out hb)
            have HWV := Aside0.mk hwv
            have HVB := Aside0.mk hvb
            clear hb hwv hvb HR7 HB7 hs
            cases ok with
            | false =>
              have HTOT : Aside0 (tot = ([], k + 1)) := ⟨by have h1 := HGO4.out; rw [HWV.out] at h1; exact h1.symm⟩
              go_wp2
              go_ret2
              refine ⟨none, 0, 0, by rw [HTOT.out]; rfl, by rw [HTOT.out]; rfl, Nat.le_refl _, ?_, HB5.out.trans (HB8.out.mono HB5.out.size)⟩
              rw [HTOT.out]
              exact (Kd.R_reads' (Kd.R_nil (Kd.int .u8) 5 w8 0 (fun _ => True))).2.2
            | true =>
              obtain ⟨hv0, hv1⟩ := HVB.out rfl
              have HGO5 : Aside0 ((if m + 4 > 65536 then ([], k + 1) else asmGo wd ps (b ++ le4 v) (k + 1) (ls.drop (k + 1))) = tot) := ⟨by have h1 := HGO4.out; rw [HWV.out] at h1; exact h1⟩
              by_cases hbig : m + 4 > 65536
              · have hd4 : decide ((m : Int) + 4 > 65536) = true := by simp; omega
                have hd4' : decide (65536 < (m : Int) + 4) = true := by simp; omega
                have HTOT : Aside0 (tot = ([], k + 1)) := ⟨by have h1 := HGO5.out; rw [if_pos hbig] at h1; exact h1.symm⟩
                clear hbig
                go_wp2
                go_ret2
                refine ⟨none, 0, 0, by rw [HTOT.out]; rfl, by rw [HTOT.out]; rfl, Nat.le_refl _, ?_, HB5.out.trans (HB8.out.mono HB5.out.size)⟩
                rw [HTOT.out]
                exact (Kd.R_reads' (Kd.R_nil (Kd.int .u8) 5 w8 0 (fun _ => True))).2.2
              · have hd4 : decide ((m : Int) + 4 > 65536) = false := by simp; omega
                have hd4' : decide (65536 < (m : Int) + 4) = false := by simp; omega
                have HGO6 : Aside0 (asmGo wd ps (b ++ le4 v) (k + 1) (ls.drop (k + 1)) = tot) := ⟨by have h1 := HGO5.out; rw [if_neg hbig] at h1; exact h1⟩
                have HSM : Aside0 (m + 4 ≤ 65536) := ⟨by omega⟩
                clear hbig
                go_wp2_with (first | ((with_reducible refine gate_dst (N := 72) rfl ?_); refine lit8_event ?hg (N := 72) ?hd (le4 v) (by simp [le4]) ?hr ?_; (case hd => rfl); (case hg => rfl); (case hr => unfold le4; first | (go_simp; done) | (go_simp; rfl)); intro A9 w9 hC9 hb9; have HC9 := Aside0.mk hC9; have HB9 := Aside0.mk (below_step HB8.out hb9); have HR9 := Aside0.mk (Kd.R_below HR8.out hb9); clear hC9 hb9) | ((with_reducible refine gate_dst (N := 73) rfl ?_); at_builtin; refine Kd.R_append_rows (Kd.int .u8) (w0 := w5) w5.heap.size rfl (.tmp 60) (.tmp 72) 38 5 (.int .u8 0) 1 rfl Tryz.underlying38 info5' rfl (by decide) (by decide) (.slice A2 m c2) b (le4 v) A9 _ _ (fun _ => True) (fun _ => False) rfl rfl ?aO ?aR (fun _ _ h => h) (fun _ h => h.elim) (fun _ _ => trivial) ?aB ?aS ?aL ?_; (case aR => exact HC9.out); (case aO => exact HR9.out); (case aB => exact HB9.out); (case aS => exact (HB9.out).size); (case aL => have h1 := HM.out; simp [le4]; omega); intro v10 w10 ho hb hg hat; have HR10 := Aside0.mk ho; have HB10 := Aside0.mk hb; clear ho hb hg hat) | fail)
                go_wp2
                go_roundw
                case rel => exact ⟨k + 1, b ++ le4 v, by go_num, HLT.out, HR10.out, by rw [List.length_append, ← HM.out]; exact HSM.out, HB10.out, HGO6.out⟩
                case measure => simp [intOf]; have := HLT.out; omega
    · obtain rfl : k = ls.length := by omega
      have hd0 : decide (((ls.length : Nat) : Int) < (ls.length : Int)) = false := by simp
      have HE : Aside0 ((b, 0) = tot) := ⟨by have h1 := HGO.out; rw [List.drop_length] at h1; exact h1⟩
      clear hlt
      go_wp2
      go_ret2
      refine ⟨A2, m, c2, by rw [← HE.out]; rfl, by rw [← HE.out]; exact HM.out, ?_, ?_, HB5.out.trans (HBr.out.mono HB5.out.size)⟩
      · obtain ⟨A', c', he, hc', _⟩ := Kd.R_reads HR.out
        injection he with _ h1 h2
        omega
      · obtain ⟨A', c', he, hc', hC'⟩ := Kd.R_reads HR.out
        injection he with h0 h1 h2
        subst h0
        rw [← HE.out, h1]
        exact hC'

end Go.Proofs.YtjapahcbhjjeiaaGreatDoor.AS

/- citadellaw22.awake: what it tries, plain. -/
namespace Go.Proofs.YtjapahcbhjjeiaaGreatDoor.AS
open Go.RowKit Go.MapKept Go.Proofs.YtjapahcbhjjeiaaGreatDoorW.PrintWords Go.Proofs.YtjapahcbhjjeiaaGreatDoorW.PrintLast Go.Proofs.YtjapahcbhjjeiaaGreatDoorW.PrintMore Go.Proofs.YtjapahcbhjjeiaaGreatDoor.PA
set_option linter.unusedVariables false
set_option linter.unusedSimpArgs false

def txA : List UInt8 := [97, 58, 10, 97, 100, 100, 105, 32, 120, 49, 44, 32, 120, 49, 44, 32, 49, 10, 98, 110, 101, 32, 120, 49, 44, 32, 120, 50, 44, 32, 97, 10]
def ln1 : List UInt8 := [97, 100, 100, 105, 32, 120, 49, 44, 32, 120, 49, 44, 32, 49]
def ln2 : List UInt8 := [98, 110, 101, 32, 120, 49, 44, 32, 120, 50, 44, 32, 97]
def ln2n : List UInt8 := [98, 110, 101, 32, 120, 49, 44, 32, 120, 50, 44, 32, 45, 52]
def ln0 : List UInt8 := [97, 100, 100, 105, 32, 120, 49, 44, 32, 120, 50, 44, 32, 45, 53]
def in0 : Ins := ⟨9, 1, 1, 2, 0, -5, 0, false⟩
def in1 : Ins := ⟨9, 1, 1, 1, 0, 1, 0, false⟩
def in2 : Ins := ⟨5, 2, 0, 1, 2, -4, 0, false⟩

theorem itoa_neg (n : Nat) (h : n < 10) (h0 : 0 < n) : Lib.itoa (-(n : Int)) = [45, UInt8.ofNat (48 + n)] := by
  unfold Lib.itoa
  rw [if_pos (by omega), show (-(n : Int)).natAbs = n by omega, decDigits_small h]

theorem line0 : lineI in0 = ln0 := by decide +kernel
theorem line1 : lineI in1 = ln1 := by decide +kernel
theorem line2 : lineI in2 = ln2n := by decide +kernel
theorem may0 : mayL in0 = true := by decide +kernel
theorem may1 : mayL in1 = true := by decide +kernel
theorem may2 : mayL in2 = true := by decide +kernel
theorem parse1 : parseL mayL ln1 = some in1 := by rw [← line1]; exact parseL_line mayL_fit may1
theorem parse2 : parseL mayL ln2n = some in2 := by rw [← line2]; exact parseL_line mayL_fit may2
set_option maxRecDepth 1000000 in
theorem parse2a : parseL mayL ln2 = none := by decide +kernel

theorem txA_lines : linesB txA = [[97, 58], ln1, ln2] := by decide +kernel
theorem txA_places : placesL [[97, 58], ln1, ln2] = [([97], 0, 0)] := by decide +kernel
theorem inst1 : instL [([97], 0, 0)] 0 ln1 = some (encL in1) := by unfold instL; rw [parse1]
theorem last2 : lastL ln2 = 12 := by decide +kernel
theorem inst2 : instL [([97], 0, 0)] 4 ln2 = some (encL in2) := by
  unfold instL
  rw [parse2a, last2]
  have e : ln2.take 12 ++ Lib.itoa (((0 : Nat) : Int) - ((4 : Nat) : Int)) = ln2n := by
    have : ((0 : Nat) : Int) - ((4 : Nat) : Int) = -((4 : Nat) : Int) := by omega
    rw [this, itoa_neg 4 (by omega) (by omega)]
    rfl
  have f : ([([97], 0, 0)] : List Mk).find? (fun x => x.1 == ln2.drop 12) = some ([97], 0, 0) := by decide +kernel
  simp only [f]
  rw [if_neg (by omega), e, parse2]
  rfl
theorem txA_bytes : asmGo (instL [([97], 0, 0)]) [([97], 0, 0)] [] 0 [[97, 58], ln1, ln2] = ([147, 128, 16, 0, 227, 158, 32, 254], 0) := by
  have h0 : nothingL [97, 58] = false := by decide +kernel
  have h1 : isHere [([97], 0, 0)] [97, 58] 0 = true := by decide +kernel
  have h2 : nothingL ln1 = false := by decide +kernel
  have h3 : isHere [([97], 0, 0)] ln1 1 = false := by decide +kernel
  have h4 : nothingL ln2 = false := by decide +kernel
  have h5 : isHere [([97], 0, 0)] ln2 2 = false := by decide +kernel
  have e1 : le4 (encL in1) = [147, 128, 16, 0] := by decide +kernel
  have e2 : le4 (encL in2) = [227, 158, 32, 254] := by decide +kernel
  rw [asmGo, if_neg (by rw [h0]; simp), if_pos h1, asmGo, if_neg (by rw [h2]; simp), if_neg (by rw [h3]; simp)]
  simp only [List.length_nil, inst1, Nat.zero_add, e1, List.nil_append]
  rw [if_neg (by decide), asmGo, if_neg (by rw [h4]; simp), if_neg (by rw [h5]; simp)]
  simp only [List.length_cons, List.length_nil, Nat.zero_add, Nat.reduceAdd, inst2, e2]
  rw [if_neg (by decide), asmGo]
  rfl

end Go.Proofs.YtjapahcbhjjeiaaGreatDoor.AS

/- The walks of citadellaw22.awake and of AsmBack. -/
namespace Go.Proofs.YtjapahcbhjjeiaaGreatDoor.AS
open Go.RowKit Go.MapKept Go.Proofs.YtjapahcbhjjeiaaGreatDoorW.PrintWords Go.Proofs.YtjapahcbhjjeiaaGreatDoorW.PrintLast Go.Proofs.YtjapahcbhjjeiaaGreatDoorW.PrintMore Go.Proofs.YtjapahcbhjjeiaaGreatDoor.PA
set_option linter.unusedVariables false
set_option linter.unusedSimpArgs false

theorem word_ok (ps : List Mk) (l : List UInt8) (hl : l.length ≤ 1073741000) (hps : ∀ x ∈ ps, x.2.1 ≤ 1099511627776) (hnd : Lib.hasPrefix l dotW = false) (hU : Uniq ps) : WordOk ps (instL ps) l := by
  intro p at_ W hat hg hM
  refine (word_inst ps at_ l p hl (by omega) hps hnd W hg hM hU).mono ?_
  rintro e w' ⟨v, ok, rfl, hv, hb⟩
  have hr : ok = true → 0 ≤ v ∧ v < 4294967296 := by
    intro h
    rw [if_pos h] at hv
    unfold instL at hv
    have hE := fun i : Ins => encL_b i
    unfold U32 at hE
    split at hv
    · rename_i i _
      injection hv with hv
      rw [← hv]
      exact hE i
    · split at hv
      · cases hv
      · split at hv
        · cases hv
        · obtain ⟨i, _, hi⟩ := Option.map_eq_some_iff.1 hv
          rw [← hi]
          exact hE i
  exact ⟨v, ok, rfl, hv, hr, hb⟩

set_option maxRecDepth 100000 in
set_option maxHeartbeats 4000000 in
theorem awake_calls (W : World) (hgw : GW W) : Calls Tryz.prog 12 #[] W fun e w' => e = .returned (.bool true) ∧ Below W.heap.size W w' := by
  have HB := Aside0.mk (Below.refl W.heap.size W)
  have HG := Aside0.mk hgw
  have hu23 := Tryz.underlying23
  have L : ∀ W, GW W → Calls Tryz.prog 10 #[.agg #[.int .i64 9, .int .i64 1, .int .i64 1, .int .i64 2, .int .i64 0, .int .i64 (-5), .int .i64 0, .bool false]] W fun e w' => e = .returned (.tuple #[.string (bB ln0), .bool true]) ∧ Below W.heap.size W w' := fun W hg => by
    have := Line_yes in0 may0 W hg
    rw [line0] at this
    exact this
  have A : ∀ W, GW W → Calls Tryz.prog 18 #[.string ⟨#[97, 58, 10, 97, 100, 100, 105, 32, 120, 49, 44, 32, 120, 49, 44, 32, 49, 10, 98, 110, 101, 32, 120, 49, 44, 32, 120, 50, 44, 32, 97, 10]⟩] W fun e w' => ∃ A c, e = .returned (.tuple #[.slice A 8 c, .int .i64 0]) ∧ 8 ≤ c ∧ Kd.C (Kd.int .u8) w' A 8 ([147, 128, 16, 0, 227, 158, 32, 254] : List Int) ∧ Below W.heap.size W w' := fun W hg => by
    have := assemble_calls txA (by decide +kernel) (instL [([97], 0, 0)]) W hg (by
      rw [txA_lines, txA_places]
      intro l hl _ hU
      refine word_ok _ l ?_ ?_ ?_ hU
      · simp only [List.mem_cons, List.not_mem_nil, or_false] at hl
        rcases hl with rfl | rfl | rfl <;> decide
      · intro x hx
        simp only [List.mem_cons, List.not_mem_nil, or_false] at hx
        subst hx
        decide
      · simp only [List.mem_cons, List.not_mem_nil, or_false] at hl
        rcases hl with rfl | rfl | rfl <;> decide +kernel)
    rw [txA_lines, txA_places, txA_bytes] at this
    refine this.mono ?_
    rintro e w' ⟨A, n, c, rfl, rfl, hc, hC, hb⟩
    exact ⟨A, c, rfl, hc, hC, hb⟩
  have hs : ((bB ln0).toList == [97, 100, 100, 105, 32, 120, 49, 44, 32, 120, 50, 44, 32, 45, 53]) = true := by rw [toList_bB]; decide
  clear hgw
  go_enter Tryz.func12, Tryz.ntmps12
  go_wp2_with fail
  refine (L _ HG.out).mono ?_
  rintro e w3 ⟨rfl, hb⟩
  have HB3 := Aside0.mk (below_step HB.out hb)
  have HG3 := Aside0.mk (HG.out.below hb)
  clear HB HG hb L
  go_wp2_with fail
  refine (A _ HG3.out).mono ?_
  rintro e w5 ⟨A5, c5, rfl, hc5, hC5, hb⟩
  have HB5 := Aside0.mk (below_step HB3.out hb)
  have HC5 := Aside0.mk hC5
  have Hc5 := Aside0.mk hc5
  clear HB3 HG3 hb A hC5 hc5
  go_wp2_with fail
  have hC9 := lit8_C w5 ([147, 128, 16, 0, 227, 158, 32, 254] : List Int) (by decide)
  have hF : citadellaw00_SameBytes.f 9 ([147, 128, 16, 0, 227, 158, 32, 254] : List Int) ([147, 128, 16, 0, 227, 158, 32, 254] : List Int) = some true := by decide +kernel
  have SB := citadellaw00_SameBytes.calls 9 A5 c5 ([147, 128, 16, 0, 227, 158, 32, 254] : List Int) (some ⟨w5.heap.size, 0, none⟩) 8 ([147, 128, 16, 0, 227, 158, 32, 254] : List Int) true _ (Kd.C_alloc HC5.out _) Hc5.out hC9 (Nat.le_refl _) hF
  refine Calls.mono SB ?_
  rintro e w7 ⟨rfl, ⟨nd, rfl⟩⟩
  go_wp2
  go_ret
  exact ⟨rfl, pw_below_drewN (below_alloc HB5.out _) _⟩

end Go.Proofs.YtjapahcbhjjeiaaGreatDoor.AS
