/- Several texts in one. -/
import Derived.Test.YtjapahcbhjjeiaaGreatDoorK3
import Derived.Test.YtjapahcbhjjeiaaGreatDoorPAy12
import Derived.Test.YtjapahcbhjjeiaaGreatDoorK6
/- asm.all by its contract. -/
namespace Go.Proofs.YtjapahcbhjjeiaaGreatDoor.AS
open Go.RowKit Go.Proofs.YtjapahcbhjjeiaaGreatDoorW.PrintWords Go.Proofs.YtjapahcbhjjeiaaGreatDoorW.PrintLast Go.Proofs.YtjapahcbhjjeiaaGreatDoorW.PrintMore Go.Proofs.YtjapahcbhjjeiaaGreatDoor.PA
set_option linter.unusedVariables false
set_option linter.unusedSimpArgs false

def toS (i : Ins) : S23 := ⟨i.kind, i.fn, i.rd, i.rs1, i.rs2, i.imm, i.size, i.sg⟩
def chunk (k f : Int) : List Ins := [0, 1, 2, 4, 8].flatMap fun s => pairI k f s
def restF (x : Int) : Nat → Int → List Ins
  | 0, _ => []
  | n + 1, f => chunk x f ++ restF x n (f + 1)
def allK : Nat → Int → List Ins
  | 0, _ => []
  | n + 1, x => restF x 29 0 ++ allK n (x + 1)

theorem restF_len (x : Int) : ∀ (n : Nat) (f : Int), (restF x n f).length = 10 * n
  | 0, _ => rfl
  | n + 1, f => by rw [restF, List.length_append, restF_len x n (f + 1)]; simp [chunk, pairI]; omega

theorem l2_all (k : Nat) (acc : List S23) (x f : Int) (h : acc.length + 10 < 1000000) (hf : 0 ≤ f) (hf1 : f < 1000) : asm_all.l2 (k + 6) acc x f [0, 1, 2, 4, 8] 5 0 = asm_all.l1 k (acc ++ (chunk x f).map toS) x (f + 1) := by
  simp only [asm_all.l2, List.length_cons, List.length_nil, Option.bind_some]
  simp (config := { decide := true }) only [if_true, List.length_append, List.length_cons, List.length_nil, Nat.zero_add, Nat.reduceAdd]
  have e1 : wrap64 (0 + 1) = 1 := w64 (by decide) (by decide)
  have e2 : wrap64 (1 + 1) = 2 := w64 (by decide) (by decide)
  have e3 : wrap64 (2 + 1) = 3 := w64 (by decide) (by decide)
  have e4 : wrap64 (3 + 1) = 4 := w64 (by decide) (by decide)
  have e5 : wrap64 (4 + 1) = 5 := w64 (by decide) (by decide)
  rw [e1, e2, e3, e4, e5, w64 (n := f + 1) (by omega) (by omega)]
  simp (config := { decide := true }) only [if_true, if_false]
  rw [if_pos (by omega), if_pos (by omega), if_pos (by omega), if_pos (by omega), if_pos (by omega)]
  simp [chunk, pairI, toS, rd]

theorem l1_all (x : Int) (hx : 0 ≤ x) (hx1 : x < 1000) : ∀ (n : Nat) (f : Int) (acc : List S23) (k K : Nat), K = k + 7 * n + 1 → f + n = 29 → 0 ≤ f → acc.length + 10 * n < 900000 → asm_all.l1 K acc x f = asm_all.l0 k (acc ++ (restF x n f).map toS) (x + 1)
  | 0, f, acc, k, K, hK, h, h0, hl => by
    subst hK
    simp only [asm_all.l1, restF, List.map_nil, List.append_nil]
    rw [if_neg (by omega), w64 (by omega) (by omega)]
  | n + 1, f, acc, k, K, hK, h, h0, hl => by
    obtain ⟨K', hK'⟩ : ∃ x, x = k + 7 * n + 1 := ⟨_, rfl⟩
    obtain rfl : K = (K' + 6) + 1 := by omega
    simp only [asm_all.l1, Option.bind_some]
    rw [if_pos (by omega), show (([0, 1, 2, 4, 8] : List Int).length : Int) = 5 from rfl, l2_all _ acc x f (by omega) h0 (by omega), l1_all x hx hx1 n (f + 1) _ k K' hK' (by omega) (by omega) (by simp [chunk, pairI]; omega)]
    simp only [restF, List.map_append, List.append_assoc]

theorem l0_all : ∀ (n : Nat) (x : Int) (acc : List S23) (k K : Nat), K = k + 205 * n + 1 → x + n = 21 → 0 ≤ x → acc.length + 290 * n < 800000 → asm_all.l0 K acc x = some (acc ++ (allK n x).map toS)
  | 0, x, acc, k, K, hK, h, h0, hl => by
    subst hK
    simp only [asm_all.l0, allK, List.map_nil, List.append_nil]
    rw [if_neg (by omega)]
  | n + 1, x, acc, k, K, hK, h, h0, hl => by
    obtain ⟨K', hK'⟩ : ∃ x, x = k + 205 * n + 1 := ⟨_, rfl⟩
    obtain ⟨K2, hK2⟩ : ∃ x, x = K' + 204 := ⟨_, rfl⟩
    obtain rfl : K = K2 + 1 := by omega
    simp only [asm_all.l0]
    have hx1 : x < 1000 := by omega
    obtain ⟨n29, h29⟩ : ∃ x : Nat, x = 29 := ⟨_, rfl⟩
    have e := l1_all x h0 hx1 n29 0 acc K' K2 (by omega) (by omega) (Int.le_refl _) (by omega)
    rw [h29] at e
    have hx21 : x ≤ 20 := by omega
    rw [if_pos hx21, e, l0_all n (x + 1) _ k K' hK' (by omega) (by omega) (by simp [restF_len]; omega)]
    simp only [allK, List.map_append, List.append_assoc]

set_option maxRecDepth 1000000 in
theorem allK_allI : allK 20 1 = allI := by decide +kernel

theorem all_f (K : Nat) (hK : K = 4101) : asm_all.f K = some (allI.map toS) := by
  unfold asm_all.f
  rw [l0_all 20 1 [] 0 K hK (by omega) (by omega) (by simp), List.nil_append, allK_allI]

theorem all_calls (W : World) : Calls Tryz.prog 39 #[] W fun e w' => ∃ A c, e = .returned (.slice A allI.length c) ∧ allI.length ≤ c ∧ Kd.C k23 w' A allI.length (allI.map toS) ∧ Below W.heap.size W w' := by
  obtain ⟨K, hK⟩ : ∃ x, x = 4101 := ⟨_, rfl⟩
  refine (asm_all.calls K _ W (all_f K hK)).mono ?_
  rintro e w' ⟨v, rfl, hR, hb⟩
  obtain ⟨A, c, rfl, hc, hC⟩ := Kd.R_reads hR
  rw [List.length_map] at hc hC
  exact ⟨A, c, by rw [List.length_map], hc, hC, hb⟩

theorem allI_len : allI.length = 5800 := by decide +kernel

end Go.Proofs.YtjapahcbhjjeiaaGreatDoor.AS

/- The walk of asm.fill. -/
namespace Go.Proofs.YtjapahcbhjjeiaaGreatDoor.AS
open Go.RowKit Go.Proofs.YtjapahcbhjjeiaaGreatDoorW.PrintWords Go.Proofs.YtjapahcbhjjeiaaGreatDoorW.PrintLast Go.Proofs.YtjapahcbhjjeiaaGreatDoorW.PrintMore Go.Proofs.YtjapahcbhjjeiaaGreatDoor.PA
set_option linter.unusedVariables false
set_option linter.unusedSimpArgs false

def insA (i : Ins) : Array Value := #[.int .i64 i.kind, .int .i64 i.fn, .int .i64 i.rd, .int .i64 i.rs1, .int .i64 i.rs2, .int .i64 i.imm, .int .i64 i.size, .bool i.sg]

theorem add_block (a : Addr) (j : Nat) : (a.add j).block = a.block := by unfold Addr.add; split <;> rfl
theorem cell_same {w0 w1 : World} {a : Addr} (h : w1.heap[a.block]? = w0.heap[a.block]?) : w1.cell? a = w0.cell? a := by
  unfold World.cell?
  rw [h]

theorem bB_size_of {n : Nat} {l : List UInt8} (h : l.length ≤ n) : (bB l).size ≤ n := by rw [bB_size]; exact h

theorem what_cell {w5 wr : World} {A : Option Addr} {ks : List Nat} {g B k k1 : Nat} {r : List Nat} (hC : Kd.C (Kd.int .i64) w5 A ks.length (natI ks)) (hfr : ∀ a, A = some a → B ≤ a.block) (hg : g < B) (FR : ∀ q, q ≠ g → q < w5.heap.size → wr.heap[q]? = w5.heap[q]?) (hk : ks.drop k = k1 :: r) :
    ∃ ad, A = some ad ∧ wr.cell? (ad.add k) = some (.int .i64 (k1 : Nat)) := by
  have hlt : k < ks.length := by
    rcases Nat.lt_or_ge k ks.length with h | h
    · exact h
    · rw [List.drop_eq_nil_of_le h] at hk; cases hk
  obtain ⟨ad, rfl, hcell⟩ := Kd.at_int hC (k : Int) (by omega) (by omega)
  refine ⟨ad, rfl, ?_⟩
  have hblk := World.block_lt_of_cell? w5 _ hcell
  have hb := hfr ad rfl
  rw [add_block] at hblk
  rw [cell_same (w0 := w5) (by rw [add_block]; exact FR _ (by omega) hblk)]
  rw [Int.toNat_natCast] at hcell
  rw [hcell]
  have : rd (natI ks) (k : Int) = (k1 : Nat) := by
    rw [List.drop_eq_getElem_cons hlt] at hk
    injection hk with h1 _
    simp [rd, natI, hlt, h1]
  rw [this]
theorem word_cell {wr : World} {A : Option Addr} {ws : List (List UInt8)} {k : Nat} {t : List UInt8} {r : List (List UInt8)} (hC : Kd.C Kd.string wr A ws.length (ws.map bB)) (hk : ws.drop k = t :: r) :
    ∃ ad, A = some ad ∧ wr.cell? (ad.add k) = some (.string (bB t)) := by
  have hlt : k < ws.length := by
    rcases Nat.lt_or_ge k ws.length with h | h
    · exact h
    · rw [List.drop_eq_nil_of_le h] at hk; cases hk
  obtain ⟨ad, rfl, hcell⟩ := Kd.at_string hC (k : Int) (by omega) (by omega)
  refine ⟨ad, rfl, ?_⟩
  rw [Int.toNat_natCast] at hcell
  rw [hcell]
  have : rdOf ByteArray.empty (ws.map bB) (k : Int) = bB t := by
    rw [List.drop_eq_getElem_cons hlt] at hk
    injection hk with h1 _
    simp [rdOf, hlt, h1]
  rw [this]

theorem fillGo_len : ∀ (c : Ins) (ks : List Nat) (ts : List (List UInt8)), ks.length ≠ ts.length → fillGo c ks ts = none
  | c, [], [], h => absurd rfl h
  | c, [], _ :: _, _ => rfl
  | c, _ :: _, [], _ => rfl
  | c, k :: ks, t :: ts, h => by
    unfold fillGo
    cases numL k t with
    | none => rfl
    | some n => exact fillGo_len _ ks ts (by simpa using h)
theorem trim_len (t p : List UInt8) : (Lib.trimPrefix t p).length ≤ t.length := by
  unfold Lib.trimPrefix
  split
  · simp
  · exact Nat.le_refl _

theorem Atoi_any (l : List UInt8) (hl : l.length ≤ 281474976710656) (W : World) (hg : GW W) : Calls Tryz.prog 62 #[.string (bB l)] W fun e w' => (∃ r : Int, ∃ ev, e = .returned (.tuple #[.int .i64 r, ev]) ∧ ((Lib.atoiAll l = .ok r ∧ ev = .nilIface) ∨ ((∀ n, Lib.atoiAll l ≠ .ok n) ∧ ∃ N, ev = .iface 137 (.pointer (some ⟨N, 0, none⟩))))) ∧ Below W.heap.size W w' := by
  have hs : (bB l).size ≤ 281474976710656 := bB_size_of hl
  have hd : (bB l).data.toList = l := by simp [bB]
  rcases h : Lib.atoiAll l with n | _ | _
  · refine (Tryz.strconv_Atoi_ok (bB l) (by omega) n (by rw [hd]; exact h) W).mono ?_
    rintro e w' ⟨rfl, hw⟩
    refine ⟨⟨n, .nilIface, rfl, .inl ⟨rfl, rfl⟩⟩, ?_⟩
    rcases hw with rfl | ⟨t, rfl⟩
    · exact Below.refl _ _
    · exact bytes_below (Below.refl _ _) (Nat.le_refl _) _ _
  · obtain ⟨tp, p, hv⟩ := hg.es
    refine (Tryz.strconv_Atoi_syntax_var (bB l) hs (by rw [hd]; exact h) tp p W hv).mono ?_
    rintro e w' ⟨N, rfl, _, _, hb⟩
    exact ⟨⟨0, _, rfl, .inr ⟨(fun n e => by cases e), N, rfl⟩⟩, hb⟩
  · obtain ⟨tp, p, hv⟩ := hg.er
    refine (Tryz.strconv_Atoi_range_var (bB l) hs (by rw [hd]; exact h) tp p W hv).mono ?_
    rintro e w' ⟨N, rfl, _, _, hb⟩
    exact ⟨⟨_, _, rfl, .inr ⟨(fun n e => by cases e), N, rfl⟩⟩, hb⟩

set_option maxRecDepth 100000 in
set_option maxHeartbeats 8000000 in
theorem fill_calls (c : Ins) (ws : List (List UInt8)) (g : Nat) (A : Option Addr) (c1 : Nat) (W : World) (hgw : ∀ w, Below g W w → GW w) (hb : W.heap[g]? = some (.cells (insA c) 23 (0, 0))) (hc : ws.length ≤ c1) (hC : ∀ w, Below g W w → Kd.C Kd.string w A ws.length (ws.map bB)) (hlen : ∀ a ∈ ws, a.length ≤ 1099511627776) :
    Calls Tryz.prog 40 #[.pointer (some ⟨g, 0, none⟩), .slice A ws.length c1] W fun e w' => ∃ i, e = .returned (.bool (fillL c ws).isSome) ∧ w'.heap[g]? = some (.cells (insA i) 23 (0, 0)) ∧ (∀ j, fillL c ws = some j → j = i) ∧ Below g W w' := by
  obtain ⟨kd, fn, rv, r1, r2, imm, sz, sg⟩ := c
  have HGW := Aside0.mk hgw
  have HBX := Aside0.mk hb
  have HCW := Aside0.mk hC
  have HLN := Aside0.mk hlen
  have HCC := Aside0.mk hc
  have HGL := Aside0.mk (blk_lt hb)
  have x0 : W.cell? ⟨g, 0, none⟩ = some (.int .i64 kd) := (blk_cell hb 0).trans rfl
  obtain ⟨tot, htot⟩ : ∃ x, x = fillL ⟨kd, fn, rv, r1, r2, imm, sz, sg⟩ ws := ⟨_, rfl⟩
  obtain ⟨sh, hsh⟩ : ∃ x, x = (formL kd).1 := ⟨_, rfl⟩
  obtain ⟨ks, has⟩ : ∃ x, x = (formL kd).2 := ⟨_, rfl⟩
  have HK3 : Aside0 (ks.length ≤ 3) := ⟨by rw [has]; exact (shape_len kd).2⟩
  have HT : Aside0 (fillGo ⟨kd, fn, rv, r1, r2, imm, sz, sg⟩ ks ws = tot) := ⟨by rw [htot, has]; rfl⟩
  have FO : ∀ W, Calls Tryz.prog 25 #[.int .i64 kd] W fun e w' => ∃ A c, e = .returned (.tuple #[.string (bB sh), .slice A ks.length c]) ∧ ks.length ≤ c ∧ Kd.C (Kd.int .i64) w' A ks.length (natI ks) ∧ Below W.heap.size W w' ∧ (∀ a, A = some a → W.heap.size ≤ a.block) := fun W => by rw [hsh, has]; exact form_calls2 kd W
  rw [← htot]
  clear hgw hb hC hlen hc hsh has htot
  go_enter Tryz.func40, Tryz.ntmps40
  go_wp2_with fail
  refine (FO _).mono ?_
  rintro e w5 ⟨A5, c5, rfl, hc5, hC5, hfr, hb5⟩
  have HC5 := Aside0.mk hC5
  have HF5 := Aside0.mk hb5
  have HB5 := Aside0.mk hfr
  clear FO hC5 hfr hb5 x0
  by_cases hl : ks.length = ws.length
  · have hq : ((ks.length : Int) != (ws.length : Int)) = false := by simp; omega
    have HQ := Aside0.mk hl
    clear hl
    go_wp2
    go_loopw [27] (fun v27 wr => ∃ (k : Nat) (cur : Ins), v27 = .int .i64 (k : Int) ∧ k ≤ ks.length ∧ wr.heap[g]? = some (.cells (insA cur) 23 (0, 0)) ∧ Below g W wr ∧ fillGo cur (ks.drop k) (ws.drop k) = tot ∧ (∀ q, q ≠ g → q < w5.heap.size → wr.heap[q]? = w5.heap[q]?) ∧ w5.heap.size ≤ wr.heap.size) (fun v27 _ => ks.length - (intOf v27).toNat)
    case atStart => exact ⟨0, _, rfl, Nat.zero_le _, blk_below HBX.out HB5.out, HB5.out.mono (Nat.le_of_lt HGL.out), HT.out, fun _ _ _ => rfl, Nat.le_refl _⟩
    case round =>
      obtain ⟨k, cur, rfl, hk, hbx, hB, hgo, hFR, hsz⟩ := hrel
      obtain ⟨kd, fn, rv, r1, r2, imm, sz, sg⟩ := cur
      have HBr := Aside0.mk hB
      have HXr := Aside0.mk hbx
      have HGO := Aside0.mk hgo
      have HFR := Aside0.mk hFR
      have HSZ := Aside0.mk hsz
      have HKL := Aside0.mk hk
      clear hbx hB hgo hFR hsz
      by_cases hlt : k < ks.length
      · obtain ⟨k1, hk1⟩ : ∃ x, x = ks[k] := ⟨_, rfl⟩
        have hltw : k < ws.length := by have := HQ.out; omega
        obtain ⟨t, ht⟩ : ∃ x, x = ws[k] := ⟨_, rfl⟩
        have hdk : ks.drop k = k1 :: ks.drop (k + 1) := by rw [hk1]; exact List.drop_eq_getElem_cons hlt
        have hdt : ws.drop k = t :: ws.drop (k + 1) := by rw [ht]; exact List.drop_eq_getElem_cons hltw
        have HTL : Aside0 (t.length ≤ 1099511627776) := ⟨HLN.out t (by rw [ht]; exact List.getElem_mem _)⟩
        obtain ⟨ad5, rfl, y5⟩ := what_cell HC5.out HF5.out HGL.out HFR.out hdk
        obtain ⟨ad, rfl, y6⟩ := word_cell (HCW.out wr HBr.out) hdt
        have HGO2 : Aside0 ((numL k1 t).bind (fun n => fillGo (setL ⟨kd, fn, rv, r1, r2, imm, sz, sg⟩ k1 n) (ks.drop (k + 1)) (ws.drop (k + 1))) = tot) := ⟨by have h1 := HGO.out; rw [hdk, hdt] at h1; exact h1⟩
        have hk3 : k < 3 := by have := HK3.out; omega
        have hltw' : (k : Int) < (ws.length : Int) := by omega
        have hlt' : (k : Int) < (ks.length : Int) := by omega
        have hd0 : decide ((k : Int) < (ks.length : Int)) = true := by simpa using hlt
        clear hk1 ht hdk hdt hltw HGO
        by_cases hw : k1 ≤ 2
        · have hle : decide ((k1 : Int) ≤ 2) = true := by simp; omega
          have HK1 := Aside0.mk hw
          clear hw
          go_wp2_with fail
          refine (Tryz.strings_TrimPrefix (bB t) ⟨#[120]⟩ _).mono ?_
          rintro e w' ⟨rfl, rfl⟩
          go_wp2_with fail
          refine (Atoi_any (Lib.trimPrefix t [120]) (by have := HTL.out; have h1 := trim_len t [120]; omega) _ (HGW.out _ HBr.out)).mono ?_
          rintro e wa ⟨⟨n, ev, rfl, hev⟩, hbw⟩
          have HXa := Aside0.mk (blk_below HXr.out hbw)
          have HBa := Aside0.mk (HBr.out.trans (hbw.mono (Nat.le_of_lt (blk_lt HXr.out))))
          have HBW := Aside0.mk hbw
          have HSa := HSZ
          have HLE : Aside0 (w5.heap.size ≤ wa.heap.size) := ⟨Nat.le_trans HSZ.out hbw.size⟩
          clear hbw
          rcases hev with ⟨hok, rfl⟩ | ⟨hno, N, rfl⟩
          · by_cases hr : -4294967296 ≤ n ∧ n ≤ 4294967296
            · have HNUM : Aside0 (numL k1 t = some n) := ⟨by unfold numL; rw [if_pos HK1.out]; rw [hok]; simp only; rw [if_pos hr]⟩
              have hd1 : decide (n < -4294967296) = false := by simp; omega
              have hd2 : decide (n > 4294967296) = false := by simp; omega
              have hd3 : decide (4294967296 < n) = false := by simp; omega
              obtain ⟨b0, b1⟩ := hr
              clear hok y5 y6
              by_cases hkk : k1 = 0
              · subst hkk
                have HK : Aside0 (True) := ⟨trivial⟩
                go_wp2_with (first | ((with_reducible refine gate_store (t := 3) rfl ?_); refine set_event rfl 3 _ _ rfl (g := g) 2 (.int .i64 n) #[.int .i64 kd, .int .i64 fn, .int .i64 n, .int .i64 r1, .int .i64 r2, .int .i64 imm, .int .i64 sz, .bool sg] HXa.out (by simp [insA]) rfl rfl (by kernel_rfl) rfl rfl rfl ?_; intro w9 hbox hfar hbel; have HX9 := Aside0.mk hbox; have HB9 := Aside0.mk (hbel _ _ HBa.out (Nat.le_refl _)); have HFAR := Aside0.mk hfar; have HS9 := Aside0.mk (hbel g wa (Below.refl _ _) (Nat.le_refl _)); clear hbox hfar hbel) | fail)
                go_wp2
                go_roundw
                case rel =>
                  refine ⟨k + 1, ⟨kd, fn, n, r1, r2, imm, sz, sg⟩, by go_num, by omega, HX9.out, HB9.out, ?_, ?_, ?_⟩
                  · have h1 := HGO2.out
                    rw [HNUM.out, Option.bind_some] at h1
                    rw [← h1]
                    unfold setL
                    simp [HK.out]
                  · intro q hq hq1
                    have h2 := HSa.out
                    rw [HFAR.out q hq, HBW.out.block q (by omega)]
                    exact HFR.out q hq hq1
                  · exact Nat.le_trans HLE.out HS9.out.size
                case measure => simp [intOf]; omega
              by_cases hkk : k1 = 1
              · subst hkk
                have HK : Aside0 (True) := ⟨trivial⟩
                go_wp2_with (first | ((with_reducible refine gate_store (t := 3) rfl ?_); refine set_event rfl 3 _ _ rfl (g := g) 3 (.int .i64 n) #[.int .i64 kd, .int .i64 fn, .int .i64 rv, .int .i64 n, .int .i64 r2, .int .i64 imm, .int .i64 sz, .bool sg] HXa.out (by simp [insA]) rfl rfl (by kernel_rfl) rfl rfl rfl ?_; intro w9 hbox hfar hbel; have HX9 := Aside0.mk hbox; have HB9 := Aside0.mk (hbel _ _ HBa.out (Nat.le_refl _)); have HFAR := Aside0.mk hfar; have HS9 := Aside0.mk (hbel g wa (Below.refl _ _) (Nat.le_refl _)); clear hbox hfar hbel) | fail)
                go_wp2
                go_roundw
                case rel =>
                  refine ⟨k + 1, ⟨kd, fn, rv, n, r2, imm, sz, sg⟩, by go_num, by omega, HX9.out, HB9.out, ?_, ?_, ?_⟩
                  · have h1 := HGO2.out
                    rw [HNUM.out, Option.bind_some] at h1
                    rw [← h1]
                    unfold setL
                    simp [HK.out]
                  · intro q hq hq1
                    have h2 := HSa.out
                    rw [HFAR.out q hq, HBW.out.block q (by omega)]
                    exact HFR.out q hq hq1
                  · exact Nat.le_trans HLE.out HS9.out.size
                case measure => simp [intOf]; omega
              by_cases hkk : k1 = 2
              · subst hkk
                have HK : Aside0 (True) := ⟨trivial⟩
                go_wp2_with (first | ((with_reducible refine gate_store (t := 3) rfl ?_); refine set_event rfl 3 _ _ rfl (g := g) 4 (.int .i64 n) #[.int .i64 kd, .int .i64 fn, .int .i64 rv, .int .i64 r1, .int .i64 n, .int .i64 imm, .int .i64 sz, .bool sg] HXa.out (by simp [insA]) rfl rfl (by kernel_rfl) rfl rfl rfl ?_; intro w9 hbox hfar hbel; have HX9 := Aside0.mk hbox; have HB9 := Aside0.mk (hbel _ _ HBa.out (Nat.le_refl _)); have HFAR := Aside0.mk hfar; have HS9 := Aside0.mk (hbel g wa (Below.refl _ _) (Nat.le_refl _)); clear hbox hfar hbel) | fail)
                go_wp2
                go_roundw
                case rel =>
                  refine ⟨k + 1, ⟨kd, fn, rv, r1, n, imm, sz, sg⟩, by go_num, by omega, HX9.out, HB9.out, ?_, ?_, ?_⟩
                  · have h1 := HGO2.out
                    rw [HNUM.out, Option.bind_some] at h1
                    rw [← h1]
                    unfold setL
                    simp [HK.out]
                  · intro q hq hq1
                    have h2 := HSa.out
                    rw [HFAR.out q hq, HBW.out.block q (by omega)]
                    exact HFR.out q hq hq1
                  · exact Nat.le_trans HLE.out HS9.out.size
                case measure => simp [intOf]; omega
              have h9 := HK1.out
              omega
            · have HNUM : Aside0 (numL k1 t = none) := ⟨by unfold numL; rw [if_pos HK1.out]; rw [hok]; simp only; rw [if_neg hr]⟩
              have hd : (decide (n < -4294967296) = true) ∨ (decide (n < -4294967296) = false ∧ decide (n > 4294967296) = true ∧ decide (4294967296 < n) = true) := by
                simp
                omega
              clear hok hr y5 y6
              rcases hd with hd1 | ⟨hd1, hd2, hd3⟩
              all_goals
                go_wp2
                go_ret
                refine ⟨⟨kd, fn, rv, r1, r2, imm, sz, sg⟩, ?_, HXa.out, ?_, HBa.out⟩
                · rw [← HGO2.out, HNUM.out]; rfl
                · intro j hj; rw [← HGO2.out, HNUM.out] at hj; cases hj
          · have HNUM : Aside0 (numL k1 t = none) := ⟨by
              unfold numL
              rw [if_pos HK1.out]
              rcases h : Lib.atoiAll (Lib.trimPrefix t [120]) with n | _ | _
              · exact absurd h (hno n)
              · rfl
              · rfl⟩
            clear hno y5 y6
            go_wp2
            go_ret
            refine ⟨⟨kd, fn, rv, r1, r2, imm, sz, sg⟩, ?_, HXa.out, ?_, HBa.out⟩
            · rw [← HGO2.out, HNUM.out]; rfl
            · intro j hj; rw [← HGO2.out, HNUM.out] at hj; cases hj
        by_cases hw0 : 2 < k1
        · have hle : decide ((k1 : Int) ≤ 2) = false := by simp; omega
          have HK1 := Aside0.mk hw0
          clear hw hw0
          go_wp2_with fail
          refine (Atoi_any (t) (by have := HTL.out; have h1 := trim_len t [120]; omega) _ (HGW.out _ HBr.out)).mono ?_
          rintro e wa ⟨⟨n, ev, rfl, hev⟩, hbw⟩
          have HXa := Aside0.mk (blk_below HXr.out hbw)
          have HBa := Aside0.mk (HBr.out.trans (hbw.mono (Nat.le_of_lt (blk_lt HXr.out))))
          have HBW := Aside0.mk hbw
          have HSa := HSZ
          have HLE : Aside0 (w5.heap.size ≤ wa.heap.size) := ⟨Nat.le_trans HSZ.out hbw.size⟩
          clear hbw
          rcases hev with ⟨hok, rfl⟩ | ⟨hno, N, rfl⟩
          · by_cases hr : -4294967296 ≤ n ∧ n ≤ 4294967296
            · have HNUM : Aside0 (numL k1 t = some n) := ⟨by unfold numL; rw [if_neg (by have := HK1.out; omega)]; rw [hok]; simp only; rw [if_pos hr]⟩
              have hd1 : decide (n < -4294967296) = false := by simp; omega
              have hd2 : decide (n > 4294967296) = false := by simp; omega
              have hd3 : decide (4294967296 < n) = false := by simp; omega
              obtain ⟨b0, b1⟩ := hr
              clear hok y5 y6
              have hmul : wrap64 (n * 4096) = n * 4096 := w64 (by omega) (by omega)
              by_cases hkk : k1 = 4
              · subst hkk
                have HK : Aside0 (True) := ⟨trivial⟩
                go_wp2_with (first | ((with_reducible refine gate_store (t := 3) rfl ?_); refine set_event rfl 3 _ _ rfl (g := g) 5 (.int .i64 (n * 4096)) #[.int .i64 kd, .int .i64 fn, .int .i64 rv, .int .i64 r1, .int .i64 r2, .int .i64 (n * 4096), .int .i64 sz, .bool sg] HXa.out (by simp [insA]) rfl rfl (by kernel_rfl) rfl rfl rfl ?_; intro w9 hbox hfar hbel; have HX9 := Aside0.mk hbox; have HB9 := Aside0.mk (hbel _ _ HBa.out (Nat.le_refl _)); have HFAR := Aside0.mk hfar; have HS9 := Aside0.mk (hbel g wa (Below.refl _ _) (Nat.le_refl _)); clear hbox hfar hbel) | fail)
                go_wp2
                go_roundw
                case rel =>
                  refine ⟨k + 1, ⟨kd, fn, rv, r1, r2, n * 4096, sz, sg⟩, by go_num, by omega, HX9.out, HB9.out, ?_, ?_, ?_⟩
                  · have h1 := HGO2.out
                    rw [HNUM.out, Option.bind_some] at h1
                    rw [← h1]
                    unfold setL
                    simp [HK.out]
                  · intro q hq hq1
                    have h2 := HSa.out
                    rw [HFAR.out q hq, HBW.out.block q (by omega)]
                    exact HFR.out q hq hq1
                  · exact Nat.le_trans HLE.out HS9.out.size
                case measure => simp [intOf]; omega
              by_cases hkk : k1 = 5
              · subst hkk
                have HK : Aside0 (True) := ⟨trivial⟩
                go_wp2_with (first | ((with_reducible refine gate_store (t := 3) rfl ?_); refine set_event rfl 3 _ _ rfl (g := g) 3 (.int .i64 n) #[.int .i64 kd, .int .i64 fn, .int .i64 rv, .int .i64 n, .int .i64 r2, .int .i64 imm, .int .i64 sz, .bool sg] HXa.out (by simp [insA]) rfl rfl (by kernel_rfl) rfl rfl rfl ?_; intro w9 hbox hfar hbel; have HX9 := Aside0.mk hbox; have HB9 := Aside0.mk (hbel _ _ HBa.out (Nat.le_refl _)); have HFAR := Aside0.mk hfar; have HS9 := Aside0.mk (hbel g wa (Below.refl _ _) (Nat.le_refl _)); clear hbox hfar hbel) | fail)
                go_wp2
                go_roundw
                case rel =>
                  refine ⟨k + 1, ⟨kd, fn, rv, n, r2, imm, sz, sg⟩, by go_num, by omega, HX9.out, HB9.out, ?_, ?_, ?_⟩
                  · have h1 := HGO2.out
                    rw [HNUM.out, Option.bind_some] at h1
                    rw [← h1]
                    unfold setL
                    simp [HK.out]
                  · intro q hq hq1
                    have h2 := HSa.out
                    rw [HFAR.out q hq, HBW.out.block q (by omega)]
                    exact HFR.out q hq hq1
                  · exact Nat.le_trans HLE.out HS9.out.size
                case measure => simp [intOf]; omega
              have h9 := HK1.out
              have e0 : ((k1 : Int) == 0) = false := beq_f (by omega)
              have e1 : ((k1 : Int) == 1) = false := beq_f (by omega)
              have e2 : ((k1 : Int) == 2) = false := beq_f (by omega)
              have e4 : ((k1 : Int) == 4) = false := beq_f (by omega)
              have e5 : ((k1 : Int) == 5) = false := beq_f (by omega)
              have HK : Aside0 (k1 ≠ 0 ∧ k1 ≠ 1 ∧ k1 ≠ 2 ∧ k1 ≠ 4 ∧ k1 ≠ 5) := ⟨by omega⟩
              go_wp2_with (first | ((with_reducible refine gate_store (t := 3) rfl ?_); refine set_event rfl 3 _ _ rfl (g := g) 5 (.int .i64 n) #[.int .i64 kd, .int .i64 fn, .int .i64 rv, .int .i64 r1, .int .i64 r2, .int .i64 n, .int .i64 sz, .bool sg] HXa.out (by simp [insA]) rfl rfl (by kernel_rfl) rfl rfl rfl ?_; intro w9 hbox hfar hbel; have HX9 := Aside0.mk hbox; have HB9 := Aside0.mk (hbel _ _ HBa.out (Nat.le_refl _)); have HFAR := Aside0.mk hfar; have HS9 := Aside0.mk (hbel g wa (Below.refl _ _) (Nat.le_refl _)); clear hbox hfar hbel) | fail)
              go_wp2
              go_roundw
              case rel =>
                refine ⟨k + 1, ⟨kd, fn, rv, r1, r2, n, sz, sg⟩, by go_num, by omega, HX9.out, HB9.out, ?_, ?_, ?_⟩
                · have h1 := HGO2.out
                  rw [HNUM.out, Option.bind_some] at h1
                  rw [← h1]
                  unfold setL
                  simp [HK.out]
                · intro q hq hq1
                  have h2 := HSa.out
                  rw [HFAR.out q hq, HBW.out.block q (by omega)]
                  exact HFR.out q hq hq1
                · exact Nat.le_trans HLE.out HS9.out.size
              case measure => simp [intOf]; omega
            · have HNUM : Aside0 (numL k1 t = none) := ⟨by unfold numL; rw [if_neg (by have := HK1.out; omega)]; rw [hok]; simp only; rw [if_neg hr]⟩
              have hd : (decide (n < -4294967296) = true) ∨ (decide (n < -4294967296) = false ∧ decide (n > 4294967296) = true ∧ decide (4294967296 < n) = true) := by
                simp
                omega
              clear hok hr y5 y6
              rcases hd with hd1 | ⟨hd1, hd2, hd3⟩
              all_goals
                go_wp2
                go_ret
                refine ⟨⟨kd, fn, rv, r1, r2, imm, sz, sg⟩, ?_, HXa.out, ?_, HBa.out⟩
                · rw [← HGO2.out, HNUM.out]; rfl
                · intro j hj; rw [← HGO2.out, HNUM.out] at hj; cases hj
          · have HNUM : Aside0 (numL k1 t = none) := ⟨by
              unfold numL
              rw [if_neg (by have := HK1.out; omega)]
              rcases h : Lib.atoiAll (t) with n | _ | _
              · exact absurd h (hno n)
              · rfl
              · rfl⟩
            clear hno y5 y6
            go_wp2
            go_ret
            refine ⟨⟨kd, fn, rv, r1, r2, imm, sz, sg⟩, ?_, HXa.out, ?_, HBa.out⟩
            · rw [← HGO2.out, HNUM.out]; rfl
            · intro j hj; rw [← HGO2.out, HNUM.out] at hj; cases hj
        omega
      · obtain rfl : k = ks.length := by omega
        have hd0 : decide (((ks.length : Nat) : Int) < (ks.length : Int)) = false := by simp
        have HT2 : Aside0 (some (⟨kd, fn, rv, r1, r2, imm, sz, sg⟩ : Ins) = tot) := ⟨by have h1 := HGO.out; rw [List.drop_length, show ws.drop ks.length = [] by rw [HQ.out, List.drop_length]] at h1; exact h1⟩
        clear hlt
        go_wp2
        go_ret
        refine ⟨⟨kd, fn, rv, r1, r2, imm, sz, sg⟩, ?_, HXr.out, ?_, HBr.out⟩
        · rw [← HT2.out]; rfl
        · intro j hj; rw [← HT2.out] at hj; injection hj with hj; exact hj.symm
  · have hq : ((ks.length : Int) != (ws.length : Int)) = true := by simp; omega
    have HQ := Aside0.mk (fillGo_len ⟨kd, fn, rv, r1, r2, imm, sz, sg⟩ ks ws hl)
    clear hl
    go_wp2
    go_ret
    refine ⟨⟨kd, fn, rv, r1, r2, imm, sz, sg⟩, ?_, blk_below HBX.out HB5.out, ?_, HB5.out.mono (Nat.le_of_lt HGL.out)⟩
    · rw [← HT.out, HQ.out]; rfl
    · intro j hj; rw [← HT.out, HQ.out] at hj; cases hj

end Go.Proofs.YtjapahcbhjjeiaaGreatDoor.AS
