/- Several texts in one. -/
import Derived.Test.YtjapahcbhjjeiaaGreatDoorK16
import Derived.Deep.QuietTactic
import Derived.BigQuiet
import Derived.Test.YtjapahcbhjjeiaaGreatDoorL15
import Derived.Test.YtjapahcbhjjeiaaGreatDoorK22
import Derived.Test.YtjapahcbhjjeiaaGreatDoorK18
/- citadellaw00's Lend by its contract: a copy with marks behind it. -/
namespace Go.Proofs.YtjapahcbhjjeiaaGreatDoor.AS
open Go.RowKit Go.MapKept Go.Proofs.YtjapahcbhjjeiaaGreatDoorW.PrintWords Go.Proofs.YtjapahcbhjjeiaaGreatDoorW.PrintLast Go.Proofs.YtjapahcbhjjeiaaGreatDoorW.PrintMore Go.Proofs.YtjapahcbhjjeiaaGreatDoor.PA
set_option linter.unusedVariables false
set_option linter.unusedSimpArgs false
set_option maxRecDepth 100000
set_option maxHeartbeats 4000000

theorem copy_calls (l : List Int) (hl : l.length ≤ 1099511627776) (A : Option Addr) (c : Nat) (W : World) (hC : Kd.C (Kd.int .u8) W A l.length l) (hc : l.length ≤ c) :
    Calls Tryz.prog 53 #[.slice A l.length c] W fun e w' => ∃ v, e = .returned v ∧ Kd.R (Kd.int .u8) 5 w' W.heap.size (fun _ => True) v l ∧ Below W.heap.size W w' := by
  have HR := Aside0.mk hC
  have HL := Aside0.mk hl
  clear hC hl
  go_enter Tryz.func53, Tryz.ntmps53
  go_wp2_with (first | ((with_reducible refine gate_dst (N := 4) rfl ?_); at_builtin; refine Kd.R_append_rows (Kd.int .u8) (w0 := W) W.heap.size rfl (.const (.slice none 0 0)) (.tmp 3) 38 5 (.int .u8 0) 1 rfl Tryz.underlying38 info5' rfl (by decide) (by decide) (.slice none 0 0) ([] : List Int) l A l.length c (fun _ => True) (fun _ => False) rfl rfl ?aO ?aR (fun _ _ h => h) (fun _ h => h.elim) (fun _ _ => trivial) ?aB ?aS ?aL ?_; (case aO => exact Kd.R_nil _ _ _ _ _); (case aR => exact HR.out); (case aB => exact Below.refl _ _); (case aS => exact Nat.le_refl _); (case aL => have h1 := HL.out; rw [List.length_nil]; omega); intro v9 w9 ho hb9 hg9 hat9; rw [List.nil_append] at ho; have HO9 := Aside0.mk ho; have HB9 := Aside0.mk hb9; clear ho hb9 hg9 hat9) | fail)
  go_ret
  exact ⟨v9, rfl, HO9.out, HB9.out⟩
def marks70 (k : Nat) : List Int := (List.range k).map fun i : Nat => 101 + (i : Int)
theorem marks_succ (k : Nat) : marks70 (k + 1) = marks70 k ++ [101 + (k : Int)] := by unfold marks70; rw [List.range_succ]; simp
theorem marks_len (k : Nat) : (marks70 k).length = k := by unfold marks70; simp
theorem lend_calls (l : List Int) (hl : l.length ≤ 1073741824) (A : Option Addr) (c : Nat) (W : World) (hC : Kd.C (Kd.int .u8) W A l.length l) (hc : l.length ≤ c) :
    Calls Tryz.prog 21 #[.slice A l.length c] W fun e w' => ∃ A1 q, e = .returned (.tuple #[.slice A1 l.length q, .slice A1 (l ++ marks70 70).length q]) ∧ Kd.C (Kd.int .u8) w' A1 (l ++ marks70 70).length (l ++ marks70 70) ∧ (l ++ marks70 70).length ≤ q ∧ Below W.heap.size W w' := by
  have HL := Aside0.mk hl
  have CP : ∀ W', W' = W → Calls Tryz.prog 53 #[.slice A l.length c] W' fun e w' => ∃ v, e = .returned v ∧ Kd.R (Kd.int .u8) 5 w' W.heap.size (fun _ => True) v l ∧ Below W.heap.size W w' := fun W' e => by subst e; exact copy_calls l (by omega) A c _ hC hc
  have HCP := Aside0.mk CP
  clear hC hl CP
  go_enter Tryz.func21, Tryz.ntmps21
  go_wp2_with fail
  refine (HCP.out _ rfl).mono ?_
  rintro e w1 ⟨v1, rfl, ho, hb⟩
  have HO := Aside0.mk ho
  have HB := Aside0.mk hb
  clear ho hb
  go_wp2
  go_loopw [4, 5] (fun v4 v5 wr => ∃ k : Nat, v5 = .int .i64 (k : Int) ∧ k ≤ 70 ∧ Kd.R (Kd.int .u8) 5 wr W.heap.size (fun _ => True) v4 (l ++ marks70 k) ∧ Below W.heap.size W wr) (fun _ v5 _ => 70 - (intOf v5).toNat)
  case atStart => exact ⟨0, rfl, by decide, by rw [show marks70 0 = [] from rfl, List.append_nil]; exact HO.out, HB.out⟩
  case round =>
    obtain ⟨k, rfl, hk, ho, hb⟩ := hrel
    obtain ⟨m, hm⟩ : ∃ x, x = l ++ marks70 k := ⟨_, rfl⟩
    rw [← hm] at ho
    obtain ⟨A2, q2, e2⟩ := Kd.R_slice ho
    subst e2
    have HM : Aside0 (m = l ++ marks70 k) := ⟨hm⟩
    have HML : Aside0 (m.length = l.length + k) := ⟨by rw [hm, List.length_append, marks_len]⟩
    clear hm HO HB
    have HO := Aside0.mk ho
    have HB := Aside0.mk hb
    clear ho hb
    by_cases hlt : k < 70
    · have hd0 : decide ((k : Int) < 70) = true := decide_eq_true (by omega)
      have HLT := Aside0.mk hlt
      have hkb : (k : Int) < 70 := by omega
      have hw8 : IntKind.u8.wrap (101 + (k : Int)) = 101 + (k : Int) := by rw [IntKind.wrap_u8']; omega
      have hm8 : (101 + (k : Int)) % 256 = 101 + (k : Int) := by omega
      clear hlt
      go_wp2_with (first | ((with_reducible refine gate_dst (N := 16) rfl ?_); refine lit8_event ?hg (N := 16) ?hd [101 + (k : Int)] (by simp) ?hr ?_; (case hd => rfl); (case hg => rfl); (case hr => first | (go_simp; done) | (go_simp; rfl)); intro A9 w9 hC9 hb9; have HC9 := Aside0.mk hC9; have HB9 := Aside0.mk (below_step HB.out hb9); have HR9 := Aside0.mk (Kd.R_below HO.out hb9); clear hC9 hb9) | ((with_reducible refine gate_dst (N := 17) rfl ?_); at_builtin; refine Kd.R_append_rows (Kd.int .u8) (w0 := W) W.heap.size rfl (.tmp 12) (.tmp 16) 38 5 (.int .u8 0) 1 rfl Tryz.underlying38 info5' rfl (by decide) (by decide) (.slice A2 m.length q2) m [101 + (k : Int)] A9 _ _ (fun _ => True) (fun _ => False) rfl rfl ?aO ?aR (fun _ _ h => h) (fun _ h => h.elim) (fun _ _ => trivial) ?aB ?aS ?aL ?_; (case aR => exact HC9.out); (case aO => exact HR9.out); (case aB => exact HB9.out); (case aS => exact (HB9.out).size); (case aL => have h1 := HML.out; have h2 := HL.out; simp; omega); intro v10 w10 ho hb hg hat; have HR10 := Aside0.mk ho; have HB10 := Aside0.mk hb; clear ho hb hg hat) | fail)
      go_roundw
      case rel => exact ⟨k + 1, by go_num, HLT.out, by rw [marks_succ, ← List.append_assoc, ← HM.out]; exact HR10.out, HB10.out⟩
      case measure => simp [intOf]; have := HLT.out; omega
    · obtain rfl : k = 70 := by omega
      have HCR := Aside0.mk (Kd.R_reads' HO.out).2
      have hle : l.length ≤ q2 := by have h1 := (Kd.R_reads' HO.out).2.1; have h2 := HML.out; omega
      have hle2 : (l.length : Int) ≤ (q2 : Int) := by omega
      have h70 : m.length ≤ q2 := (Kd.R_reads' HO.out).2.1
      clear hlt
      go_wp2
      go_ret2
      exact ⟨A2, q2, by rw [← HM.out]; rfl, by rw [← HM.out]; exact HCR.out.2, by rw [← HM.out]; exact h70, HB.out⟩

end Go.Proofs.YtjapahcbhjjeiaaGreatDoor.AS

/- citadellaw00's Back by its contract: the bytes stand, and the marks behind them. -/
namespace Go.Proofs.YtjapahcbhjjeiaaGreatDoor.AS
open Go.RowKit Go.MapKept Go.Proofs.YtjapahcbhjjeiaaGreatDoorW.PrintWords Go.Proofs.YtjapahcbhjjeiaaGreatDoorW.PrintLast Go.Proofs.YtjapahcbhjjeiaaGreatDoorW.PrintMore Go.Proofs.YtjapahcbhjjeiaaGreatDoor.PA
set_option linter.unusedVariables false
set_option linter.unusedSimpArgs false
set_option maxRecDepth 100000
set_option maxHeartbeats 4000000

theorem byte_cell {wr : World} {A : Option Addr} {l : List Int} {n : Nat} (hC : Kd.C (Kd.int .u8) wr A l.length l) (hn : n < l.length) : ∃ ad, A = some ad ∧ wr.cell? (ad.add n) = some (.int .u8 l[n]) := by
  obtain ⟨ad, rfl, hcell⟩ := Kd.at_int hC (n : Int) (by omega) (by omega)
  refine ⟨ad, rfl, ?_⟩
  rw [Int.toNat_natCast] at hcell
  rw [hcell]
  simp [rd, hn]
theorem back_calls (l : List Int) (hl : l.length ≤ 1073741824) (A A1 : Option Addr) (c q : Nat) (W : World) (hC : Kd.C (Kd.int .u8) W A l.length l) (hD : Kd.C (Kd.int .u8) W A1 (l ++ marks70 70).length (l ++ marks70 70)) :
    Calls Tryz.prog 24 #[.slice A l.length c, .slice A1 (l ++ marks70 70).length q] W fun e w' => e = .returned (.bool true) ∧ Below W.heap.size W w' := by
  obtain ⟨n, hn⟩ : ∃ x, x = l.length := ⟨_, rfl⟩
  have hl2 : (l ++ marks70 70).length = n + 70 := by rw [List.length_append, marks_len, hn]
  have HC := Aside0.mk hC
  have HD := Aside0.mk hD
  rw [← hn] at hl
  rw [hl2, ← hn]
  have HN := Aside0.mk hn
  have HB := Aside0.mk (Below.refl W.heap.size W)
  clear hC hD hl2 hn
  have w1 : wrap64 ((n : Int) + 70) = (n : Int) + 70 := w64 (by omega) (by omega)
  have e1 : ((n : Int) + 70 == (n : Int) + 70) = true := by simp
  have e2 : ((n : Int) + 70 != (n : Int) + 70) = false := by simp
  go_enter Tryz.func24, Tryz.ntmps24
  go_wp2
  go_loopw [5] (fun v5 wr => ∃ k : Nat, v5 = .int .i64 (k : Int) ∧ k ≤ n + 70 ∧ Below W.heap.size W wr) (fun v5 _ => n + 70 - (intOf v5).toNat)
  case atStart => exact ⟨0, rfl, Nat.zero_le _, HB.out⟩
  case round =>
    obtain ⟨k, rfl, hk, hb⟩ := hrel
    clear HB
    have HB := Aside0.mk hb
    have C1 := Aside0.mk (Kd.C_below HC.out hb)
    have C2 := Aside0.mk (Kd.C_below HD.out hb)
    clear hb
    by_cases hlt : k < n + 70
    · have d0 : decide ((k : Int) < (n : Int) + 70) = true := decide_eq_true (by omega)
      obtain ⟨a1, hA1, y1⟩ := byte_cell C2.out (n := k) (by rw [List.length_append, marks_len, ← HN.out]; exact hlt)
      subst hA1
      obtain ⟨x, hx⟩ : ∃ x : Int, x = (l ++ marks70 70)[k]'(by rw [List.length_append, marks_len, ← HN.out]; exact hlt) := ⟨_, rfl⟩
      rw [← hx] at y1
      have b1 : (0 : Int) ≤ (k : Int) := by omega
      have b2 : (k : Int) < (n : Int) + 70 := by omega
      by_cases hin : k < n
      · have d1 : decide ((k : Int) < (n : Int)) = true := decide_eq_true (by omega)
        have d2 : decide ((n : Int) ≤ (k : Int)) = false := decide_eq_false (by omega)
        have d3 : decide (n ≤ k) = false := decide_eq_false (by omega)
        have d4 : decide (k < n) = true := decide_eq_true (by omega)
        obtain ⟨a0, hA0, y0⟩ := byte_cell C1.out (n := k) (by rw [← HN.out]; exact hin)
        subst hA0
        have he : l[k]'(by rw [← HN.out]; exact hin) = x := by rw [hx, List.getElem_append_left]
        rw [he] at y0
        have b3 : (k : Int) < (n : Int) := by omega
        have e3 : (x != x) = false := by simp
        have HLT := Aside0.mk hlt
        clear hx he hlt hin
        go_upto_region 6 with fail
        go_quiet (fail)
        go_wp2
        go_roundw
        case rel => exact ⟨k + 1, by go_num, HLT.out, by exact pw_below_drewN HB.out _⟩
        case measure => simp [intOf]; have := HLT.out; omega
      · have d1 : decide ((k : Int) < (n : Int)) = false := decide_eq_false (by omega)
        have d3 : decide (n ≤ k) = true := decide_eq_true (by omega)
        have d4 : decide (k < n) = false := decide_eq_false (by omega)
        have d2 : decide ((n : Int) ≤ (k : Int)) = true := decide_eq_true (by omega)
        have he : x = 101 + (k : Int) - (n : Int) := by
          rw [hx, List.getElem_append_right (by rw [← HN.out]; omega)]
          simp only [marks70, List.getElem_map, List.getElem_range]
          have := HN.out
          omega
        have w2 : wrap64 (101 + (k : Int)) = 101 + (k : Int) := w64 (by omega) (by omega)
        have w3 : wrap64 (101 + (k : Int) - (n : Int)) = 101 + (k : Int) - (n : Int) := w64 (by omega) (by omega)
        have w4 : (101 + (k : Int) - (n : Int)) % 256 = 101 + (k : Int) - (n : Int) := by omega
        have w5 : IntKind.u8.wrap (101 + (k : Int) - (n : Int)) = 101 + (k : Int) - (n : Int) := by rw [IntKind.wrap_u8']; omega
        have e3 : (101 + (k : Int) - (n : Int) != 101 + (k : Int) - (n : Int)) = false := by simp
        rw [he] at y1
        have HLT := Aside0.mk hlt
        clear hx he hlt hin
        go_upto_region 6 with fail
        go_quiet (fail)
        go_wp2
        go_roundw
        case rel => exact ⟨k + 1, by go_num, HLT.out, by exact pw_below_drewN HB.out _⟩
        case measure => simp [intOf]; have := HLT.out; omega
    · obtain rfl : k = n + 70 := by omega
      have d0 : decide (((n + 70 : Nat) : Int) < (n : Int) + 70) = false := decide_eq_false (by omega)
      have d1 : decide ((n : Int) + 70 < (n : Int) + 70) = false := decide_eq_false (by omega)
      clear hlt
      go_wp2
      go_ret
      exact ⟨rfl, HB.out⟩

end Go.Proofs.YtjapahcbhjjeiaaGreatDoor.AS

/- The document's Text by its contract: it tells the same. -/
namespace Go.Proofs.YtjapahcbhjjeiaaGreatDoor.AS
open Go.Lib (itoa decDigits)
open Go.RowKit Go.MapKept Go.Proofs.YtjapahcbhjjeiaaGreatDoorW.PrintWords Go.Proofs.YtjapahcbhjjeiaaGreatDoorW.PrintLast Go.Proofs.YtjapahcbhjjeiaaGreatDoorW.PrintMore Go.Proofs.YtjapahcbhjjeiaaGreatDoor.PA
set_option linter.unusedVariables false
set_option linter.unusedSimpArgs false
set_option maxRecDepth 100000
set_option maxHeartbeats 8000000

theorem may_zero : mayL zeroI = false := by decide +kernel
theorem lineW_ref (w : Int) (h0 : 0 ≤ w) : bB (lineW w) = if ((decodeL w).isSome && mayL (insW w) && ((if mayL (insW w) = true then encL (insW w) else 0) == w)) = true then lnB (insW w) else (⟨#[46, 119, 111, 114, 100, 32]⟩ : ByteArray) ++ bB (itoa w) := by
  have hz : bB (dotL w.toNat) = (⟨#[46, 119, 111, 114, 100, 32]⟩ : ByteArray) ++ bB (itoa w) := by
    rw [show (⟨#[46, 119, 111, 114, 100, 32]⟩ : ByteArray) = bB [46, 119, 111, 114, 100, 32] from rfl, bB_app]
    unfold itoa
    rw [if_neg (by omega)]
    rfl
  unfold lineW lnB
  cases hm : mayL (insW w) with
  | false => simp [hz]
  | true =>
    have hs : (decodeL w).isSome = true := by
      cases hd : decodeL w with
      | none => rw [insW, hd, Option.getD_none, may_zero] at hm; cases hm
      | some j => rfl
    by_cases e : encL (insW w) = w
    · simp [hs, e]
    · simp [hs, e, hz]
theorem mods {x : Int} (h : 0 ≤ x ∧ x < 4294967296) : x % 4294967296 = x ∧ IntKind.u32.wrap x = x := ⟨Int.emod_eq_of_lt h.1 h.2, wraps_u32 x h.1 h.2⟩
theorem drop_cell {wr : World} {A : Option Addr} {l : List Int} (hC : Kd.C (Kd.int .u8) wr A l.length l) {p i : Nat} {v : Int} (h : (l.drop p)[i]? = some v) : ∃ ad, A = some ad ∧ wr.cell? (ad.add (p + i)) = some (.int .u8 v) := by
  rw [List.getElem?_drop] at h
  obtain ⟨hlt', e⟩ := List.getElem?_eq_some_iff.1 h
  obtain ⟨ad, ha, y⟩ := byte_cell hC hlt'
  rw [e] at y
  exact ⟨ad, ha, y⟩
theorem rtext_calls (l : List Int) (hby : ∀ b ∈ l, Byte b) (hlen : l.length ≤ 16777216) (A : Option Addr) (c : Nat) (W : World) (hC : Kd.C (Kd.int .u8) W A l.length l) :
    Calls Tryz.prog 23 #[.slice A l.length c] W fun e w' => e = .returned (.string (bB (textL l))) ∧ Below W.heap.size W w' := by
  have hu23 := Tryz.underlying23
  obtain ⟨n, hn⟩ : ∃ x, x = l.length := ⟨_, rfl⟩
  obtain ⟨tot, htot⟩ : ∃ x, x = textL l := ⟨_, rfl⟩
  have HC := Aside0.mk hC
  have HBy := Aside0.mk hby
  have HN := Aside0.mk hn
  have HT := Aside0.mk htot
  rw [← hn] at hlen
  rw [← hn, ← htot]
  have HB := Aside0.mk (Below.refl W.heap.size W)
  clear hC hby hn htot
  go_enter Tryz.func23, Tryz.ntmps23
  go_wp2
  go_loopw [3, 4] (fun v3 v4 wr => ∃ (p : Nat) (acc : List UInt8), v4 = .int .i64 (p : Int) ∧ p ≤ n ∧ v3 = .string (bB acc) ∧ acc.length ≤ 401 * p ∧ acc ++ textL (l.drop p) = tot ∧ Below W.heap.size W wr) (fun _ v4 _ => n - (intOf v4).toNat)
  case atStart => exact ⟨0, [], rfl, Nat.zero_le _, rfl, Nat.le_refl _, by rw [HT.out]; rfl, HB.out⟩
  case round =>
    obtain ⟨p, acc, rfl, hp, rfl, hacc, hgo, hb⟩ := hrel
    clear HB
    have HB := Aside0.mk hb
    have HC1 := Aside0.mk (Kd.C_below HC.out hb)
    have HGO := Aside0.mk hgo
    obtain ⟨s, hs⟩ : ∃ x, x = bB acc := ⟨_, rfl⟩
    have hsz : s.size ≤ 401 * 16777216 := by rw [hs, bB_sz]; omega
    have HS := Aside0.mk hs
    rw [← hs]
    have HACC := Aside0.mk hacc
    clear hb hgo hs hacc
    by_cases hlt : p + 4 ≤ n
    · have d0 : decide ((p : Int) + 4 ≤ (n : Int)) = true := decide_eq_true (by omega)
      obtain ⟨b0, b1, b2, b3, r, hr⟩ : ∃ b0 b1 b2 b3 r, l.drop p = b0 :: b1 :: b2 :: b3 :: r := four (by rw [List.length_drop, ← HN.out]; omega)
      have HR := Aside0.mk hr
      obtain ⟨ad, hA, y0⟩ := drop_cell HC1.out (i := 0) (v := b0) (by rw [hr]; rfl)
      rw [Nat.add_zero] at y0
      subst hA
      obtain ⟨_, e1, y1⟩ := drop_cell HC1.out (i := 1) (v := b1) (by rw [hr]; rfl)
      obtain rfl := Option.some.inj e1
      obtain ⟨_, e2, y2⟩ := drop_cell HC1.out (i := 2) (v := b2) (by rw [hr]; rfl)
      obtain rfl := Option.some.inj e2
      obtain ⟨_, e3, y3⟩ := drop_cell HC1.out (i := 3) (v := b3) (by rw [hr]; rfl)
      obtain rfl := Option.some.inj e3
      replace y1 : wr.cell? { block := ad.block, off := ad.off + (p + 1) } = some (.int .u8 b1) := by simpa [Addr.add] using y1
      replace y2 : wr.cell? { block := ad.block, off := ad.off + (p + 2) } = some (.int .u8 b2) := by simpa [Addr.add] using y2
      replace y3 : wr.cell? { block := ad.block, off := ad.off + (p + 3) } = some (.int .u8 b3) := by simpa [Addr.add] using y3
      have B0 : 0 ≤ b0 ∧ b0 < 256 := HBy.out b0 (List.mem_of_mem_drop (by rw [hr]; simp))
      have B1 : 0 ≤ b1 ∧ b1 < 256 := HBy.out b1 (List.mem_of_mem_drop (by rw [hr]; simp))
      have B2 : 0 ≤ b2 ∧ b2 < 256 := HBy.out b2 (List.mem_of_mem_drop (by rw [hr]; simp))
      have B3 : 0 ≤ b3 ∧ b3 < 256 := HBy.out b3 (List.mem_of_mem_drop (by rw [hr]; simp))
      have HWb := Aside0.mk (w4_b B0 B1 B2 B3)
      have HD4 : Aside0 (l.drop (p + 4) = r) := ⟨by rw [← List.drop_drop, hr]; rfl⟩
      have HGO2 : Aside0 (acc ++ (lineW (w4 b0 b1 b2 b3) ++ 10 :: textL r) = tot) := ⟨by rw [← HGO.out, hr]; rfl⟩
      have o1 : (0 : Int) ≤ (p : Int) + 1 := by omega
      have n1 : ((p : Int) + 1).toNat = p + 1 := by omega
      have o2 : (0 : Int) ≤ (p : Int) + 2 := by omega
      have n2 : ((p : Int) + 2).toNat = p + 2 := by omega
      have o3 : (0 : Int) ≤ (p : Int) + 3 := by omega
      have n3 : ((p : Int) + 3).toNat = p + 3 := by omega
      have m0 : (p : Int) < (n : Int) := by omega
      have m1 : (p : Int) + 1 < (n : Int) := by omega
      have m2 : (p : Int) + 2 < (n : Int) := by omega
      have m3 : (p : Int) + 3 < (n : Int) := by omega
      have k3 : p + 3 < n := hlt
      have k2 : p + 2 < n := Nat.lt_of_succ_lt k3
      have k1 : p + 1 < n := Nat.lt_of_succ_lt k2
      have k0 : p < n := Nat.lt_of_succ_lt k1
      have hp : ∀ b : Int, (b = 1 ∨ b = 2 ∨ b = 3 ∨ b = 4) → IntKind.i64.wrap ((p : Int) + b) = (p : Int) + b := fun b h => wi64 (by omega) (by omega)
      have hq : ∀ b : Int, (b = 1 ∨ b = 2 ∨ b = 3 ∨ b = 4) → wrap64 ((p : Int) + b) = (p : Int) + b := fun b h => w64 (by omega) (by omega)
      have z0 : 0 ≤ b0 ∧ b0 < 4294967296 := by omega
      have z1 : 0 ≤ b1 ∧ b1 < 4294967296 := by omega
      have z2 : 0 ≤ b2 ∧ b2 < 4294967296 := by omega
      have z3 : 0 ≤ b3 ∧ b3 < 4294967296 := by omega
      have z4 : 0 ≤ b1 * 256 ∧ b1 * 256 < 4294967296 := by omega
      have z5 : 0 ≤ b2 * 65536 ∧ b2 * 65536 < 4294967296 := by omega
      have z6 : 0 ≤ b3 * 16777216 ∧ b3 * 16777216 < 4294967296 := by omega
      have z7 : 0 ≤ b0 + b1 * 256 ∧ b0 + b1 * 256 < 4294967296 := by omega
      have z8 : 0 ≤ b0 + b1 * 256 + b2 * 65536 ∧ b0 + b1 * 256 + b2 * 65536 < 4294967296 := by omega
      have z9 : 0 ≤ b0 + b1 * 256 + b2 * 65536 + b3 * 16777216 ∧ b0 + b1 * 256 + b2 * 65536 + b3 * 16777216 < 4294967296 := by omega
      obtain ⟨v0, hw0⟩ := mods z0
      obtain ⟨v1, hw1⟩ := mods z1
      obtain ⟨v2, hw2⟩ := mods z2
      obtain ⟨v3, hw3⟩ := mods z3
      obtain ⟨v4, hw4⟩ := mods z4
      obtain ⟨v5, hw5⟩ := mods z5
      obtain ⟨v6, hw6⟩ := mods z6
      obtain ⟨v7, hw7⟩ := mods z7
      obtain ⟨v8, hw8⟩ := mods z8
      obtain ⟨v9, hw9⟩ := mods z9
      clear z0 z1 z2 z3 z4 z5 z6 z7 z8 z9
      have HW : Aside0 (b0 + b1 * 256 + b2 * 65536 + b3 * 16777216 = w4 b0 b1 b2 b3) := ⟨rfl⟩
      have HP := Aside0.mk hlt
      clear hr HGO HC1 B0 B1 B2 B3 hlt
      go_upto_region 5 with fail
      go_quiet (fail)
      rw [HW.out]
      obtain ⟨wr2, hwr2⟩ : ∃ x, x = wr.drewN nq := ⟨_, rfl⟩
      have HBn : Aside0 (Below W.heap.size W wr2) := ⟨by rw [hwr2]; exact pw_below_drewN HB.out nq⟩
      rw [← hwr2]
      obtain ⟨wv, hwv⟩ : ∃ x, x = w4 b0 b1 b2 b3 := ⟨_, rfl⟩
      rw [← hwv] at HWb HGO2 ⊢
      clear HB hwr2 hwv HW v0 v1 v2 v3 v4 v5 v6 v7 v8 v9 hw0 hw1 hw2 hw3 hw4 hw5 hw6 hw7 hw8 hw9 y0 y1 y2 y3 o1 o2 o3 n1 n2 n3 m0 m1 m2 m3 k0 k1 k2 k3
      have HB := HBn
      clear HBn
      have hD := rdec_calls (w := wv) ⟨HWb.out.1, HWb.out.2⟩
      have hE := rEncode_calls (insW wv)
      have hL := rLine_calls (insW wv)
      have HLN := Aside0.mk (lineW_ref wv HWb.out.1)
      have ht : (lnB (insW wv)).size ≤ 400 := by
        unfold lnB
        split
        · rename_i hm; rw [bB_sz]; exact line_short _ (mayL_fit _ hm)
        · decide
      unfold DecR at hD
      rw [show (decodeL wv).getD zeroI = insW wv from rfl] at hD
      have hi : (bB (itoa wv)).size ≤ 13 := by rw [bB_sz]; exact itoa_len (by have := HWb.out.1; omega) (by have := HWb.out.2; omega)
      have hlw := lineW_len HWb.out.1 HWb.out.2
      have HLW := Aside0.mk hlw
      clear hlw
      obtain ⟨j, hj⟩ : ∃ x, x = insW wv := ⟨_, rfl⟩
      rw [← hj] at hD hE hL HLN ht
      obtain ⟨t, htt⟩ : ∃ x, x = lnB j := ⟨_, rfl⟩
      rw [← htt] at hL HLN ht
      obtain ⟨gd, hgd⟩ : ∃ x, x = mayL j := ⟨_, rfl⟩
      rw [← hgd] at hE hL HLN
      obtain ⟨ok, hok⟩ : ∃ x, x = (decodeL wv).isSome := ⟨_, rfl⟩
      rw [← hok] at hD HLN
      obtain ⟨v, hv⟩ : ∃ x, x = (if gd = true then encL j else 0) := ⟨_, rfl⟩
      rw [← hv] at hE HLN
      obtain ⟨it, hit⟩ : ∃ x, x = bB (itoa wv) := ⟨_, rfl⟩
      have hI : ∀ W, Calls Tryz.prog 17 #[.int .i64 wv] W fun e w' => e = .returned (.string it) ∧ ∃ m, w' = W.drewN m := fun W => by rw [hit]; exact Dec_calls wv W (by have := HWb.out.1; omega) (by have := HWb.out.2; omega)
      rw [← hit] at hi HLN
      obtain ⟨q, hqv⟩ : ∃ x, x = (v == wv) := ⟨_, rfl⟩
      rw [← hqv] at HLN
      have hqv' : (v == wv) = q := hqv.symm
      have hwi : IntKind.i64.wrap wv = wv := wi64 (by have := HWb.out.1; omega) (by have := HWb.out.2; omega)
      have HS2 : Aside0 (bB acc = s) := ⟨HS.out.symm⟩
      clear hj htt hgd hok hv hit hqv HS
      unfold insV at hD hE hL
      have hz1 : ¬ 9223372036854775807 < s.size + t.size := by omega
      have hz2 : ¬ 9223372036854775807 < s.size + t.size + 1 := by omega
      have hz3 : ¬ 9223372036854775807 < s.size + 6 := by omega
      have hz4 : ¬ 9223372036854775807 < s.size + 6 + it.size := by omega
      have hz5 : ¬ 9223372036854775807 < s.size + 6 + it.size + 1 := by omega
      cases ok <;> cases gd <;> cases q
      all_goals
        go_wp2_with (first | (go_at_call 52; (with_reducible refine (hD _).mono ?_); rintro e w' ⟨rfl, hb⟩; have HB2 := Aside0.mk (below_step (by repeat (first | (with_reducible first | exact HB.out | apply below_alloc | apply pw_below_drewN | apply below_drew1) | exact HB.out)) hb); clear hb HB; have HB := HB2; clear HB2) | ((with_reducible refine gate_dst (N := 6) rfl ?_); refine box_event (by rfl) (N := 6) (by rfl) (cs := #[.int .i64 0, .int .i64 0, .int .i64 0, .int .i64 0, .int .i64 0, .int .i64 0, .int .i64 0, .bool false]) (t := 23) (by first | (go_simp; done) | (go_simp; rfl)) ?_; intro g6 hg w6 hbox hb; have H6 := Aside0.mk hbox; have HL6 := Aside0.mk (show W.heap.size ≤ g6 by rw [hg]; exact below_size (by repeat (first | (with_reducible first | exact HB.out | apply below_alloc | apply pw_below_drewN | apply below_drew1) | exact HB.out))); have HB2 := Aside0.mk (below_step (by repeat (first | (with_reducible first | exact HB.out | apply below_alloc | apply pw_below_drewN | apply below_drew1) | exact HB.out)) hb); clear HB hbox hb hg; have HB := HB2; clear HB2) | ((with_reducible refine gate_any rfl ?_); refine setR rfl rfl H6.out rfl rfl (by kernel_rfl) rfl rfl ?_; intro w7 hbox hfar hbel; have H62 := Aside0.mk hbox; have HB2 := Aside0.mk (hbel _ _ (by repeat (first | (with_reducible first | exact HB.out | apply below_alloc | apply pw_below_drewN | apply below_drew1) | exact HB.out)) HL6.out); clear hbox hfar hbel H6 HB; have H6 := H62; have HB := HB2; clear H62 HB2; obtain ⟨y0, y1, y2, y3, y4, y5, y6, y7, yf0, yf1, yf2, yf3, yf4, yf5, yf6, yf7⟩ := cells8 H6.out) | (go_at_call 19; (with_reducible refine (hE _).mono ?_); rintro e w' ⟨rfl, hb⟩; have H62 := Aside0.mk (blk_below (by (with_reducible repeat (first | refine blk_drewN ?_ _ | refine blk_drew ?_ | refine blk_alloc ?_ _)); exact H6.out) hb); have HB2 := Aside0.mk (below_step (by repeat (first | (with_reducible first | exact HB.out | apply below_alloc | apply pw_below_drewN | apply below_drew1) | exact HB.out)) hb); clear hb HB H6 y0 y1 y2 y3 y4 y5 y6 y7 yf0 yf1 yf2 yf3 yf4 yf5 yf6 yf7; have HB := HB2; have H6 := H62; clear HB2 H62; obtain ⟨y0, y1, y2, y3, y4, y5, y6, y7, yf0, yf1, yf2, yf3, yf4, yf5, yf6, yf7⟩ := cells8 H6.out) | (go_at_call 11; (with_reducible refine (hL _).mono ?_); rintro e w' ⟨rfl, hb⟩; have H62 := Aside0.mk (blk_below (by (with_reducible repeat (first | refine blk_drewN ?_ _ | refine blk_drew ?_ | refine blk_alloc ?_ _)); exact H6.out) hb); have HB2 := Aside0.mk (below_step (by repeat (first | (with_reducible first | exact HB.out | apply below_alloc | apply pw_below_drewN | apply below_drew1) | exact HB.out)) hb); clear hb HB H6 y0 y1 y2 y3 y4 y5 y6 y7 yf0 yf1 yf2 yf3 yf4 yf5 yf6 yf7; have HB := HB2; have H6 := H62; clear HB2 H62; obtain ⟨y0, y1, y2, y3, y4, y5, y6, y7, yf0, yf1, yf2, yf3, yf4, yf5, yf6, yf7⟩ := cells8 H6.out) | (go_at_call 17; (with_reducible refine (hI _).mono ?_); rintro e w' ⟨rfl, ⟨nd, rfl⟩⟩) | fail)
        go_roundw
        case rel => exact ⟨p + 4, acc ++ (lineW wv ++ [10]), by go_num, HP.out, by rw [← bB_app, ← bB_app, HS2.out, HLN.out, show bB [10] = (⟨#[10]⟩ : ByteArray) from rfl]; simp [ByteArray.append_assoc], by have h1 := HACC.out; have h2 := HLW.out; simp only [List.length_append, List.length_cons, List.length_nil]; omega, by rw [HD4.out, ← HGO2.out]; simp, (by repeat (first | (with_reducible first | exact HB.out | apply below_alloc | apply pw_below_drewN | apply below_drew1) | exact HB.out))⟩
        case measure => simp [intOf]; have := HP.out; omega
    · have d0 : decide ((p : Int) + 4 ≤ (n : Int)) = false := decide_eq_false (by omega)
      have he : Aside0 (bB tot = s) := ⟨by rw [HS.out, ← HGO.out, textL_short (by rw [List.length_drop, ← HN.out]; omega), List.append_nil]⟩
      have hp : ∀ b : Int, (b = 1 ∨ b = 2 ∨ b = 3 ∨ b = 4) → IntKind.i64.wrap ((p : Int) + b) = (p : Int) + b := fun b h => wi64 (by omega) (by omega)
      have hq : ∀ b : Int, (b = 1 ∨ b = 2 ∨ b = 3 ∨ b = 4) → wrap64 ((p : Int) + b) = (p : Int) + b := fun b h => w64 (by omega) (by omega)
      clear hlt
      go_wp2
      go_ret
      exact ⟨by rw [he.out]; rfl, HB.out⟩

end Go.Proofs.YtjapahcbhjjeiaaGreatDoor.AS

/- AsmTexts: the walk and the core. -/
namespace Go.Proofs.YtjapahcbhjjeiaaGreatDoor.AS
open Go.RowKit Go.WideShapes Go.ChangeShapes Go.Proofs.YtjapahcbhjjeiaaGreatDoorW.PrintWords Go.Proofs.YtjapahcbhjjeiaaGreatDoor.Opn Go.Proofs.YtjapahcbhjjeiaaGreatDoor.PA
set_option linter.unusedVariables false
set_option linter.unusedSimpArgs false
set_option maxRecDepth 100000
set_option maxHeartbeats 4000000

theorem cells5 : Tryz.prog.cellsOf 5 = 1 := by kernel_rfl
theorem byte_of {n : Int} (hw : (Lit.int .u8 n).wf = true) : Byte n := by
  have hlo : IntKind.u8.min = 0 := by decide
  have hhi : IntKind.u8.max = 255 := by decide
  simp [Lit.wf, hlo, hhi] at hw
  unfold Byte
  omega
theorem open_bytes {H : Type} {enc : TypeId × Value → H} {W : World} {base : Nat} {v : Value} {d : DataW H} {p : List MemPlace} (o : Value.okWide Tryz.prog W .any base 38 v) (h : DataW.Trod enc Tryz.prog W 0 (fun _ => true) true 38 v d p) :
    ∃ (A : Option Addr) (c : Nat) (l : List Int), v = .slice A l.length c ∧ Kd.C (Kd.int .u8) W A l.length l ∧ l.length ≤ c ∧ (∀ b ∈ l, Byte b) ∧ l.length ≤ Rows.uptoBulk d := by
  obtain ⟨a, len, cap, rfl⟩ := okWide_slice Tryz.underlying38 o
  obtain ⟨fuel, h⟩ := h
  obtain ⟨A, c, ls, e, l, C, g⟩ := opens_row (d := Kd.int .u8) (G := GInt .u8) Tryz.underlying38 (opens_int Tryz.underlying5) cells5 h
  have e' : Value.slice a len cap = .slice A ls.length c := by simpa [Value.cells] using e
  exact ⟨A, c, ls, e', C, l, fun b hb => by obtain ⟨_, _, hg⟩ := g.2 b hb; exact byte_of hg.2, by have := g.1; simp only at this; omega⟩

theorem texts_walk (l : List Int) (hby : ∀ b ∈ l, Byte b) (hlen : l.length ≤ 16777216) (A : Option Addr) (c : Nat) (W : World) (hgw : GW W) (hC : Kd.C (Kd.int .u8) W A l.length l) (hc : l.length ≤ c) :
    Calls Tryz.prog 8 #[.slice A l.length c] W fun e w' => e = .returned (.bool true) ∧ Below W.heap.size W w' := by
  have HB := Aside0.mk (Below.refl W.heap.size W)
  have HG := Aside0.mk hgw
  have LD := lend_calls l (by omega) A c W hC hc
  obtain ⟨n, hn⟩ : ∃ x, x = l.length := ⟨_, rfl⟩
  obtain ⟨k, hk⟩ : ∃ x, x = (l ++ marks70 70).length := ⟨_, rfl⟩
  have hle : n ≤ k := by rw [hn, hk, List.length_append]; omega
  have TX := fun (A1 : Option Addr) (q : Nat) (W' : World) (h : Kd.C (Kd.int .u8) W' A1 k (l ++ marks70 70)) (h2 : k ≤ q) (hg : GW W') => text_calls l hby hlen A1 q W' hg (by
    rw [hk] at h
    have h := Kd.C_take (m := l.length) h (by rw [List.length_append]; omega)
    rwa [List.take_left] at h) (by omega)
  have RT := fun (W' : World) (h : Kd.C (Kd.int .u8) W' A l.length l) => rtext_calls l hby hlen A c W' h
  have BC := fun (A1 : Option Addr) (q : Nat) (W' : World) (h : Kd.C (Kd.int .u8) W' A l.length l) (h2 : Kd.C (Kd.int .u8) W' A1 k (l ++ marks70 70)) => back_calls l (by omega) A A1 c q W' h (by rw [← hk]; exact h2)
  rw [← hn] at hC hc LD TX RT BC ⊢
  rw [← hk] at LD BC
  obtain ⟨s, hs⟩ : ∃ x, x = bB (textL l) := ⟨_, rfl⟩
  rw [← hs] at TX RT
  have HC := Aside0.mk hC
  have LDA := Aside0.mk LD
  have TXA := Aside0.mk TX
  have RTA := Aside0.mk RT
  have BCA := Aside0.mk BC
  clear hgw hC hby hlen hc LD TX RT BC hn hk hs hle
  go_enter Tryz.func8, Tryz.ntmps8
  go_wp2_with fail
  refine LDA.out.mono ?_
  rintro e w1 ⟨A1, q, rfl, hD, hq, hb⟩
  have HD := Aside0.mk hD
  have HQ := Aside0.mk hq
  have HC1 := Aside0.mk (Kd.C_below HC.out hb)
  have HB2 := Aside0.mk (below_step (by repeat (first | (with_reducible first | exact HB.out | apply below_alloc | apply pw_below_drewN | apply below_drew1) | exact HB.out)) hb)
  have HG2 := Aside0.mk (HG.out.below hb)
  clear HB HG
  have HB := HB2
  have HG := HG2
  clear HB2 HG2
  clear hb hD hq
  go_wp2_with fail
  refine (TXA.out A1 q _ HD.out HQ.out HG.out).mono ?_
  rintro e w2 ⟨rfl, hb⟩
  have HD2 := Aside0.mk (Kd.C_below HD.out hb)
  have HC2 := Aside0.mk (Kd.C_below HC1.out hb)
  have HB2 := Aside0.mk (below_step (by repeat (first | (with_reducible first | exact HB.out | apply below_alloc | apply pw_below_drewN | apply below_drew1) | exact HB.out)) hb)
  have HG2 := Aside0.mk (HG.out.below hb)
  clear HB HG
  have HB := HB2
  have HG := HG2
  clear HB2 HG2
  clear hb
  go_wp2_with fail
  refine (RTA.out _ HC2.out).mono ?_
  rintro e w3 ⟨rfl, hb⟩
  have HD3 := Aside0.mk (Kd.C_below HD2.out hb)
  have HC3 := Aside0.mk (Kd.C_below HC2.out hb)
  have HB2 := Aside0.mk (below_step (by repeat (first | (with_reducible first | exact HB.out | apply below_alloc | apply pw_below_drewN | apply below_drew1) | exact HB.out)) hb)
  have HG2 := Aside0.mk (HG.out.below hb)
  clear HB HG
  have HB := HB2
  have HG := HG2
  clear HB2 HG2
  clear hb
  go_wp2_with fail
  refine (BCA.out A1 q _ HC3.out HD3.out).mono ?_
  rintro e w4 ⟨rfl, hb⟩
  have HB2 := Aside0.mk (below_step (by repeat (first | (with_reducible first | exact HB.out | apply below_alloc | apply pw_below_drewN | apply below_drew1) | exact HB.out)) hb)
  have HG2 := Aside0.mk (HG.out.below hb)
  clear HB HG
  have HB := HB2
  have HG := HG2
  clear HB2 HG2
  clear hb
  go_wp2_with fail
  refine (awake_calls _ HG.out).mono ?_
  rintro e w5 ⟨rfl, hb⟩
  have HB2 := Aside0.mk (below_step (by repeat (first | (with_reducible first | exact HB.out | apply below_alloc | apply pw_below_drewN | apply below_drew1) | exact HB.out)) hb)
  have HG2 := Aside0.mk (HG.out.below hb)
  clear HB HG
  have HB := HB2
  have HG := HG2
  clear HB2 HG2
  clear hb
  go_wp2
  go_ret
  exact ⟨rfl, HB.out⟩

theorem asmTexts_core (H : Type) (enc : TypeId × Value → H) (W : World) (base : Nat) (v0 : Value) (d0 : DataW H) (p0 : List MemPlace)
    (o0 : Value.okWide Tryz.prog W .any base 38 v0) (h0 : DataW.Trod enc Tryz.prog W 0 (fun _ => true) true 38 v0 d0 p0) (hb : Rows.uptoBulkAll [d0] ≤ 1048576) (hg : GW W) :
    Calls Tryz.prog 8 #[v0] W fun e W' => e = .returned (.bool true) ∧ Below W.heap.size W W' := by
  obtain ⟨A0, c0, l, rfl, C0, l0, hby, hbl⟩ := open_bytes o0 h0
  simp only [Rows.uptoBulkAll] at hb
  exact texts_walk l hby (by omega) A0 c0 W hg C0 l0

end Go.Proofs.YtjapahcbhjjeiaaGreatDoor.AS
