/- strings.CutPrefix at '.word '; asm.word, for a line that does not begin so. -/
import Derived.Test.YtjapahcbhjjeiaaGreatDoorK12
import Derived.Lib.LastIndexByte
namespace Go.Proofs.YtjapahcbhjjeiaaGreatDoor.AS
open Go.RowKit Go.MapKept Go.Proofs.YtjapahcbhjjeiaaGreatDoorW.PrintWords Go.Proofs.YtjapahcbhjjeiaaGreatDoorW.PrintLast Go.Proofs.YtjapahcbhjjeiaaGreatDoorW.PrintMore Go.Proofs.YtjapahcbhjjeiaaGreatDoor.PA
set_option linter.unusedVariables false
set_option maxHeartbeats 8000000
set_option maxRecDepth 100000
set_option linter.unusedSimpArgs false

theorem dec_short : ∀ (k u : Nat), u < 10 ^ (k + 1) → (Lib.decDigits u).length ≤ k + 1
  | 0, u, h => by rw [decDigits_small (by simpa using h)]; simp
  | k + 1, u, h => by
    by_cases h1 : u < 10
    · rw [decDigits_small h1]; simp
    · rw [decDigits_big h1, List.length_append]
      have := dec_short k (u / 10) (by rw [Nat.pow_succ] at h; omega)
      simp
      omega
theorem itoa_short (n : Int) (h0 : -1099511627776 ≤ n) (h1 : n ≤ 1099511627776) : (Lib.itoa n).length ≤ 30 := by
  unfold Lib.itoa
  split
  · have := dec_short 14 n.natAbs (by omega)
    simp only [List.length_cons]
    omega
  · have := dec_short 14 n.toNat (by omega)
    omega

def dotW : List UInt8 := [46, 119, 111, 114, 100, 32]
theorem pre_len {l p : List UInt8} (h : Lib.hasPrefix l p = true) : p.length ≤ l.length := by
  unfold Lib.hasPrefix at h
  exact (List.isPrefixOf_iff_prefix.1 h).length_le

theorem pre113_calls (l : List UInt8) (hl : l.length ≤ 1099511627776) (W : World) : Calls Tryz.prog 113 #[.string (bB l), .string ⟨#[46, 119, 111, 114, 100, 32]⟩] W fun e w' => e = .returned (.tuple #[.string (bB (if Lib.hasPrefix l dotW = true then l.drop 6 else l)), .bool (Lib.hasPrefix l dotW)]) ∧ Below W.heap.size W w' := by
  have HC : ∀ W, Calls Tryz.prog 123 #[.string (bB l), .string ⟨#[46, 119, 111, 114, 100, 32]⟩] W fun e w' => e = .returned (.bool (Lib.hasPrefix l dotW)) ∧ w' = W := fun W => by
    have := Tryz.stringslite_HasPrefix (bB l) ⟨#[46, 119, 111, 114, 100, 32]⟩ W
    rw [bB_data] at this
    exact this
  by_cases h : Lib.hasPrefix l dotW = true
  · rw [if_pos h]
    have hle := pre_len h
    have h6 : 6 ≤ l.length := hle
    rw [h] at HC ⊢
    have hc2 : (6 : Int) ≤ ((bB l).size : Int) := by rw [bB_size]; omega
    have hc3 : 6 ≤ (bB l).size := by rw [bB_size]; exact h6
    have HX : Aside0 ((bB l).extract 6 (bB l).size = bB (l.drop 6)) := ⟨by rw [bB_size]; exact drop_bB l 6⟩
    rw [← HX.out]
    clear h hle hl
    go_enter Tryz.func113, Tryz.ntmps113
    go_wp2_with fail
    refine (HC _).mono ?_
    rintro e w' ⟨rfl, rfl⟩
    go_wp2
    go_ret2
    exact ⟨rfl, Below.refl _ _⟩
  · rw [if_neg h]
    have hb : Lib.hasPrefix l dotW = false := by simpa using h
    rw [hb] at HC ⊢
    clear h hb hl
    go_enter Tryz.func113, Tryz.ntmps113
    go_wp2_with fail
    refine (HC _).mono ?_
    rintro e w' ⟨rfl, rfl⟩
    go_wp2
    go_ret2
    exact ⟨rfl, Below.refl _ _⟩

theorem pre_calls (l : List UInt8) (hl : l.length ≤ 1099511627776) (W : World) : Calls Tryz.prog 73 #[.string (bB l), .string ⟨#[46, 119, 111, 114, 100, 32]⟩] W fun e w' => e = .returned (.tuple #[.string (bB (if Lib.hasPrefix l dotW = true then l.drop 6 else l)), .bool (Lib.hasPrefix l dotW)]) ∧ Below W.heap.size W w' := by
  have IC := pre113_calls l hl
  obtain ⟨r, hr⟩ : ∃ x, x = (if Lib.hasPrefix l dotW = true then l.drop 6 else l) := ⟨_, rfl⟩
  obtain ⟨b, hb⟩ : ∃ x, x = Lib.hasPrefix l dotW := ⟨_, rfl⟩
  rw [← hr, ← hb] at IC ⊢
  clear hl hb hr
  go_enter Tryz.func73, Tryz.ntmps73
  go_wp2_with fail
  refine (IC _).mono ?_
  rintro e w' ⟨rfl, hb⟩
  have HB := Aside0.mk hb
  clear hb IC
  go_wp2
  go_ret2
  exact ⟨rfl, HB.out⟩

def lastL (l : List UInt8) : Nat := (Lib.lastIndexByte (bB l) 32 + 1).toNat
theorem last_bounds (l : List UInt8) : Lib.lastIndexByte (bB l) 32 + 1 = (lastL l : Nat) ∧ lastL l ≤ l.length := by
  unfold lastL
  rcases Lib.lastIndexByte_spec (bB l) 32 with ⟨h, _⟩ | ⟨i, hi, h, _⟩
  · rw [h]; exact ⟨by omega, by omega⟩
  · rw [h]; rw [bB_size] at hi; exact ⟨by omega, by omega⟩

def instL (ps : List Mk) (at_ : Nat) (l : List UInt8) : Option Int :=
  match parseL mayL l with
  | some i => some (encL i)
  | none =>
    if lastL l = 0 then none else
    match ps.find? (fun x => x.1 == l.drop (lastL l)) with
    | none => none
    | some x => (parseL mayL (l.take (lastL l) ++ Lib.itoa ((x.2.1 : Int) - (at_ : Int)))).map encL

theorem word_inst (ps : List Mk) (at_ : Nat) (l : List UInt8) (p : Nat) (hl : l.length ≤ 1073741000) (hat : at_ ≤ 1099511627776) (hps : ∀ x ∈ ps, x.2.1 ≤ 1099511627776) (hnd : Lib.hasPrefix l dotW = false) (W : World) (hgw : GW W) (hM : MapAt W p (rowsP ps)) (hU : Uniq ps) :
    Calls Tryz.prog 49 #[.string (bB l), .map (some p), .int .i64 (at_ : Int)] W fun e w' => ∃ v ok, e = .returned (.tuple #[.int .u32 v, .bool ok]) ∧ instL ps at_ l = (if ok = true then some v else none) ∧ Below W.heap.size W w' := by
  have HB := Aside0.mk (Below.refl W.heap.size W)
  have hu23 := Tryz.underlying23
  have CP := pre_calls l (by omega)
  rw [hnd] at CP
  rw [if_neg (by decide)] at CP
  have PC := parse_calls l (by omega)
  have HG := Aside0.mk hgw
  have HM := Aside0.mk hM
  have HU := Aside0.mk hU
  have HPS := Aside0.mk hps
  have HAT := Aside0.mk hat
  have HL := Aside0.mk hl
  obtain ⟨i0, hi0⟩ : ∃ x, x = (parseL mayL l).getD zeroI := ⟨_, rfl⟩
  obtain ⟨ok, hok⟩ : ∃ x, x = (parseL mayL l).isSome := ⟨_, rfl⟩
  rw [← hi0, ← hok] at PC
  obtain ⟨kd, fn, rv, r1, r2, imm, sz, sg⟩ := i0
  unfold insV at PC
  dsimp only at PC
  have HI := Aside0.mk hi0
  have HOK := Aside0.mk hok
  clear hgw hM hU hps hat hl hi0 hok hnd
  go_enter Tryz.func49, Tryz.ntmps49
  go_wp2_with fail
  refine (CP _).mono ?_
  rintro e w3 ⟨rfl, hb⟩
  have HB3 := Aside0.mk (below_step HB.out hb)
  clear HB hb CP
  go_wp2_with fail
  refine (PC _ (HG.out.below HB3.out)).mono ?_
  rintro e w4 ⟨rfl, hb⟩
  have HB4 := Aside0.mk (below_step HB3.out hb)
  clear HB3 hb PC
  cases ok with
  | true =>
    have HP : Aside0 (parseL mayL l = some ⟨kd, fn, rv, r1, r2, imm, sz, sg⟩) := ⟨by
      have h1 := HOK.out; have h2 := HI.out
      cases h : parseL mayL l with
      | none => rw [h] at h1; cases h1
      | some j => rw [h] at h2; rw [h2]; rfl⟩
    have E : ∀ W, Calls Tryz.prog 15 #[.agg #[.int .i64 kd, .int .i64 fn, .int .i64 rv, .int .i64 r1, .int .i64 r2, .int .i64 imm, .int .i64 sz, .bool sg]] W fun e w' => e = .returned (.tuple #[.int .u32 (encL ⟨kd, fn, rv, r1, r2, imm, sz, sg⟩), .bool true]) ∧ Below W.heap.size W w' := fun W => by
      have := Encode_calls ⟨kd, fn, rv, r1, r2, imm, sz, sg⟩ W
      rw [(parseL_some HP.out).1] at this
      exact this
    go_wp2_with (first | ((with_reducible refine gate_dst (N := 12) rfl ?_); refine box_event (by rfl) (N := 12) (by rfl) (cs := #[.int .i64 0, .int .i64 0, .int .i64 0, .int .i64 0, .int .i64 0, .int .i64 0, .int .i64 0, .bool false]) (t := 23) (by first | (go_simp; done) | (go_simp; rfl)) ?_; intro g12 hg w5 hbox hb; have HX12 := Aside0.mk hbox; have HB5 := Aside0.mk (below_step HB4.out hb); have HL12 := Aside0.mk (show W.heap.size ≤ g12 by have := HB4.out.size; omega); clear hbox hb hg) | ((with_reducible refine gate_store (t := 23) rfl ?_); refine store_event rfl 23 (.tmp 12) (.tmp 41) rfl (g := g12) #[.int .i64 kd, .int .i64 fn, .int .i64 rv, .int .i64 r1, .int .i64 r2, .int .i64 imm, .int .i64 sz, .bool sg] HX12.out rfl rfl (by kernel_rfl) rfl rfl ?_; intro w6 hbox hfar hbel; have H12 := Aside0.mk hbox; have HB6 := Aside0.mk (hbel _ _ HB5.out HL12.out); clear hbox hfar hbel HX12 HB5; obtain ⟨y0, y1, y2, y3, y4, y5, y6, y7, yf0, yf1, yf2, yf3, yf4, yf5, yf6, yf7⟩ := cells8 H12.out) | fail)
    refine (E _).mono ?_
    rintro e w7 ⟨rfl, hb⟩
    have HB7 := Aside0.mk (below_step HB6.out hb)
    clear hb E
    go_wp2
    go_ret2
    exact ⟨encL ⟨kd, fn, rv, r1, r2, imm, sz, sg⟩, true, rfl, by unfold instL; rw [HP.out]; rfl, HB7.out⟩
  | false =>
    have HP : Aside0 (parseL mayL l = none) := ⟨by
      have h1 := HOK.out
      cases h : parseL mayL l with
      | none => rfl
      | some j => rw [h] at h1; cases h1⟩
    obtain ⟨lx, hlx⟩ : ∃ x, x = Lib.lastIndexByte (bB l) 32 := ⟨_, rfl⟩
    obtain ⟨kk, hkk⟩ : ∃ x, x = lastL l := ⟨_, rfl⟩
    have hlb := last_bounds l
    rw [← hlx, ← hkk] at hlb
    have LC : ∀ W, Calls Tryz.prog 75 #[.string (bB l), .string ⟨#[32]⟩] W fun e w' => e = .returned (.int .i64 lx) ∧ w' = W := fun W => by
      rw [hlx]
      exact Tryz.strings_LastIndex_one (bB l) ⟨#[32]⟩ rfl (by rw [bB_size]; have := HL.out; omega) W
    have hw : wrap64 (lx + 1) = (kk : Int) := by rw [hlb.1]; exact w64 (by omega) (by have := HL.out; omega)
    have b0 : (0 : Int) ≤ (kk : Int) := by omega
    have b1 : (kk : Int) ≤ ((bB l).size : Int) := by rw [bB_size]; omega
    have b3 : kk ≤ (bB l).size := by rw [bB_size]; omega
    have he1 : (bB l).extract 0 kk = bB (l.take kk) := take_bB l kk
    have he2 : (bB l).extract kk (bB l).size = bB (l.drop kk) := by rw [bB_size]; exact drop_bB l kk
    have HKK : Aside0 (kk = lastL l) := ⟨hkk⟩
    have HIN : Aside0 (instL ps at_ l = if kk = 0 then none else match ps.find? (fun x => x.1 == l.drop kk) with | none => none | some x => (parseL mayL (l.take kk ++ Lib.itoa ((x.2.1 : Int) - (at_ : Int)))).map encL) := ⟨by
      unfold instL
      rw [HP.out, ← hkk]⟩
    have HTK : Aside0 ((l.take kk).length ≤ 1073741000) := ⟨by have := HL.out; simp; omega⟩
    clear hlx hlb hkk
    go_wp2_with (first | ((with_reducible refine gate_dst (N := 12) rfl ?_); refine box_event (by rfl) (N := 12) (by rfl) (cs := #[.int .i64 0, .int .i64 0, .int .i64 0, .int .i64 0, .int .i64 0, .int .i64 0, .int .i64 0, .bool false]) (t := 23) (by first | (go_simp; done) | (go_simp; rfl)) ?_; intro g12 hg w5 hbox hb; have HX12 := Aside0.mk hbox; have HB5 := Aside0.mk (below_step HB4.out hb); have HL12 := Aside0.mk (show W.heap.size ≤ g12 by have := HB4.out.size; omega); clear hbox hb hg) | ((with_reducible refine gate_store (t := 23) rfl ?_); refine store_event rfl 23 (.tmp 12) (.tmp 41) rfl (g := g12) #[.int .i64 kd, .int .i64 fn, .int .i64 rv, .int .i64 r1, .int .i64 r2, .int .i64 imm, .int .i64 sz, .bool sg] HX12.out rfl rfl (by kernel_rfl) rfl rfl ?_; intro w6 hbox hfar hbel; have H12 := Aside0.mk hbox; have HB6 := Aside0.mk (hbel _ _ HB5.out HL12.out); clear hbox hfar hbel HX12 HB5; obtain ⟨y0, y1, y2, y3, y4, y5, y6, y7, yf0, yf1, yf2, yf3, yf4, yf5, yf6, yf7⟩ := cells8 H12.out) | fail)
    refine (LC _).mono ?_
    rintro e w7 ⟨rfl, rfl⟩
    have HM6 := Aside0.mk (HM.out.below HB6.out)
    have HG6 := Aside0.mk (HG.out.below HB6.out)
    clear LC
    by_cases hk0 : kk = 0
    · subst hk0
      have HN : Aside0 (instL ps at_ l = none) := ⟨by rw [HIN.out, if_pos rfl]⟩
      cases hf : ps.find? (fun x => x.1 == l.drop 0) with
      | none =>
        have hlk := missP HM6.out (m := l.drop 0) (fun x hx e => by have := List.find?_eq_none.1 hf x hx; simp [e] at this) true
        rw [if_pos rfl] at hlk
        clear hf
        simp only [List.drop_zero] at hlk he2
        go_wp2
        go_ret2
        exact ⟨0, false, rfl, by rw [HN.out]; rfl, HB6.out⟩
      | some x =>
        have hxm : x.1 = l.drop 0 := by have := List.find?_some hf; simpa using this
        have hlk := lookP HM6.out HU.out (List.mem_of_find?_eq_some hf) true
        rw [hxm, if_pos rfl] at hlk
        clear hf hxm
        simp only [List.drop_zero] at hlk he2
        go_wp2
        go_ret2
        exact ⟨0, false, rfl, by rw [HN.out]; rfl, HB6.out⟩
    · have hkz : ((kk : Int) == 0) = false := beq_f (by omega)
      have hkz' : (wrap64 (lx + 1) == 0) = false := by rw [hw]; exact hkz
      obtain ⟨nm, hnm⟩ : ∃ x, x = l.drop kk := ⟨_, rfl⟩
      rw [← hnm] at he2
      have HIN2 := Aside0.mk (HIN.out.trans (if_neg hk0))
      rw [← hnm] at HIN2
      clear hnm
      cases hf : ps.find? (fun x => x.1 == nm) with
      | none =>
        have hlk := missP HM6.out (m := nm) (fun x hx e => by have := List.find?_eq_none.1 hf x hx; simp [e] at this) true
        rw [if_pos rfl] at hlk
        have HN : Aside0 (instL ps at_ l = none) := ⟨by rw [HIN2.out, hf]⟩
        clear hf
        go_wp2
        go_ret2
        exact ⟨0, false, rfl, by rw [HN.out]; rfl, HB6.out⟩
      | some x =>
        have hxm : x.1 = nm := by have := List.find?_some hf; simpa using this
        have hmem := List.mem_of_find?_eq_some hf
        have hlk := lookP HM6.out HU.out hmem true
        rw [hxm, if_pos rfl] at hlk
        obtain ⟨pl, hpl⟩ : ∃ y, y = x.2.1 := ⟨_, rfl⟩
        rw [← hpl] at hlk
        have hpb : pl ≤ 1099511627776 := by rw [hpl]; exact HPS.out x hmem
        have HIN3 : Aside0 (instL ps at_ l = (parseL mayL (l.take kk ++ Lib.itoa ((pl : Int) - (at_ : Int)))).map encL) := ⟨by rw [HIN2.out, hf, hpl]⟩
        have hab := HAT.out
        have hsub : wrap64 ((pl : Int) - (at_ : Int)) = (pl : Int) - (at_ : Int) := w64 (by omega) (by omega)
        obtain ⟨d, hd⟩ : ∃ z : Int, z = (pl : Int) - (at_ : Int) := ⟨_, rfl⟩
        have hdb : -1099511627776 ≤ d ∧ d ≤ 1099511627776 := by omega
        have HIN4 : Aside0 (instL ps at_ l = (parseL mayL (l.take kk ++ Lib.itoa d)).map encL) := ⟨by rw [HIN3.out, ← hd]⟩
        have IT : ∀ W, GW W → Calls Tryz.prog 60 #[.int .i64 (wrap64 ((pl : Int) - (at_ : Int)))] W fun e w' => e = .returned (.string (bB (Lib.itoa d))) ∧ Below W.heap.size W w' := by
          rw [hsub, ← hd]
          exact Itoa_calls d (by omega) (by omega)
        clear hsub
        obtain ⟨tk, htk⟩ : ∃ y, y = l.take kk := ⟨_, rfl⟩
        rw [← htk] at he1 HIN4 HTK
        obtain ⟨it, hit⟩ : ∃ y, y = Lib.itoa d := ⟨_, rfl⟩
        rw [← hit] at IT HIN4
        have HILN : Aside0 (it.length ≤ 1099511627780) := ⟨by rw [hit]; have := itoa_le d; omega⟩
        have HILS : Aside0 (it.length ≤ 30) := ⟨by rw [hit]; exact itoa_short d (by omega) (by omega)⟩
        have hap : bB tk ++ bB it = bB (tk ++ it) := bB_append tk it
        have hsz : ¬ 9223372036854775807 < (bB tk).size + (bB it).size := by rw [bB_size, bB_size]; have := HTK.out; have := HILN.out; omega
        have PC := parse_calls (tk ++ it) (by rw [List.length_append]; have := HTK.out; have := HILS.out; omega)
        obtain ⟨j0, hj0⟩ : ∃ x, x = (parseL mayL (tk ++ it)).getD zeroI := ⟨_, rfl⟩
        obtain ⟨ok2, hok2⟩ : ∃ x, x = (parseL mayL (tk ++ it)).isSome := ⟨_, rfl⟩
        rw [← hj0, ← hok2] at PC
        obtain ⟨jkd, jfn, jrv, jr1, jr2, jimm, jsz, jsg⟩ := j0
        unfold insV at PC
        dsimp only at PC
        have HJ := Aside0.mk hj0
        have HOK2 := Aside0.mk hok2
        clear hf hxm hmem hpl hpb hab hd hdb htk hit hj0 hok2 HIN HIN2 HIN3
        go_upto_region 11 with fail
        refine start_ (n := 14) (S := fun w' => True) (ds := []) #[false, false, false, false, false, false, false, false, false, false, false, false, false, false] (by kernel_rfl) rfl rfl trivial (fun hHeld => ?_)
        refine pure_ (i := 0) (N := some 63) (v := ?_) (a' := ?_) #[true, false, false, false, false, false, false, false, false, false, false, false, false, false] rfl rfl (by kernel_rfl) (fun _ _ _ h => h) (Or.inl ⟨by rfl, ?_⟩) ?_ ?_
        rotate_left
        · intro w'
          go_simp
          with_reducible rfl
        rotate_left
        · simp only [Act.put, putS]
          rfl
        refine pure_ (i := 1) (N := some 64) (v := ?_) (a' := ?_) #[true, true, false, false, false, false, false, false, false, false, false, false, false, false] rfl rfl (by kernel_rfl) (fun _ _ _ h => h) (Or.inl ⟨by rfl, ?_⟩) ?_ ?_
        rotate_left
        · intro w'
          go_simp
          with_reducible rfl
        rotate_left
        · simp only [Act.put, putS]
          rfl
        refine pure_ (i := 2) (N := some 65) (v := ?_) (a' := ?_) #[true, true, true, false, false, false, false, false, false, false, false, false, false, false] rfl rfl (by kernel_rfl) (fun _ _ _ h => h) (Or.inl ⟨by rfl, ?_⟩) ?_ ?_
        rotate_left
        · intro w'
          go_simp
          with_reducible rfl
        rotate_left
        · simp only [Act.put, putS]
          rfl
        refine pure_ (i := 3) (N := some 66) (v := ?_) (a' := ?_) #[true, true, true, true, false, false, false, false, false, false, false, false, false, false] rfl rfl (by kernel_rfl) (fun _ _ _ h => h) (Or.inl ⟨by rfl, ?_⟩) ?_ ?_
        rotate_left
        · intro w'
          go_simp
          with_reducible rfl
        rotate_left
        · simp only [Act.put, putS]
          rfl
        refine pure_ (i := 4) (N := some 67) (v := ?_) (a' := ?_) #[true, true, true, true, true, false, false, false, false, false, false, false, false, false] rfl rfl (by kernel_rfl) (fun _ _ _ h => h) (Or.inl ⟨by rfl, ?_⟩) ?_ ?_
        rotate_left
        · intro w'
          go_simp
          with_reducible rfl
        rotate_left
        · simp only [Act.put, putS]
          rfl
        refine pure_ (i := 5) (N := some 68) (v := ?_) (a' := ?_) #[true, true, true, true, true, true, false, false, false, false, false, false, false, false] rfl rfl (by kernel_rfl) (fun _ _ _ h => h) (Or.inl ⟨by rfl, ?_⟩) ?_ ?_
        rotate_left
        · intro w'
          go_simp
          with_reducible rfl
        rotate_left
        · simp only [Act.put, putS]
          rfl
        refine one_ (i := 6) (N := some 69) #[true, true, true, true, true, true, true, false, false, false, false, false, false, false] rfl rfl (by kernel_rfl) (by decide) (fun K hK => ?_)
        refine goes_ Tryz.func60 (by kernel_rfl) rfl #[.int .i64 (wrap64 ((pl : Int) - (at_ : Int)))] (by rfl) rfl rfl (by simp only [List.map_toArray, List.map_cons, List.map_nil]; rfl) ?_
        refine (IT _ (HG6.out.below (below_drew1 (Below.refl _ _)))).mono ?_
        rintro e w8 ⟨rfl, hb⟩
        refine ⟨_, rfl, ?_⟩
        have B8 := Aside0.mk hb
        clear hb
        refine hK.out _ _ trivial (fun hHeld => ?_)
        clear hK K
        refine norm_ (a' := ?_) ?_ ?_
        rotate_left
        · show Act.put _ (some 69) _ = _
          simp only [Act.put, putS]
          rfl
        refine pure_ (i := 7) (N := some 70) (v := ?_) (a' := ?_) #[true, true, true, true, true, true, true, true, false, false, false, false, false, false] rfl rfl (by kernel_rfl) (fun _ _ _ h => h) (Or.inl ⟨by rfl, ?_⟩) ?_ ?_
        rotate_left
        · intro w'
          go_simp
          with_reducible rfl
        rotate_left
        · simp only [Act.put, putS]
          rfl
        refine one_ (i := 8) (N := some 71) #[true, true, true, true, true, true, true, true, true, false, false, false, false, false] rfl rfl (by kernel_rfl) (by decide) (fun K hK => ?_)
        refine goes_ Tryz.func13 (by kernel_rfl) rfl #[.string (bB (tk ++ it))] (by rfl) rfl rfl (by simp only [List.map_toArray, List.map_cons, List.map_nil]; rfl) ?_
        refine (PC _ ((HG6.out.below (below_drew1 (Below.refl _ _))).below B8.out)).mono ?_
        rintro e w9 ⟨rfl, hb⟩
        refine ⟨_, rfl, ?_⟩
        have B9 := Aside0.mk hb
        clear hb
        refine hK.out _ _ trivial (fun hHeld => ?_)
        clear hK K
        refine norm_ (a' := ?_) ?_ ?_
        rotate_left
        · show Act.put _ (some 71) _ = _
          simp only [Act.put, putS]
          rfl
        refine pure_ (i := 9) (N := some 62) (v := ?_) (a' := ?_) #[true, true, true, true, true, true, true, true, true, true, false, false, false, false] rfl rfl (by kernel_rfl) (fun _ _ _ h => h) (Or.inl ⟨by rfl, ?_⟩) ?_ ?_
        rotate_left
        · intro w'
          go_simp
          with_reducible rfl
        rotate_left
        · simp only [Act.put, putS]
          rfl
        refine pure_ (i := 10) (N := some 72) (v := ?_) (a' := ?_) #[true, true, true, true, true, true, true, true, true, true, true, false, false, false] rfl rfl (by kernel_rfl) (fun _ _ _ h => h) (Or.inl ⟨by rfl, ?_⟩) ?_ ?_
        rotate_left
        · intro w'
          go_simp
          with_reducible rfl
        rotate_left
        · simp only [Act.put, putS]
          rfl
        refine pure_ (i := 11) (N := some 73) (v := ?_) (a' := ?_) #[true, true, true, true, true, true, true, true, true, true, true, true, false, false] rfl rfl (by kernel_rfl) (fun _ _ _ h => h) (Or.inl ⟨by rfl, ?_⟩) ?_ ?_
        rotate_left
        · intro w'
          go_simp
          with_reducible rfl
        rotate_left
        · simp only [Act.put, putS]
          rfl
        refine one_ (i := 12) (N := none) #[true, true, true, true, true, true, true, true, true, true, true, true, true, false] rfl rfl (by kernel_rfl) (by decide) (fun K hK => ?_)
        refine skip_ (by rfl) rfl (run_store_row 23 (.tmp 12) (.tmp 72) rfl #[.int .i64 jkd, .int .i64 jfn, .int .i64 jrv, .int .i64 jr1, .int .i64 jr2, .int .i64 jimm, .int .i64 jsz, .bool jsg] (blk_below (blk_below (blk_drew H12.out) B8.out) B9.out) rfl rfl (by kernel_rfl) rfl rfl) ?_
        refine hK.out _ _ trivial (fun hHeld => ?_)
        clear hK K
        refine pure_ (i := 13) (N := some 13) (v := ?_) (a' := ?_) #[true, true, true, true, true, true, true, true, true, true, true, true, true, true] rfl rfl (by kernel_rfl) (fun _ _ _ h => h) (Or.inl ⟨by rfl, ?_⟩) ?_ ?_
        rotate_left
        · intro w'
          go_simp
          with_reducible rfl
        rotate_left
        · simp only [Act.put, putS]
          rfl
        refine done_ (by kernel_rfl) ?_
        have H12' := Aside0.mk (setRow_heap _ g12 _ #[.int .i64 jkd, .int .i64 jfn, .int .i64 jrv, .int .i64 jr1, .int .i64 jr2, .int .i64 jimm, .int .i64 jsz, .bool jsg] 23 (0, 0) (blk_below (blk_below (blk_drew H12.out) B8.out) B9.out))
        have HB12 := Aside0.mk (row_below (g := g12) (cs := #[.int .i64 jkd, .int .i64 jfn, .int .i64 jrv, .int .i64 jr1, .int .i64 jr2, .int .i64 jimm, .int .i64 jsz, .bool jsg]) (below_step (below_step (below_drew1 HB6.out) B8.out) B9.out) HL12.out)
        obtain ⟨w10, hw10⟩ : ∃ x, x = w9.setRow g12 #[.int .i64 jkd, .int .i64 jfn, .int .i64 jrv, .int .i64 jr1, .int .i64 jr2, .int .i64 jimm, .int .i64 jsz, .bool jsg] := ⟨_, rfl⟩
        have H10 := H12'
        have HB10 := HB12
        rw [← hw10] at H10 HB10 ⊢
        clear hw10 H12' HB12
        cases ok2 with
        | false =>
          have HN : Aside0 (instL ps at_ l = none) := ⟨by
            rw [HIN4.out]
            have h1 := HOK2.out
            cases h : parseL mayL (tk ++ it) with
            | none => rfl
            | some j => rw [h] at h1; cases h1⟩
          go_wp2
          go_ret2
          exact ⟨0, false, rfl, by rw [HN.out]; rfl, HB10.out⟩
        | true =>
          have HP2 : Aside0 (parseL mayL (tk ++ it) = some ⟨jkd, jfn, jrv, jr1, jr2, jimm, jsz, jsg⟩) := ⟨by
            have h1 := HOK2.out; have h2 := HJ.out
            cases h : parseL mayL (tk ++ it) with
            | none => rw [h] at h1; cases h1
            | some j => rw [h] at h2; rw [h2]; rfl⟩
          have E : ∀ W, Calls Tryz.prog 15 #[.agg #[.int .i64 jkd, .int .i64 jfn, .int .i64 jrv, .int .i64 jr1, .int .i64 jr2, .int .i64 jimm, .int .i64 jsz, .bool jsg]] W fun e w' => e = .returned (.tuple #[.int .u32 (encL ⟨jkd, jfn, jrv, jr1, jr2, jimm, jsz, jsg⟩), .bool true]) ∧ Below W.heap.size W w' := fun W => by
            have := Encode_calls ⟨jkd, jfn, jrv, jr1, jr2, jimm, jsz, jsg⟩ W
            rw [(parseL_some HP2.out).1] at this
            exact this
          clear y0 y1 y2 y3 y4 y5 y6 y7 yf0 yf1 yf2 yf3 yf4 yf5 yf6 yf7; obtain ⟨j0, j1, j2, j3, j4, j5, j6, j7, jf0, jf1, jf2, jf3, jf4, jf5, jf6, jf7⟩ := cells8 H10.out
          go_wp2_with fail
          refine (E _).mono ?_
          rintro e w11 ⟨rfl, hb⟩
          have HB11 := Aside0.mk (below_step HB10.out hb)
          clear hb E
          go_wp2
          go_ret2
          exact ⟨encL ⟨jkd, jfn, jrv, jr1, jr2, jimm, jsz, jsg⟩, true, rfl, by rw [HIN4.out, HP2.out]; rfl, HB11.out⟩

end Go.Proofs.YtjapahcbhjjeiaaGreatDoor.AS
