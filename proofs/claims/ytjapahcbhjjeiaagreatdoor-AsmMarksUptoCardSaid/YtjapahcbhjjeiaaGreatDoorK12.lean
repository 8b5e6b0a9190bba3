/- Several texts in one. -/
import Derived.Test.YtjapahcbhjjeiaaGreatDoorK9
import Derived.Lib.TrimByte
import Derived.Lib.IndexLaws
/- strings.Cut at a line feed; asm.lines. -/
namespace Go.Proofs.YtjapahcbhjjeiaaGreatDoor.AS
open Go.RowKit Go.Proofs.YtjapahcbhjjeiaaGreatDoorW.PrintWords Go.Proofs.YtjapahcbhjjeiaaGreatDoorW.PrintLast Go.Proofs.YtjapahcbhjjeiaaGreatDoorW.PrintMore Go.Proofs.YtjapahcbhjjeiaaGreatDoor.PA
set_option linter.unusedVariables false
set_option maxHeartbeats 8000000
set_option maxRecDepth 100000
set_option linter.unusedSimpArgs false

def linesB (text : List UInt8) : List (List UInt8) := (cutLines [] text).map fun l => Lib.trimB l 32

theorem linesB_cut {l p q : List UInt8} (h : l = p ++ 10 :: q) (hp : ∀ x ∈ p, x ≠ 10) : linesB l = Lib.trimB p 32 :: linesB q := by
  unfold linesB
  rw [h, cutLines_line p [] q hp]
  simp
theorem cutLines_all : ∀ (l cur : List UInt8), (∀ x ∈ l, x ≠ 10) → cutLines cur l = if cur ++ l = [] then [] else [cur ++ l]
  | [], cur, _ => by simp [cutLines]
  | b :: r, cur, h => by
    rw [cutLines, if_neg (h b (List.mem_cons_self ..)), cutLines_all r _ (fun x hx => h x (List.mem_cons_of_mem _ hx))]
    simp
theorem linesB_last {l : List UInt8} (h : ∀ x ∈ l, x ≠ 10) (hne : l ≠ []) : linesB l = [Lib.trimB l 32] := by
  unfold linesB
  rw [cutLines_all l [] h]
  simp [hne]
theorem linesB_nil : linesB [] = [] := rfl
theorem trimB_len (l : List UInt8) (c : UInt8) : (Lib.trimB l c).length ≤ l.length := by
  unfold Lib.trimB Lib.trimLeftB Lib.trimRightB
  have h1 := (List.dropWhile_sublist (fun x => x == c) (l := (List.dropWhile (fun x => x == c) l.reverse).reverse)).length_le
  have h2 := (List.dropWhile_sublist (fun x => x == c) (l := l.reverse)).length_le
  simp only [List.length_reverse] at h1 h2
  omega

theorem bB_data (l : List UInt8) : (bB l).data.toList = l := by simp [bB]
theorem take_bB (l : List UInt8) (b : Nat) : (bB l).extract 0 b = bB (l.take b) := by
  have := ext_bB l 0 b
  simpa using this
theorem drop_bB (l : List UInt8) (a : Nat) : (bB l).extract a l.length = bB (l.drop a) := by
  have := ext_bB l a l.length
  rw [this, List.take_of_length_le (by simp)]

theorem cut104_calls (l : List UInt8) (hl : l.length ≤ 1099511627776) (W : World) : Calls Tryz.prog 104 #[.string (bB l), .string ⟨#[10]⟩] W fun e w' => ∃ p q b, e = .returned (.tuple #[.string (bB p), .string (bB q), .bool b]) ∧ ((b = true ∧ l = p ++ 10 :: q ∧ ∀ x ∈ p, x ≠ 10) ∨ (b = false ∧ p = l ∧ q = [] ∧ ∀ x ∈ l, x ≠ 10)) ∧ Below W.heap.size W w' := by
  have HL := Aside0.mk hl
  obtain ⟨ix, hix⟩ : ∃ x, x = Lib.indexByte l 10 := ⟨_, rfl⟩
  have IC : ∀ W, Calls Tryz.prog 139 #[.string (bB l), .string ⟨#[10]⟩] W fun e w' => e = .returned (.int .i64 ix) ∧ w' = W := fun W => by
    have := Tryz.stringslite_Index_one (bB l) 10 W
    rw [bB_data, ← hix] at this
    exact this
  have hge := Lib.indexByte_ge l 10
  rw [← hix] at hge
  clear hl
  by_cases h0 : ix = -1
  · have HN : Aside0 (∀ x ∈ l, x ≠ 10) := ⟨by
      intro x hx e
      obtain ⟨k, hk, rfl⟩ := List.getElem_of_mem hx
      exact Lib.indexByte_none (hix.symm.trans h0) k (by rw [List.getElem?_eq_getElem hk, e])⟩
    subst h0
    clear hix hge
    go_enter Tryz.func104, Tryz.ntmps104
    go_wp2_with fail
    refine (IC _).mono ?_
    rintro e w' ⟨rfl, rfl⟩
    go_wp2
    go_ret3
    exact ⟨l, [], false, rfl, .inr ⟨rfl, rfl, rfl, HN.out⟩, Below.refl _ _⟩
  · obtain ⟨k, rfl⟩ : ∃ k : Nat, ix = k := ⟨ix.toNat, by omega⟩
    have hs := Lib.indexByte_some hix.symm
    have hkl : k < l.length := by
      rcases Nat.lt_or_ge k l.length with h | h
      · exact h
      · have := hs.1
        rw [List.getElem?_eq_none h] at this
        cases this
    have HS : Aside0 (l = l.take k ++ 10 :: l.drop (k + 1) ∧ ∀ x ∈ l.take k, x ≠ 10) := ⟨by
      have h1 : l[k] = 10 := by have := hs.1; rw [List.getElem?_eq_getElem hkl] at this; injection this
      refine ⟨?_, ?_⟩
      · conv => lhs; rw [← List.take_append_drop k l]
        rw [List.drop_eq_getElem_cons hkl, h1]
      · intro x hx e
        obtain ⟨j, hj, rfl⟩ := List.getElem_of_mem hx
        simp only [List.length_take] at hj
        have := hs.2 j (by omega)
        apply this
        rw [List.getElem?_eq_getElem (by omega)]
        simp only [List.getElem_take] at e
        rw [e]⟩
    have b0 : (0 : Int) ≤ (k : Int) := by omega
    have b1 : (k : Int) ≤ ((bB l).size : Int) := by rw [bB_size]; omega
    have b3 : k ≤ (bB l).size := by rw [bB_size]; omega
    have b4 : k + 1 ≤ (bB l).size := by rw [bB_size]; omega
    have hz : decide ((k : Int) ≥ 0) = true := by simp
    have hz' : decide (0 ≤ (k : Int)) = true := by simp
    have hk40 : (k : Int) ≤ 1099511627776 := by have := HL.out; omega
    have he1 : (bB l).extract 0 k = bB (l.take k) := take_bB l k
    have he2 : (bB l).extract (k + 1) (bB l).size = bB (l.drop (k + 1)) := by rw [bB_size]; exact drop_bB l (k + 1)
    have hc0 : wrap64 ((k : Int) + 1) = (k : Int) + 1 := w64 (by omega) (by omega)
    have hc1 : 0 ≤ wrap64 ((k : Int) + 1) := by rw [hc0]; omega
    have hc2 : wrap64 ((k : Int) + 1) ≤ ((bB l).size : Int) := by rw [hc0, bB_size]; omega
    have hc3 : (wrap64 ((k : Int) + 1)).toNat = k + 1 := by rw [hc0]; omega
    clear hix hge hs h0 hkl hc0
    go_enter Tryz.func104, Tryz.ntmps104
    go_wp2_with fail
    refine (IC _).mono ?_
    rintro e w' ⟨rfl, rfl⟩
    go_upto_region 3 with fail
    refine start_ (n := 12) (S := fun w' => True) (ds := []) #[false, false, false, false, false, false, false, false, false, false, false, false] (by kernel_rfl) rfl rfl trivial (fun hHeld => ?_)
    refine pure_ (i := 0) (N := some 13) (v := ?_) (a' := ?_) #[true, false, false, false, false, false, false, false, false, false, false, false] rfl rfl (by kernel_rfl) (fun _ _ _ h => h) (Or.inl ⟨by rfl, ?_⟩) ?_ ?_
    rotate_left
    · intro w'
      go_simp
      with_reducible rfl
    rotate_left
    · simp only [Act.put, putS]
      rfl
    refine pure_ (i := 1) (N := some 14) (v := ?_) (a' := ?_) #[true, true, false, false, false, false, false, false, false, false, false, false] rfl rfl (by kernel_rfl) (fun _ _ _ h => h) (Or.inl ⟨by rfl, ?_⟩) ?_ ?_
    rotate_left
    · intro w'
      go_simp
      with_reducible rfl
    rotate_left
    · simp only [Act.put, putS]
      rfl
    refine pure_ (i := 2) (N := some 15) (v := ?_) (a' := ?_) #[true, true, true, false, false, false, false, false, false, false, false, false] rfl rfl (by kernel_rfl) (fun _ _ _ h => h) (Or.inl ⟨by rfl, ?_⟩) ?_ ?_
    rotate_left
    · intro w'
      go_simp
      with_reducible rfl
    rotate_left
    · simp only [Act.put, putS]
      rfl
    refine pure_ (i := 3) (N := some 16) (v := ?_) (a' := ?_) #[true, true, true, true, false, false, false, false, false, false, false, false] rfl rfl (by kernel_rfl) (fun _ _ _ h => h) (Or.inl ⟨by rfl, ?_⟩) ?_ ?_
    rotate_left
    · intro w'
      go_simp
      with_reducible rfl
    rotate_left
    · simp only [Act.put, putS]
      rfl
    refine pure_ (i := 4) (N := some 17) (v := ?_) (a' := ?_) #[true, true, true, true, true, false, false, false, false, false, false, false] rfl rfl (by kernel_rfl) (fun _ _ _ h => h) (Or.inl ⟨by rfl, ?_⟩) ?_ ?_
    rotate_left
    · intro w'
      go_simp
      with_reducible rfl
    rotate_left
    · simp only [Act.put, putS]
      rfl
    refine pure_ (i := 5) (N := some 18) (v := ?_) (a' := ?_) #[true, true, true, true, true, true, false, false, false, false, false, false] rfl rfl (by kernel_rfl) (fun _ _ _ h => h) (Or.inl ⟨by rfl, ?_⟩) ?_ ?_
    rotate_left
    · intro w'
      go_simp
      with_reducible rfl
    rotate_left
    · simp only [Act.put, putS]
      rfl
    refine pure_ (i := 6) (N := some 19) (v := ?_) (a' := ?_) #[true, true, true, true, true, true, true, false, false, false, false, false] rfl rfl (by kernel_rfl) (fun _ _ _ h => h) (Or.inl ⟨by rfl, ?_⟩) ?_ ?_
    rotate_left
    · intro w'
      go_simp
      with_reducible rfl
    rotate_left
    · simp only [Act.put, putS]
      rfl
    refine pure_ (i := 7) (N := some 20) (v := ?_) (a' := ?_) #[true, true, true, true, true, true, true, true, false, false, false, false] rfl rfl (by kernel_rfl) (fun _ _ _ h => h) (Or.inl ⟨by rfl, ?_⟩) ?_ ?_
    rotate_left
    · intro w'
      go_simp
      with_reducible rfl
    rotate_left
    · simp only [Act.put, putS]
      rfl
    refine pure_ (i := 8) (N := some 21) (v := ?_) (a' := ?_) #[true, true, true, true, true, true, true, true, true, false, false, false] rfl rfl (by kernel_rfl) (fun _ _ _ h => h) (Or.inl ⟨by rfl, ?_⟩) ?_ ?_
    rotate_left
    · intro w'
      go_simp
      with_reducible rfl
    rotate_left
    · simp only [Act.put, putS]
      rfl
    refine pure_ (i := 9) (N := some 4) (v := ?_) (a' := ?_) #[true, true, true, true, true, true, true, true, true, true, false, false] rfl rfl (by kernel_rfl) (fun _ _ _ h => h) (Or.inl ⟨by rfl, ?_⟩) ?_ ?_
    rotate_left
    · intro w'
      go_simp
      with_reducible rfl
    rotate_left
    · simp only [Act.put, putS]
      rfl
    refine pure_ (i := 10) (N := some 5) (v := ?_) (a' := ?_) #[true, true, true, true, true, true, true, true, true, true, true, false] rfl rfl (by kernel_rfl) (fun _ _ _ h => h) (Or.inl ⟨by rfl, ?_⟩) ?_ ?_
    rotate_left
    · intro w'
      go_simp
      with_reducible rfl
    rotate_left
    · simp only [Act.put, putS]
      rfl
    refine pure_ (i := 11) (N := some 6) (v := ?_) (a' := ?_) #[true, true, true, true, true, true, true, true, true, true, true, true] rfl rfl (by kernel_rfl) (fun _ _ _ h => h) (Or.inl ⟨by rfl, ?_⟩) ?_ ?_
    rotate_left
    · intro w'
      go_simp
      with_reducible rfl
    rotate_left
    · simp only [Act.put, putS]
      rfl
    refine done_ (by kernel_rfl) ?_
    go_wp2
    go_ret3
    exact ⟨l.take k, l.drop (k + 1), true, by rw [← he1, ← he2]; rfl, .inl ⟨rfl, HS.out.1, HS.out.2⟩, below_drew1 (Below.refl _ _)⟩

theorem cut_calls (l : List UInt8) (hl : l.length ≤ 1099511627776) (W : World) : Calls Tryz.prog 69 #[.string (bB l), .string ⟨#[10]⟩] W fun e w' => ∃ p q b, e = .returned (.tuple #[.string (bB p), .string (bB q), .bool b]) ∧ ((b = true ∧ l = p ++ 10 :: q ∧ ∀ x ∈ p, x ≠ 10) ∨ (b = false ∧ p = l ∧ q = [] ∧ ∀ x ∈ l, x ≠ 10)) ∧ Below W.heap.size W w' := by
  have IC := cut104_calls l hl
  clear hl
  go_enter Tryz.func69, Tryz.ntmps69
  go_wp2_with fail
  refine (IC _).mono ?_
  rintro e w' ⟨p, q, b, rfl, hpq, hb⟩
  have HP := Aside0.mk hpq
  have HB := Aside0.mk hb
  clear hpq hb IC
  go_wp2
  go_ret3
  exact ⟨p, q, b, rfl, HP.out, HB.out⟩

def szOf : Value → Nat
  | .string s => s.size
  | _ => 0

theorem lines_calls (l : List UInt8) (hl : l.length ≤ 1073741824) (W : World) : Calls Tryz.prog 45 #[.string (bB l)] W fun e w' => ∃ v, e = .returned v ∧ Kd.R Kd.string 9 w' W.heap.size (fun _ => True) v ((linesB l).map bB) ∧ Below W.heap.size W w' := by
  have HL := Aside0.mk hl
  clear hl
  obtain ⟨tot, htot⟩ : ∃ x, x = linesB l := ⟨_, rfl⟩
  rw [← htot]
  have HT := Aside0.mk htot
  clear htot
  go_enter Tryz.func45, Tryz.ntmps45
  go_wp2
  go_loopw [0, 3] (fun v0 v3 wr => ∃ (rest : List UInt8) (acc : List (List UInt8)), v0 = .string (bB rest) ∧ Kd.R Kd.string 9 wr W.heap.size (fun _ => True) v3 (acc.map bB) ∧ Below W.heap.size W wr ∧ acc ++ linesB rest = tot ∧ acc.length + rest.length ≤ l.length) (fun v0 _ _ => szOf v0)
  case atStart => exact ⟨l, [], rfl, Kd.R_nil _ _ _ _ _, Below.refl _ _, by rw [HT.out]; rfl, by simp⟩
  case round =>
    obtain ⟨rest, acc, rfl, hR, hB, hsp, hwl⟩ := hrel
    have HB := Aside0.mk hB
    have HSP := Aside0.mk hsp
    have HWL0 := Aside0.mk hwl
    obtain ⟨A3, c3, hv3⟩ := Kd.R_slice hR
    subst hv3
    obtain ⟨m, hm⟩ : ∃ m, m = (acc.map bB).length := ⟨_, rfl⟩
    rw [← hm] at hR ⊢
    have HR := Aside0.mk hR
    clear hR hB hsp hwl hm
    by_cases hr : rest = []
    · subst hr
      have HE : Aside0 (acc = tot) := ⟨by have := HSP.out; rw [linesB_nil, List.append_nil] at this; exact this⟩
      have hd : decide (((bB ([] : List UInt8)).size : Int) > 0) = false := rfl
      go_wp2
      go_ret
      exact ⟨_, rfl, by rw [← HE.out]; exact HR.out, HB.out⟩
    · have hpos : 0 < rest.length := List.length_pos_iff.2 hr
      have hd : decide (((bB rest).size : Int) > 0) = true := by rw [bB_size]; simp; omega
      have hd2 : decide (0 < ((bB rest).size : Int)) = true := by rw [bB_size]; simp; omega
      have HNE := Aside0.mk hr
      have hrl : rest.length ≤ 1073741824 := by have := HL.out; have := HWL0.out; omega
      have CC := cut_calls rest (by omega)
      have HRL := Aside0.mk hrl
      clear hr hrl
      go_wp2_with fail
      refine (CC _).mono ?_
      rintro e w4 ⟨p, q, b, rfl, hpq, hb⟩
      have HB4 := Aside0.mk (below_step HB.out hb)
      have HR4 := Aside0.mk (Kd.R_below HR.out hb)
      have HPQ := Aside0.mk hpq
      have HPL : Aside0 (p.length ≤ 1073741824 ∧ q.length < rest.length ∧ acc ++ [Lib.trimB p 32] ++ linesB q = tot ∧ acc.length + 1 + q.length ≤ l.length) := ⟨by
        have h1 := HSP.out
        have h2 := HRL.out
        have h3 := HWL0.out
        rcases hpq with ⟨_, h, hp⟩ | ⟨_, rfl, rfl, hp⟩
        · rw [linesB_cut h hp] at h1
          have h4 := congrArg List.length h
          simp only [List.length_append, List.length_cons] at h4
          exact ⟨by omega, by omega, by rw [← h1, List.append_assoc]; rfl, by omega⟩
        · rw [linesB_last hp HNE.out] at h1
          exact ⟨h2, by simpa using hpos, by rw [linesB_nil, List.append_nil]; exact h1, by simp; omega⟩⟩
      clear hb hpq CC HR HB hd hd2 hpos
      have TC : ∀ W, Calls Tryz.prog 70 #[.string (bB p), .string ⟨#[32]⟩] W fun e w' => e = .returned (.string (bB (Lib.trimB p 32))) ∧ Below W.heap.size W w' := fun W => by
        have h := Tryz.strings_Trim_one (bB p) 32 (by decide) W (by rw [bB_size]; have := HPL.out.1; omega)
        rw [bB_data] at h
        refine h.mono ?_
        rintro e w' ⟨rfl, rfl | rfl⟩
        · exact ⟨rfl, Below.refl _ _⟩
        · exact ⟨rfl, below_drew1 (Below.refl _ _)⟩
      go_wp2_with fail
      refine (TC _).mono ?_
      rintro e w5 ⟨rfl, hb⟩
      have HBw := Aside0.mk (below_step HB4.out hb)
      have HRw := Aside0.mk (Kd.R_below HR4.out hb)
      have HWL : Aside0 (acc.length ≤ l.length) := ⟨by have := HPL.out.2.2.2; omega⟩
      obtain ⟨cur, hcur⟩ : ∃ x, x = Lib.trimB p 32 := ⟨_, rfl⟩
      rw [← hcur]
      have HC := Aside0.mk hcur
      clear hb TC HR4 HB4 hcur
      go_wp2_with (first | ((with_reducible refine gate_dst (N := 20) rfl ?_); at_builtin; refine Kd.R_append Kd.string (w0 := W) W.heap.size rfl (.tmp 16) (.tmp 19) 36 9 (.string ⟨#[]⟩) 16 rfl Tryz.underlying36 infoS rfl (by decide) (by decide) (.slice A3 m c3) (acc.map bB) (bB cur) [.string (bB cur)] (fun _ => True) (fun _ => False) rfl rfl ?aP (fun _ h => h.elim) (fun _ _ => trivial) ?aO ?aB ?aS ?aL ?_; (case aP => exact rfl); (case aO => exact HRw.out); (case aB => exact HBw.out); (case aS => exact (HBw.out).size); (case aL => have h1 := HWL.out; have h2 := HL.out; simp; omega); intro v7 w7 ho hb hg hat; have HR7 := Aside0.mk ho; have HB7 := Aside0.mk hb; clear ho hb hg hat) | fail)
      go_wp2
      go_roundw
      case rel => exact ⟨q, acc ++ [cur], rfl, by rw [List.map_append]; exact HR7.out, HB7.out, by rw [HC.out]; exact HPL.out.2.2.1, by have := HPL.out.2.2.2; simp; omega⟩
      case measure =>
        have := HPL.out.2.1
        simp only [szOf, bB_size]
        omega

end Go.Proofs.YtjapahcbhjjeiaaGreatDoor.AS

/- asm.nothing, asm.named and asm.mark by their contracts. -/
namespace Go.Proofs.YtjapahcbhjjeiaaGreatDoor.AS
open Go.RowKit Go.Proofs.YtjapahcbhjjeiaaGreatDoorW.PrintWords Go.Proofs.YtjapahcbhjjeiaaGreatDoorW.PrintLast Go.Proofs.YtjapahcbhjjeiaaGreatDoorW.PrintMore Go.Proofs.YtjapahcbhjjeiaaGreatDoor.PA
set_option linter.unusedVariables false
set_option maxHeartbeats 8000000
set_option maxRecDepth 100000
set_option linter.unusedSimpArgs false

theorem nothing_f (l : List UInt8) : asm_nothing.f (bB l) = some (nothingL l) := by
  unfold asm_nothing.f
  rw [toList_bB]
  cases l with
  | nil => rfl
  | cons b r =>
    have hs : (0 : Int) < ((bB (b :: r)).size : Int) := by rw [bB_size]; simp only [List.length_cons]; omega
    rw [if_neg (by simp), if_pos hs]
    have h0 : (0 : Int).toNat < (bB (b :: r)).size := by rw [bB_size]; simp
    have hb : bt (bB (b :: r)) 0 = (b.toNat : Int) := by rw [← bt_at _ _ h0]; rfl
    rw [hb]
    unfold nothingL
    simp only [List.isEmpty_cons, Bool.false_or, List.head?_cons]
    congr 1
    by_cases h : b = 35
    · subst h; rfl
    · have : b.toNat ≠ 35 := fun e => h (UInt8.toNat_inj.1 e)
      rw [beq_f (by omega)]
      symm
      simp [h]
theorem nothing_calls (l : List UInt8) (W : World) : Calls Tryz.prog 47 #[.string (bB l)] W fun e w' => e = .returned (.bool (nothingL l)) ∧ Below W.heap.size W w' := by
  refine (asm_nothing.calls _ _ W (nothing_f l)).mono ?_
  rintro e w' ⟨rfl, ⟨n, rfl⟩⟩
  exact ⟨rfl, pw_below_drewN (Below.refl _ _) _⟩

def chk (pos : Nat) (l : List UInt8) : Bool := if pos = 0 then namedL l else (l.drop pos).all isTail
theorem chk_next {l : List UInt8} {pos : Nat} {x : UInt8} {r : List UInt8} (hd : l.drop pos = x :: r) (h : isLow x = true ∨ (0 < pos ∧ isTail x = true)) : chk pos l = chk (pos + 1) l := by
  have h2 : l.drop (pos + 1) = r := by rw [← List.drop_drop, hd]; rfl
  unfold chk
  rw [if_neg (by omega : ¬ pos + 1 = 0), h2]
  by_cases h0 : pos = 0
  · subst h0
    rw [if_pos rfl]
    rw [List.drop_zero] at hd
    subst hd
    rcases h with h | ⟨h, _⟩
    · simp [namedL, h]
    · omega
  · rw [if_neg h0, hd, List.all_cons]
    have : isTail x = true := by
      rcases h with h | ⟨_, h⟩
      · unfold isTail; rw [h]; rfl
      · exact h
    rw [this, Bool.true_and]
theorem chk_stop {l : List UInt8} {pos : Nat} {x : UInt8} {r : List UInt8} (hd : l.drop pos = x :: r) (h1 : isLow x = false) (h2 : pos = 0 ∨ isTail x = false) : chk pos l = false := by
  unfold chk
  by_cases h0 : pos = 0
  · subst h0
    rw [if_pos rfl]
    rw [List.drop_zero] at hd
    subst hd
    simp [namedL, h1]
  · rw [if_neg h0, hd, List.all_cons]
    rcases h2 with h | h
    · exact absurd h h0
    · rw [h, Bool.false_and]
theorem low_int (x : UInt8) : isLow x = (decide (97 ≤ (x.toNat : Int)) && decide ((x.toNat : Int) ≤ 122)) := by
  unfold isLow
  congr 1 <;> (apply decide_eq_decide.2; omega)

theorem named_calls (l : List UInt8) (hl : l.length ≤ 1099511627776) (W : World) : Calls Tryz.prog 72 #[.string (bB l)] W fun e w' => e = .returned (.bool (namedL l)) ∧ Below W.heap.size W w' := by
  have HL := Aside0.mk hl
  clear hl
  obtain ⟨tot, htot⟩ : ∃ x, x = namedL l := ⟨_, rfl⟩
  rw [← htot]
  have HT := Aside0.mk htot
  clear htot
  go_enter Tryz.func72, Tryz.ntmps72
  go_wp2
  go_loopw [3] (fun v3 wr => ∃ (pos : Nat), wr.heap[W.heap.size]? = some (.stringIter (bB l) pos) ∧ Below W.heap.size W wr ∧ chk pos l = tot ∧ pos ≤ l.length) (fun _ wr => l.length - wr.iterPos W.heap.size)
  case atStart => exact ⟨0, World.iter_heap _ _ _, below_alloc (Below.refl _ _) _, by rw [HT.out]; rfl, Nat.zero_le _⟩
  case round =>
    obtain ⟨pos, hit, hB, hch, hpl⟩ := hrel
    have Hit := Aside0.mk hit
    have HB := Aside0.mk hB
    have HCH := Aside0.mk hch
    have HPL := Aside0.mk hpl
    by_cases hp : pos < l.length
    · have HP := Aside0.mk hp
      have hps : pos < (bB l).size := by rw [bB_size]; exact hp
      obtain ⟨x, hx⟩ : ∃ x, x = l[pos]'hp := ⟨_, rfl⟩
      have hdr : l.drop pos = x :: l.drop (pos + 1) := by rw [hx]; exact List.drop_eq_getElem_cons hp
      have hdc := decode_cases l pos hp
      rw [← hx] at hdc
      have HDR := Aside0.mk hdr
      obtain ⟨n, hn⟩ : ∃ n, n = (Utf8.decode (bB l) pos).2 := ⟨_, rfl⟩
      obtain ⟨r, hr⟩ : ∃ r, r = (Utf8.decode (bB l) pos).1 := ⟨_, rfl⟩
      obtain ⟨wi, hwi⟩ : ∃ w, w = wr.iterAt W.heap.size (bB l) (pos + n) := ⟨_, rfl⟩
      obtain ⟨ri, hri⟩ : ∃ z : Int, z = (r : Int) := ⟨_, rfl⟩
      have hnx : ∀ ty, (Instr.next (.pointer (some ⟨W.heap.size, 0, none⟩)) true ty).run Tryz.prog wr = .ok (.tuple #[.bool true, .int .i64 pos, .int .i32 ri]) wi := fun ty => by
        rw [Lib.run_next_any_at wr W.heap.size (bB l) pos ty Hit.out hps, hwi, hn, hri, hr]
      have Hiti : Aside0 (wi.heap[W.heap.size]? = some (.stringIter (bB l) (pos + n))) := ⟨by rw [hwi]; exact Lib.iterAt_heap _ _ _ _ _ Hit.out⟩
      have HBi : Aside0 (Below W.heap.size W wi) := ⟨by rw [hwi]; exact Lib.below_iterAt HB.out (Nat.le_refl _) _ _⟩
      have HDC : Aside0 (0 ≤ ri ∧ ((ri = (x.toNat : Int) ∧ n = 1 ∧ x.toNat < 128) ∨ (128 ≤ ri ∧ 128 ≤ x.toNat))) := ⟨by
        rw [← hn, ← hr] at hdc
        refine ⟨by omega, ?_⟩
        rcases hdc with ⟨h1, h2, h3⟩ | ⟨h1, h2, h3, h4⟩
        · left; exact ⟨by omega, h2, h3⟩
        · right
          have h5 : 128 ≤ x.toNat := by rw [hx]; exact h4 0 (by omega) (by omega)
          exact ⟨by omega, h5⟩⟩
      clear hit hB hch hpl hp hps hn hr hwi hdr hdc hx hri
      have GO : Aside0 (ri < 128 → (isLow x = true ∨ (0 < pos ∧ isTail x = true)) → n = 1 ∧ chk (pos + n) l = tot ∧ pos + n ≤ l.length) := ⟨by
        intro h1 h2
        obtain ⟨_, ⟨h3, h4, h5⟩ | ⟨h3, h4⟩⟩ := HDC.out
        · subst h4
          exact ⟨rfl, by rw [← chk_next HDR.out h2]; exact HCH.out, by have := HP.out; omega⟩
        · omega⟩
      have STOP : Aside0 ((decide (97 ≤ ri) && decide (ri ≤ 122)) = false → (pos = 0 ∨ (ri ≠ 95 ∧ ¬ (48 ≤ ri ∧ ri ≤ 57))) → tot = false) := ⟨by
        intro h1 h2
        have hl : isLow x = false := by
          rw [low_int]
          obtain ⟨_, ⟨h3, _, _⟩ | ⟨h3, h4⟩⟩ := HDC.out
          · rw [← h3]; exact h1
          · simp; omega
        rw [← HCH.out]
        refine chk_stop HDR.out hl ?_
        rcases h2 with h | ⟨h, h'⟩
        · exact .inl h
        · right
          unfold isTail
          rw [hl]
          obtain ⟨_, ⟨h3, _, _⟩ | ⟨h3, h4⟩⟩ := HDC.out
          · have : x ≠ 95 := by rintro rfl; exact h h3
            simp [this]; omega
          · have : x ≠ 95 := by rintro rfl; exact absurd h4 (by decide)
            simp [this]; omega⟩
      have LOWT : Aside0 (97 ≤ ri → ri ≤ 122 → isLow x = true) := ⟨by
        intro h1 h2
        rw [low_int]
        obtain ⟨_, ⟨h3, _, _⟩ | ⟨h3, h4⟩⟩ := HDC.out
        · rw [← h3]; simp; omega
        · omega⟩
      have TAILT : Aside0 ((ri = 95 ∨ (48 ≤ ri ∧ ri ≤ 57)) → isTail x = true) := ⟨by
        intro h1
        obtain ⟨_, ⟨h3, _, _⟩ | ⟨h3, h4⟩⟩ := HDC.out
        · unfold isTail
          rcases h1 with h1 | h1
          · have : x = 95 := UInt8.toNat_inj.1 (by have : (95 : UInt8).toNat = 95 := rfl; omega)
            simp [this]
          · simp; omega
        · omega⟩
      have hpos0 : (0 : Int) ≤ (pos : Int) := by omega
      by_cases c1 : 97 ≤ ri
      · by_cases c2 : ri ≤ 122
        · have d1 : decide (97 ≤ ri) = true := by simp; omega
          have d1' : decide (ri ≥ 97) = true := by simp; omega
          have d2 : decide (ri ≤ 122) = true := by simp; omega
          go_wp2
          go_roundw
          case rel =>
            have h9 := GO.out (by omega) (.inl (LOWT.out (by omega) (by omega)))
            exact ⟨pos + n, Hiti.out, HBi.out, h9.2.1, h9.2.2⟩
          case measure =>
            have h9 := GO.out (by omega) (.inl (LOWT.out (by omega) (by omega)))
            simp only [World.iterPos, Hiti.out, Hit.out]
            have := HP.out
            omega
        · have d1 : decide (97 ≤ ri) = true := by simp; omega
          have d1' : decide (ri ≥ 97) = true := by simp; omega
          have d2 : decide (ri ≤ 122) = false := by simp; omega
          by_cases c0 : pos = 0
          · subst c0
            have HTF := Aside0.mk (STOP.out (by simp; omega) (.inl rfl))
            go_wp2
            go_ret
            exact ⟨by rw [HTF.out]; rfl, HBi.out⟩
          · have d0 : ((pos : Int) == 0) = false := beq_f (by omega)
            by_cases c5 : ri = 95
            · subst c5
              go_wp2
              go_roundw
              case rel =>
                have h9 := GO.out (by omega) (.inr ⟨by omega, TAILT.out (.inl rfl)⟩)
                exact ⟨pos + n, Hiti.out, HBi.out, h9.2.1, h9.2.2⟩
              case measure =>
                have h9 := GO.out (by omega) (.inr ⟨by omega, TAILT.out (.inl rfl)⟩)
                simp only [World.iterPos, Hiti.out, Hit.out]
                have := HP.out
                omega
            · have d5 : (ri == 95) = false := beq_f c5
              have d5' : (ri != 95) = true := by simpa using c5
              by_cases c6 : ri < 48
              · have d6 : decide (ri < 48) = true := by simpa using c6
                have HTF := Aside0.mk (STOP.out (by simp; omega) (.inr ⟨c5, by omega⟩))
                go_wp2
                go_ret
                exact ⟨by rw [HTF.out]; rfl, HBi.out⟩
              · have d6 : decide (ri < 48) = false := by simpa using c6
                by_cases c7 : 57 < ri
                · have d7 : decide (ri > 57) = true := by simpa using c7
                  have d7' : decide (57 < ri) = true := by simpa using c7
                  have HTF := Aside0.mk (STOP.out (by simp; omega) (.inr ⟨c5, by omega⟩))
                  go_wp2
                  go_ret
                  exact ⟨by rw [HTF.out]; rfl, HBi.out⟩
                · have d7 : decide (ri > 57) = false := by simpa using c7
                  have d7' : decide (57 < ri) = false := by simpa using c7
                  go_wp2
                  go_roundw
                  case rel =>
                    have h9 := GO.out (by omega) (.inr ⟨by omega, TAILT.out (.inr ⟨by omega, by omega⟩)⟩)
                    exact ⟨pos + n, Hiti.out, HBi.out, h9.2.1, h9.2.2⟩
                  case measure =>
                    have h9 := GO.out (by omega) (.inr ⟨by omega, TAILT.out (.inr ⟨by omega, by omega⟩)⟩)
                    simp only [World.iterPos, Hiti.out, Hit.out]
                    have := HP.out
                    omega
      · have d1 : decide (97 ≤ ri) = false := by simp; omega
        have d1' : decide (ri ≥ 97) = false := by simp; omega
        by_cases c0 : pos = 0
        · subst c0
          have HTF := Aside0.mk (STOP.out (by simp; omega) (.inl rfl))
          go_wp2
          go_ret
          exact ⟨by rw [HTF.out]; rfl, HBi.out⟩
        · have d0 : ((pos : Int) == 0) = false := beq_f (by omega)
          by_cases c5 : ri = 95
          · subst c5
            go_wp2
            go_roundw
            case rel =>
              have h9 := GO.out (by omega) (.inr ⟨by omega, TAILT.out (.inl rfl)⟩)
              exact ⟨pos + n, Hiti.out, HBi.out, h9.2.1, h9.2.2⟩
            case measure =>
              have h9 := GO.out (by omega) (.inr ⟨by omega, TAILT.out (.inl rfl)⟩)
              simp only [World.iterPos, Hiti.out, Hit.out]
              have := HP.out
              omega
          · have d5 : (ri == 95) = false := beq_f c5
            have d5' : (ri != 95) = true := by simpa using c5
            by_cases c6 : ri < 48
            · have d6 : decide (ri < 48) = true := by simpa using c6
              have HTF := Aside0.mk (STOP.out (by simp; omega) (.inr ⟨c5, by omega⟩))
              go_wp2
              go_ret
              exact ⟨by rw [HTF.out]; rfl, HBi.out⟩
            · have d6 : decide (ri < 48) = false := by simpa using c6
              by_cases c7 : 57 < ri
              · have d7 : decide (ri > 57) = true := by simpa using c7
                have d7' : decide (57 < ri) = true := by simpa using c7
                have HTF := Aside0.mk (STOP.out (by simp; omega) (.inr ⟨c5, by omega⟩))
                go_wp2
                go_ret
                exact ⟨by rw [HTF.out]; rfl, HBi.out⟩
              · have d7 : decide (ri > 57) = false := by simpa using c7
                have d7' : decide (57 < ri) = false := by simpa using c7
                go_wp2
                go_roundw
                case rel =>
                  have h9 := GO.out (by omega) (.inr ⟨by omega, TAILT.out (.inr ⟨by omega, by omega⟩)⟩)
                  exact ⟨pos + n, Hiti.out, HBi.out, h9.2.1, h9.2.2⟩
                case measure =>
                  have h9 := GO.out (by omega) (.inr ⟨by omega, TAILT.out (.inr ⟨by omega, by omega⟩)⟩)
                  simp only [World.iterPos, Hiti.out, Hit.out]
                  have := HP.out
                  omega
    · have hnx : ∀ ty, (Instr.next (.pointer (some ⟨W.heap.size, 0, none⟩)) true ty).run Tryz.prog wr = .ok (.tuple #[.bool false]) wr := fun ty => Lib.run_next_end_at wr W.heap.size (bB l) pos ty Hit.out (by rw [bB_size]; omega)
      have HE : Aside0 (tot = !(l == [])) := ⟨by
        rw [← hch]
        have : pos = l.length := by omega
        subst this
        unfold chk
        cases l with
        | nil => rfl
        | cons b r => rw [if_neg (by simp), List.drop_length]; rfl⟩
      have htl := toList_bB l
      clear hit hB hch hpl hp
      go_wp2
      go_ret
      exact ⟨by rw [HE.out]; simp [htl], HB.out⟩

def markN (l : List UInt8) : List UInt8 := if l.getLast? = some 58 then l.dropLast else l

theorem suffix_one (l : List UInt8) (c : UInt8) : Lib.hasSuffix l [c] = (l.getLast? == some c) := by
  unfold Lib.hasSuffix
  rw [Bool.eq_iff_iff, List.isSuffixOf_iff_suffix, beq_iff_eq, List.getLast?_eq_some_iff]
  constructor
  · rintro ⟨t, rfl⟩; exact ⟨t, rfl⟩
  · rintro ⟨t, rfl⟩; exact ⟨t, rfl⟩

theorem suf112_calls (l : List UInt8) (hl : l.length ≤ 1099511627776) (W : World) : Calls Tryz.prog 112 #[.string (bB l), .string ⟨#[58]⟩] W fun e w' => e = .returned (.tuple #[.string (bB (markN l)), .bool (l.getLast? == some 58)]) ∧ Below W.heap.size W w' := by
  have HC : ∀ W, Calls Tryz.prog 144 #[.string (bB l), .string ⟨#[58]⟩] W fun e w' => e = .returned (.bool (l.getLast? == some 58)) ∧ w' = W := fun W => by
    have := Tryz.stringslite_HasSuffix (bB l) ⟨#[58]⟩ W (by rw [bB_size]; omega)
    rw [bB_data, show (ByteArray.mk #[58]).data.toList = [58] from rfl, suffix_one] at this
    exact this
  unfold markN
  by_cases h : l.getLast? = some 58
  · rw [if_pos h]
    have hb : (l.getLast? == some 58) = true := by rw [h]; rfl
    rw [hb] at HC ⊢
    have hne : 1 ≤ l.length := by
      rcases l with _ | ⟨b, r⟩
      · cases h
      · simp
    have hw : wrap64 (((bB l).size : Int) - 1) = ((bB l).size : Int) - 1 := by rw [bB_size]; exact w64 (by omega) (by omega)
    have hc1 : 0 ≤ ((bB l).size : Int) - 1 := by rw [bB_size]; omega
    have hc2 : ((bB l).size : Int) - 1 ≤ ((bB l).size : Int) := by omega
    have hc3 : (((bB l).size : Int) - 1).toNat = l.length - 1 := by rw [bB_size]; omega
    have HX : Aside0 ((bB l).extract 0 (l.length - 1) = bB l.dropLast) := ⟨by rw [take_bB, List.dropLast_eq_take]⟩
    rw [← HX.out]
    clear h hb hl
    go_enter Tryz.func112, Tryz.ntmps112
    go_wp2_with fail
    refine (HC _).mono ?_
    rintro e w' ⟨rfl, rfl⟩
    go_wp2
    go_ret2
    exact ⟨rfl, Below.refl _ _⟩
  · rw [if_neg h]
    have hb : (l.getLast? == some 58) = false := by simpa using h
    rw [hb] at HC ⊢
    clear h hb hl
    go_enter Tryz.func112, Tryz.ntmps112
    go_wp2_with fail
    refine (HC _).mono ?_
    rintro e w' ⟨rfl, rfl⟩
    go_wp2
    go_ret2
    exact ⟨rfl, Below.refl _ _⟩

theorem suf_calls (l : List UInt8) (hl : l.length ≤ 1099511627776) (W : World) : Calls Tryz.prog 71 #[.string (bB l), .string ⟨#[58]⟩] W fun e w' => e = .returned (.tuple #[.string (bB (markN l)), .bool (l.getLast? == some 58)]) ∧ Below W.heap.size W w' := by
  have IC := suf112_calls l hl
  obtain ⟨b, hb⟩ : ∃ x, x = (l.getLast? == some 58) := ⟨_, rfl⟩
  rw [← hb] at IC ⊢
  clear hl hb
  go_enter Tryz.func71, Tryz.ntmps71
  go_wp2_with fail
  refine (IC _).mono ?_
  rintro e w' ⟨rfl, hb⟩
  have HB := Aside0.mk hb
  clear hb IC
  go_wp2
  go_ret2
  exact ⟨rfl, HB.out⟩

theorem markN_len (l : List UInt8) : (markN l).length ≤ l.length := by
  unfold markN
  split
  · simp
  · exact Nat.le_refl _
theorem markL_some (l : List UInt8) : markL l = if ((l.getLast? == some 58) && namedL (markN l)) = true then some (markN l) else none := by
  unfold markL markN
  by_cases h : l.getLast? = some 58
  · rw [if_pos h, h]
    simp
  · rw [if_neg h]
    have : (l.getLast? == some 58) = false := by simpa using h
    simp [this, h]

theorem mark_calls (l : List UInt8) (hl : l.length ≤ 1099511627776) (W : World) : Calls Tryz.prog 48 #[.string (bB l)] W fun e w' => e = .returned (.tuple #[.string (bB (markN l)), .bool (markL l).isSome]) ∧ Below W.heap.size W w' := by
  have IC := suf_calls l hl
  have NC := named_calls (markN l) (Nat.le_trans (markN_len l) hl)
  have hs : (markL l).isSome = ((l.getLast? == some 58) && namedL (markN l)) := by
    rw [markL_some]
    split
    · rename_i h; rw [h]; rfl
    · rename_i h; simp at h; simp; exact h
  rw [hs]
  obtain ⟨b, hb⟩ : ∃ x, x = (l.getLast? == some 58) := ⟨_, rfl⟩
  obtain ⟨nb, hnb⟩ : ∃ x, x = namedL (markN l) := ⟨_, rfl⟩
  rw [← hb] at IC ⊢
  rw [← hnb] at NC ⊢
  clear hl hb hnb hs
  cases b with
  | false =>
    go_enter Tryz.func48, Tryz.ntmps48
    go_wp2_with fail
    refine (IC _).mono ?_
    rintro e w' ⟨rfl, hb⟩
    have HB := Aside0.mk hb
    clear hb IC NC
    go_wp2
    go_ret2
    exact ⟨rfl, HB.out⟩
  | true =>
    go_enter Tryz.func48, Tryz.ntmps48
    go_wp2_with fail
    refine (IC _).mono ?_
    rintro e w' ⟨rfl, hb⟩
    have HB := Aside0.mk hb
    clear hb IC
    go_wp2_with fail
    refine (NC _).mono ?_
    rintro e w5 ⟨rfl, hb⟩
    have HB5 := Aside0.mk (below_step HB.out hb)
    clear hb NC HB
    go_wp2
    go_ret2
    exact ⟨rfl, HB5.out⟩

end Go.Proofs.YtjapahcbhjjeiaaGreatDoor.AS

/- asm.places by its contract: two maps, of the marks' places and of their lines. -/
namespace Go.Proofs.YtjapahcbhjjeiaaGreatDoor.AS
open Go.RowKit Go.MapKept Go.Proofs.YtjapahcbhjjeiaaGreatDoorW.PrintWords Go.Proofs.YtjapahcbhjjeiaaGreatDoorW.PrintLast Go.Proofs.YtjapahcbhjjeiaaGreatDoorW.PrintMore Go.Proofs.YtjapahcbhjjeiaaGreatDoor.PA
set_option linter.unusedVariables false
set_option linter.unusedSimpArgs false

abbrev Mk := List UInt8 × Nat × Nat
def rowsP (acc : List Mk) : List (Value × Value) := acc.map fun x => (Value.string (bB x.1), Value.int .i64 (x.2.1 : Nat))
def rowsN (acc : List Mk) : List (Value × Value) := acc.map fun x => (Value.string (bB x.1), Value.int .i64 (x.2.2 : Nat))
def Uniq (acc : List Mk) : Prop := ∀ x ∈ acc, ∀ y ∈ acc, x.1 = y.1 → x = y

theorem rowsP_append (a b : List Mk) : rowsP (a ++ b) = rowsP a ++ rowsP b := by simp [rowsP]
theorem rowsN_append (a b : List Mk) : rowsN (a ++ b) = rowsN a ++ rowsN b := by simp [rowsN]
theorem keyP {acc : List Mk} : ∀ p ∈ rowsP acc, IsKey .string p.1 := by
  intro p hp
  obtain ⟨x, _, rfl⟩ := List.mem_map.1 hp
  trivial
theorem keyN {acc : List Mk} : ∀ p ∈ rowsN acc, IsKey .string p.1 := by
  intro p hp
  obtain ⟨x, _, rfl⟩ := List.mem_map.1 hp
  trivial
theorem key_eq {a b : List UInt8} (h : Value.string (bB a) = Value.string (bB b)) : a = b := by
  injection h with h
  exact bB_eq.1 h
theorem newP {acc : List Mk} {m : List UInt8} (h : ∀ x ∈ acc, x.1 ≠ m) : ∀ p ∈ rowsP acc, p.1 ≠ .string (bB m) := by
  intro p hp e
  obtain ⟨x, hx, rfl⟩ := List.mem_map.1 hp
  exact h x hx (key_eq e)
theorem newN {acc : List Mk} {m : List UInt8} (h : ∀ x ∈ acc, x.1 ≠ m) : ∀ p ∈ rowsN acc, p.1 ≠ .string (bB m) := by
  intro p hp e
  obtain ⟨x, hx, rfl⟩ := List.mem_map.1 hp
  exact h x hx (key_eq e)

theorem lookP {w : World} {b : Nat} {acc : List Mk} {x : Mk} (hM : MapAt w b (rowsP acc)) (hU : Uniq acc) (hx : x ∈ acc) (ok : Bool) : (Instr.lookup 74 (.map (some b)) (.string (bB x.1)) ok).run Tryz.prog w = .ok (if ok then .tuple #[.int .i64 (x.2.1 : Nat), .bool true] else .int .i64 (x.2.1 : Nat)) w :=
  MapAt.look (key := .string (bB x.1)) (val := .int .i64 (x.2.1 : Nat)) hM Tryz.underlying74 Tryz.underlying9 trivial keyP (List.mem_map.2 ⟨x, hx, rfl⟩) (fun p hp e => by
    obtain ⟨y, hy, rfl⟩ := List.mem_map.1 hp
    rw [hU x hx y hy (key_eq e).symm]) ok
theorem lookN {w : World} {b : Nat} {acc : List Mk} {x : Mk} (hM : MapAt w b (rowsN acc)) (hU : Uniq acc) (hx : x ∈ acc) (ok : Bool) : (Instr.lookup 74 (.map (some b)) (.string (bB x.1)) ok).run Tryz.prog w = .ok (if ok then .tuple #[.int .i64 (x.2.2 : Nat), .bool true] else .int .i64 (x.2.2 : Nat)) w :=
  MapAt.look (key := .string (bB x.1)) (val := .int .i64 (x.2.2 : Nat)) hM Tryz.underlying74 Tryz.underlying9 trivial keyN (List.mem_map.2 ⟨x, hx, rfl⟩) (fun p hp e => by
    obtain ⟨y, hy, rfl⟩ := List.mem_map.1 hp
    rw [hU x hx y hy (key_eq e).symm]) ok
theorem missP {w : World} {b : Nat} {acc : List Mk} {m : List UInt8} (hM : MapAt w b (rowsP acc)) (h : ∀ x ∈ acc, x.1 ≠ m) (ok : Bool) : (Instr.lookup 74 (.map (some b)) (.string (bB m)) ok).run Tryz.prog w = .ok (if ok then .tuple #[.int .i64 0, .bool false] else .int .i64 0) w :=
  MapAt.miss (key := .string (bB m)) (z := .int .i64 0) hM Tryz.underlying74 Tryz.underlying9 (Tryz.zeroValue3 w) trivial keyP (newP h) ok
theorem missN {w : World} {b : Nat} {acc : List Mk} {m : List UInt8} (hM : MapAt w b (rowsN acc)) (h : ∀ x ∈ acc, x.1 ≠ m) (ok : Bool) : (Instr.lookup 74 (.map (some b)) (.string (bB m)) ok).run Tryz.prog w = .ok (if ok then .tuple #[.int .i64 0, .bool false] else .int .i64 0) w :=
  MapAt.miss (key := .string (bB m)) (z := .int .i64 0) hM Tryz.underlying74 Tryz.underlying9 (Tryz.zeroValue3 w) trivial keyN (newN h) ok
theorem any_f {acc : List Mk} {m : List UInt8} (h : acc.any (fun x => x.1 == m) = false) : ∀ x ∈ acc, x.1 ≠ m := by
  intro x hx e
  have := List.any_eq_false.1 h x hx
  simp [e] at this
theorem any_t {acc : List Mk} {m : List UInt8} (h : acc.any (fun x => x.1 == m) = true) : ∃ x ∈ acc, x.1 = m := by
  obtain ⟨x, hx, he⟩ := List.any_eq_true.1 h
  exact ⟨x, hx, by simpa using he⟩

section
variable {P : Program} {ops : Array Oper} {rest : List Oper} {o : Oper} {a : Act} {Q : Exit → Act → World → Prop}
theorem gate_mapset {t : TypeId} {m x y : Operand} {W : World} (_ho : o.op = Op.mapUpdate t m x y) (h : wpList P ops Q (o :: rest) a W) : wpList P ops Q (o :: rest) a W := h
theorem map_event {W : World} (hgd : o.guard = none) {N : Tmp} (_hd : o.dst = some N) (hrun : (execOp a.eval o).run P W = .ok (.value (.map (some W.heap.size))) (W.alloc (.map #[] 0)))
    (h : ∀ g, g = W.heap.size → ∀ w1, MapAt w1 g [] → Below W.heap.size W w1 → wpList P ops Q rest (a.put o.dst (.map (some g))) w1) : wpList P ops Q (o :: rest) a W :=
  Kd.event_run hgd hrun (h _ rfl _ (MapAt.new W) (below_alloc (Below.refl _ _) _))
end

set_option maxRecDepth 100000 in
set_option maxHeartbeats 8000000 in
theorem places_calls (ls : List (List UInt8)) (hn : ls.length ≤ 1099511627776) (hlen : ∀ a ∈ ls, a.length ≤ 1099511627776) (A : Option Addr) (c : Nat) (W : World) (hC : Kd.C Kd.string W A ls.length (ls.map bB)) (hc : ls.length ≤ c) :
    Calls Tryz.prog 46 #[.slice A ls.length c] W fun e w' => ∃ p q, e = .returned (.tuple #[.map (some p), .map (some q)]) ∧ MapAt w' p (rowsP (placesL ls)) ∧ MapAt w' q (rowsN (placesL ls)) ∧ Uniq (placesL ls) ∧ Below W.heap.size W w' := by
  have HC := Aside0.mk hC
  have HLN := Aside0.mk hlen
  have HN := Aside0.mk hn
  have hmm := @run_makeMap Tryz.prog
  obtain ⟨tot, htot⟩ : ∃ x, x = placesL ls := ⟨_, rfl⟩
  rw [← htot]
  have HT := Aside0.mk htot
  clear hC hlen hn htot
  go_enter Tryz.func46, Tryz.ntmps46
  go_wp2_with (first | ((with_reducible refine gate_dst (N := 11) rfl ?_); refine map_event ?hg (N := 11) ?hd ?hr ?_; (case hd => rfl); (case hg => rfl); (case hr => first | (go_simp; done) | (go_simp; rfl)); intro p hp w1 hM hb; have HMP0 := Aside0.mk hM; have HB1 := Aside0.mk (show Below W.heap.size W w1 from hb); have HLp := Aside0.mk (show W.heap.size ≤ p by omega); have HPW := Aside0.mk (show p < w1.heap.size from MapAt.lt hM); clear hM hb hp) | ((with_reducible refine gate_dst (N := 12) rfl ?_); refine map_event ?hg (N := 12) ?hd ?hr ?_; (case hd => rfl); (case hg => rfl); (case hr => first | (go_simp; done) | (go_simp; rfl)); intro q hq w2 hM hb; have HMQ := Aside0.mk hM; have HBM := Aside0.mk (below_step HB1.out hb); have HMP := Aside0.mk (HMP0.out.below hb); have HLq := Aside0.mk (show W.heap.size ≤ q by have := HB1.out.size; omega); have HPQ := Aside0.mk (show p ≠ q by have := HPW.out; omega); clear hM hb hq HMP0) | fail)
  go_loopw [4, 15] (fun v4 v15 wr => ∃ (bytes k : Nat) (acc : List Mk), v4 = .int .i64 (bytes : Int) ∧ v15 = .int .i64 (k : Int) ∧ k ≤ ls.length ∧ bytes ≤ 4 * k ∧ MapAt wr p (rowsP acc) ∧ MapAt wr q (rowsN acc) ∧ Uniq acc ∧ Below W.heap.size W wr ∧ placesGo acc bytes k (ls.drop k) = tot) (fun _ v15 _ => ls.length - (intOf v15).toNat)
  case atStart => exact ⟨0, 0, [], rfl, rfl, Nat.zero_le _, Nat.le_refl _, HMP.out, HMQ.out, (fun x hx => by cases hx), HBM.out, by rw [HT.out]; rfl⟩
  case round =>
    obtain ⟨bytes, k, acc, rfl, rfl, hk, hby, hMp, hMq, hU, hB, hgo⟩ := hrel
    have HMp := Aside0.mk hMp
    have HMq := Aside0.mk hMq
    have HU := Aside0.mk hU
    have HB := Aside0.mk hB
    have HGO := Aside0.mk hgo
    clear hMp hMq hU hB hgo
    by_cases hlt : k < ls.length
    · obtain ⟨t, ht⟩ : ∃ x, x = ls[k] := ⟨_, rfl⟩
      have hdt : ls.drop k = t :: ls.drop (k + 1) := by rw [ht]; exact List.drop_eq_getElem_cons hlt
      have htl : t.length ≤ 1099511627776 := HLN.out t (by rw [ht]; exact List.getElem_mem _)
      obtain ⟨ad, rfl, y6⟩ := word_cell (Kd.C_below HC.out HB.out) hdt
      have HGO2 : Aside0 (placesGo acc bytes k (t :: ls.drop (k + 1)) = tot) := ⟨by rw [← hdt]; exact HGO.out⟩
      have NT := nothing_calls t
      have MK := mark_calls t htl
      obtain ⟨nb, hnb⟩ : ∃ x, x = nothingL t := ⟨_, rfl⟩
      rw [← hnb] at NT
      have hk40 : (k : Int) ≤ 1099511627776 := by have := HN.out; omega
      have hby40 : (bytes : Int) ≤ 4398046511104 := by have := HN.out; omega
      have hlt' : (k : Int) < (ls.length : Int) := by omega
      have hd0 : decide ((k : Int) < (ls.length : Int)) = true := by simpa using hlt
      have HLT := Aside0.mk hlt
      have HBY := Aside0.mk hby
      have HNB := Aside0.mk hnb
      clear HGO hdt ht hlt htl hby hk hnb
      go_wp2_with fail
      refine (NT _).mono ?_
      rintro e w3 ⟨rfl, hb⟩
      have HB3 := Aside0.mk (below_step HB.out hb)
      have HMp3 := Aside0.mk (HMp.out.below hb)
      have HMq3 := Aside0.mk (HMq.out.below hb)
      clear hb NT y6 HMp HMq HB
      cases nb with
      | true =>
        clear MK
        go_wp2
        go_roundw
        case rel =>
          refine ⟨bytes, k + 1, acc, rfl, by go_num, HLT.out, by have := HBY.out; omega, HMp3.out, HMq3.out, HU.out, HB3.out, ?_⟩
          have h1 := HGO2.out
          rw [placesGo, if_pos HNB.out.symm] at h1
          exact h1
        case measure => simp [intOf]; have := HLT.out; omega
      | false =>
        have HGO3 : Aside0 ((match markL t with | some m => if acc.any (fun x => x.1 == m) then placesGo acc (bytes + 4) (k + 1) (ls.drop (k + 1)) else placesGo (acc ++ [(m, bytes, k)]) bytes (k + 1) (ls.drop (k + 1)) | none => placesGo acc (bytes + 4) (k + 1) (ls.drop (k + 1))) = tot) := ⟨by
          have h1 := HGO2.out
          rw [placesGo, if_neg (by rw [← HNB.out]; simp)] at h1
          exact h1⟩
        clear HGO2
        go_wp2_with fail
        refine (MK _).mono ?_
        rintro e w4 ⟨rfl, hb⟩
        have HB4 := Aside0.mk (below_step HB3.out hb)
        have HMp4 := Aside0.mk (HMp3.out.below hb)
        have HMq4 := Aside0.mk (HMq3.out.below hb)
        clear hb MK HMp3 HMq3 HB3
        cases hmk : markL t with
        | none =>
          have hmk0 := HGO3.out
          rw [hmk] at hmk0
          have HGO4 := Aside0.mk hmk0
          have hs : (none : Option (List UInt8)).isSome = false := rfl
          clear hmk0 hmk HGO3
          go_wp2
          go_roundw
          case rel => exact ⟨bytes + 4, k + 1, acc, by go_num, by go_num, HLT.out, by have := HBY.out; omega, HMp4.out, HMq4.out, HU.out, HB4.out, HGO4.out⟩
          case measure => simp [intOf]; have := HLT.out; omega
        | some m =>
          have hm : m = markN t := by
            have h1 := markL_some t
            rw [hmk] at h1
            split at h1
            · injection h1
            · cases h1
          rw [← hm]
          have hmk0 := HGO3.out
          rw [hmk] at hmk0
          have HGO4 : Aside0 ((if acc.any (fun x => x.1 == m) then placesGo acc (bytes + 4) (k + 1) (ls.drop (k + 1)) else placesGo (acc ++ [(m, bytes, k)]) bytes (k + 1) (ls.drop (k + 1))) = tot) := ⟨hmk0⟩
          have hs : (some m : Option (List UInt8)).isSome = true := rfl
          clear hmk0 hmk HGO3 hm
          cases han : acc.any (fun x => x.1 == m) with
          | true =>
            obtain ⟨x, hx, hxm⟩ := any_t han
            have hlk := lookN HMq4.out HU.out hx true
            rw [hxm, if_pos rfl] at hlk
            have h5 := HGO4.out
            rw [if_pos han] at h5
            have HGO5 := Aside0.mk h5
            clear h5 HGO4 han hx hxm
            go_wp2
            go_roundw
            case rel => exact ⟨bytes + 4, k + 1, acc, by go_num, by go_num, HLT.out, by have := HBY.out; omega, HMp4.out, HMq4.out, HU.out, HB4.out, HGO5.out⟩
            case measure => simp [intOf]; have := HLT.out; omega
          | false =>
            have HNW := Aside0.mk (any_f han)
            have hlk := missN HMq4.out HNW.out true
            rw [if_pos rfl] at hlk
            have h5 := HGO4.out
            rw [if_neg (by rw [han]; simp)] at h5
            have HGO5 := Aside0.mk h5
            clear h5 HGO4 han
            go_wp2_with (first | ((with_reducible refine gate_mapset (t := 74) (m := .tmp 36) rfl ?_); refine wp_mapset rfl (.tmp 36) (.tmp 37) (.tmp 40) 74 rfl 9 3 Tryz.underlying74 Tryz.underlying9 p (rowsP acc) rfl HMp4.out (.string (bB m)) (.int .i64 (bytes : Int)) rfl rfl trivial keyP (newP HNW.out) ?_; intro w5 hM hT; have HMp5 := Aside0.mk hM; have HMq5 := Aside0.mk (HMq4.out.same (turned_far hT HPQ.out.symm)); have HB5 := Aside0.mk (turned_below hT HB4.out HLp.out); clear hM hT hlk) | ((with_reducible refine gate_mapset (t := 74) (m := .tmp 38) rfl ?_); refine wp_mapset rfl (.tmp 38) (.tmp 39) (.tmp 41) 74 rfl 9 3 Tryz.underlying74 Tryz.underlying9 q (rowsN acc) rfl HMq5.out (.string (bB m)) (.int .i64 (k : Int)) rfl rfl trivial keyN (newN HNW.out) ?_; intro w6 hM hT; have HMq6 := Aside0.mk hM; have HMp6 := Aside0.mk (HMp5.out.same (turned_far hT HPQ.out)); have HB6 := Aside0.mk (turned_below hT HB5.out HLq.out); clear hM hT) | fail)
            go_wp2
            go_roundw
            case rel =>
              refine ⟨bytes, k + 1, acc ++ [(m, bytes, k)], rfl, by go_num, HLT.out, by have := HBY.out; omega, by rw [rowsP_append]; exact HMp6.out, by rw [rowsN_append]; exact HMq6.out, ?_, HB6.out, HGO5.out⟩
              intro x hx y hy e
              simp only [List.mem_append, List.mem_singleton] at hx hy
              rcases hx with hx | rfl <;> rcases hy with hy | rfl
              · exact HU.out x hx y hy e
              · exact absurd e (HNW.out x hx)
              · exact absurd e.symm (HNW.out y hy)
              · rfl
            case measure => simp [intOf]; have := HLT.out; omega
    · obtain rfl : k = ls.length := by omega
      have hd0 : decide (((ls.length : Nat) : Int) < (ls.length : Int)) = false := by simp
      have HE : Aside0 (acc = tot) := ⟨by have h1 := HGO.out; rw [List.drop_length] at h1; exact h1⟩
      clear hlt
      go_wp2
      go_ret2
      exact ⟨p, q, rfl, by rw [← HE.out]; exact HMp.out, by rw [← HE.out]; exact HMq.out, by rw [← HE.out]; exact HU.out, HB.out⟩

end Go.Proofs.YtjapahcbhjjeiaaGreatDoor.AS
