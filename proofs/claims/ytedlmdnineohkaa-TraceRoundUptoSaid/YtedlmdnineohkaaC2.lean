import Derived.Test.YtedlmdnineohkaaA10
import Derived.Test.YtedlmdnineohkaaQ5
import Derived.Test.YtedlmdnineohkaaPUx9
import Derived.Test.YtedlmdnineohkaaPUx10
namespace Go.Proofs.Ytedlmdnineohkaa.PU
open Go.RowKit Go.Proofs.YtedlmdnineohkaaW.PrintWords Go.Proofs.YtedlmdnineohkaaW.PrintLast Go.Proofs.YtedlmdnineohkaaW.PrintMore
set_option linter.unusedVariables false
set_option linter.unusedSimpArgs false

theorem sameI_loop (l : List Int) (hm : l.length ≤ 9223372036854775807) : ∀ (d i : Nat), i + d = l.length → Ev (fun k => citadellaw00_SameInts.l0 k l l (i : Int)) true := by
  intro d
  induction d with
  | zero =>
    intro i hi
    refine Ev.step (f := fun _ => some true) (fun k => ?_) (Ev.now _)
    simp only [citadellaw00_SameInts.l0]; rw [if_neg (by omega)]
  | succ d ih =>
    intro i hi
    refine Ev.step (fun k => ?_) (ih (i + 1) (by omega))
    simp only [citadellaw00_SameInts.l0]
    rw [if_pos (by omega), if_pos (by omega), if_pos (by omega), if_pos trivial, wrap_succ (n := l.length) (by omega) (by omega) (by omega)]
    rfl
theorem sameI_Ev (l : List Int) (hm : l.length ≤ 9223372036854775807) : Ev (fun k => citadellaw00_SameInts.f k l l) true := by
  unfold citadellaw00_SameInts.f
  simp only [if_true]
  exact sameI_loop l hm l.length 0 (by omega)
theorem sameConf_Ev (a0 a1 a2 : Int) (l3 l4 l5 : List Int) (a6 : Bool) (h3 : l3.length ≤ 9223372036854775807) (h4 : l4.length ≤ 9223372036854775807) (h5 : l5.length ≤ 9223372036854775807) : Ev (fun k => citadellaw23_sameConf.f k a0 a1 a2 l3 l4 l5 a6 a0 a1 a2 l3 l4 l5 a6) true := by
  unfold citadellaw23_sameConf.f
  simp only [if_true, beq_self_eq_true]
  exact Ev.bind (sameI_Ev l3 h3) (Ev.pos rfl (Ev.bind (same_Ev l4 h4) (Ev.pos rfl (Ev.bind (same_Ev l5 h5) (Ev.now _)))))
theorem sameLab_loop (ls : List S56) (hm : ls.length ≤ 9223372036854775807) (hb : ∀ x ∈ ls, x.f2.length ≤ 9223372036854775807) : ∀ (d i : Nat), i + d = ls.length → Ev (fun k => citadellaw00_SameLabels.l0 k ls ls (i : Int)) true := by
  intro d
  induction d with
  | zero =>
    intro i hi
    refine Ev.step (f := fun _ => some true) (fun k => ?_) (Ev.now _)
    simp only [citadellaw00_SameLabels.l0]; rw [if_neg (by omega)]
  | succ d ih =>
    intro i hi
    have hlt : i < ls.length := by omega
    have he : rd_T56 ls (i : Int) = ls[i] := rd56_nat ls i hlt
    have h := Ev.bind (f := fun k t => if t = true then (citadellaw00_SameLabels.l0 k ls ls (wrap64 ((i : Int) + 1))) else some false) (same_Ev ls[i].f2 (hb _ (List.getElem_mem _))) (Ev.pos rfl (by
      rw [wrap_succ (n := ls.length) (by omega) (by omega) (by omega)]
      exact ih (i + 1) (by omega)))
    refine Ev.step (fun k => ?_) h
    simp only [citadellaw00_SameLabels.l0]
    rw [if_pos (by omega), if_pos (by omega), if_pos (by omega), if_pos trivial, if_pos trivial, he]
theorem sameLab_Ev (ls : List S56) (hm : ls.length ≤ 9223372036854775807) (hb : ∀ x ∈ ls, x.f2.length ≤ 9223372036854775807) : Ev (fun k => citadellaw00_SameLabels.f k ls ls) true := by
  unfold citadellaw00_SameLabels.f
  simp only [if_true]
  exact sameLab_loop ls hm hb ls.length 0 (by omega)

def marks : List Int := (List.range 70).map fun i => ((101 + i : Nat) : Int)
theorem marks_get (l : List Int) (i : Nat) (h : l.length ≤ i) (h2 : i < (l ++ marks).length) : (l ++ marks)[i] = ((101 + (i - l.length) : Nat) : Int) := by
  rw [List.getElem_append_right h]
  simp [marks]
theorem back_loop (l : List Int) (hm : l.length ≤ 8589934592) : ∀ (d i : Nat), i + d = (l ++ marks).length → Ev (fun k => citadellaw00_Back.l0 k l (l ++ marks) (i : Int)) true := by
  have hml : marks.length = 70 := by simp [marks]
  have hmm : (l ++ marks).length = l.length + 70 := by simp [hml]
  intro d
  induction d with
  | zero =>
    intro i hi
    refine Ev.step (f := fun _ => some true) (fun k => ?_) (Ev.now _)
    simp only [citadellaw00_Back.l0]; rw [if_neg (by omega)]
  | succ d ih =>
    intro i hi
    have hlt : i < (l ++ marks).length := by omega
    refine Ev.step (fun k => ?_) (ih (i + 1) (by omega))
    simp only [citadellaw00_Back.l0]
    rw [if_pos (by omega)]
    by_cases hb : i < l.length
    · have e : rd (l ++ marks) (i : Int) = rd l (i : Int) := by
        rw [rd_nat _ i hlt, rd_nat _ i hb, List.getElem_append_left hb]
      rw [if_pos (by omega), if_pos (by omega), if_pos e, if_neg (by omega), wrap_succ (n := (l ++ marks).length) (by omega) (by omega) (by omega)]
      rfl
    · have e : rd (l ++ marks) (i : Int) = (wrap64 (wrap64 (101 + (i : Int)) - (l.length : Int))) % 256 := by
        rw [rd_nat _ i hlt, marks_get l i (by omega) hlt]
        unfold wrap64; omega
      rw [if_neg (by omega), if_pos (by omega), if_pos (by omega), if_pos e, wrap_succ (n := (l ++ marks).length) (by omega) (by omega) (by omega)]
      rfl
theorem back_Ev (l : List Int) (hm : l.length ≤ 8589934592) : Ev (fun k => citadellaw00_Back.f k l (l ++ marks)) true := by
  have hml : marks.length = 70 := by simp [marks]
  unfold citadellaw00_Back.f
  refine Ev.pos (by unfold wrap64; simp [hml]; omega) ?_
  exact back_loop l hm (l ++ marks).length 0 (by omega)

set_option maxHeartbeats 800000 in
theorem lend_calls (w : World) (A : Option Addr) (c : Nat) (l : List Int) (hr : Kd.C (Kd.int .u8) w A l.length l) (hc : l.length ≤ c) (hl : l.length ≤ 8589934592) :
    Calls Try.prog 13 #[.slice A l.length c] w fun e w' => ∃ A1 c1 n1, e = .returned (.tuple #[.slice A1 l.length c1, .slice A1 n1 c1]) ∧ n1 = (l ++ marks).length ∧ n1 ≤ c1 ∧ l.length ≤ c1 ∧ Kd.C (Kd.int .u8) w' A1 l.length l ∧ Kd.C (Kd.int .u8) w' A1 (l ++ marks).length (l ++ marks) ∧ Below w.heap.size w w' := by
  have HL := Aside0.mk hl
  have hcp := citadellaw00_CopyBytes.calls A c l l w hr hc (copyBytes_f l (by omega))
  have HCP := Aside0.mk hcp
  clear hr hc hl hcp
  go_enter Try.func13, Try.ntmps13
  go_wp2_with fail
  refine HCP.out.mono ?_
  rintro e w1 ⟨v, rfl, hR, hb⟩
  have HR := Aside0.mk hR
  have HB := Aside0.mk hb
  clear hR hb HCP
  go_wp2_with fail
  go_loopw [4, 5] (fun v4 v5 w' => ∃ (i : Nat), v5 = .int .i64 (i : Int) ∧ i ≤ 70 ∧ Aside0 (Kd.R (Kd.int .u8) 5 w' w.heap.size (fun _ => True) v4 (l ++ marks.take i)) ∧ Aside0 (Below w.heap.size w w')) (fun _ v5 _ => 70 - (intOf v5).toNat)
  case atStart => exact ⟨0, rfl, by omega, ⟨by simpa using HR.out⟩, HB⟩
  case round =>
    obtain ⟨i, rfl, hi, HRi, HBi⟩ := hrel
    clear HR HB
    by_cases h7 : i < 70
    · have d7 : decide ((i : Int) < 70) = true := by simp; omega
      have ew : wrap64 (101 + (i : Int)) = 101 + (i : Int) := by unfold wrap64; omega
      have em : (101 + (i : Int)) % 256 = 101 + (i : Int) := by omega
      have H7 := Aside0.mk h7
      have ht := Aside0.mk (show marks.take (i + 1) = marks.take i ++ [101 + (i : Int)] by
        rw [List.take_succ_eq_append_getElem (by simp [marks]; omega)]; simp [marks])
      go_wp2_with (first | ((with_reducible refine gate_builtin (b := .append) (xs := #[.tmp 12, .tmp 16]) rfl ?_); go_loud (at_builtin; refine Kd.R_append (Kd.int .u8) (w0 := w) w.heap.size rfl (.tmp 12) (.tmp 16) 23 5 (.int .u8 0) 1 rfl Try.underlying23 info5 rfl (by decide) (by omega) u4 (l ++ marks.take i) (101 + (i : Int)) [.int .u8 (101 + (i : Int))] (fun _ => True) (fun _ => False) rfl rfl ?aP (fun _ hk => hk.elim) ?aF ?aO ?aB ?aS ?aL ?_; (case aP => exact rfl); (case aF => exact (fun _ _ => trivial)); (case aO => exact HRi.out); (case aB => exact HBi.out); (case aS => exact HBi.out.size); (case aL => have := HL.out; simp; omega); intro v2 w2 ho hbb hg hat; have HO2 := Aside0.mk ho; have HB2 := Aside0.mk hbb; clear ho hbb hg hat)) | fail)
      go_roundw
      case rel => exact ⟨i + 1, by first | rfl | (congr 1; omega), by omega, ⟨by rw [ht.out, ← List.append_assoc]; exact HO2.out⟩, HB2⟩
      case measure => have := H7.out; simp [intOf]; omega
    · obtain rfl : i = 70 := by omega
      have hml : marks.length = 70 := by simp [marks]
      obtain ⟨L, hL⟩ : ∃ L, L = l ++ marks := ⟨_, rfl⟩
      have HRj := Aside0.mk (show Kd.R (Kd.int .u8) 5 wr w.heap.size (fun _ => True) u4 L by have := HRi.out; rw [List.take_of_length_le (by omega)] at this; rw [hL]; exact this)
      obtain ⟨A1, c1, e1⟩ := Kd.R_slice HRj.out
      subst e1
      have hrd := Kd.R_reads' HRj.out
      obtain ⟨i0, hi0, _, hsz, _⟩ := info_parts info5
      have hle : (l.length : Int) ≤ (L.length : Int) := by rw [hL]; simp; omega
      obtain ⟨hcut, hA, hC⟩ := print_take_of (P := Try.prog) (Value.int .u8) 0 23 5 .i64 Try.underlying23 hi0 hsz A1 c1 L (l.length : Int) (by omega) hle hrd.2.1
      have ht : L.take ((l.length : Int)).toNat = l := by rw [hL]; simp
      rw [ht] at hcut hA hC
      have HT := Aside0.mk (Kd.C_of_reads (h1 := fun _ => rfl) (hA _ (Kd.reads_of_C hrd.2.2)))
      have HD := Aside0.mk hrd.2.2
      have HC := Aside0.mk hrd.2.1
      have HC2 := Aside0.mk hC
      have HLL := Aside0.mk hL
      clear hA hC hi0 hsz hrd ht hle HRi HRj hL h7
      have h7 : ¬ ((70 : Nat) < 70) := by omega
      go_wp2_with fail
      refine bodyPost_ret (results_list (rs := [.tmp 2, .tmp 3]) rfl (by simp) (.tmp (.tmp .nil))) rfl ?_
      exact ⟨A1, c1, _, rfl, by rw [HLL.out], HC.out, HC2.out, HT.out, by rw [← HLL.out]; exact HD.out, HBi.out⟩
end Go.Proofs.Ytedlmdnineohkaa.PU
