/- Several texts in one. -/
import Derived.Test.YtjapahcbhjjeiaaGreatDoorK3
import Derived.Lib.OthersKept
import Derived.BigCall
/- asm.words: a line's words, by runes as by bytes; its walk. -/
namespace Go.Proofs.YtjapahcbhjjeiaaGreatDoor.AS
open Go.RowKit Go.Proofs.YtjapahcbhjjeiaaGreatDoorW.PrintWords Go.Proofs.YtjapahcbhjjeiaaGreatDoorW.PrintLast Go.Proofs.YtjapahcbhjjeiaaGreatDoorW.PrintMore Go.Proofs.YtjapahcbhjjeiaaGreatDoor.PA
set_option linter.unusedVariables false
set_option linter.unusedSimpArgs false

theorem get_bB (l : List UInt8) (k : Nat) (h : k < l.length) : (bB l).get! k = l[k] := by
  show (bB l).data[k]! = _
  simp [bB, h]

theorem decode_cases (l : List UInt8) (pos : Nat) (h : pos < l.length) :
    ((Utf8.decode (bB l) pos).1 = (l[pos]).toNat ∧ (Utf8.decode (bB l) pos).2 = 1 ∧ (l[pos]).toNat < 128) ∨
    (128 ≤ (Utf8.decode (bB l) pos).1 ∧ 1 ≤ (Utf8.decode (bB l) pos).2 ∧ pos + (Utf8.decode (bB l) pos).2 ≤ l.length ∧ ∀ j (hj : pos + j < l.length), j < (Utf8.decode (bB l) pos).2 → 128 ≤ (l[pos + j]).toNat) := by
  have hs : pos < (bB l).size := by rw [bB_size]; exact h
  have hg : (bB l)[pos]'hs = l[pos] := rfl
  by_cases ha : (l[pos]).toNat < 128
  · left
    rw [decode_ascii (bB l) pos hs (by rw [hg]; exact ha)]
    exact ⟨rfl, rfl, ha⟩
  · right
    have hh := decode_high (bB l) pos hs (by rw [hg]; omega)
    have hle : pos + (Utf8.decode (bB l) pos).2 ≤ l.length := by
      simp only [Utf8.decode]
      repeat' split
      all_goals simp only [Bool.and_eq_true, decide_eq_true_eq, beq_iff_eq, bB_size] at *
      all_goals omega
    refine ⟨hh.1, hh.2, hle, fun j hj hlt => ?_⟩
    rcases Nat.eq_zero_or_pos j with rfl | hjp
    · exact Nat.le_of_not_lt ha
    · have g0 : ∀ k (hk : pos + k < l.length), (bB l).get! (pos + k) = l[pos + k] := fun k hk => get_bB l _ hk
      revert hlt
      simp only [Utf8.decode]
      repeat' split
      all_goals
        intro hlt
        first
          | (exfalso; omega)
          | skip
      all_goals
        simp only [Bool.and_eq_true, decide_eq_true_eq, beq_iff_eq, bB_size] at *
      · have : j = 1 := by omega
        subst this
        have e1 := congrArg UInt8.toNat (g0 1 hj)
        omega
      · have : j = 1 ∨ j = 2 := by omega
        rcases this with rfl | rfl
        · have e1 := congrArg UInt8.toNat (g0 1 hj); omega
        · have e1 := congrArg UInt8.toNat (g0 2 hj); omega
      · have : j = 1 ∨ j = 2 ∨ j = 3 := by omega
        rcases this with rfl | rfl | rfl
        · have e1 := congrArg UInt8.toNat (g0 1 hj); omega
        · have e1 := congrArg UInt8.toNat (g0 2 hj); omega
        · have e1 := congrArg UInt8.toNat (g0 3 hj); omega

theorem isSep_high {b : UInt8} (h : 128 ≤ b.toNat) : isSep b = false := by
  unfold isSep
  have n1 : b ≠ 32 := by rintro rfl; simp at h
  have n2 : b ≠ 44 := by rintro rfl; simp at h
  have n3 : b ≠ 40 := by rintro rfl; simp at h
  have n4 : b ≠ 41 := by rintro rfl; simp at h
  simp [n1, n2, n3, n4]

theorem split_on (l cur : List UInt8) (pos n : Nat) (hn : pos + n ≤ l.length) (h : ∀ j (hj : pos + j < l.length), j < n → isSep (l[pos + j]) = false) : split cur (l.drop pos) = split (cur ++ (l.drop pos).take n) (l.drop (pos + n)) := by
  have e : l.drop pos = (l.drop pos).take n ++ l.drop (pos + n) := by rw [← List.drop_drop, List.take_append_drop]
  conv => lhs; rw [e]
  refine split_word _ _ _ fun b hb => ?_
  obtain ⟨j, hj, rfl⟩ := List.getElem_of_mem hb
  simp only [List.length_take, List.length_drop] at hj
  have := h j (by omega) (by omega)
  simpa using this

theorem ext_bB (l : List UInt8) (f p : Nat) : (bB l).extract f p = bB ((l.drop f).take (p - f)) := by
  apply ByteArray.ext
  simp [bB, ByteArray.data_extract, List.extract_toArray, List.extract_eq_take_drop]

theorem infoS : (Tryz.prog.info? 9).map (fun i => (i.zero, i.size, i.bytes)) = some (some (.string ⟨#[]⟩), 1, 16) := by kernel_rfl

end Go.Proofs.YtjapahcbhjjeiaaGreatDoor.AS

/- The walk of asm.words. -/
namespace Go.Proofs.YtjapahcbhjjeiaaGreatDoor.AS
open Go.RowKit Go.Proofs.YtjapahcbhjjeiaaGreatDoorW.PrintWords Go.Proofs.YtjapahcbhjjeiaaGreatDoorW.PrintLast Go.Proofs.YtjapahcbhjjeiaaGreatDoorW.PrintMore Go.Proofs.YtjapahcbhjjeiaaGreatDoor.PA
set_option linter.unusedVariables false
set_option linter.unusedSimpArgs false

theorem iter_far {w : World} {k base : Nat} {s : ByteArray} {pos : Nat} {ok : Nat → Prop} {v : Value} {xs : List ByteArray} (h : w.heap[k]? = some (.stringIter s pos)) (hR : Kd.R Kd.string 9 w base ok v xs) : some k ≠ v.ownBlock := by
  intro e
  obtain ⟨cells, hc⟩ := Kd.R_typed hR k e.symm
  rw [h] at hc
  cases hc
theorem R_iterAt {w : World} {k base : Nat} {s : ByteArray} {pos p : Nat} {ok : Nat → Prop} {v : Value} {xs : List ByteArray} (h : w.heap[k]? = some (.stringIter s pos)) (hR : Kd.R Kd.string 9 w base ok v xs) : Kd.R Kd.string 9 (w.iterAt k s p) base ok v xs := by
  refine ⟨hR.1, ?_⟩
  obtain ⟨inner, hown, hr⟩ := hR.2
  refine ⟨inner, own_move hown fun j hj => Lib.iterAt_other w k j s p ?_, hr⟩
  intro e
  subst e
  exact iter_far h hR hj.symm

set_option maxRecDepth 100000 in
set_option maxHeartbeats 8000000 in
theorem words_calls (l : List UInt8) (hl : l.length ≤ 1073741824) (W : World) : Calls Tryz.prog 38 #[.string (bB l)] W fun e w' => ∃ v, e = .returned v ∧ Kd.R Kd.string 9 w' W.heap.size (fun _ => True) v ((wordsL l).map bB) ∧ Below W.heap.size W w' := by
  have HL := Aside0.mk hl
  clear hl
  obtain ⟨tot, htot⟩ : ∃ x, x = wordsL l := ⟨_, rfl⟩
  rw [← htot]
  have HT := Aside0.mk htot
  clear htot
  go_enter Tryz.func38, Tryz.ntmps38
  go_wp2
  go_loopw [3, 4] (fun v3 v4 wr => ∃ (pos : Nat) (cur : List UInt8) (W0 : List (List UInt8)), ((v4 = .int .i64 (-1) ∧ cur = []) ∨ (∃ f : Nat, v4 = .int .i64 f ∧ f < pos ∧ cur = (l.drop f).take (pos - f))) ∧ Kd.R Kd.string 9 wr W.heap.size (fun _ => True) v3 (W0.map bB) ∧ wr.heap[W.heap.size]? = some (.stringIter (bB l) pos) ∧ Below W.heap.size W wr ∧ W0 ++ split cur (l.drop pos) = tot ∧ pos ≤ l.length ∧ W0.length ≤ pos) (fun _ _ wr => l.length - wr.iterPos W.heap.size)
  case atStart => exact ⟨0, [], [], .inl ⟨rfl, rfl⟩, Kd.R_nil _ _ _ _ _, World.iter_heap _ _ _, below_alloc (Below.refl _ _) _, by rw [HT.out]; rfl, Nat.zero_le _, Nat.le_refl _⟩
  case round =>
    obtain ⟨pos, cur, W0, hfr, hR, hit, hB, hsp, hpl, hwl⟩ := hrel
    have HR := Aside0.mk hR
    have Hit := Aside0.mk hit
    have HB := Aside0.mk hB
    have HSP := Aside0.mk hsp
    have HWL := Aside0.mk hwl
    have HPL := Aside0.mk hpl
    obtain ⟨A3, c3, hv3⟩ := Kd.R_slice hR
    subst hv3
    by_cases hp : pos < l.length
    · have HP := Aside0.mk hp
      have hps : pos < (bB l).size := by rw [bB_size]; exact hp
      obtain ⟨x, hx⟩ : ∃ x, x = l[pos]'hp := ⟨_, rfl⟩
      have hdr : l.drop pos = x :: l.drop (pos + 1) := by rw [hx]; exact List.drop_eq_getElem_cons hp
      have hdc := decode_cases l pos hp
      rw [← hx] at hdc
      have HDR := Aside0.mk hdr
      have HDC := Aside0.mk hdc
      have HXE : Aside0 (∀ j (hj : pos + j < l.length), j = 0 → l[pos + j] = x) := ⟨fun j hj e => by subst e; rw [hx]; rfl⟩
      clear hdr hdc hx
      obtain ⟨n, hn⟩ : ∃ n, n = (Utf8.decode (bB l) pos).2 := ⟨_, rfl⟩
      obtain ⟨r, hr⟩ : ∃ r, r = (Utf8.decode (bB l) pos).1 := ⟨_, rfl⟩
      obtain ⟨wi, hwi⟩ : ∃ w, w = wr.iterAt W.heap.size (bB l) (pos + n) := ⟨_, rfl⟩
      have hnx : ∀ ty, (Instr.next (.pointer (some ⟨W.heap.size, 0, none⟩)) true ty).run Tryz.prog wr = .ok (.tuple #[.bool true, .int .i64 pos, .int .i32 (r : Int)]) wi := fun ty => by
        rw [Lib.run_next_any_at wr W.heap.size (bB l) pos ty Hit.out hps, hwi, hn, hr]
      have HRi : Aside0 (Kd.R Kd.string 9 wi W.heap.size (fun _ => True) (.slice A3 (W0.map bB).length c3) (W0.map bB)) := ⟨by rw [hwi]; exact R_iterAt Hit.out HR.out⟩
      have Hiti : Aside0 (wi.heap[W.heap.size]? = some (.stringIter (bB l) (pos + n))) := ⟨by rw [hwi]; exact Lib.iterAt_heap _ _ _ _ _ Hit.out⟩
      have HBi : Aside0 (Below W.heap.size W wi) := ⟨by rw [hwi]; exact Lib.below_iterAt HB.out (Nat.le_refl _) _ _⟩
      have HN := Aside0.mk hn
      have HRR := Aside0.mk hr
      clear hR hit hB hsp hpl hwl hp hps hn hr hwi
      have hpos0 : (0 : Int) ≤ (pos : Int) := by omega
      by_cases hsep : (r = 32 ∨ r = 44 ∨ r = 40 ∨ r = 41)
      · have HX : Aside0 (isSep x = true ∧ n = 1) := ⟨by
          have h1 := HDC.out
          rw [← HN.out, ← HRR.out] at h1
          rcases h1 with ⟨h1, h2, h3⟩ | ⟨h1, _⟩
          · refine ⟨?_, h2⟩
            unfold isSep
            have e : ∀ k : UInt8, r = k.toNat → x = k := fun k hk => UInt8.toNat_inj.1 (by omega)
            rcases hsep with h | h | h | h
            · rw [e 32 h]; decide
            · rw [e 44 h]; decide
            · rw [e 40 h]; decide
            · rw [e 41 h]; decide
          · omega⟩
        rcases hfr with ⟨rfl, hc⟩ | ⟨f, rfl, hf, hc⟩
        · have HC := Aside0.mk hc
          clear hc
          rcases hsep with rfl | rfl | rfl | rfl
          · go_wp2
            go_roundw
            case rel =>
              refine ⟨pos + n, [], W0, .inl ⟨by first | rfl | simp, rfl⟩, HRi.out, Hiti.out, HBi.out, ?_, by have h1 := HX.out.2; have h2 := HP.out; omega, by have := HWL.out; omega⟩
              have h1 := HSP.out
              rw [HDR.out, HC.out, split, if_pos HX.out.1, if_pos rfl] at h1
              rw [HX.out.2]
              exact h1
            case measure =>
              simp only [World.iterPos, Hiti.out, Hit.out]
              have h1 := HX.out.2; have h2 := HP.out
              omega
          · go_wp2
            go_roundw
            case rel =>
              refine ⟨pos + n, [], W0, .inl ⟨by first | rfl | simp, rfl⟩, HRi.out, Hiti.out, HBi.out, ?_, by have h1 := HX.out.2; have h2 := HP.out; omega, by have := HWL.out; omega⟩
              have h1 := HSP.out
              rw [HDR.out, HC.out, split, if_pos HX.out.1, if_pos rfl] at h1
              rw [HX.out.2]
              exact h1
            case measure =>
              simp only [World.iterPos, Hiti.out, Hit.out]
              have h1 := HX.out.2; have h2 := HP.out
              omega
          · go_wp2
            go_roundw
            case rel =>
              refine ⟨pos + n, [], W0, .inl ⟨by first | rfl | simp, rfl⟩, HRi.out, Hiti.out, HBi.out, ?_, by have h1 := HX.out.2; have h2 := HP.out; omega, by have := HWL.out; omega⟩
              have h1 := HSP.out
              rw [HDR.out, HC.out, split, if_pos HX.out.1, if_pos rfl] at h1
              rw [HX.out.2]
              exact h1
            case measure =>
              simp only [World.iterPos, Hiti.out, Hit.out]
              have h1 := HX.out.2; have h2 := HP.out
              omega
          · go_wp2
            go_roundw
            case rel =>
              refine ⟨pos + n, [], W0, .inl ⟨by first | rfl | simp, rfl⟩, HRi.out, Hiti.out, HBi.out, ?_, by have h1 := HX.out.2; have h2 := HP.out; omega, by have := HWL.out; omega⟩
              have h1 := HSP.out
              rw [HDR.out, HC.out, split, if_pos HX.out.1, if_pos rfl] at h1
              rw [HX.out.2]
              exact h1
            case measure =>
              simp only [World.iterPos, Hiti.out, Hit.out]
              have h1 := HX.out.2; have h2 := HP.out
              omega
        · have HC := Aside0.mk hc
          have HF := Aside0.mk hf
          have b0 : (0 : Int) ≤ (f : Int) := by omega
          have b1 : (f : Int) ≤ (pos : Int) := by omega
          have b2 : (pos : Int) ≤ ((bB l).size : Int) := by rw [bB_size]; have := HPL.out; omega
          have b3 : f ≤ pos := by omega
          have b4 : pos ≤ (bB l).size := by rw [bB_size]; exact HPL.out
          have hex : (bB l).extract f pos = bB cur := by rw [HC.out]; exact ext_bB l f pos
          clear hc
          rcases hsep with rfl | rfl | rfl | rfl
          · go_wp2_with (first | ((with_reducible refine gate_dst (N := 40) rfl ?_); at_builtin; refine Kd.R_append Kd.string (w0 := W) W.heap.size rfl (.tmp 34) (.tmp 39) 36 9 (.string ⟨#[]⟩) 16 rfl Tryz.underlying36 infoS rfl (by decide) (by decide) (.slice A3 (W0.map bB).length c3) (W0.map bB) (bB cur) [.string (bB cur)] (fun _ => True) (fun _ => False) rfl rfl ?aP (fun _ h => h.elim) (fun _ _ => trivial) ?aO ?aB ?aS ?aL ?_; (case aP => exact rfl); (case aO => exact HRi.out); (case aB => exact HBi.out); (case aS => exact (HBi.out).size); (case aL => have h1 := HWL.out; have h2 := HL.out; have h3 := HPL.out; simp; omega); intro v7 w7 ho hb hg hat; have HR7 := Aside0.mk ho; have HB7 := Aside0.mk hb; have HG7 := Aside0.mk hg; clear ho hb hg hat) | fail)
            obtain ⟨A7, c7, hv7⟩ := Kd.R_slice HR7.out
            subst hv7
            go_wp2
            go_roundw
            case rel =>
              refine ⟨pos + n, [], W0 ++ [cur], .inl ⟨by first | rfl | simp, rfl⟩, by rw [List.map_append]; exact HR7.out, blk_grown Hiti.out HG7.out (iter_far Hiti.out HRi.out), HB7.out, ?_, by have h1 := HX.out.2; have h2 := HP.out; omega, by have h1 := HX.out.2; have := HWL.out; simp; omega⟩
              have hne : cur ≠ [] := by
                rw [HC.out]
                intro e
                have := congrArg List.length e
                simp only [List.length_take, List.length_drop, List.length_nil] at this
                have h2 := HF.out; have h3 := HP.out
                omega
              have h1 := HSP.out
              rw [HDR.out, split, if_pos HX.out.1, if_neg hne] at h1
              rw [HX.out.2, List.append_assoc]
              exact h1
            case measure =>
              simp only [World.iterPos, blk_grown Hiti.out HG7.out (iter_far Hiti.out HRi.out), Hit.out]
              have h1 := HX.out.2; have h2 := HP.out
              omega
          · go_wp2_with (first | ((with_reducible refine gate_dst (N := 40) rfl ?_); at_builtin; refine Kd.R_append Kd.string (w0 := W) W.heap.size rfl (.tmp 34) (.tmp 39) 36 9 (.string ⟨#[]⟩) 16 rfl Tryz.underlying36 infoS rfl (by decide) (by decide) (.slice A3 (W0.map bB).length c3) (W0.map bB) (bB cur) [.string (bB cur)] (fun _ => True) (fun _ => False) rfl rfl ?aP (fun _ h => h.elim) (fun _ _ => trivial) ?aO ?aB ?aS ?aL ?_; (case aP => exact rfl); (case aO => exact HRi.out); (case aB => exact HBi.out); (case aS => exact (HBi.out).size); (case aL => have h1 := HWL.out; have h2 := HL.out; have h3 := HPL.out; simp; omega); intro v7 w7 ho hb hg hat; have HR7 := Aside0.mk ho; have HB7 := Aside0.mk hb; have HG7 := Aside0.mk hg; clear ho hb hg hat) | fail)
            obtain ⟨A7, c7, hv7⟩ := Kd.R_slice HR7.out
            subst hv7
            go_wp2
            go_roundw
            case rel =>
              refine ⟨pos + n, [], W0 ++ [cur], .inl ⟨by first | rfl | simp, rfl⟩, by rw [List.map_append]; exact HR7.out, blk_grown Hiti.out HG7.out (iter_far Hiti.out HRi.out), HB7.out, ?_, by have h1 := HX.out.2; have h2 := HP.out; omega, by have h1 := HX.out.2; have := HWL.out; simp; omega⟩
              have hne : cur ≠ [] := by
                rw [HC.out]
                intro e
                have := congrArg List.length e
                simp only [List.length_take, List.length_drop, List.length_nil] at this
                have h2 := HF.out; have h3 := HP.out
                omega
              have h1 := HSP.out
              rw [HDR.out, split, if_pos HX.out.1, if_neg hne] at h1
              rw [HX.out.2, List.append_assoc]
              exact h1
            case measure =>
              simp only [World.iterPos, blk_grown Hiti.out HG7.out (iter_far Hiti.out HRi.out), Hit.out]
              have h1 := HX.out.2; have h2 := HP.out
              omega
          · go_wp2_with (first | ((with_reducible refine gate_dst (N := 40) rfl ?_); at_builtin; refine Kd.R_append Kd.string (w0 := W) W.heap.size rfl (.tmp 34) (.tmp 39) 36 9 (.string ⟨#[]⟩) 16 rfl Tryz.underlying36 infoS rfl (by decide) (by decide) (.slice A3 (W0.map bB).length c3) (W0.map bB) (bB cur) [.string (bB cur)] (fun _ => True) (fun _ => False) rfl rfl ?aP (fun _ h => h.elim) (fun _ _ => trivial) ?aO ?aB ?aS ?aL ?_; (case aP => exact rfl); (case aO => exact HRi.out); (case aB => exact HBi.out); (case aS => exact (HBi.out).size); (case aL => have h1 := HWL.out; have h2 := HL.out; have h3 := HPL.out; simp; omega); intro v7 w7 ho hb hg hat; have HR7 := Aside0.mk ho; have HB7 := Aside0.mk hb; have HG7 := Aside0.mk hg; clear ho hb hg hat) | fail)
            obtain ⟨A7, c7, hv7⟩ := Kd.R_slice HR7.out
            subst hv7
            go_wp2
            go_roundw
            case rel =>
              refine ⟨pos + n, [], W0 ++ [cur], .inl ⟨by first | rfl | simp, rfl⟩, by rw [List.map_append]; exact HR7.out, blk_grown Hiti.out HG7.out (iter_far Hiti.out HRi.out), HB7.out, ?_, by have h1 := HX.out.2; have h2 := HP.out; omega, by have h1 := HX.out.2; have := HWL.out; simp; omega⟩
              have hne : cur ≠ [] := by
                rw [HC.out]
                intro e
                have := congrArg List.length e
                simp only [List.length_take, List.length_drop, List.length_nil] at this
                have h2 := HF.out; have h3 := HP.out
                omega
              have h1 := HSP.out
              rw [HDR.out, split, if_pos HX.out.1, if_neg hne] at h1
              rw [HX.out.2, List.append_assoc]
              exact h1
            case measure =>
              simp only [World.iterPos, blk_grown Hiti.out HG7.out (iter_far Hiti.out HRi.out), Hit.out]
              have h1 := HX.out.2; have h2 := HP.out
              omega
          · go_wp2_with (first | ((with_reducible refine gate_dst (N := 40) rfl ?_); at_builtin; refine Kd.R_append Kd.string (w0 := W) W.heap.size rfl (.tmp 34) (.tmp 39) 36 9 (.string ⟨#[]⟩) 16 rfl Tryz.underlying36 infoS rfl (by decide) (by decide) (.slice A3 (W0.map bB).length c3) (W0.map bB) (bB cur) [.string (bB cur)] (fun _ => True) (fun _ => False) rfl rfl ?aP (fun _ h => h.elim) (fun _ _ => trivial) ?aO ?aB ?aS ?aL ?_; (case aP => exact rfl); (case aO => exact HRi.out); (case aB => exact HBi.out); (case aS => exact (HBi.out).size); (case aL => have h1 := HWL.out; have h2 := HL.out; have h3 := HPL.out; simp; omega); intro v7 w7 ho hb hg hat; have HR7 := Aside0.mk ho; have HB7 := Aside0.mk hb; have HG7 := Aside0.mk hg; clear ho hb hg hat) | fail)
            obtain ⟨A7, c7, hv7⟩ := Kd.R_slice HR7.out
            subst hv7
            go_wp2
            go_roundw
            case rel =>
              refine ⟨pos + n, [], W0 ++ [cur], .inl ⟨by first | rfl | simp, rfl⟩, by rw [List.map_append]; exact HR7.out, blk_grown Hiti.out HG7.out (iter_far Hiti.out HRi.out), HB7.out, ?_, by have h1 := HX.out.2; have h2 := HP.out; omega, by have h1 := HX.out.2; have := HWL.out; simp; omega⟩
              have hne : cur ≠ [] := by
                rw [HC.out]
                intro e
                have := congrArg List.length e
                simp only [List.length_take, List.length_drop, List.length_nil] at this
                have h2 := HF.out; have h3 := HP.out
                omega
              have h1 := HSP.out
              rw [HDR.out, split, if_pos HX.out.1, if_neg hne] at h1
              rw [HX.out.2, List.append_assoc]
              exact h1
            case measure =>
              simp only [World.iterPos, blk_grown Hiti.out HG7.out (iter_far Hiti.out HRi.out), Hit.out]
              have h1 := HX.out.2; have h2 := HP.out
              omega
      · have h32 : ((r : Int) == 32) = false := beq_f (by omega)
        have h44 : ((r : Int) == 44) = false := beq_f (by omega)
        have h40 : ((r : Int) == 40) = false := beq_f (by omega)
        have h41 : ((r : Int) == 41) = false := beq_f (by omega)
        have HX : Aside0 (1 ≤ n ∧ pos + n ≤ l.length ∧ ∀ j (hj : pos + j < l.length), j < n → isSep (l[pos + j]) = false) := ⟨by
          have h1 := HDC.out
          rw [← HN.out, ← HRR.out] at h1
          rcases h1 with ⟨h1, h2, h3⟩ | ⟨h1, h2, h3, h4⟩
          · have := HP.out
            refine ⟨by omega, by omega, fun j hj hjn => ?_⟩
            have : j = 0 := by omega
            rw [HXE.out j hj this]
            unfold isSep
            have e : ∀ k : UInt8, r ≠ k.toNat → (x == k) = false := fun k hk => by
              simp only [beq_eq_false_iff_ne]
              intro e1
              rw [e1] at h1
              exact hk h1
            rw [e 32 (by intro h; exact hsep (.inl h)), e 44 (by intro h; exact hsep (.inr (.inl h))), e 40 (by intro h; exact hsep (.inr (.inr (.inl h)))), e 41 (by intro h; exact hsep (.inr (.inr (.inr h))))]
            rfl
          · exact ⟨h2, h3, fun j hj hjn => isSep_high (h4 j hj hjn)⟩⟩
        clear hsep
        rcases hfr with ⟨rfl, hc⟩ | ⟨f, rfl, hf, hc⟩
        · have HC := Aside0.mk hc
          clear hc
          go_wp2
          go_roundw
          case rel =>
            refine ⟨pos + n, cur ++ (l.drop pos).take n, W0, .inr ⟨pos, by first | rfl | simp, by have := HX.out.1; omega, ?_⟩, HRi.out, Hiti.out, HBi.out, ?_, HX.out.2.1, by have := HWL.out; omega⟩
            · rw [HC.out, List.nil_append, Nat.add_sub_cancel_left]
            · rw [← split_on l cur pos n HX.out.2.1 HX.out.2.2]; exact HSP.out
          case measure =>
            simp only [World.iterPos, Hiti.out, Hit.out]
            have h1 := HX.out.1; have h2 := HP.out
            omega
        · have HC := Aside0.mk hc
          have HF := Aside0.mk hf
          have b0 : decide ((f : Int) < 0) = false := by simp
          have b1 : decide ((0 : Int) ≤ (f : Int)) = true := by simp
          clear hc hf
          go_wp2
          go_roundw
          case rel =>
            refine ⟨pos + n, cur ++ (l.drop pos).take n, W0, .inr ⟨f, by first | rfl | simp, by have := HF.out; omega, ?_⟩, HRi.out, Hiti.out, HBi.out, ?_, HX.out.2.1, by have := HWL.out; omega⟩
            · rw [HC.out]
              have hf := HF.out
              have e : l.drop pos = (l.drop f).drop (pos - f) := by rw [List.drop_drop]; congr 1; omega
              rw [e, show pos + n - f = (pos - f) + n by omega, ← List.take_add]
            · rw [← split_on l cur pos n HX.out.2.1 HX.out.2.2]; exact HSP.out
          case measure =>
            simp only [World.iterPos, Hiti.out, Hit.out]
            have h1 := HX.out.1; have h2 := HP.out
            omega
    · have hnx : ∀ ty, (Instr.next (.pointer (some ⟨W.heap.size, 0, none⟩)) true ty).run Tryz.prog wr = .ok (.tuple #[.bool false]) wr := fun ty => Lib.run_next_end_at wr W.heap.size (bB l) pos ty Hit.out (by rw [bB_size]; exact hp)
      have HE : Aside0 (W0 ++ split cur [] = tot) := ⟨by have h1 := HSP.out; rw [List.drop_eq_nil_of_le (by omega)] at h1; exact h1⟩
      have HPE : Aside0 (pos = l.length) := ⟨by have := HPL.out; omega⟩
      clear hR hit hB hsp hpl hwl hp
      rcases hfr with ⟨rfl, hc⟩ | ⟨f, rfl, hf, hc⟩
      · have HC := Aside0.mk hc
        clear hc
        go_wp2
        go_ret
        refine ⟨_, rfl, ?_, HB.out⟩
        have h1 := HE.out
        rw [HC.out, split, if_pos rfl, List.append_nil] at h1
        rw [← h1]
        exact HR.out
      · have HC := Aside0.mk hc
        have HF := Aside0.mk hf
        have b0 : (0 : Int) ≤ (f : Int) := by omega
        have b2 : (f : Int) ≤ ((bB l).size : Int) := by rw [bB_size]; have := HPE.out; omega
        have b4 : f ≤ (bB l).size := by rw [bB_size]; have := HPE.out; omega
        have hex : (bB l).extract f (bB l).size = bB cur := by rw [HC.out, bB_size, ext_bB, HPE.out]
        clear hc hf
        go_wp2_with (first | ((with_reducible refine gate_dst (N := 56) rfl ?_); at_builtin; refine Kd.R_append Kd.string (w0 := W) W.heap.size rfl (.tmp 51) (.tmp 55) 36 9 (.string ⟨#[]⟩) 16 rfl Tryz.underlying36 infoS rfl (by decide) (by decide) (.slice A3 (W0.map bB).length c3) (W0.map bB) (bB cur) [.string (bB cur)] (fun _ => True) (fun _ => False) rfl rfl ?aP (fun _ h => h.elim) (fun _ _ => trivial) ?aO ?aB ?aS ?aL ?_; (case aP => exact rfl); (case aO => exact HR.out); (case aB => exact HB.out); (case aS => exact (HB.out).size); (case aL => have h1 := HWL.out; have h2 := HL.out; have h3 := HPL.out; simp; omega); intro v7 w7 ho hb hg hat; have HR7 := Aside0.mk ho; have HB7 := Aside0.mk hb; have HG7 := Aside0.mk hg; clear ho hb hg hat) | fail)
        go_wp2
        go_ret
        refine ⟨_, rfl, ?_, HB7.out⟩
        have h1 := HE.out
        have hne : cur ≠ [] := by
          rw [HC.out]
          intro e
          have := congrArg List.length e
          simp only [List.length_take, List.length_drop, List.length_nil] at this
          have h2 := HF.out; have h3 := HPE.out
          omega
        rw [split, if_neg hne] at h1
        rw [← h1, List.map_append]
        exact HR7.out

end Go.Proofs.YtjapahcbhjjeiaaGreatDoor.AS
