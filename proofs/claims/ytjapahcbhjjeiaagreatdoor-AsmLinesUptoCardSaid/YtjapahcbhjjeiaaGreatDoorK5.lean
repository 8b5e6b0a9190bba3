/- asm.words: a line's words, by runes as by bytes; its walk. -/
import Derived.Test.YtjapahcbhjjeiaaGreatDoorK3
import Derived.Lib.OthersKept
import Derived.BigCall
namespace Go.Proofs.YtjapahcbhjjeiaaGreatDoor.AS
open Go.RowKit Go.Proofs.YtjapahcbhjjeiaaGreatDoorW.PrintWords Go.Proofs.YtjapahcbhjjeiaaGreatDoorW.PrintLast Go.Proofs.YtjapahcbhjjeiaaGreatDoorW.PrintMore Go.Proofs.YtjapahcbhjjeiaaGreatDoor.PA
set_option linter.unusedVariables false
set_option linter.unusedSimpArgs false

theorem get_bB (l : List UInt8) (k : Nat) (h : k < l.length) : (bB l).get! k = l[k] := by
  show (bB l).data[k]! = _
  simp [bB, h]

theorem decode_cases (l : List UInt8) (pos : Nat) (h : pos < l.length) :
    ((Utf8.decode (bB l) pos).1 = (l[pos]).toNat ∧ (Utf8.decode (bB l) pos).2 = 1 ∧ (l[pos]).toNat < 128) ∨
    (128 ≤ (Utf8.decode (bB l) pos).1 ∧ 1 ≤ (Utf8.decode (bB l) pos).2 ∧ pos + (Utf8.decode (bB l) pos).2 ≤ l.length ∧ ∀ j (hj : pos + j < l.length), j < (Utf8.decode (bB l) pos).2 → 128 ≤ (l[pos + j]).toNat) := by
  have hs : pos < (bB l).size := by rw [bB_size]; exact h
  have hg : (bB l)[pos]'hs = l[pos] := rfl
  by_cases ha : (l[pos]).toNat < 128
  · left
    rw [decode_ascii (bB l) pos hs (by rw [hg]; exact ha)]
    exact ⟨rfl, rfl, ha⟩
  · right
    have hh := decode_high (bB l) pos hs (by rw [hg]; omega)
    have hle : pos + (Utf8.decode (bB l) pos).2 ≤ l.length := by
      simp only [Utf8.decode]
      repeat' split
      all_goals simp only [Bool.and_eq_true, decide_eq_true_eq, beq_iff_eq, bB_size] at *
      all_goals omega
    refine ⟨hh.1, hh.2, hle, fun j hj hlt => ?_⟩
    rcases Nat.eq_zero_or_pos j with rfl | hjp
    · exact Nat.le_of_not_lt ha
    · have g0 : ∀ k (hk : pos + k < l.length), (bB l).get! (pos + k) = l[pos + k] := fun k hk => get_bB l _ hk
      revert hlt
      simp only [Utf8.decode]
      repeat' split
      all_goals
        intro hlt
        first
          | (exfalso; omega)
          | skip
      all_goals
        simp only [Bool.and_eq_true, decide_eq_true_eq, beq_iff_eq, bB_size] at *
      · have : j = 1 := by omega
        subst this
        have e1 := congrArg UInt8.toNat (g0 1 hj)
        omega
      · have : j = 1 ∨ j = 2 := by omega
        rcases this with rfl | rfl
        · have e1 := congrArg UInt8.toNat (g0 1 hj); omega
        · have e1 := congrArg UInt8.toNat (g0 2 hj); omega
      · have : j = 1 ∨ j = 2 ∨ j = 3 := by omega
        rcases this with rfl | rfl | rfl
        · have e1 := congrArg UInt8.toNat (g0 1 hj); omega
        · have e1 := congrArg UInt8.toNat (g0 2 hj); omega
        · have e1 := congrArg UInt8.toNat (g0 3 hj); omega

theorem isSep_high {b : UInt8} (h : 128 ≤ b.toNat) : isSep b = false := by
  unfold isSep
  have n1 : b ≠ 32 := by rintro rfl; simp at h
  have n2 : b ≠ 44 := by rintro rfl; simp at h
  have n3 : b ≠ 40 := by rintro rfl; simp at h
  have n4 : b ≠ 41 := by rintro rfl; simp at h
  simp [n1, n2, n3, n4]

theorem split_on (l cur : List UInt8) (pos n : Nat) (hn : pos + n ≤ l.length) (h : ∀ j (hj : pos + j < l.length), j < n → isSep (l[pos + j]) = false) : split cur (l.drop pos) = split (cur ++ (l.drop pos).take n) (l.drop (pos + n)) := by
  have e : l.drop pos = (l.drop pos).take n ++ l.drop (pos + n) := by rw [← List.drop_drop, List.take_append_drop]
  conv => lhs; rw [e]
  refine split_word _ _ _ fun b hb => ?_
  obtain ⟨j, hj, rfl⟩ := List.getElem_of_mem hb
  simp only [List.length_take, List.length_drop] at hj
  have := h j (by omega) (by omega)
  simpa using this

theorem ext_bB (l : List UInt8) (f p : Nat) : (bB l).extract f p = bB ((l.drop f).take (p - f)) := by
  apply ByteArray.ext
  simp [bB, ByteArray.data_extract, List.extract_toArray, List.extract_eq_take_drop]

theorem infoS : (Tryz.prog.info? 9).map (fun i => (i.zero, i.size, i.bytes)) = some (some (.string ⟨#[]⟩), 1, 16) := by kernel_rfl

end Go.Proofs.YtjapahcbhjjeiaaGreatDoor.AS
