/- The plain law of TraceWrites: the written bytes are the chapter's, for confs and labels of bulk at most 1048576. -/
import Derived.Test.YtgibdhdglppdcaaGreatPUx8
import Derived.Test.YtgibdhdglppdcaaGreatPUx0
import Derived.Test.YtgibdhdglppdcaaGreatPUx4
namespace Go.Proofs.YtgibdhdglppdcaaGreat.PU
set_option maxRecDepth 100000
open Go.RowKit Go.Proofs.YtgibdhdglppdcaaGreatW.PrintWords Go.Proofs.YtgibdhdglppdcaaGreatW.PrintLast Go.Proofs.YtgibdhdglppdcaaGreatW.PrintMore
set_option linter.unusedVariables false

/-- A number as bytes. -/
def numB (n : Nat) : List Int := if n < 128 then [(n : Int)] else ((n % 128 + 128 : Nat) : Int) :: numB (n / 128)
termination_by n
decreasing_by omega
theorem numB_lt {n : Nat} (h : n < 128) : numB n = [(n : Int)] := by rw [numB, if_pos h]
theorem numB_ge {n : Nat} (h : ¬ n < 128) : numB n = ((n % 128 + 128 : Nat) : Int) :: numB (n / 128) := by rw [numB, if_neg h]
theorem numB_len : ∀ (m n : Nat), n < 128 ^ (m + 1) → (numB n).length ≤ m + 1
  | 0, n, h => by rw [numB_lt (by simpa using h)]; simp
  | m + 1, n, h => by
    by_cases c : n < 128
    · rw [numB_lt c]; simp
    · rw [numB_ge c, List.length_cons]
      have := numB_len m (n / 128) (by rw [Nat.div_lt_iff_lt_mul (by omega)]; rw [← Nat.pow_succ]; exact h)
      omega
theorem numB_len10 {n : Nat} (h : n < 9223372036854775808) : (numB n).length ≤ 9 := numB_len 8 n (by simpa using h)

theorem bits_or_128 : ∀ m : Fin 256, Go.bits .or .u8 ((m.val : Nat) : Int) 128 = ((m.val % 128 + 128 : Nat) : Int) := by decide +kernel
theorem or128 (n : Nat) : Go.bits .or .u8 ((n : Int) % 256) 128 = ((n % 128 + 128 : Nat) : Int) := by
  have h := bits_or_128 ⟨n % 256, by omega⟩
  have e : ((n : Int) % 256) = (((n % 256 : Nat)) : Int) := by omega
  rw [e, h]
  show ((n % 256 % 128 + 128 : Nat) : Int) = _
  congr 1
  omega

theorem number_ev : ∀ (m n : Nat) (x : List Int), n < 128 ^ (m + 1) → n < 9223372036854775808 → x.length + m < 140737488355328 → Ev (fun k => trace_number.l0 k x (n : Int)) (x ++ numB n)
  | 0, n, x, h, h9, hx => by
    have c : n < 128 := by simpa using h
    refine Ev.step (f := fun _ => some (x ++ [(n : Int)])) (fun k => ?_) (by rw [numB_lt c]; exact Ev.now _)
    simp only [trace_number.l0]
    rw [if_neg (by omega), if_pos (by omega), show (n : Int) % 256 = n by omega]
  | m + 1, n, x, h, h9, hx => by
    by_cases c : n < 128
    · refine Ev.step (f := fun _ => some (x ++ [(n : Int)])) (fun k => ?_) (by rw [numB_lt c]; exact Ev.now _)
      simp only [trace_number.l0]
      rw [if_neg (by omega), if_pos (by omega), show (n : Int) % 256 = n by omega]
    · have ih := number_ev m (n / 128) (x ++ [((n % 128 + 128 : Nat) : Int)]) (by rw [Nat.div_lt_iff_lt_mul (by omega)]; rw [← Nat.pow_succ]; exact h) (by omega) (by simp; omega)
      rw [numB_ge c]
      rw [List.append_assoc] at ih
      refine Ev.step (fun k => ?_) ih
      simp only [trace_number.l0]
      rw [if_pos (by omega), if_pos (by omega), or128]
      congr 1
theorem number_Ev (n : Int) (x : List Int) (h0 : 0 ≤ n) (h1 : n < 9223372036854775808) (hx : x.length + 10 < 140737488355328) : Ev (fun k => trace_number.f k x n) (x ++ numB n.toNat) := by
  obtain ⟨n, rfl⟩ := Int.eq_ofNat_of_zero_le h0
  exact number_ev 8 n x (by simp; omega) (by omega) (by omega)
theorem bytes_Ev (x l : List Int) (hx : x.length + l.length + 20 < 140737488355328) : Ev (fun k => trace_bytes.f k x l) (x ++ (numB l.length ++ l)) := by
  unfold trace_bytes.f
  refine Ev.bind (number_Ev (l.length : Int) x (by omega) (by omega) (by omega)) ?_
  have hl := numB_len10 (n := l.length) (by omega)
  simp only [Int.toNat_natCast]
  rw [if_pos (by simp; omega)]
  rw [← List.append_assoc]
  exact Ev.now _

end Go.Proofs.YtgibdhdglppdcaaGreat.PU
