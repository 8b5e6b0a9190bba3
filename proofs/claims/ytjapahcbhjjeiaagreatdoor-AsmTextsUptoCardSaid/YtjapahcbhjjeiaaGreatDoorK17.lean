/- The walk of AsmBack. -/
import Derived.Test.YtjapahcbhjjeiaaGreatDoorK16
namespace Go.Proofs.YtjapahcbhjjeiaaGreatDoor.AS
open Go.RowKit Go.MapKept Go.Proofs.YtjapahcbhjjeiaaGreatDoorW.PrintWords Go.Proofs.YtjapahcbhjjeiaaGreatDoorW.PrintLast Go.Proofs.YtjapahcbhjjeiaaGreatDoorW.PrintMore Go.Proofs.YtjapahcbhjjeiaaGreatDoor.PA
set_option linter.unusedVariables false
set_option linter.unusedSimpArgs false

theorem told_short (i : Ins) (hf : Fit i) (what : Nat) : (toldL i what).length ≤ 31 := by
  have b0 := hf.rdr; have b1 := hf.rs1r; have b2 := hf.rs2r; have b3 := hf.lo; have b4 := hf.hi
  have ht : -4294967296 ≤ i.imm.tdiv 4096 ∧ i.imm.tdiv 4096 ≤ 4294967296 := by
    rw [Int.tdiv_eq_ediv, show Int.sign 4096 = 1 from rfl]
    split <;> omega
  have e0 := itoa_short i.rd (by omega) (by omega); have e1 := itoa_short i.rs1 (by omega) (by omega); have e2 := itoa_short i.rs2 (by omega) (by omega); have e3 := itoa_short i.imm (by omega) (by omega); have e4 := itoa_short (i.imm.tdiv 4096) (by omega) (by omega)
  unfold toldL
  repeat' split
  all_goals first | (simp only [List.length_cons]; omega) | omega
theorem line_short (i : Ins) (hf : Fit i) : (lineI i).length ≤ 400 := by
  unfold lineI
  rw [List.length_append]
  have h1 := name_len i hf
  have h2 := fill_len (formL i.kind).1 ((formL i.kind).2.map (toldL i)) 31 (fun a ha => by
    obtain ⟨k, _, rfl⟩ := List.mem_map.1 ha
    exact told_short i hf k)
  have h3 := (shape_len i.kind).1
  have h4 : (formL i.kind).1.length * (31 + 1) ≤ 10 * (31 + 1) := Nat.mul_le_mul_right _ h3
  omega

end Go.Proofs.YtjapahcbhjjeiaaGreatDoor.AS
