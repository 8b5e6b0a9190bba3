/- The plain model of asm.Text: four bytes a line. -/
import Derived.Test.YtjapahcbhjjeiaaGreatDoorK16
import Derived.Test.YtjapahcbhjjeiaaGreatDoorK2
import Derived.BigGuard
import Derived.Laws.BitsLemmas
namespace Go.Proofs.YtjapahcbhjjeiaaGreatDoor.AS
open Go.RowKit Go.MapKept Go.Proofs.YtjapahcbhjjeiaaGreatDoorW.PrintWords Go.Proofs.YtjapahcbhjjeiaaGreatDoorW.PrintLast Go.Proofs.YtjapahcbhjjeiaaGreatDoorW.PrintMore Go.Proofs.YtjapahcbhjjeiaaGreatDoor.PA
set_option linter.unusedVariables false
set_option maxRecDepth 100000

def w4 (b0 b1 b2 b3 : Int) : Int := b0 + b1 * 256 + b2 * 65536 + b3 * 16777216
def Byte (b : Int) : Prop := 0 ≤ b ∧ b < 256

theorem wraps_u32 (n : Int) (h₀ : 0 ≤ n) (h₁ : n < 2 ^ 32) : IntKind.u32.wrap n = n := by rw [IntKind.wrap_u32]; omega
theorem or_lo {x y : Int} (i : Nat) (hi : i ≤ 32) (hx : 0 ≤ x) (hx1 : x < 2 ^ i) (hy : 0 ≤ y) (hy1 : y < 4294967296) (hm : y % 2 ^ i = 0) : Go.bits .or .u32 x y = x + y := by
  obtain ⟨a, rfl⟩ := Int.eq_ofNat_of_zero_le hx
  obtain ⟨b, rfl⟩ := Int.eq_ofNat_of_zero_le hy
  have h32 : (2 : Int) ^ i ≤ 2 ^ 32 := by exact_mod_cast Nat.pow_le_pow_right (by decide) hi
  have ha : a < 2 ^ 32 := by have : (a : Int) < 2 ^ 32 := by omega
                             exact_mod_cast this
  have hb : b < 2 ^ 32 := by omega
  rw [(bits_nat .u32 32 (by decide) wraps_u32 a b ha hb).2, Nat.or_comm, ← (bits_nat .u32 32 (by decide) wraps_u32 b a hb ha).2]
  rw [bits_join .u32 32 (by decide) wraps_u32 i b a (by omega) hm (by omega) (by omega) hx1 (by omega)]
  omega
theorem w4_or {b0 b1 b2 b3 : Int} (h0 : Byte b0) (h1 : Byte b1) (h2 : Byte b2) (h3 : Byte b3) :
    Go.bits .or .u32 (Go.bits .or .u32 (Go.bits .or .u32 b0 (b1 * 256)) (b2 * 65536)) (b3 * 16777216) = w4 b0 b1 b2 b3 := by
  unfold Byte at *
  rw [or_lo (x := b0) (y := b1 * 256) 8 (by decide) (by omega) (by omega) (by omega) (by omega) (by omega)]
  rw [or_lo (x := b0 + b1 * 256) (y := b2 * 65536) 16 (by decide) (by omega) (by omega) (by omega) (by omega) (by omega)]
  rw [or_lo (x := b0 + b1 * 256 + b2 * 65536) (y := b3 * 16777216) 24 (by decide) (by omega) (by omega) (by omega) (by omega) (by omega)]
  rfl

end Go.Proofs.YtjapahcbhjjeiaaGreatDoor.AS
