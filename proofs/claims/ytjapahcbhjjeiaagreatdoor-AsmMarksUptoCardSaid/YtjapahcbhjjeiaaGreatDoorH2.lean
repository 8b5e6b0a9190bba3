/- Hooks for the print: inst.register's contract in the print's form. -/
import Derived.Test.YtjapahcbhjjeiaaGreatDoorG2
namespace Go.Proofs.YtjapahcbhjjeiaaGreatDoor.PA
open Go.RowKit Go.Proofs.YtjapahcbhjjeiaaGreatDoorW.PrintWords Go.Proofs.YtjapahcbhjjeiaaGreatDoorW.PrintLast Go.Proofs.YtjapahcbhjjeiaaGreatDoorW.PrintMore Go.Proofs.YtjapahcbhjjeiaaGreatDoor.AS

def inst_register.f (k : Nat) (a0 : Int) : Option Int := if 0 ≤ a0 ∧ a0 < 4294967296 then some (registerL (decide (opW a0 = 0x33)) (f3W a0) (f7W a0)) else none
theorem inst_register.mono : ∀ a0 k, LeO (inst_register.f k a0) (inst_register.f (k + 1) a0) := fun _ _ => LeO.refl _
theorem inst_register.calls (k : Nat) (a0 : Int) (r : Int) (w : World) (h : inst_register.f k a0 = some r) :
    Calls Tryz.prog 94 #[.int .u32 a0] w fun e w' => e = .returned (.int .i64 r) ∧ Below w.heap.size w w' := by
  unfold inst_register.f at h
  split at h
  · next hb =>
    injection h with h; subst h
    exact register_calls w hb.1 hb.2
  · cases h

end Go.Proofs.YtjapahcbhjjeiaaGreatDoor.PA
