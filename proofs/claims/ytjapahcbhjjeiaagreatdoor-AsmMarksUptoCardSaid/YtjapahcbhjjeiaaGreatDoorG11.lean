/- inst.encode's plain model, and the contracts of what it calls: put, Index, encodeImmediate, encodeRegister. -/
import Derived.Test.YtjapahcbhjjeiaaGreatDoorG10
import Derived.Test.YtjapahcbhjjeiaaGreatDoorPAy6
import Derived.Deep.QuietTactic
import Derived.BigQuiet
namespace Go.Proofs.YtjapahcbhjjeiaaGreatDoor.AS
open Go.RowKit Go.Proofs.YtjapahcbhjjeiaaGreatDoorW.PrintWords Go.Proofs.YtjapahcbhjjeiaaGreatDoorW.PrintLast Go.Proofs.YtjapahcbhjjeiaaGreatDoorW.PrintMore Go.Proofs.YtjapahcbhjjeiaaGreatDoor.PA
set_option linter.unusedVariables false
set_option linter.unusedSimpArgs false

theorem quiet_from {P : Program} {f : FuncId} {args : Array Value} {w : World} {n k : Nat} {v : Value} (h : Calls P f args (w.drewN (k + n)) fun e w' => e = .returned v ∧ ∃ m, w' = (w.drewN (k + n)).drewN m) : Calls P f args (w.drewN (k + n)) fun e w'' => e = .returned v ∧ ∃ m, w'' = w.drewN (k + m) :=
  h.mono fun _ _ ⟨he, m, hm⟩ => ⟨he, n + m, by rw [hm, World.drewN_drewN, Nat.add_assoc]⟩
def orU (x y : Int) : Int := Go.bits .or .u32 x y
theorem or_b (x y : Int) : 0 ≤ Go.bits .or .u32 x y ∧ Go.bits .or .u32 x y < 4294967296 := by
  unfold Go.bits
  simp only
  rw [IntKind.wrap_u32]
  omega

def putL (v hi lo : Int) : Int := (inst_put.f v hi lo).getD 0
theorem put_f (v hi lo : Int) (h0 : 0 ≤ lo) (h1 : lo ≤ hi) (h2 : hi ≤ 31) : inst_put.f v hi lo = some (putL v hi lo) := by
  unfold putL inst_put.f
  rw [w64 (n := hi - lo) (by omega) (by omega), w64 (n := hi - lo + 1) (by omega) (by omega), if_pos (by omega), if_pos h0]
  rfl
theorem put_calls (v hi lo : Int) (W : World) (h0 : 0 ≤ lo) (h1 : lo ≤ hi) (h2 : hi ≤ 31) : Calls Tryz.prog 64 #[.int .i64 v, .int .i64 hi, .int .i64 lo] W fun e w' => e = .returned (.int .u32 (putL v hi lo)) ∧ Drawn0 W w' :=
  inst_put.calls v hi lo _ W (put_f v hi lo h0 h1 h2)
theorem put_q (v hi lo : Int) (W : World) (h0 : 0 ≤ lo) (h1 : lo ≤ hi) (h2 : hi ≤ 31) : Calls Tryz.prog 64 #[.int .i64 v, .int .i64 hi, .int .i64 lo] W fun e w' => e = .returned (.int .u32 (putL v hi lo)) ∧ ∃ m, w' = W.drewN m :=
  (put_calls v hi lo W h0 h1 h2).mono fun e w' h => ⟨h.1, h.2.out⟩

def idxFrom (a : Int) : Int → List Int → Int
  | _, [] => -1
  | i, x :: l => if a = x then i else idxFrom a (i + 1) l
def idxL (l : List Int) (a : Int) : Int := idxFrom a 0 l

theorem idx_l0 (a : Int) (l : List Int) : ∀ (pre : List Int) (k : Nat), l.length + 1 ≤ k → (pre.length : Int) + l.length < 1000 → slices_Index_int_int.l0 k (pre ++ l) a ((pre ++ l).length : Int) (pre.length : Int) = some (idxFrom a (pre.length : Int) l) := by
  induction l with
  | nil =>
    intro pre k hk _
    obtain ⟨m, rfl⟩ : ∃ m, k = m + 1 := ⟨k - 1, by simp at hk; omega⟩
    simp only [slices_Index_int_int.l0, List.append_nil, idxFrom]
    rw [if_neg (by omega)]
  | cons x l ih =>
    intro pre k hk hl
    obtain ⟨m, rfl⟩ : ∃ m, k = m + 1 := ⟨k - 1, by simp at hk; omega⟩
    have hr : rd (pre ++ x :: l) (pre.length : Int) = x := by unfold rd; simp
    have A := ih (pre ++ [x]) m (by simp at hk ⊢; omega) (by simp at hl ⊢; omega)
    simp only [List.length_cons] at hl
    have e1 : (((pre ++ [x]).length : Nat) : Int) = (pre.length : Int) + 1 := by simp
    have e2 : pre ++ [x] ++ l = pre ++ x :: l := by simp
    rw [e1, e2] at A
    have e3 : (((pre ++ x :: l).length : Nat) : Int) = (pre.length : Int) + (l.length : Int) + 1 := by simp; omega
    rw [e3] at A ⊢
    simp only [slices_Index_int_int.l0, idxFrom]
    rw [if_pos (by omega), if_pos (by omega), e3, if_pos (by omega), hr, w64 (n := (pre.length : Int) + 1) (by omega) (by omega), A]
    split <;> rfl

theorem idx_f (l : List Int) (a : Int) (hl : l.length < 1000) : slices_Index_int_int.f (l.length + 1) l a = some (idxL l a) := by
  have := idx_l0 a l [] (l.length + 1) (Nat.le_refl _) (by simp; omega)
  simpa [slices_Index_int_int.f, idxL] using this
theorem idx_at {W : World} {A : Option Addr} {n c : Nat} (xs : List Int) (i : Int) (hC : Kd.C (Kd.int .i64) W A xs.length xs) (hn : n = xs.length) (hc : n ≤ c) (hl : xs.length < 1000) :
    Calls Tryz.prog 65 #[.slice A n c, .int .i64 i] W fun e w' => e = .returned (.int .i64 (idxL xs i)) ∧ Drawn0 W w' := by
  subst hn
  exact slices_Index_int_int.calls _ A c xs i _ W hC hc (idx_f xs i hl)

theorem some_of {α : Type} {o : Option α} (d : α) (h : o.isSome = true) : o = some (o.getD d) := by
  cases o with
  | none => cases h
  | some x => rfl

def encImmL (i : Ins) : Int :=
  if i.fn = 19 then Go.bits .or .u32 27 (putL i.imm 31 20)
  else if i.fn = 21 then Go.bits .or .u32 4123 (putL i.imm 24 20)
  else if i.fn = 22 then Go.bits .or .u32 20507 (putL i.imm 24 20)
  else if i.fn = 23 then Go.bits .or .u32 1073762331 (putL i.imm 24 20)
  else if i.fn = 3 then Go.bits .or .u32 4115 (putL i.imm 25 20)
  else if i.fn = 7 then Go.bits .or .u32 20499 (putL i.imm 25 20)
  else if i.fn = 8 then Go.bits .or .u32 1073762323 (putL i.imm 25 20)
  else Go.bits .or .u32 (Go.bits .or .u32 19 (putL i.imm 31 20)) (putL (idxL immsL i.fn) 14 12)

def encRegL (i : Ins) : Int := (inst_encodeRegister.f 100 i.kind i.fn i.rd i.rs1 i.rs2 i.imm i.size i.sg).getD 0
theorem reg_f (k : Nat) (x y : Int) : inst_register.f k (Go.bits .or .u32 x y) = some (registerL (decide (opW (Go.bits .or .u32 x y) = 0x33)) (f3W (Go.bits .or .u32 x y)) (f7W (Go.bits .or .u32 x y))) := by
  unfold inst_register.f
  rw [if_pos (or_b x y)]
theorem encReg_l (i : Ins) (x7 : List Int) (h7 : x7.length = 6) : ∀ (n : Nat),
    (∀ (x9 k : Nat), x9 ≤ 6 → (6 - x9) * 10 = n → n + 1 ≤ k → (inst_encodeRegister.l0 k x7 (x7.length : Int) (x9 : Int) i.kind i.fn i.rd i.rs1 i.rs2 i.imm i.size i.sg).isSome = true) ∧
    (∀ (x4 : Int) (x9 x13 k : Nat), x9 < 6 → x13 ≤ 8 → (5 - x9) * 10 + (8 - x13) + 1 = n → n + 1 ≤ k → (inst_encodeRegister.l1 k x4 x7 (x7.length : Int) (x9 : Int) (x13 : Int) i.kind i.fn i.rd i.rs1 i.rs2 i.imm i.size i.sg).isSome = true) := by
  intro n
  induction n using Nat.strongRecOn with
  | _ n ih =>
    refine ⟨fun x9 k h9 hn hk => ?_, fun x4 x9 x13 k h9 h13 hn hk => ?_⟩
    · obtain ⟨m, rfl⟩ : ∃ m, k = m + 1 := ⟨k - 1, by omega⟩
      simp only [inst_encodeRegister.l0]
      by_cases c : (x9 : Int) < (x7.length : Int)
      · rw [if_pos c, if_pos (by omega), if_pos c]
        exact (ih ((5 - x9) * 10 + 9) (by omega)).2 _ x9 0 m (by omega) (by omega) (by omega) (by omega)
      · rw [if_neg c]; rfl
    · obtain ⟨m, rfl⟩ : ∃ m, k = m + 1 := ⟨k - 1, by omega⟩
      simp only [inst_encodeRegister.l1]
      by_cases c : (x13 : Int) < 8
      · rw [if_pos c, put_f _ 14 12 (by decide) (by decide) (by decide), Option.bind_some, reg_f, Option.bind_some, w64 (n := (x13 : Int) + 1) (by omega) (by omega)]
        have A := (ih ((5 - x9) * 10 + (8 - (x13 + 1)) + 1) (by omega)).2 x4 x9 (x13 + 1) m h9 (by omega) rfl (by omega)
        rw [show (((x13 + 1 : Nat)) : Int) = (x13 : Int) + 1 by omega] at A
        repeat' split
        all_goals first | exact A | rfl
      · rw [if_neg c, w64 (n := (x9 : Int) + 1) (by omega) (by omega)]
        have A := (ih ((6 - (x9 + 1)) * 10) (by omega)).1 (x9 + 1) m (by omega) rfl (by omega)
        rw [show (((x9 + 1 : Nat)) : Int) = (x9 : Int) + 1 by omega] at A
        exact A
theorem encReg_f (i : Ins) : inst_encodeRegister.f 100 i.kind i.fn i.rd i.rs1 i.rs2 i.imm i.size i.sg = some (encRegL i) := by
  apply some_of
  unfold inst_encodeRegister.f
  rw [Option.bind_some]
  exact (encReg_l i [51, 1073741875, 33554483, 59, 1073741883, 33554491] rfl 60).1 0 100 (by omega) rfl (by omega)

def regsL (i : Ins) : Int := Go.bits .or .u32 (Go.bits .or .u32 (putL i.rd 11 7) (putL i.rs1 19 15)) (putL i.rs2 24 20)
def sizeL (i : Ins) : Int := putL (wrap64 (idxL [4, 8] i.size + 2)) 14 12
def amoIdx : List Int := [2, 1, 0, 0, 3, 0, 0, 0, 5, 0, 0, 0, 4, 0, 0, 0, 6, 0, 0, 0, 7, 0, 0, 0, 8, 0, 0, 0, 9]

def encL (i : Ins) : Int :=
  if i.kind = 1 then Go.bits .or .u32 (Go.bits .or .u32 55 (regsL i)) (putL (i.imm / 4096) 31 12)
  else if i.kind = 2 then Go.bits .or .u32 (Go.bits .or .u32 23 (regsL i)) (putL (i.imm / 4096) 31 12)
  else if i.kind = 3 then Go.bits .or .u32 (Go.bits .or .u32 (Go.bits .or .u32 (Go.bits .or .u32 (Go.bits .or .u32 111 (regsL i)) (putL (i.imm / 1048576) 31 31)) (putL (i.imm / 4096) 19 12)) (putL (i.imm / 2048) 20 20)) (putL (i.imm / 2) 30 21)
  else if i.kind = 4 then Go.bits .or .u32 (Go.bits .or .u32 103 (regsL i)) (putL i.imm 31 20)
  else if i.kind = 5 then Go.bits .or .u32 (Go.bits .or .u32 (Go.bits .or .u32 (Go.bits .or .u32 (Go.bits .or .u32 (Go.bits .or .u32 99 (regsL i)) (putL (idxL branchesL i.fn) 14 12)) (putL (i.imm / 4096) 31 31)) (putL (i.imm / 2048) 7 7)) (putL (i.imm / 32) 30 25)) (putL (i.imm / 2) 11 8)
  else if i.kind = 6 then Go.bits .or .u32 (Go.bits .or .u32 (Go.bits .or .u32 3 (regsL i)) (putL (if i.sg = true then idxL [1, 2, 4, 8] i.size else wrap64 (idxL [1, 2, 4, 8] i.size + 4)) 14 12)) (putL i.imm 31 20)
  else if i.kind = 7 then Go.bits .or .u32 (Go.bits .or .u32 (Go.bits .or .u32 (Go.bits .or .u32 35 (regsL i)) (putL (idxL [1, 2, 4, 8] i.size) 14 12)) (putL (i.imm / 32) 31 25)) (putL i.imm 11 7)
  else if i.kind = 9 then Go.bits .or .u32 (encImmL i) (regsL i)
  else if i.kind = 8 then Go.bits .or .u32 (encRegL i) (regsL i)
  else if i.kind = 10 then 15
  else if i.kind = 11 then 115
  else if i.kind = 12 then 1048691
  else if i.kind = 18 then 270532723
  else if i.kind = 19 then 273678451
  else if i.kind = 20 then Go.bits .or .u32 301990003 (regsL i)
  else if i.kind = 13 then Go.bits .or .u32 (Go.bits .or .u32 (Go.bits .or .u32 115 (Go.bits .and .u32 (regsL i) 1048575)) (putL i.fn 13 12)) (putL i.imm 31 20)
  else if i.kind = 14 then Go.bits .or .u32 (Go.bits .or .u32 (Go.bits .or .u32 16499 (Go.bits .and .u32 (regsL i) 1048575)) (putL i.fn 13 12)) (putL i.imm 31 20)
  else if i.kind = 15 then Go.bits .or .u32 (Go.bits .or .u32 268435503 (regsL i)) (sizeL i)
  else if i.kind = 16 then Go.bits .or .u32 (Go.bits .or .u32 402653231 (regsL i)) (sizeL i)
  else if i.kind = 17 then Go.bits .or .u32 (Go.bits .or .u32 (Go.bits .or .u32 47 (regsL i)) (sizeL i)) (putL (idxL amoIdx i.fn) 31 27)
  else 0

def U32 (x : Int) : Prop := 0 ≤ x ∧ x < 4294967296
theorem U_ite {c : Prop} [Decidable c] {a b : Int} (ha : U32 a) (hb : U32 b) : U32 (if c then a else b) := by split <;> assumption
theorem encL_b (i : Ins) : U32 (encL i) := by
  unfold encL
  repeat' refine U_ite ?_ ?_
  all_goals first | exact or_b _ _ | exact ⟨by decide, by decide⟩

def mayL (i : Ins) : Bool := decide (decodeL (encL i) = some i)
theorem mayL_fit (i : Ins) (h : mayL i = true) : Fit i := fit_decode (of_decide_eq_true h)

end Go.Proofs.YtjapahcbhjjeiaaGreatDoor.AS
