/- Several texts in one. -/
import Derived.Test.YtjapahcbhjjeiaaGreatDoorG11
import Derived.Test.YtjapahcbhjjeiaaGreatDoorL1
import Derived.Laws.BitsAllLaws
/- The document's word of an instruction in plain terms, and that it and the program's own word are the same for whatever can be read. No program in sight. -/
namespace Go.Proofs.YtjapahcbhjjeiaaGreatDoor.AS
open Go.RowKit Go.Proofs.YtjapahcbhjjeiaaGreatDoorW.PrintWords Go.Proofs.YtjapahcbhjjeiaaGreatDoorW.PrintLast Go.Proofs.YtjapahcbhjjeiaaGreatDoorW.PrintMore Go.Proofs.YtjapahcbhjjeiaaGreatDoor.PA
set_option linter.unusedVariables false
set_option linter.unusedSimpArgs false
set_option maxRecDepth 100000

def sizesR : List Int := [0, 0, 1, 0, 2, 0, 0, 0, 3]
def f3R : List Int := [0, 0, 0, 1, 2, 3, 4, 5, 5, 6, 7, 0, 1, 2, 3, 4, 5, 6, 7, 0, 0, 1, 5, 5, 0, 4, 5, 6, 7]
def brR : List Int := [0, 0, 1, 4, 5, 6, 7]
def amR : List Int := [0, 1, 0, 4, 12, 8, 16, 20, 24, 28]
def aluR1 (fn : Int) : Int := if fn = 2 ∨ fn = 8 ∨ fn = 20 ∨ fn = 23 then orU (atL (pickL f3R fn) 3 12) 1073741824 else atL (pickL f3R fn) 3 12
def aluR (fn : Int) : Int := if (11 ≤ fn ∧ fn ≤ 18) ∨ (24 ≤ fn ∧ fn ≤ 28) then orU (aluR1 fn) 33554432 else aluR1 fn
def rdR (i : Ins) : Int := atL i.rd 5 7
def r1R (i : Ins) : Int := atL i.rs1 5 15
def r2R (i : Ins) : Int := atL i.rs2 5 20
def rR (i : Ins) : Int := orU (orU (rdR i) (r1R i)) (r2R i)
def bR (m : Int) : Int := orU (orU (orU (atL (m / 4096) 1 31) (atL (m / 2048) 1 7)) (atL (m / 32) 6 25)) (atL (m / 2) 4 8)
def jR (m : Int) : Int := orU (orU (orU (atL (m / 1048576) 1 31) (atL (m / 4096) 8 12)) (atL (m / 2048) 1 20)) (atL (m / 2) 10 21)
def sR (i : Ins) : Int := pickL sizesR i.size % 4294967296
def wordR (i : Ins) : Int :=
  if i.kind = 1 then orU (orU 55 (rdR i)) (atL (i.imm / 4096) 20 12)
  else if i.kind = 2 then orU (orU 23 (rdR i)) (atL (i.imm / 4096) 20 12)
  else if i.kind = 3 then orU (orU 111 (rdR i)) (jR i.imm)
  else if i.kind = 4 then orU (orU (orU 103 (rdR i)) (r1R i)) (atL i.imm 12 20)
  else if i.kind = 5 then orU (orU (orU (orU 99 (atL (pickL brR i.fn) 3 12)) (r1R i)) (r2R i)) (bR i.imm)
  else if i.kind = 6 then orU (orU (orU (orU 3 (shl .u32 (if i.sg = true then sR i else (pickL sizesR i.size + 4) % 4294967296) 12)) (rdR i)) (r1R i)) (atL i.imm 12 20)
  else if i.kind = 7 then orU (orU (orU (orU (orU 35 (shl .u32 (sR i) 12)) (r1R i)) (r2R i)) (atL i.imm 5 7)) (atL (i.imm / 32) 7 25)
  else if i.kind = 9 then orU (orU (orU (orU (if 19 ≤ i.fn ∧ i.fn ≤ 23 then 27 else 19) (aluR i.fn)) (rdR i)) (r1R i)) (atL i.imm 12 20)
  else if i.kind = 8 then orU (orU (if 19 ≤ i.fn then 59 else 51) (aluR i.fn)) (rR i)
  else if i.kind = 10 then 15
  else if i.kind = 11 then 115
  else if i.kind = 12 then 1048691
  else if i.kind = 18 then 270532723
  else if i.kind = 19 then 273678451
  else if i.kind = 20 then orU (orU 301990003 (r1R i)) (r2R i)
  else if i.kind = 13 then orU (orU (orU (orU 115 (atL i.fn 2 12)) (rdR i)) (r1R i)) (atL i.imm 12 20)
  else if i.kind = 14 then orU (orU (orU (orU 16499 (atL i.fn 2 12)) (rdR i)) (r1R i)) (atL i.imm 12 20)
  else if i.kind = 15 then orU (orU (orU 268435503 (shl .u32 (sR i) 12)) (rdR i)) (r1R i)
  else if i.kind = 16 then orU (orU 402653231 (shl .u32 (sR i) 12)) (rR i)
  else if i.kind = 17 then orU (orU (orU 47 (atL (pickL amR i.fn) 5 27)) (shl .u32 (sR i) 12)) (rR i)
  else 0

structure Is (x : Int) (n : Nat) : Prop where
  eq : x = (n : Int)
  lt : n < 4294967296
theorem Is.or {x y : Int} {a b : Nat} (hx : Is x a) (hy : Is y b) : Is (orU x y) (a ||| b) := by
  refine ⟨?_, Nat.or_lt_two_pow (n := 32) hx.lt hy.lt⟩
  have h1 := hx.lt
  have h2 := hy.lt
  unfold orU
  rw [hx.eq, hy.eq, u32_or_nat a b h1 h2]
theorem Is.bor {x y : Int} {a b : Nat} (hx : Is x a) (hy : Is y b) : Is (Go.bits .or .u32 x y) (a ||| b) := hx.or hy
theorem Is.lit {x : Int} (n : Nat) (h : x = (n : Int)) (hl : n < 4294967296) : Is x n := ⟨h, hl⟩
theorem Is.to {x : Int} {a b : Nat} (h : Is x a) (e : a = b) : Is x b := e ▸ h
theorem lt32 {m a lo : Nat} (hm : m < 2 ^ a) (h : a + lo ≤ 32) : m * 2 ^ lo < 4294967296 := by
  have h1 : m * 2 ^ lo < 2 ^ a * 2 ^ lo := Nat.mul_lt_mul_of_pos_right hm (Nat.two_pow_pos lo)
  rw [← Nat.pow_add] at h1
  exact Nat.lt_of_lt_of_le h1 (Nat.pow_le_pow_right (by decide) h)
theorem cm (m lo : Nat) : (m : Int) * 2 ^ lo = ((m * 2 ^ lo : Nat) : Int) := by rw [Int.natCast_mul, Int.natCast_pow]; rfl
theorem is_at (v : Int) (n lo : Nat) (m : Nat) (h : n + lo ≤ 32) (hm : v % 2 ^ n = (m : Int)) : Is (atL v n lo) (m * 2 ^ lo) := by
  have h1 := pow_c (n := n) (by omega)
  have h2 := Int.emod_lt_of_pos v (b := 2 ^ n) (by omega)
  refine ⟨?_, lt32 (a := n) ?_ h⟩
  · unfold atL
    rw [hm, cm]
  · rw [hm] at h2
    exact_mod_cast h2
theorem is_put (v : Int) (hi lo : Nat) (m : Nat) {hi' lo' : Int} (h : lo ≤ hi) (h1 : hi ≤ 31) (hk : hi - lo + 1 ≤ 31) (hm : v % 2 ^ (hi - lo + 1) = (m : Int)) (e1 : hi' = (hi : Int)) (e2 : lo' = (lo : Int)) : Is (putL v hi' lo') (m * 2 ^ lo) := by
  subst e1; subst e2
  have hp := pow_c (n := hi - lo + 1) (by omega)
  have h2 := Int.emod_lt_of_pos v (b := 2 ^ (hi - lo + 1)) (by omega)
  have hp' : (2 : Int) ^ (hi - lo + 1) = ((2 ^ (hi - lo + 1) : Nat) : Int) := by rw [Int.natCast_pow]; rfl
  have hq : (2 : Nat) ^ (hi - lo + 1) ≤ 2 ^ 31 := Nat.pow_le_pow_right (by decide) hk
  have hml : m < 2 ^ (hi - lo + 1) := by rw [hm] at h2; exact_mod_cast h2
  have hlt := lt32 (lo := lo) hml (by omega)
  refine ⟨?_, hlt⟩
  unfold putL inst_put.f
  rw [w64 (n := (hi : Int) - lo) (by omega) (by omega), w64 (n := (hi : Int) - lo + 1) (by omega) (by omega), if_pos (by omega), if_pos (by omega), Option.getD_some]
  have e1 : ((hi : Int) - lo + 1).toNat = hi - lo + 1 := by omega
  have hs : shl .u32 1 ((hi : Int) - lo + 1) = 2 ^ (hi - lo + 1) := by
    unfold shl
    rw [e1, Nat.min_eq_left (by show hi - lo + 1 ≤ 32; omega), Int.one_mul, wu32 (by omega) (by omega)]
  rw [hs]
  have hb : Go.bits .and .u32 (v % 4294967296) (((2 : Int) ^ (hi - lo + 1) - 1) % 4294967296) = (m : Int) := by
    have a0 := Int.emod_nonneg v (b := 4294967296) (by decide)
    have a1 := Int.emod_lt_of_pos v (b := 4294967296) (by decide)
    rw [Int.emod_eq_of_lt (a := (2 : Int) ^ (hi - lo + 1) - 1) (by omega) (by omega), u32_and _ _ a0 a1 (by omega) (by omega)]
    have t : ((2 : Int) ^ (hi - lo + 1) - 1).toNat = 2 ^ (hi - lo + 1) - 1 := by rw [hp']; omega
    rw [t, Nat.and_two_pow_sub_one_eq_mod]
    have d : ((2 : Int) ^ (hi - lo + 1)) ∣ 4294967296 := by
      rw [hp']
      exact Int.natCast_dvd_natCast.2 (Nat.pow_dvd_pow 2 (show hi - lo + 1 ≤ 32 by omega))
    rw [← hm, ← Int.emod_emod_of_dvd v d, Int.natCast_emod, ← hp', Int.toNat_of_nonneg a0]
  rw [hb]
  have hlt' : (m : Int) * 2 ^ lo < 4294967296 := by rw [cm]; generalize m * 2 ^ lo = z at *; omega
  have h0 : (0 : Int) ≤ (m : Int) * 2 ^ lo := by rw [cm]; omega
  unfold shl
  rw [Int.toNat_natCast, Nat.min_eq_left (by show lo ≤ 32; omega), wu32 h0 hlt', cm]
theorem is_shl {x : Int} {m : Nat} (h : Is x m) (hm : m < 8) : Is (shl .u32 x 12) (m * 2 ^ 12) := by
  refine ⟨?_, by omega⟩
  unfold shl
  rw [h.eq, show (12 : Int).toNat = 12 from rfl, Nat.min_eq_left (by decide), wu32 (by omega) (by omega)]
  push_cast; rfl
theorem cat {lo m r : Nat} (h : r < 2 ^ lo) : m * 2 ^ lo ||| r = m * 2 ^ lo + r := by
  rw [Nat.mul_comm, Nat.two_pow_add_eq_or_of_lt h]

end Go.Proofs.YtjapahcbhjjeiaaGreatDoor.AS

/- What can be read is written as it stands, by the program and by the document: the two words are one. No program in sight. -/
namespace Go.Proofs.YtjapahcbhjjeiaaGreatDoor.AS
open Go.RowKit Go.Proofs.YtjapahcbhjjeiaaGreatDoorW.PrintWords Go.Proofs.YtjapahcbhjjeiaaGreatDoorW.PrintLast Go.Proofs.YtjapahcbhjjeiaaGreatDoorW.PrintMore Go.Proofs.YtjapahcbhjjeiaaGreatDoor.PA
set_option linter.unusedVariables false
set_option linter.unusedSimpArgs false
set_option maxRecDepth 100000

def nf (k hi lo : Nat) : Nat := k / 2 ^ lo % 2 ^ (hi - lo + 1)
theorem fl_nf (k hi lo : Nat) : fl (k : Int) hi lo = (nf k hi lo : Int) := by
  unfold fl nf
  rw [Int.natCast_emod, Int.natCast_ediv, Int.natCast_pow, Int.natCast_pow]; rfl
theorem nf_lt (k hi lo : Nat) : nf k hi lo < 2 ^ (hi - lo + 1) := Nat.mod_lt _ (Nat.two_pow_pos _)
theorem fl_mod (k hi lo : Nat) : fl (k : Int) hi lo % 2 ^ (hi - lo + 1) = (nf k hi lo : Int) := by
  rw [fl_nf]
  have := nf_lt k hi lo
  rw [show (2 : Int) ^ (hi - lo + 1) = ((2 ^ (hi - lo + 1) : Nat) : Int) by rw [Int.natCast_pow]; rfl, ← Int.natCast_emod, Nat.mod_eq_of_lt this]
theorem z_mod (n : Nat) : (0 : Int) % 2 ^ n = ((0 : Nat) : Int) := by simp
theorem uf (k : Nat) : uW k / 4096 % 2 ^ 20 = (nf k 31 12 : Int) := by
  have h := nf_lt k 31 12
  unfold uW sx; rw [fl_nf]; omega
theorem jf (k : Nat) : jW k / 1048576 % 2 ^ 1 = (nf k 31 31 : Int) ∧ jW k / 4096 % 2 ^ 8 = (nf k 19 12 : Int) ∧ jW k / 2048 % 2 ^ 1 = (nf k 20 20 : Int) ∧ jW k / 2 % 2 ^ 10 = (nf k 30 21 : Int) := by
  have h1 := nf_lt k 31 31
  have h2 := nf_lt k 19 12
  have h3 := nf_lt k 20 20
  have h4 := nf_lt k 30 21
  unfold jW sx; simp only [fl_nf]; omega
theorem bf (k : Nat) : bW k / 4096 % 2 ^ 1 = (nf k 31 31 : Int) ∧ bW k / 2048 % 2 ^ 1 = (nf k 7 7 : Int) ∧ bW k / 32 % 2 ^ 6 = (nf k 30 25 : Int) ∧ bW k / 2 % 2 ^ 4 = (nf k 11 8 : Int) := by
  have h1 := nf_lt k 31 31
  have h2 := nf_lt k 7 7
  have h3 := nf_lt k 30 25
  have h4 := nf_lt k 11 8
  unfold bW sx; simp only [fl_nf]; omega
theorem if_ (k : Nat) : iW k % 2 ^ 12 = (nf k 31 20 : Int) := by
  have h := nf_lt k 31 20
  unfold iW sx; rw [fl_nf]; omega
theorem sf (k : Nat) : sW k % 2 ^ 5 = (nf k 11 7 : Int) ∧ sW k / 32 % 2 ^ 7 = (nf k 31 25 : Int) := by
  have h1 := nf_lt k 11 7
  have h2 := nf_lt k 31 25
  unfold sW sx f7W rdW; simp only [fl_nf]; omega
section
variable (k : Nat)
theorem aRd (i : Ins) (h : i.rd = rdW k) : Is (rdR i) (nf k 11 7 * 2 ^ 7) := by unfold rdR; rw [h]; exact is_at _ 5 7 _ (by decide) (fl_mod k 11 7)
theorem aR1 (i : Ins) (h : i.rs1 = rs1W k) : Is (r1R i) (nf k 19 15 * 2 ^ 15) := by unfold r1R; rw [h]; exact is_at _ 5 15 _ (by decide) (fl_mod k 19 15)
theorem aR2 (i : Ins) (h : i.rs2 = rs2W k) : Is (r2R i) (nf k 24 20 * 2 ^ 20) := by unfold r2R; rw [h]; exact is_at _ 5 20 _ (by decide) (fl_mod k 24 20)
theorem pg (i : Ins) {a b c : Nat} (h1 : i.rd % 2 ^ 5 = (a : Int)) (h2 : i.rs1 % 2 ^ 5 = (b : Int)) (h3 : i.rs2 % 2 ^ 5 = (c : Int)) : Is (regsL i) (a * 2 ^ 7 ||| b * 2 ^ 15 ||| c * 2 ^ 20) :=
  ((is_put _ 11 7 _ (by decide) (by decide) (by decide) h1 rfl rfl).bor (is_put _ 19 15 _ (by decide) (by decide) (by decide) h2 rfl rfl)).bor (is_put _ 24 20 _ (by decide) (by decide) (by decide) h3 rfl rfl)
end
def Can (k : Nat) (i : Ins) : Prop := Is (encL i) k ∧ Is (wordR i) k

theorem Is.eqs {x y : Int} {n : Nat} (e : x = y) (h : Is y n) : Is x n := e ▸ h
-- the tables
theorem brT {f : Int} (h : f = 0 ∨ f = 1 ∨ f = 2 ∨ f = 3 ∨ f = 4 ∨ f = 5 ∨ f = 6 ∨ f = 7) (hn : pickL branchesL f ≠ 0) : idxL branchesL (pickL branchesL f) % 2 ^ 3 = f ∧ pickL brR (pickL branchesL f) % 2 ^ 3 = f := by
  rcases h with rfl | rfl | rfl | rfl | rfl | rfl | rfl | rfl <;> first | decide | exact absurd (by decide) hn
theorem ldT {f : Int} (h : f = 0 ∨ f = 1 ∨ f = 2 ∨ f = 3 ∨ f = 4 ∨ f = 5 ∨ f = 6 ∨ f = 7) (hn : f < 7) : (if decide (f < 4) = true then idxL [1, 2, 4, 8] (p2 (f % 4)) else wrap64 (idxL [1, 2, 4, 8] (p2 (f % 4)) + 4)) % 2 ^ 3 = f ∧ (if decide (f < 4) = true then pickL sizesR (p2 (f % 4)) % 4294967296 else (pickL sizesR (p2 (f % 4)) + 4) % 4294967296) = f := by
  rcases h with rfl | rfl | rfl | rfl | rfl | rfl | rfl | rfl <;> first | decide +kernel | omega
theorem stT {f : Int} (h : f = 0 ∨ f = 1 ∨ f = 2 ∨ f = 3 ∨ f = 4 ∨ f = 5 ∨ f = 6 ∨ f = 7) (hn : f < 4) : idxL [1, 2, 4, 8] (p2 f) % 2 ^ 3 = f ∧ pickL sizesR (p2 f) % 4294967296 = f := by
  rcases h with rfl | rfl | rfl | rfl | rfl | rfl | rfl | rfl <;> first | decide +kernel | omega
theorem atT {f : Int} (h : f = 2 ∨ f = 3) : wrap64 (idxL [4, 8] (p2 f) + 2) % 2 ^ 3 = f ∧ pickL sizesR (p2 f) % 4294967296 = f := by
  rcases h with rfl | rfl <;> decide +kernel
theorem amT {f : Int} (h0 : 0 ≤ f) (h1 : f < 32) (h4 : f % 4 = 0) : idxL amoIdx (pickL amosL (f / 4)) % 2 ^ 5 = f ∧ pickL amR (pickL amosL (f / 4)) % 2 ^ 5 = f := by
  have : f = 0 ∨ f = 4 ∨ f = 8 ∨ f = 12 ∨ f = 16 ∨ f = 20 ∨ f = 24 ∨ f = 28 := by omega
  rcases this with rfl | rfl | rfl | rfl | rfl | rfl | rfl | rfl <;> decide +kernel
theorem imT {f : Int} (h : f = 0 ∨ f = 1 ∨ f = 2 ∨ f = 3 ∨ f = 4 ∨ f = 5 ∨ f = 6 ∨ f = 7) (h1 : f ≠ 1) (h5 : f ≠ 5) (rd rs1 n : Int) :
    encImmL ⟨9, pickL immsL f, rd, rs1, 0, n, 0, false⟩ = orU (orU 19 (putL n 31 20)) (putL (idxL immsL (pickL immsL f)) 14 12) ∧ idxL immsL (pickL immsL f) % 2 ^ 3 = f ∧ Is (orU (if 19 ≤ pickL immsL f ∧ pickL immsL f ≤ 23 then 27 else 19) (aluR (pickL immsL f))) (f.toNat * 2 ^ 12 ||| 19) := by
  rcases h with rfl | rfl | rfl | rfl | rfl | rfl | rfl | rfl <;> first | exact absurd rfl h1 | exact absurd rfl h5 | exact ⟨by simp [encImmL, pickL, immsL, orU], by decide, by decide +kernel, by decide⟩
theorem al7 {wide : Bool} {f3 f7 : Int} (hn : registerL wide f3 f7 ≠ 0) : f7 = 0 ∨ f7 = 32 ∨ f7 = 1 := by
  by_cases a : f7 = 0
  · exact .inl a
  by_cases b : f7 = 32
  · exact .inr (.inl b)
  by_cases c : f7 = 1
  · exact .inr (.inr c)
  exfalso
  apply hn
  unfold registerL
  simp [a, b, c]
set_option maxHeartbeats 4000000 in
theorem alT {wide : Bool} {f3 f7 : Int} (h : f3 = 0 ∨ f3 = 1 ∨ f3 = 2 ∨ f3 = 3 ∨ f3 = 4 ∨ f3 = 5 ∨ f3 = 6 ∨ f3 = 7) (hn : registerL wide f3 f7 ≠ 0) (rd rs1 rs2 : Int) :
    encRegL ⟨8, registerL wide f3 f7, rd, rs1, rs2, 0, 0, false⟩ = ((f7.toNat * 2 ^ 25 ||| (f3.toNat * 2 ^ 12 ||| (if wide = true then 51 else 59)) : Nat) : Int) ∧ orU (if 19 ≤ registerL wide f3 f7 then 59 else 51) (aluR (registerL wide f3 f7)) = ((f7.toNat * 2 ^ 25 ||| (f3.toNat * 2 ^ 12 ||| (if wide = true then 51 else 59)) : Nat) : Int) := by
  have h7 := al7 hn
  rcases h with rfl | rfl | rfl | rfl | rfl | rfl | rfl | rfl <;> rcases h7 with rfl | rfl | rfl <;> cases wide <;> first | exact absurd (by decide) hn | exact ⟨by kernel_rfl, by kernel_rfl⟩
theorem can1 {k : Nat} (hk : k < 4294967296) (ho : opW k = 55) : Can k ⟨1, 0, rdW k, 0, 0, uW k, 0, false⟩ := by
  have ho' : nf k 6 0 = 55 := by unfold opW at ho; rw [fl_nf] at ho; omega
  have e : (nf k 31 12 * 2 ^ 12 ||| (nf k 11 7 * 2 ^ 7 ||| 55)) = k := by
    rw [cat (lo := 7), cat (lo := 12)] <;> (simp only [nf] at *; omega)
  constructor
  · have A := (((Is.lit (x := 55) 55 rfl (by decide)).bor (pg ⟨1, 0, rdW k, 0, 0, uW k, 0, false⟩ (fl_mod k 11 7) (z_mod 5) (z_mod 5))).bor (is_put _ 31 12 _ (hi' := 31) (lo' := 12) (by decide) (by decide) (by decide) (uf k) rfl rfl))
    exact (A.to ((show _ = _ by (try simp only [Nat.zero_mul, Nat.or_zero, Nat.zero_or]); ac_rfl).trans e))
  · have A := (((Is.lit (x := 55) 55 rfl (by decide)).or (aRd k ⟨1, 0, rdW k, 0, 0, uW k, 0, false⟩ rfl)).or (is_at _ 20 12 _ (by decide) (uf k)))
    exact (A.to ((show _ = _ by (try simp only [Nat.zero_mul, Nat.or_zero, Nat.zero_or]); ac_rfl).trans e))

theorem can2 {k : Nat} (hk : k < 4294967296) (ho : opW k = 23) : Can k ⟨2, 0, rdW k, 0, 0, uW k, 0, false⟩ := by
  have ho' : nf k 6 0 = 23 := by unfold opW at ho; rw [fl_nf] at ho; omega
  have e : (nf k 31 12 * 2 ^ 12 ||| (nf k 11 7 * 2 ^ 7 ||| 23)) = k := by
    rw [cat (lo := 7), cat (lo := 12)] <;> (simp only [nf] at *; omega)
  constructor
  · have A := (((Is.lit (x := 23) 23 rfl (by decide)).bor (pg ⟨2, 0, rdW k, 0, 0, uW k, 0, false⟩ (fl_mod k 11 7) (z_mod 5) (z_mod 5))).bor (is_put _ 31 12 _ (hi' := 31) (lo' := 12) (by decide) (by decide) (by decide) (uf k) rfl rfl))
    exact (A.to ((show _ = _ by (try simp only [Nat.zero_mul, Nat.or_zero, Nat.zero_or]); ac_rfl).trans e))
  · have A := (((Is.lit (x := 23) 23 rfl (by decide)).or (aRd k ⟨2, 0, rdW k, 0, 0, uW k, 0, false⟩ rfl)).or (is_at _ 20 12 _ (by decide) (uf k)))
    exact (A.to ((show _ = _ by (try simp only [Nat.zero_mul, Nat.or_zero, Nat.zero_or]); ac_rfl).trans e))

theorem can3 {k : Nat} (hk : k < 4294967296) (ho : opW k = 111) : Can k ⟨3, 0, rdW k, 0, 0, jW k, 0, false⟩ := by
  have ho' : nf k 6 0 = 111 := by unfold opW at ho; rw [fl_nf] at ho; omega
  have e : (nf k 31 31 * 2 ^ 31 ||| (nf k 30 21 * 2 ^ 21 ||| (nf k 20 20 * 2 ^ 20 ||| (nf k 19 12 * 2 ^ 12 ||| (nf k 11 7 * 2 ^ 7 ||| 111))))) = k := by
    rw [cat (lo := 7), cat (lo := 12), cat (lo := 20), cat (lo := 21), cat (lo := 31)] <;> (simp only [nf] at *; omega)
  constructor
  · have A := ((((((Is.lit (x := 111) 111 rfl (by decide)).bor (pg ⟨3, 0, rdW k, 0, 0, jW k, 0, false⟩ (fl_mod k 11 7) (z_mod 5) (z_mod 5))).bor (is_put _ 31 31 _ (hi' := 31) (lo' := 31) (by decide) (by decide) (by decide) (jf k).1 rfl rfl)).bor (is_put _ 19 12 _ (hi' := 19) (lo' := 12) (by decide) (by decide) (by decide) (jf k).2.1 rfl rfl)).bor (is_put _ 20 20 _ (hi' := 20) (lo' := 20) (by decide) (by decide) (by decide) (jf k).2.2.1 rfl rfl)).bor (is_put _ 30 21 _ (hi' := 30) (lo' := 21) (by decide) (by decide) (by decide) (jf k).2.2.2 rfl rfl))
    exact (A.to ((show _ = _ by (try simp only [Nat.zero_mul, Nat.or_zero, Nat.zero_or]); ac_rfl).trans e))
  · have A := (((Is.lit (x := 111) 111 rfl (by decide)).or (aRd k ⟨3, 0, rdW k, 0, 0, jW k, 0, false⟩ rfl)).or ((((is_at _ 1 31 _ (by decide) (jf k).1).or (is_at _ 8 12 _ (by decide) (jf k).2.1)).or (is_at _ 1 20 _ (by decide) (jf k).2.2.1)).or (is_at _ 10 21 _ (by decide) (jf k).2.2.2)))
    exact (A.to ((show _ = _ by (try simp only [Nat.zero_mul, Nat.or_zero, Nat.zero_or]); ac_rfl).trans e))

theorem can4 {k : Nat} (hk : k < 4294967296) (ho : opW k = 103) (h3 : f3W k = 0) : Can k ⟨4, 0, rdW k, rs1W k, 0, iW k, 0, false⟩ := by
  have ho' : nf k 6 0 = 103 := by unfold opW at ho; rw [fl_nf] at ho; omega
  have h3' : nf k 14 12 = 0 := by unfold f3W at h3; rw [fl_nf] at h3; omega
  have e : (nf k 31 20 * 2 ^ 20 ||| (nf k 19 15 * 2 ^ 15 ||| (nf k 11 7 * 2 ^ 7 ||| 103))) = k := by
    rw [cat (lo := 7), cat (lo := 15), cat (lo := 20)] <;> (simp only [nf] at *; omega)
  constructor
  · have A := (((Is.lit (x := 103) 103 rfl (by decide)).bor (pg ⟨4, 0, rdW k, rs1W k, 0, iW k, 0, false⟩ (fl_mod k 11 7) (fl_mod k 19 15) (z_mod 5))).bor (is_put _ 31 20 _ (hi' := 31) (lo' := 20) (by decide) (by decide) (by decide) (if_ k) rfl rfl))
    exact (A.to ((show _ = _ by (try simp only [Nat.zero_mul, Nat.or_zero, Nat.zero_or]); ac_rfl).trans e))
  · have A := ((((Is.lit (x := 103) 103 rfl (by decide)).or (aRd k ⟨4, 0, rdW k, rs1W k, 0, iW k, 0, false⟩ rfl)).or (aR1 k ⟨4, 0, rdW k, rs1W k, 0, iW k, 0, false⟩ rfl)).or (is_at _ 12 20 _ (by decide) (if_ k)))
    exact (A.to ((show _ = _ by (try simp only [Nat.zero_mul, Nat.or_zero, Nat.zero_or]); ac_rfl).trans e))

theorem can5 {k : Nat} (hk : k < 4294967296) (ho : opW k = 99) (hn : pickL branchesL (f3W k) ≠ 0) : Can k ⟨5, pickL branchesL (f3W k), 0, rs1W k, rs2W k, bW k, 0, false⟩ := by
  have ho' : nf k 6 0 = 99 := by unfold opW at ho; rw [fl_nf] at ho; omega
  have c3 := f3_cases k
  have hm : f3W k = (nf k 14 12 : Int) := fl_nf k 14 12
  have B := brT c3 hn
  have e : (nf k 31 31 * 2 ^ 31 ||| (nf k 30 25 * 2 ^ 25 ||| (nf k 24 20 * 2 ^ 20 ||| (nf k 19 15 * 2 ^ 15 ||| (nf k 14 12 * 2 ^ 12 ||| (nf k 11 8 * 2 ^ 8 ||| (nf k 7 7 * 2 ^ 7 ||| 99))))))) = k := by
    rw [cat (lo := 7), cat (lo := 8), cat (lo := 12), cat (lo := 15), cat (lo := 20), cat (lo := 25), cat (lo := 31)] <;> (simp only [nf] at *; omega)
  constructor
  · have A := (((((((Is.lit (x := 99) 99 rfl (by decide)).bor (pg ⟨5, pickL branchesL (f3W k), 0, rs1W k, rs2W k, bW k, 0, false⟩ (z_mod 5) (fl_mod k 19 15) (fl_mod k 24 20))).bor (is_put _ 14 12 _ (hi' := 14) (lo' := 12) (by decide) (by decide) (by decide) (B.1.trans hm) rfl rfl)).bor (is_put _ 31 31 _ (hi' := 31) (lo' := 31) (by decide) (by decide) (by decide) (bf k).1 rfl rfl)).bor (is_put _ 7 7 _ (hi' := 7) (lo' := 7) (by decide) (by decide) (by decide) (bf k).2.1 rfl rfl)).bor (is_put _ 30 25 _ (hi' := 30) (lo' := 25) (by decide) (by decide) (by decide) (bf k).2.2.1 rfl rfl)).bor (is_put _ 11 8 _ (hi' := 11) (lo' := 8) (by decide) (by decide) (by decide) (bf k).2.2.2 rfl rfl))
    exact (A.to ((show _ = _ by (try simp only [Nat.zero_mul, Nat.or_zero, Nat.zero_or]); ac_rfl).trans e))
  · have A := (((((Is.lit (x := 99) 99 rfl (by decide)).or (is_at _ 3 12 _ (by decide) (B.2.trans hm))).or (aR1 k ⟨5, pickL branchesL (f3W k), 0, rs1W k, rs2W k, bW k, 0, false⟩ rfl)).or (aR2 k ⟨5, pickL branchesL (f3W k), 0, rs1W k, rs2W k, bW k, 0, false⟩ rfl)).or ((((is_at _ 1 31 _ (by decide) (bf k).1).or (is_at _ 1 7 _ (by decide) (bf k).2.1)).or (is_at _ 6 25 _ (by decide) (bf k).2.2.1)).or (is_at _ 4 8 _ (by decide) (bf k).2.2.2)))
    exact (A.to ((show _ = _ by (try simp only [Nat.zero_mul, Nat.or_zero, Nat.zero_or]); ac_rfl).trans e))

theorem can6 {k : Nat} (hk : k < 4294967296) (ho : opW k = 3) (hn : f3W k < 7) : Can k ⟨6, 0, rdW k, rs1W k, 0, iW k, p2 (f3W k % 4), decide (f3W k < 4)⟩ := by
  have ho' : nf k 6 0 = 3 := by unfold opW at ho; rw [fl_nf] at ho; omega
  have c3 := f3_cases k
  have hm : f3W k = (nf k 14 12 : Int) := fl_nf k 14 12
  have B := ldT c3 hn
  have e : (nf k 31 20 * 2 ^ 20 ||| (nf k 19 15 * 2 ^ 15 ||| (nf k 14 12 * 2 ^ 12 ||| (nf k 11 7 * 2 ^ 7 ||| 3)))) = k := by
    rw [cat (lo := 7), cat (lo := 12), cat (lo := 15), cat (lo := 20)] <;> (simp only [nf] at *; omega)
  constructor
  · have A := ((((Is.lit (x := 3) 3 rfl (by decide)).bor (pg ⟨6, 0, rdW k, rs1W k, 0, iW k, p2 (f3W k % 4), decide (f3W k < 4)⟩ (fl_mod k 11 7) (fl_mod k 19 15) (z_mod 5))).bor (is_put _ 14 12 _ (hi' := 14) (lo' := 12) (by decide) (by decide) (by decide) (B.1.trans hm) rfl rfl)).bor (is_put _ 31 20 _ (hi' := 31) (lo' := 20) (by decide) (by decide) (by decide) (if_ k) rfl rfl))
    exact (A.to ((show _ = _ by (try simp only [Nat.zero_mul, Nat.or_zero, Nat.zero_or]); ac_rfl).trans e))
  · have A := (((((Is.lit (x := 3) 3 rfl (by decide)).or (is_shl (m := nf k 14 12) ⟨B.2.trans hm, by have := nf_lt k 14 12; omega⟩ (by have := nf_lt k 14 12; omega))).or (aRd k ⟨6, 0, rdW k, rs1W k, 0, iW k, p2 (f3W k % 4), decide (f3W k < 4)⟩ rfl)).or (aR1 k ⟨6, 0, rdW k, rs1W k, 0, iW k, p2 (f3W k % 4), decide (f3W k < 4)⟩ rfl)).or (is_at _ 12 20 _ (by decide) (if_ k)))
    exact (A.to ((show _ = _ by (try simp only [Nat.zero_mul, Nat.or_zero, Nat.zero_or]); ac_rfl).trans e))

theorem can7 {k : Nat} (hk : k < 4294967296) (ho : opW k = 35) (hn : f3W k < 4) : Can k ⟨7, 0, 0, rs1W k, rs2W k, sW k, p2 (f3W k), false⟩ := by
  have ho' : nf k 6 0 = 35 := by unfold opW at ho; rw [fl_nf] at ho; omega
  have c3 := f3_cases k
  have hm : f3W k = (nf k 14 12 : Int) := fl_nf k 14 12
  have B := stT c3 hn
  have e : (nf k 31 25 * 2 ^ 25 ||| (nf k 24 20 * 2 ^ 20 ||| (nf k 19 15 * 2 ^ 15 ||| (nf k 14 12 * 2 ^ 12 ||| (nf k 11 7 * 2 ^ 7 ||| 35))))) = k := by
    rw [cat (lo := 7), cat (lo := 12), cat (lo := 15), cat (lo := 20), cat (lo := 25)] <;> (simp only [nf] at *; omega)
  constructor
  · have A := (((((Is.lit (x := 35) 35 rfl (by decide)).bor (pg ⟨7, 0, 0, rs1W k, rs2W k, sW k, p2 (f3W k), false⟩ (z_mod 5) (fl_mod k 19 15) (fl_mod k 24 20))).bor (is_put _ 14 12 _ (hi' := 14) (lo' := 12) (by decide) (by decide) (by decide) (B.1.trans hm) rfl rfl)).bor (is_put _ 31 25 _ (hi' := 31) (lo' := 25) (by decide) (by decide) (by decide) (sf k).2 rfl rfl)).bor (is_put _ 11 7 _ (hi' := 11) (lo' := 7) (by decide) (by decide) (by decide) (sf k).1 rfl rfl))
    exact (A.to ((show _ = _ by (try simp only [Nat.zero_mul, Nat.or_zero, Nat.zero_or]); ac_rfl).trans e))
  · have A := ((((((Is.lit (x := 35) 35 rfl (by decide)).or (is_shl (m := nf k 14 12) ⟨B.2.trans hm, by have := nf_lt k 14 12; omega⟩ (by have := nf_lt k 14 12; omega))).or (aR1 k ⟨7, 0, 0, rs1W k, rs2W k, sW k, p2 (f3W k), false⟩ rfl)).or (aR2 k ⟨7, 0, 0, rs1W k, rs2W k, sW k, p2 (f3W k), false⟩ rfl)).or (is_at _ 5 7 _ (by decide) (sf k).1)).or (is_at _ 7 25 _ (by decide) (sf k).2))
    exact (A.to ((show _ = _ by (try simp only [Nat.zero_mul, Nat.or_zero, Nat.zero_or]); ac_rfl).trans e))

theorem can8 {k : Nat} (hk : k < 4294967296) (ho : opW k = 51) (hn : registerL true (f3W k) (f7W k) ≠ 0) : Can k ⟨8, registerL true (f3W k) (f7W k), rdW k, rs1W k, rs2W k, 0, 0, false⟩ := by
  have ho' : nf k 6 0 = 51 := by unfold opW at ho; rw [fl_nf] at ho; omega
  have c3 := f3_cases k
  have hm : f3W k = (nf k 14 12 : Int) := fl_nf k 14 12
  have hm7 : f7W k = (nf k 31 25 : Int) := fl_nf k 31 25
  have B := alT c3 hn (rdW k) (rs1W k) (rs2W k)
  have e3 : (f3W k).toNat = nf k 14 12 := by rw [hm]; exact Int.toNat_natCast _
  have e7 : (f7W k).toNat = nf k 31 25 := by rw [hm7]; exact Int.toNat_natCast _
  rw [e3, e7] at B
  have hl : (nf k 31 25 * 2 ^ 25 ||| (nf k 14 12 * 2 ^ 12 ||| 51)) < 4294967296 := by
    have h1 := nf_lt k 31 25
    have h2 := nf_lt k 14 12
    rw [cat (lo := 12), cat (lo := 25)] <;> omega
  have e : (nf k 31 25 * 2 ^ 25 ||| (nf k 24 20 * 2 ^ 20 ||| (nf k 19 15 * 2 ^ 15 ||| (nf k 14 12 * 2 ^ 12 ||| (nf k 11 7 * 2 ^ 7 ||| 51))))) = k := by
    rw [cat (lo := 7), cat (lo := 12), cat (lo := 15), cat (lo := 20), cat (lo := 25)] <;> (simp only [nf] at *; omega)
  constructor
  · have A := (Is.mk B.1 hl).bor (pg ⟨8, registerL true (f3W k) (f7W k), rdW k, rs1W k, rs2W k, 0, 0, false⟩ (fl_mod k 11 7) (fl_mod k 19 15) (fl_mod k 24 20))
    exact (A.to ((show _ = _ by (try simp only [Nat.zero_mul, Nat.or_zero, Nat.zero_or]); ac_rfl).trans e))
  · have A := (Is.mk B.2 hl).or (((aRd k ⟨8, registerL true (f3W k) (f7W k), rdW k, rs1W k, rs2W k, 0, 0, false⟩ rfl).or (aR1 k ⟨8, registerL true (f3W k) (f7W k), rdW k, rs1W k, rs2W k, 0, 0, false⟩ rfl)).or (aR2 k ⟨8, registerL true (f3W k) (f7W k), rdW k, rs1W k, rs2W k, 0, 0, false⟩ rfl))
    exact (A.to ((show _ = _ by (try simp only [Nat.zero_mul, Nat.or_zero, Nat.zero_or]); ac_rfl).trans e))

theorem can8w {k : Nat} (hk : k < 4294967296) (ho : opW k = 59) (hn : registerL false (f3W k) (f7W k) ≠ 0) : Can k ⟨8, registerL false (f3W k) (f7W k), rdW k, rs1W k, rs2W k, 0, 0, false⟩ := by
  have ho' : nf k 6 0 = 59 := by unfold opW at ho; rw [fl_nf] at ho; omega
  have c3 := f3_cases k
  have hm : f3W k = (nf k 14 12 : Int) := fl_nf k 14 12
  have hm7 : f7W k = (nf k 31 25 : Int) := fl_nf k 31 25
  have B := alT c3 hn (rdW k) (rs1W k) (rs2W k)
  have e3 : (f3W k).toNat = nf k 14 12 := by rw [hm]; exact Int.toNat_natCast _
  have e7 : (f7W k).toNat = nf k 31 25 := by rw [hm7]; exact Int.toNat_natCast _
  rw [e3, e7] at B
  have hl : (nf k 31 25 * 2 ^ 25 ||| (nf k 14 12 * 2 ^ 12 ||| 59)) < 4294967296 := by
    have h1 := nf_lt k 31 25
    have h2 := nf_lt k 14 12
    rw [cat (lo := 12), cat (lo := 25)] <;> omega
  have e : (nf k 31 25 * 2 ^ 25 ||| (nf k 24 20 * 2 ^ 20 ||| (nf k 19 15 * 2 ^ 15 ||| (nf k 14 12 * 2 ^ 12 ||| (nf k 11 7 * 2 ^ 7 ||| 59))))) = k := by
    rw [cat (lo := 7), cat (lo := 12), cat (lo := 15), cat (lo := 20), cat (lo := 25)] <;> (simp only [nf] at *; omega)
  constructor
  · have A := (Is.mk B.1 hl).bor (pg ⟨8, registerL false (f3W k) (f7W k), rdW k, rs1W k, rs2W k, 0, 0, false⟩ (fl_mod k 11 7) (fl_mod k 19 15) (fl_mod k 24 20))
    exact (A.to ((show _ = _ by (try simp only [Nat.zero_mul, Nat.or_zero, Nat.zero_or]); ac_rfl).trans e))
  · have A := (Is.mk B.2 hl).or (((aRd k ⟨8, registerL false (f3W k) (f7W k), rdW k, rs1W k, rs2W k, 0, 0, false⟩ rfl).or (aR1 k ⟨8, registerL false (f3W k) (f7W k), rdW k, rs1W k, rs2W k, 0, 0, false⟩ rfl)).or (aR2 k ⟨8, registerL false (f3W k) (f7W k), rdW k, rs1W k, rs2W k, 0, 0, false⟩ rfl))
    exact (A.to ((show _ = _ by (try simp only [Nat.zero_mul, Nat.or_zero, Nat.zero_or]); ac_rfl).trans e))

theorem encL9 (a b c d e f : Int) (g : Bool) : encL ⟨9, a, b, c, d, e, f, g⟩ = orU (encImmL ⟨9, a, b, c, d, e, f, g⟩) (regsL ⟨9, a, b, c, d, e, f, g⟩) := rfl
theorem wordR9 (a b c d e f : Int) (g : Bool) : wordR ⟨9, a, b, c, d, e, f, g⟩ = orU (orU (orU (orU (if 19 ≤ a ∧ a ≤ 23 then 27 else 19) (aluR a)) (rdR ⟨9, a, b, c, d, e, f, g⟩)) (r1R ⟨9, a, b, c, d, e, f, g⟩)) (atL e 12 20) := rfl
theorem can9 {k : Nat} (hk : k < 4294967296) (ho : opW k = 19) (h1 : f3W k ≠ 1) (h5 : f3W k ≠ 5) : Can k ⟨9, pickL immsL (f3W k), rdW k, rs1W k, 0, iW k, 0, false⟩ := by
  have ho' : nf k 6 0 = 19 := by unfold opW at ho; rw [fl_nf] at ho; omega
  have c3 := f3_cases k
  have hm : f3W k = (nf k 14 12 : Int) := fl_nf k 14 12
  have B := imT c3 h1 h5 (rdW k) (rs1W k) (iW k)
  have e3 : (f3W k).toNat = nf k 14 12 := by rw [hm]; exact Int.toNat_natCast _
  have e : (nf k 31 20 * 2 ^ 20 ||| (nf k 19 15 * 2 ^ 15 ||| (nf k 14 12 * 2 ^ 12 ||| (nf k 11 7 * 2 ^ 7 ||| 19)))) = k := by
    rw [cat (lo := 7), cat (lo := 12), cat (lo := 15), cat (lo := 20)] <;> (simp only [nf] at *; omega)
  constructor
  · have A := ((Is.eqs B.1 ((((Is.lit (x := 19) 19 rfl (by decide)).bor (is_put _ 31 20 _ (hi' := 31) (lo' := 20) (by decide) (by decide) (by decide) (if_ k) rfl rfl)).bor (is_put _ 14 12 _ (hi' := 14) (lo' := 12) (by decide) (by decide) (by decide) (B.2.1.trans hm) rfl rfl)))).bor (pg ⟨9, pickL immsL (f3W k), rdW k, rs1W k, 0, iW k, 0, false⟩ (fl_mod k 11 7) (fl_mod k 19 15) (z_mod 5)))
    exact Is.eqs (encL9 _ _ _ _ _ _ _) (A.to ((show _ = _ by (try simp only [Nat.zero_mul, Nat.or_zero, Nat.zero_or]); ac_rfl).trans e))
  · have A := ((((B.2.2.to (show _ = nf k 14 12 * 2 ^ 12 ||| 19 by rw [e3])).or (aRd k ⟨9, pickL immsL (f3W k), rdW k, rs1W k, 0, iW k, 0, false⟩ rfl)).or (aR1 k ⟨9, pickL immsL (f3W k), rdW k, rs1W k, 0, iW k, 0, false⟩ rfl)).or (is_at _ 12 20 _ (by decide) (if_ k)))
    exact Is.eqs (wordR9 _ _ _ _ _ _ _) (A.to ((show _ = _ by (try simp only [Nat.zero_mul, Nat.or_zero, Nat.zero_or]); ac_rfl).trans e))

theorem fl12 (k hi : Nat) (h : hi - 20 + 1 ≤ 12) : fl (k : Int) hi 20 % 2 ^ 12 = (nf k hi 20 : Int) := by
  rw [fl_nf]
  have h1 := nf_lt k hi 20
  have h2 : 2 ^ (hi - 20 + 1) ≤ 2 ^ 12 := Nat.pow_le_pow_right (by decide) h
  omega
theorem rfl_is {x : Int} {n : Nat} (h : x = (n : Int)) (hl : n < 4294967296) : Is x n := ⟨h, hl⟩
theorem imS19 (rd rs1 n : Int) : encImmL ⟨9, 19, rd, rs1, 0, n, 0, false⟩ = orU 27 (putL n 31 20) := by simp [encImmL, orU]
theorem can9_19 {k : Nat} (hk : k < 4294967296) (ho : opW k = 27) (h3 : f3W k = 0) : Can k ⟨9, 19, rdW k, rs1W k, 0, iW k, 0, false⟩ := by
  have ho' : nf k 6 0 = 27 := by unfold opW at ho; rw [fl_nf] at ho; omega
  have h3' : nf k 14 12 = 0 := by unfold f3W at h3; rw [fl_nf] at h3; omega
  have e : (nf k 31 20 * 2 ^ 20 ||| (nf k 19 15 * 2 ^ 15 ||| (0 * 2 ^ 12 ||| (nf k 11 7 * 2 ^ 7 ||| 27)))) = k := by
    rw [cat (lo := 7), cat (lo := 12), cat (lo := 15), cat (lo := 20)] <;> (simp only [nf] at *; omega)
  constructor
  · have E := imS19 (rdW k) (rs1W k) (iW k)
    have A := (Is.eqs E (((Is.lit (x := 27) 27 rfl (by decide)).to (show _ = (0 * 2 ^ 12 ||| 27) by decide)).or (is_put _ 31 20 _ (hi' := 31) (lo' := 20) (by decide) (by decide) (by decide) (if_ k) rfl rfl))).bor (pg ⟨9, 19, rdW k, rs1W k, 0, iW k, 0, false⟩ (fl_mod k 11 7) (fl_mod k 19 15) (z_mod 5))
    exact Is.eqs (encL9 _ _ _ _ _ _ _) (A.to ((show _ = _ by (try simp only [Nat.zero_mul, Nat.or_zero, Nat.zero_or]); ac_rfl).trans e))
  · have E : aluR 19 = ((0 * 2 ^ 12 : Nat) : Int) := by kernel_rfl
    have A := ((((rfl_is (x := if (19 : Int) ≤ 19 ∧ (19 : Int) ≤ 23 then 27 else 19) (n := 27) (by decide) (by decide)).or (rfl_is E (by decide))).or (aRd k ⟨9, 19, rdW k, rs1W k, 0, iW k, 0, false⟩ rfl)).or (aR1 k ⟨9, 19, rdW k, rs1W k, 0, iW k, 0, false⟩ rfl)).or (is_at _ 12 20 _ (by decide) (if_ k))
    exact Is.eqs (wordR9 _ _ _ _ _ _ _) (A.to ((show _ = _ by (try simp only [Nat.zero_mul, Nat.or_zero, Nat.zero_or]); ac_rfl).trans e))

theorem imS21 (rd rs1 n : Int) : encImmL ⟨9, 21, rd, rs1, 0, n, 0, false⟩ = orU 4123 (putL n 24 20) := by simp [encImmL, orU]
theorem can9_21 {k : Nat} (hk : k < 4294967296) (ho : opW k = 27) (h3 : f3W k = 1) (ht : fl k 31 25 = 0) : Can k ⟨9, 21, rdW k, rs1W k, 0, fl k 24 20, 0, false⟩ := by
  have ho' : nf k 6 0 = 27 := by unfold opW at ho; rw [fl_nf] at ho; omega
  have h3' : nf k 14 12 = 1 := by unfold f3W at h3; rw [fl_nf] at h3; omega
  have ht' : nf k 31 25 = 0 := by rw [fl_nf] at ht; omega
  have e : (nf k 24 20 * 2 ^ 20 ||| (nf k 19 15 * 2 ^ 15 ||| (1 * 2 ^ 12 ||| (nf k 11 7 * 2 ^ 7 ||| 27)))) = k := by
    rw [cat (lo := 7), cat (lo := 12), cat (lo := 15), cat (lo := 20)] <;> (simp only [nf] at *; omega)
  constructor
  · have E := imS21 (rdW k) (rs1W k) (fl k 24 20)
    have A := (Is.eqs E (((Is.lit (x := 4123) 4123 rfl (by decide)).to (show _ = (1 * 2 ^ 12 ||| 27) by decide)).or (is_put _ 24 20 _ (hi' := 24) (lo' := 20) (by decide) (by decide) (by decide) (fl_mod k 24 20) rfl rfl))).bor (pg ⟨9, 21, rdW k, rs1W k, 0, fl k 24 20, 0, false⟩ (fl_mod k 11 7) (fl_mod k 19 15) (z_mod 5))
    exact Is.eqs (encL9 _ _ _ _ _ _ _) (A.to ((show _ = _ by (try simp only [Nat.zero_mul, Nat.or_zero, Nat.zero_or]); ac_rfl).trans e))
  · have E : aluR 21 = ((1 * 2 ^ 12 : Nat) : Int) := by kernel_rfl
    have A := ((((rfl_is (x := if (19 : Int) ≤ 21 ∧ (21 : Int) ≤ 23 then 27 else 19) (n := 27) (by decide) (by decide)).or (rfl_is E (by decide))).or (aRd k ⟨9, 21, rdW k, rs1W k, 0, fl k 24 20, 0, false⟩ rfl)).or (aR1 k ⟨9, 21, rdW k, rs1W k, 0, fl k 24 20, 0, false⟩ rfl)).or (is_at _ 12 20 _ (by decide) (fl12 k 24 (by decide)))
    exact Is.eqs (wordR9 _ _ _ _ _ _ _) (A.to ((show _ = _ by (try simp only [Nat.zero_mul, Nat.or_zero, Nat.zero_or]); ac_rfl).trans e))

theorem imS22 (rd rs1 n : Int) : encImmL ⟨9, 22, rd, rs1, 0, n, 0, false⟩ = orU 20507 (putL n 24 20) := by simp [encImmL, orU]
theorem can9_22 {k : Nat} (hk : k < 4294967296) (ho : opW k = 27) (h3 : f3W k = 5) (ht : fl k 31 25 = 0) : Can k ⟨9, 22, rdW k, rs1W k, 0, fl k 24 20, 0, false⟩ := by
  have ho' : nf k 6 0 = 27 := by unfold opW at ho; rw [fl_nf] at ho; omega
  have h3' : nf k 14 12 = 5 := by unfold f3W at h3; rw [fl_nf] at h3; omega
  have ht' : nf k 31 25 = 0 := by rw [fl_nf] at ht; omega
  have e : (nf k 24 20 * 2 ^ 20 ||| (nf k 19 15 * 2 ^ 15 ||| (5 * 2 ^ 12 ||| (nf k 11 7 * 2 ^ 7 ||| 27)))) = k := by
    rw [cat (lo := 7), cat (lo := 12), cat (lo := 15), cat (lo := 20)] <;> (simp only [nf] at *; omega)
  constructor
  · have E := imS22 (rdW k) (rs1W k) (fl k 24 20)
    have A := (Is.eqs E (((Is.lit (x := 20507) 20507 rfl (by decide)).to (show _ = (5 * 2 ^ 12 ||| 27) by decide)).or (is_put _ 24 20 _ (hi' := 24) (lo' := 20) (by decide) (by decide) (by decide) (fl_mod k 24 20) rfl rfl))).bor (pg ⟨9, 22, rdW k, rs1W k, 0, fl k 24 20, 0, false⟩ (fl_mod k 11 7) (fl_mod k 19 15) (z_mod 5))
    exact Is.eqs (encL9 _ _ _ _ _ _ _) (A.to ((show _ = _ by (try simp only [Nat.zero_mul, Nat.or_zero, Nat.zero_or]); ac_rfl).trans e))
  · have E : aluR 22 = ((5 * 2 ^ 12 : Nat) : Int) := by kernel_rfl
    have A := ((((rfl_is (x := if (19 : Int) ≤ 22 ∧ (22 : Int) ≤ 23 then 27 else 19) (n := 27) (by decide) (by decide)).or (rfl_is E (by decide))).or (aRd k ⟨9, 22, rdW k, rs1W k, 0, fl k 24 20, 0, false⟩ rfl)).or (aR1 k ⟨9, 22, rdW k, rs1W k, 0, fl k 24 20, 0, false⟩ rfl)).or (is_at _ 12 20 _ (by decide) (fl12 k 24 (by decide)))
    exact Is.eqs (wordR9 _ _ _ _ _ _ _) (A.to ((show _ = _ by (try simp only [Nat.zero_mul, Nat.or_zero, Nat.zero_or]); ac_rfl).trans e))

theorem imS23 (rd rs1 n : Int) : encImmL ⟨9, 23, rd, rs1, 0, n, 0, false⟩ = orU 1073762331 (putL n 24 20) := by simp [encImmL, orU]
theorem can9_23 {k : Nat} (hk : k < 4294967296) (ho : opW k = 27) (h3 : f3W k = 5) (ht : fl k 31 25 = 32) : Can k ⟨9, 23, rdW k, rs1W k, 0, fl k 24 20, 0, false⟩ := by
  have ho' : nf k 6 0 = 27 := by unfold opW at ho; rw [fl_nf] at ho; omega
  have h3' : nf k 14 12 = 5 := by unfold f3W at h3; rw [fl_nf] at h3; omega
  have ht' : nf k 31 25 = 32 := by rw [fl_nf] at ht; omega
  have e : (32 * 2 ^ 25 ||| (nf k 24 20 * 2 ^ 20 ||| (nf k 19 15 * 2 ^ 15 ||| (5 * 2 ^ 12 ||| (nf k 11 7 * 2 ^ 7 ||| 27))))) = k := by
    rw [cat (lo := 7), cat (lo := 12), cat (lo := 15), cat (lo := 20), cat (lo := 25)] <;> (simp only [nf] at *; omega)
  constructor
  · have E := imS23 (rdW k) (rs1W k) (fl k 24 20)
    have A := (Is.eqs E (((Is.lit (x := 1073762331) 1073762331 rfl (by decide)).to (show _ = (32 * 2 ^ 25 ||| (5 * 2 ^ 12 ||| 27)) by decide)).or (is_put _ 24 20 _ (hi' := 24) (lo' := 20) (by decide) (by decide) (by decide) (fl_mod k 24 20) rfl rfl))).bor (pg ⟨9, 23, rdW k, rs1W k, 0, fl k 24 20, 0, false⟩ (fl_mod k 11 7) (fl_mod k 19 15) (z_mod 5))
    exact Is.eqs (encL9 _ _ _ _ _ _ _) (A.to ((show _ = _ by (try simp only [Nat.zero_mul, Nat.or_zero, Nat.zero_or]); ac_rfl).trans e))
  · have E : aluR 23 = ((32 * 2 ^ 25 ||| 5 * 2 ^ 12 : Nat) : Int) := by kernel_rfl
    have A := ((((rfl_is (x := if (19 : Int) ≤ 23 ∧ (23 : Int) ≤ 23 then 27 else 19) (n := 27) (by decide) (by decide)).or (rfl_is E (by decide))).or (aRd k ⟨9, 23, rdW k, rs1W k, 0, fl k 24 20, 0, false⟩ rfl)).or (aR1 k ⟨9, 23, rdW k, rs1W k, 0, fl k 24 20, 0, false⟩ rfl)).or (is_at _ 12 20 _ (by decide) (fl12 k 24 (by decide)))
    exact Is.eqs (wordR9 _ _ _ _ _ _ _) (A.to ((show _ = _ by (try simp only [Nat.zero_mul, Nat.or_zero, Nat.zero_or]); ac_rfl).trans e))

theorem imS3 (rd rs1 n : Int) : encImmL ⟨9, 3, rd, rs1, 0, n, 0, false⟩ = orU 4115 (putL n 25 20) := by simp [encImmL, orU]
theorem can9_3 {k : Nat} (hk : k < 4294967296) (ho : opW k = 19) (h3 : f3W k = 1) (ht : fl k 31 26 = 0) : Can k ⟨9, 3, rdW k, rs1W k, 0, fl k 25 20, 0, false⟩ := by
  have ho' : nf k 6 0 = 19 := by unfold opW at ho; rw [fl_nf] at ho; omega
  have h3' : nf k 14 12 = 1 := by unfold f3W at h3; rw [fl_nf] at h3; omega
  have ht' : nf k 31 26 = 0 := by rw [fl_nf] at ht; omega
  have e : (nf k 25 20 * 2 ^ 20 ||| (nf k 19 15 * 2 ^ 15 ||| (1 * 2 ^ 12 ||| (nf k 11 7 * 2 ^ 7 ||| 19)))) = k := by
    rw [cat (lo := 7), cat (lo := 12), cat (lo := 15), cat (lo := 20)] <;> (simp only [nf] at *; omega)
  constructor
  · have E := imS3 (rdW k) (rs1W k) (fl k 25 20)
    have A := (Is.eqs E (((Is.lit (x := 4115) 4115 rfl (by decide)).to (show _ = (1 * 2 ^ 12 ||| 19) by decide)).or (is_put _ 25 20 _ (hi' := 25) (lo' := 20) (by decide) (by decide) (by decide) (fl_mod k 25 20) rfl rfl))).bor (pg ⟨9, 3, rdW k, rs1W k, 0, fl k 25 20, 0, false⟩ (fl_mod k 11 7) (fl_mod k 19 15) (z_mod 5))
    exact Is.eqs (encL9 _ _ _ _ _ _ _) (A.to ((show _ = _ by (try simp only [Nat.zero_mul, Nat.or_zero, Nat.zero_or]); ac_rfl).trans e))
  · have E : aluR 3 = ((1 * 2 ^ 12 : Nat) : Int) := by kernel_rfl
    have A := ((((rfl_is (x := if (19 : Int) ≤ 3 ∧ (3 : Int) ≤ 23 then 27 else 19) (n := 19) (by decide) (by decide)).or (rfl_is E (by decide))).or (aRd k ⟨9, 3, rdW k, rs1W k, 0, fl k 25 20, 0, false⟩ rfl)).or (aR1 k ⟨9, 3, rdW k, rs1W k, 0, fl k 25 20, 0, false⟩ rfl)).or (is_at _ 12 20 _ (by decide) (fl12 k 25 (by decide)))
    exact Is.eqs (wordR9 _ _ _ _ _ _ _) (A.to ((show _ = _ by (try simp only [Nat.zero_mul, Nat.or_zero, Nat.zero_or]); ac_rfl).trans e))

theorem imS7 (rd rs1 n : Int) : encImmL ⟨9, 7, rd, rs1, 0, n, 0, false⟩ = orU 20499 (putL n 25 20) := by simp [encImmL, orU]
theorem can9_7 {k : Nat} (hk : k < 4294967296) (ho : opW k = 19) (h3 : f3W k = 5) (ht : fl k 31 26 = 0) : Can k ⟨9, 7, rdW k, rs1W k, 0, fl k 25 20, 0, false⟩ := by
  have ho' : nf k 6 0 = 19 := by unfold opW at ho; rw [fl_nf] at ho; omega
  have h3' : nf k 14 12 = 5 := by unfold f3W at h3; rw [fl_nf] at h3; omega
  have ht' : nf k 31 26 = 0 := by rw [fl_nf] at ht; omega
  have e : (nf k 25 20 * 2 ^ 20 ||| (nf k 19 15 * 2 ^ 15 ||| (5 * 2 ^ 12 ||| (nf k 11 7 * 2 ^ 7 ||| 19)))) = k := by
    rw [cat (lo := 7), cat (lo := 12), cat (lo := 15), cat (lo := 20)] <;> (simp only [nf] at *; omega)
  constructor
  · have E := imS7 (rdW k) (rs1W k) (fl k 25 20)
    have A := (Is.eqs E (((Is.lit (x := 20499) 20499 rfl (by decide)).to (show _ = (5 * 2 ^ 12 ||| 19) by decide)).or (is_put _ 25 20 _ (hi' := 25) (lo' := 20) (by decide) (by decide) (by decide) (fl_mod k 25 20) rfl rfl))).bor (pg ⟨9, 7, rdW k, rs1W k, 0, fl k 25 20, 0, false⟩ (fl_mod k 11 7) (fl_mod k 19 15) (z_mod 5))
    exact Is.eqs (encL9 _ _ _ _ _ _ _) (A.to ((show _ = _ by (try simp only [Nat.zero_mul, Nat.or_zero, Nat.zero_or]); ac_rfl).trans e))
  · have E : aluR 7 = ((5 * 2 ^ 12 : Nat) : Int) := by kernel_rfl
    have A := ((((rfl_is (x := if (19 : Int) ≤ 7 ∧ (7 : Int) ≤ 23 then 27 else 19) (n := 19) (by decide) (by decide)).or (rfl_is E (by decide))).or (aRd k ⟨9, 7, rdW k, rs1W k, 0, fl k 25 20, 0, false⟩ rfl)).or (aR1 k ⟨9, 7, rdW k, rs1W k, 0, fl k 25 20, 0, false⟩ rfl)).or (is_at _ 12 20 _ (by decide) (fl12 k 25 (by decide)))
    exact Is.eqs (wordR9 _ _ _ _ _ _ _) (A.to ((show _ = _ by (try simp only [Nat.zero_mul, Nat.or_zero, Nat.zero_or]); ac_rfl).trans e))

theorem imS8 (rd rs1 n : Int) : encImmL ⟨9, 8, rd, rs1, 0, n, 0, false⟩ = orU 1073762323 (putL n 25 20) := by simp [encImmL, orU]
theorem can9_8 {k : Nat} (hk : k < 4294967296) (ho : opW k = 19) (h3 : f3W k = 5) (ht : fl k 31 26 = 16) : Can k ⟨9, 8, rdW k, rs1W k, 0, fl k 25 20, 0, false⟩ := by
  have ho' : nf k 6 0 = 19 := by unfold opW at ho; rw [fl_nf] at ho; omega
  have h3' : nf k 14 12 = 5 := by unfold f3W at h3; rw [fl_nf] at h3; omega
  have ht' : nf k 31 26 = 16 := by rw [fl_nf] at ht; omega
  have e : (16 * 2 ^ 26 ||| (nf k 25 20 * 2 ^ 20 ||| (nf k 19 15 * 2 ^ 15 ||| (5 * 2 ^ 12 ||| (nf k 11 7 * 2 ^ 7 ||| 19))))) = k := by
    rw [cat (lo := 7), cat (lo := 12), cat (lo := 15), cat (lo := 20), cat (lo := 26)] <;> (simp only [nf] at *; omega)
  constructor
  · have E := imS8 (rdW k) (rs1W k) (fl k 25 20)
    have A := (Is.eqs E (((Is.lit (x := 1073762323) 1073762323 rfl (by decide)).to (show _ = (16 * 2 ^ 26 ||| (5 * 2 ^ 12 ||| 19)) by decide)).or (is_put _ 25 20 _ (hi' := 25) (lo' := 20) (by decide) (by decide) (by decide) (fl_mod k 25 20) rfl rfl))).bor (pg ⟨9, 8, rdW k, rs1W k, 0, fl k 25 20, 0, false⟩ (fl_mod k 11 7) (fl_mod k 19 15) (z_mod 5))
    exact Is.eqs (encL9 _ _ _ _ _ _ _) (A.to ((show _ = _ by (try simp only [Nat.zero_mul, Nat.or_zero, Nat.zero_or]); ac_rfl).trans e))
  · have E : aluR 8 = ((16 * 2 ^ 26 ||| 5 * 2 ^ 12 : Nat) : Int) := by kernel_rfl
    have A := ((((rfl_is (x := if (19 : Int) ≤ 8 ∧ (8 : Int) ≤ 23 then 27 else 19) (n := 19) (by decide) (by decide)).or (rfl_is E (by decide))).or (aRd k ⟨9, 8, rdW k, rs1W k, 0, fl k 25 20, 0, false⟩ rfl)).or (aR1 k ⟨9, 8, rdW k, rs1W k, 0, fl k 25 20, 0, false⟩ rfl)).or (is_at _ 12 20 _ (by decide) (fl12 k 25 (by decide)))
    exact Is.eqs (wordR9 _ _ _ _ _ _ _) (A.to ((show _ = _ by (try simp only [Nat.zero_mul, Nat.or_zero, Nat.zero_or]); ac_rfl).trans e))

end Go.Proofs.YtjapahcbhjjeiaaGreatDoor.AS

/- What can be read is written as one word: the system's and the atomic kinds, and all kinds together. No program in sight. -/
namespace Go.Proofs.YtjapahcbhjjeiaaGreatDoor.AS
open Go.RowKit Go.Proofs.YtjapahcbhjjeiaaGreatDoorW.PrintWords Go.Proofs.YtjapahcbhjjeiaaGreatDoorW.PrintLast Go.Proofs.YtjapahcbhjjeiaaGreatDoorW.PrintMore Go.Proofs.YtjapahcbhjjeiaaGreatDoor.PA
set_option linter.unusedVariables false
set_option linter.unusedSimpArgs false
set_option maxRecDepth 100000

theorem is_and {x : Int} {a : Nat} (h : Is x a) (ha : a < 2 ^ 20) : Is (Go.bits .and .u32 x 1048575) a := by
  refine ⟨?_, h.lt⟩
  rw [h.eq, show (1048575 : Int) = ((2 ^ 20 - 1 : Nat) : Int) from rfl, u32_and_nat _ _ h.lt (by decide), Nat.and_two_pow_sub_one_eq_mod, Nat.mod_eq_of_lt ha]
theorem lo20 (k : Nat) : (nf k 11 7 * 2 ^ 7 ||| nf k 19 15 * 2 ^ 15 ||| 0 * 2 ^ 20) < 2 ^ 20 := by
  have h1 := nf_lt k 11 7
  have h2 := nf_lt k 19 15
  exact Nat.or_lt_two_pow (Nat.or_lt_two_pow (by omega) (by omega)) (by rw [Nat.zero_mul]; exact Nat.two_pow_pos 20)
theorem can20 {k : Nat} (hk : k < 4294967296) (ho : opW k = 115) (h3 : f3W k = 0) (h7 : f7W k = 9) (h1 : rdW k = 0) : Can k ⟨20, 0, 0, rs1W k, rs2W k, 0, 0, false⟩ := by
  have ho' : nf k 6 0 = 115 := by unfold opW at ho; rw [fl_nf] at ho; omega
  have h3' : nf k 14 12 = 0 := by unfold f3W at h3; rw [fl_nf] at h3; omega
  have h7' : nf k 31 25 = 9 := by unfold f7W at h7; rw [fl_nf] at h7; omega
  have h1' : nf k 11 7 = 0 := by unfold rdW at h1; rw [fl_nf] at h1; omega
  have e : (9 * 2 ^ 25 ||| (nf k 24 20 * 2 ^ 20 ||| (nf k 19 15 * 2 ^ 15 ||| 115))) = k := by
    rw [cat (lo := 15), cat (lo := 20), cat (lo := 25)] <;> (simp only [nf] at *; omega)
  constructor
  · have A := (((Is.lit (x := 301990003) 301990003 rfl (by decide)).to (show _ = (9 * 2 ^ 25 ||| 115) by decide)).bor (pg ⟨20, 0, 0, rs1W k, rs2W k, 0, 0, false⟩ (z_mod 5) (fl_mod k 19 15) (fl_mod k 24 20)))
    exact A.to ((show _ = _ by (try simp only [Nat.zero_mul, Nat.or_zero, Nat.zero_or]); ac_rfl).trans e)
  · have A := ((((Is.lit (x := 301990003) 301990003 rfl (by decide)).to (show _ = (9 * 2 ^ 25 ||| 115) by decide)).or (aR1 k ⟨20, 0, 0, rs1W k, rs2W k, 0, 0, false⟩ rfl)).or (aR2 k ⟨20, 0, 0, rs1W k, rs2W k, 0, 0, false⟩ rfl))
    exact A.to ((show _ = _ by (try simp only [Nat.zero_mul, Nat.or_zero, Nat.zero_or]); ac_rfl).trans e)

theorem can13 {k : Nat} (hk : k < 4294967296) (ho : opW k = 115) (h3 : f3W k < 4) : Can k ⟨13, f3W k % 4, rdW k, rs1W k, 0, fl k 31 20, 0, false⟩ := by
  have ho' : nf k 6 0 = 115 := by unfold opW at ho; rw [fl_nf] at ho; omega
  have hm : f3W k = (nf k 14 12 : Int) := fl_nf k 14 12
  have hq : f3W k % 4 % 2 ^ 2 = (nf k 13 12 : Int) := by rw [hm]; simp only [nf]; omega
  have h14 : nf k 14 14 = 0 := by rw [hm] at h3; simp only [nf] at *; omega
  have e : (nf k 31 20 * 2 ^ 20 ||| (nf k 19 15 * 2 ^ 15 ||| (nf k 13 12 * 2 ^ 12 ||| (nf k 11 7 * 2 ^ 7 ||| 115)))) = k := by
    rw [cat (lo := 7), cat (lo := 12), cat (lo := 15), cat (lo := 20)] <;> (simp only [nf] at *; omega)
  constructor
  · have A := ((((Is.lit (x := 115) 115 rfl (by decide)).bor (is_and (pg ⟨13, f3W k % 4, rdW k, rs1W k, 0, fl k 31 20, 0, false⟩ (fl_mod k 11 7) (fl_mod k 19 15) (z_mod 5)) (lo20 k))).bor (is_put _ 13 12 _ (hi' := 13) (lo' := 12) (by decide) (by decide) (by decide) hq rfl rfl)).bor (is_put _ 31 20 _ (hi' := 31) (lo' := 20) (by decide) (by decide) (by decide) (fl_mod k 31 20) rfl rfl))
    exact A.to ((show _ = _ by (try simp only [Nat.zero_mul, Nat.or_zero, Nat.zero_or]); ac_rfl).trans e)
  · have A := (((((Is.lit (x := 115) 115 rfl (by decide)).or (is_at _ 2 12 _ (by decide) hq)).or (aRd k ⟨13, f3W k % 4, rdW k, rs1W k, 0, fl k 31 20, 0, false⟩ rfl)).or (aR1 k ⟨13, f3W k % 4, rdW k, rs1W k, 0, fl k 31 20, 0, false⟩ rfl)).or (is_at _ 12 20 _ (by decide) (fl_mod k 31 20)))
    exact A.to ((show _ = _ by (try simp only [Nat.zero_mul, Nat.or_zero, Nat.zero_or]); ac_rfl).trans e)

theorem can14 {k : Nat} (hk : k < 4294967296) (ho : opW k = 115) (h3 : 3 < f3W k) : Can k ⟨14, f3W k % 4, rdW k, rs1W k, 0, fl k 31 20, 0, false⟩ := by
  have ho' : nf k 6 0 = 115 := by unfold opW at ho; rw [fl_nf] at ho; omega
  have hm : f3W k = (nf k 14 12 : Int) := fl_nf k 14 12
  have hq : f3W k % 4 % 2 ^ 2 = (nf k 13 12 : Int) := by rw [hm]; simp only [nf]; omega
  have h14 : nf k 14 14 = 1 := by rw [hm] at h3; simp only [nf] at *; omega
  have e : (nf k 31 20 * 2 ^ 20 ||| (nf k 19 15 * 2 ^ 15 ||| (1 * 2 ^ 14 ||| (nf k 13 12 * 2 ^ 12 ||| (nf k 11 7 * 2 ^ 7 ||| 115))))) = k := by
    rw [cat (lo := 7), cat (lo := 12), cat (lo := 14), cat (lo := 15), cat (lo := 20)] <;> (simp only [nf] at *; omega)
  constructor
  · have A := (((((Is.lit (x := 16499) 16499 rfl (by decide)).to (show _ = (1 * 2 ^ 14 ||| 115) by decide)).bor (is_and (pg ⟨14, f3W k % 4, rdW k, rs1W k, 0, fl k 31 20, 0, false⟩ (fl_mod k 11 7) (fl_mod k 19 15) (z_mod 5)) (lo20 k))).bor (is_put _ 13 12 _ (hi' := 13) (lo' := 12) (by decide) (by decide) (by decide) hq rfl rfl)).bor (is_put _ 31 20 _ (hi' := 31) (lo' := 20) (by decide) (by decide) (by decide) (fl_mod k 31 20) rfl rfl))
    exact A.to ((show _ = _ by (try simp only [Nat.zero_mul, Nat.or_zero, Nat.zero_or]); ac_rfl).trans e)
  · have A := ((((((Is.lit (x := 16499) 16499 rfl (by decide)).to (show _ = (1 * 2 ^ 14 ||| 115) by decide)).or (is_at _ 2 12 _ (by decide) hq)).or (aRd k ⟨14, f3W k % 4, rdW k, rs1W k, 0, fl k 31 20, 0, false⟩ rfl)).or (aR1 k ⟨14, f3W k % 4, rdW k, rs1W k, 0, fl k 31 20, 0, false⟩ rfl)).or (is_at _ 12 20 _ (by decide) (fl_mod k 31 20)))
    exact A.to ((show _ = _ by (try simp only [Nat.zero_mul, Nat.or_zero, Nat.zero_or]); ac_rfl).trans e)

theorem can15 {k : Nat} (hk : k < 4294967296) (ho : opW k = 47) (h3 : f3W k = 2 ∨ f3W k = 3) (h0 : nf k 26 25 = 0) (h5 : fl k 31 27 = 2) (h2 : rs2W k = 0) : Can k ⟨15, 0, rdW k, rs1W k, rs2W k, 0, p2 (f3W k), false⟩ := by
  have ho' : nf k 6 0 = 47 := by unfold opW at ho; rw [fl_nf] at ho; omega
  have hm : f3W k = (nf k 14 12 : Int) := fl_nf k 14 12
  have B := atT h3
  have h5' : nf k 31 27 = 2 := by rw [fl_nf] at h5; omega
  have h2' : nf k 24 20 = 0 := by unfold rs2W at h2; rw [fl_nf] at h2; omega
  have e : (2 * 2 ^ 27 ||| (nf k 24 20 * 2 ^ 20 ||| (nf k 19 15 * 2 ^ 15 ||| (nf k 14 12 * 2 ^ 12 ||| (nf k 11 7 * 2 ^ 7 ||| 47))))) = k := by
    rw [cat (lo := 7), cat (lo := 12), cat (lo := 15), cat (lo := 20), cat (lo := 27)] <;> (simp only [nf] at *; omega)
  constructor
  · have A := ((((Is.lit (x := 268435503) 268435503 rfl (by decide)).to (show _ = (2 * 2 ^ 27 ||| 47) by decide)).bor (pg ⟨15, 0, rdW k, rs1W k, rs2W k, 0, p2 (f3W k), false⟩ (fl_mod k 11 7) (fl_mod k 19 15) (fl_mod k 24 20))).bor (is_put _ 14 12 _ (hi' := 14) (lo' := 12) (by decide) (by decide) (by decide) (B.1.trans hm) rfl rfl))
    exact A.to ((show _ = _ by (try simp only [Nat.zero_mul, Nat.or_zero, Nat.zero_or, h2']); ac_rfl).trans e)
  · have A := (((((Is.lit (x := 268435503) 268435503 rfl (by decide)).to (show _ = (2 * 2 ^ 27 ||| 47) by decide)).or (is_shl (m := nf k 14 12) ⟨B.2.trans hm, by have := nf_lt k 14 12; omega⟩ (by have := nf_lt k 14 12; omega))).or (aRd k ⟨15, 0, rdW k, rs1W k, rs2W k, 0, p2 (f3W k), false⟩ rfl)).or (aR1 k ⟨15, 0, rdW k, rs1W k, rs2W k, 0, p2 (f3W k), false⟩ rfl))
    exact A.to ((show _ = _ by (try simp only [Nat.zero_mul, Nat.or_zero, Nat.zero_or, h2']); ac_rfl).trans e)

theorem can16 {k : Nat} (hk : k < 4294967296) (ho : opW k = 47) (h3 : f3W k = 2 ∨ f3W k = 3) (h0 : nf k 26 25 = 0) (h5 : fl k 31 27 = 3) : Can k ⟨16, 0, rdW k, rs1W k, rs2W k, 0, p2 (f3W k), false⟩ := by
  have ho' : nf k 6 0 = 47 := by unfold opW at ho; rw [fl_nf] at ho; omega
  have hm : f3W k = (nf k 14 12 : Int) := fl_nf k 14 12
  have B := atT h3
  have h5' : nf k 31 27 = 3 := by rw [fl_nf] at h5; omega
  have e : (3 * 2 ^ 27 ||| (nf k 24 20 * 2 ^ 20 ||| (nf k 19 15 * 2 ^ 15 ||| (nf k 14 12 * 2 ^ 12 ||| (nf k 11 7 * 2 ^ 7 ||| 47))))) = k := by
    rw [cat (lo := 7), cat (lo := 12), cat (lo := 15), cat (lo := 20), cat (lo := 27)] <;> (simp only [nf] at *; omega)
  constructor
  · have A := ((((Is.lit (x := 402653231) 402653231 rfl (by decide)).to (show _ = (3 * 2 ^ 27 ||| 47) by decide)).bor (pg ⟨16, 0, rdW k, rs1W k, rs2W k, 0, p2 (f3W k), false⟩ (fl_mod k 11 7) (fl_mod k 19 15) (fl_mod k 24 20))).bor (is_put _ 14 12 _ (hi' := 14) (lo' := 12) (by decide) (by decide) (by decide) (B.1.trans hm) rfl rfl))
    exact A.to ((show _ = _ by (try simp only [Nat.zero_mul, Nat.or_zero, Nat.zero_or]); ac_rfl).trans e)
  · have A := ((((Is.lit (x := 402653231) 402653231 rfl (by decide)).to (show _ = (3 * 2 ^ 27 ||| 47) by decide)).or (is_shl (m := nf k 14 12) ⟨B.2.trans hm, by have := nf_lt k 14 12; omega⟩ (by have := nf_lt k 14 12; omega))).or (((aRd k ⟨16, 0, rdW k, rs1W k, rs2W k, 0, p2 (f3W k), false⟩ rfl).or (aR1 k ⟨16, 0, rdW k, rs1W k, rs2W k, 0, p2 (f3W k), false⟩ rfl)).or (aR2 k ⟨16, 0, rdW k, rs1W k, rs2W k, 0, p2 (f3W k), false⟩ rfl)))
    exact A.to ((show _ = _ by (try simp only [Nat.zero_mul, Nat.or_zero, Nat.zero_or]); ac_rfl).trans e)

theorem can17 {k : Nat} (hk : k < 4294967296) (ho : opW k = 47) (h3 : f3W k = 2 ∨ f3W k = 3) (h0 : nf k 26 25 = 0) {fn : Int} (hf : idxL amoIdx fn % 2 ^ 5 = fl k 31 27 ∧ pickL amR fn % 2 ^ 5 = fl k 31 27) : Can k ⟨17, fn, rdW k, rs1W k, rs2W k, 0, p2 (f3W k), false⟩ := by
  have ho' : nf k 6 0 = 47 := by unfold opW at ho; rw [fl_nf] at ho; omega
  have hm : f3W k = (nf k 14 12 : Int) := fl_nf k 14 12
  have B := atT h3
  have e : (nf k 31 27 * 2 ^ 27 ||| (nf k 24 20 * 2 ^ 20 ||| (nf k 19 15 * 2 ^ 15 ||| (nf k 14 12 * 2 ^ 12 ||| (nf k 11 7 * 2 ^ 7 ||| 47))))) = k := by
    rw [cat (lo := 7), cat (lo := 12), cat (lo := 15), cat (lo := 20), cat (lo := 27)] <;> (simp only [nf] at *; omega)
  constructor
  · have A := ((((Is.lit (x := 47) 47 rfl (by decide)).bor (pg ⟨17, fn, rdW k, rs1W k, rs2W k, 0, p2 (f3W k), false⟩ (fl_mod k 11 7) (fl_mod k 19 15) (fl_mod k 24 20))).bor (is_put _ 14 12 _ (hi' := 14) (lo' := 12) (by decide) (by decide) (by decide) (B.1.trans hm) rfl rfl)).bor (is_put _ 31 27 _ (hi' := 31) (lo' := 27) (by decide) (by decide) (by decide) (hf.1.trans (fl_nf k 31 27)) rfl rfl))
    exact A.to ((show _ = _ by (try simp only [Nat.zero_mul, Nat.or_zero, Nat.zero_or]); ac_rfl).trans e)
  · have A := ((((Is.lit (x := 47) 47 rfl (by decide)).or (is_at _ 5 27 _ (by decide) (hf.2.trans (fl_nf k 31 27)))).or (is_shl (m := nf k 14 12) ⟨B.2.trans hm, by have := nf_lt k 14 12; omega⟩ (by have := nf_lt k 14 12; omega))).or (((aRd k ⟨17, fn, rdW k, rs1W k, rs2W k, 0, p2 (f3W k), false⟩ rfl).or (aR1 k ⟨17, fn, rdW k, rs1W k, rs2W k, 0, p2 (f3W k), false⟩ rfl)).or (aR2 k ⟨17, fn, rdW k, rs1W k, rs2W k, 0, p2 (f3W k), false⟩ rfl)))
    exact A.to ((show _ = _ by (try simp only [Nat.zero_mul, Nat.or_zero, Nat.zero_or]); ac_rfl).trans e)


theorem atomic_clear (k : Nat) : atomicL ((k - nf k 26 25 * 2 ^ 25 : Nat) : Int) = atomicL k := by
  have e3 : f3W ((k - nf k 26 25 * 2 ^ 25 : Nat) : Int) = f3W k := by unfold f3W; rw [fl_nf, fl_nf]; simp only [nf]; omega
  have e5 : fl ((k - nf k 26 25 * 2 ^ 25 : Nat) : Int) 31 27 = fl k 31 27 := by rw [fl_nf, fl_nf]; simp only [nf]; omega
  have e1 : rs1W ((k - nf k 26 25 * 2 ^ 25 : Nat) : Int) = rs1W k := by unfold rs1W; rw [fl_nf, fl_nf]; simp only [nf]; omega
  have e2 : rs2W ((k - nf k 26 25 * 2 ^ 25 : Nat) : Int) = rs2W k := by unfold rs2W; rw [fl_nf, fl_nf]; simp only [nf]; omega
  have ed : rdW ((k - nf k 26 25 * 2 ^ 25 : Nat) : Int) = rdW k := by unfold rdW; rw [fl_nf, fl_nf]; simp only [nf]; omega
  unfold atomicL
  rw [e3, e5, e1, e2, ed]
theorem op_of {k : Nat} {v : Nat} (h : opW k = v) : nf k 6 0 = v := by unfold opW at h; rw [fl_nf] at h; omega

theorem canon {w : Int} {i : Ins} (hw : U32 w) (h : decodeL w = some i) : ∃ n : Nat, n < 4294967296 ∧ decodeL (n : Int) = some i ∧ Can n i := by
  obtain ⟨k, rfl⟩ : ∃ k : Nat, w = (k : Int) := ⟨w.toNat, (Int.toNat_of_nonneg hw.1).symm⟩
  have hk : k < 4294967296 := by have := hw.2; omega
  have h' := h
  unfold decodeL at h
  by_cases c0 : opW k = 15
  · rw [if_pos c0] at h
    split at h
    · injection h with h; subst h
      exact ⟨15, by decide, by decide +kernel, ⟨by decide +kernel, by decide⟩, ⟨by decide +kernel, by decide⟩⟩
    · cases h
  rw [if_neg c0] at h
  by_cases c1 : opW k = 115
  · rw [if_pos c1] at h
    refine ⟨k, hk, h', ?_⟩
    unfold systemL at h
    split at h
    · rename_i e; injection h with h; subst h; rw [show k = 115 by omega]; exact ⟨⟨by decide +kernel, by decide⟩, ⟨by decide +kernel, by decide⟩⟩
    split at h
    · rename_i e; injection h with h; subst h; rw [show k = 1048691 by omega]; exact ⟨⟨by decide +kernel, by decide⟩, ⟨by decide +kernel, by decide⟩⟩
    split at h
    · rename_i e; injection h with h; subst h; rw [show k = 270532723 by omega]; exact ⟨⟨by decide +kernel, by decide⟩, ⟨by decide +kernel, by decide⟩⟩
    split at h
    · rename_i e; injection h with h; subst h; rw [show k = 273678451 by omega]; exact ⟨⟨by decide +kernel, by decide⟩, ⟨by decide +kernel, by decide⟩⟩
    split at h
    · rename_i e3; split at h
      · rename_i e; injection h with h; subst h; exact can20 hk c1 e3 e.1 e.2
      · cases h
    split at h
    · injection h with h; subst h
      by_cases e : 3 < f3W k
      · rw [if_pos e]; exact can14 hk c1 e
      · rw [if_neg e]; exact can13 hk c1 (by omega)
    · cases h
  rw [if_neg c1] at h
  by_cases c2 : opW k = 47
  · rw [if_pos c2] at h
    have o47 := op_of (v := 47) c2
    have hlt : k - nf k 26 25 * 2 ^ 25 < 4294967296 := by omega
    have oc : opW ((k - nf k 26 25 * 2 ^ 25 : Nat) : Int) = 47 := by unfold opW; rw [fl_nf]; simp only [nf] at *; omega
    have z0 : nf (k - nf k 26 25 * 2 ^ 25) 26 25 = 0 := by simp only [nf]; omega
    have ha := atomic_clear k
    generalize hq : k - nf k 26 25 * 2 ^ 25 = q at *
    rw [← ha] at h
    refine ⟨q, hlt, by unfold decodeL; rw [if_neg (by omega), if_neg (by omega), if_pos oc]; exact h, ?_⟩
    unfold atomicL at h
    split at h
    · cases h
    rename_i e3
    have h3 : f3W q = 2 ∨ f3W q = 3 := by omega
    split at h
    · rename_i e5; split at h
      · rename_i e2; injection h with h; subst h; exact can15 hlt oc h3 z0 e5 e2
      · cases h
    split at h
    · rename_i e5; injection h with h; subst h; exact can16 hlt oc h3 z0 e5
    split at h
    · rename_i e5; injection h with h; subst h
      exact can17 hlt oc h3 z0 (by rw [e5]; decide)
    split at h
    · cases h
    · rename_i e4; injection h with h; subst h
      have hb := fl_b q 31 27
      exact can17 hlt oc h3 z0 (amT hb.1 hb.2 (by omega))
  rw [if_neg c2] at h
  refine ⟨k, hk, h', ?_⟩
  cases hr : rowL k with
  | none => rw [hr] at h; cases h
  | some r =>
    rw [hr, Option.bind_some] at h
    unfold rowL at hr
    have f3 := f3_cases k
    by_cases c : opW k = 0x37
    · rw [if_pos c] at hr; injection hr with hr; subst hr
      replace h : plainL k ⟨1, 0, rdW k, 0, 0, uW k, 0, false⟩ = some i := h
      rw [plain1 _ _ (.inl rfl)] at h; injection h with h; subst h
      exact can1 hk c
    rw [if_neg c] at hr; clear c
    by_cases c : opW k = 0x17
    · rw [if_pos c] at hr; injection hr with hr; subst hr
      replace h : plainL k ⟨2, 0, rdW k, 0, 0, uW k, 0, false⟩ = some i := h
      rw [plain1 _ _ (.inr (.inl rfl))] at h; injection h with h; subst h
      exact can2 hk c
    rw [if_neg c] at hr; clear c
    by_cases c : opW k = 0x6f
    · rw [if_pos c] at hr; injection hr with hr; subst hr
      replace h : plainL k ⟨3, 0, rdW k, 0, 0, jW k, 0, false⟩ = some i := h
      rw [plain1 _ _ (.inr (.inr rfl))] at h; injection h with h; subst h
      exact can3 hk c
    rw [if_neg c] at hr; clear c
    by_cases c : opW k = 0x67
    · rw [if_pos c] at hr; injection hr with hr; subst hr
      replace h : plainL k ⟨4, 0, rdW k, rs1W k, 0, iW k, 0, false⟩ = some i := h
      rw [plain4 _ _ rfl] at h
      split at h
      · rename_i e; injection h with h; subst h; exact can4 hk c e
      · cases h
    rw [if_neg c] at hr; clear c
    by_cases c : opW k = 0x63
    · rw [if_pos c] at hr; injection hr with hr; subst hr
      replace h : plainL k ⟨5, 0, 0, rs1W k, rs2W k, bW k, 0, false⟩ = some i := h
      rw [plain5 _ _ rfl] at h
      split at h
      · rename_i e; injection h with h; subst h; exact can5 hk c e
      · cases h
    rw [if_neg c] at hr; clear c
    by_cases c : opW k = 0x03
    · rw [if_pos c] at hr; injection hr with hr; subst hr
      replace h : plainL k ⟨6, 0, rdW k, rs1W k, 0, iW k, 0, false⟩ = some i := h
      rw [plain6 _ _ rfl] at h
      split at h
      · rename_i e; injection h with h; subst h; exact can6 hk c e
      · cases h
    rw [if_neg c] at hr; clear c
    by_cases c : opW k = 0x23
    · rw [if_pos c] at hr; injection hr with hr; subst hr
      replace h : plainL k ⟨7, 0, 0, rs1W k, rs2W k, sW k, 0, false⟩ = some i := h
      rw [plain7 _ _ rfl] at h
      split at h
      · rename_i e; injection h with h; subst h; exact can7 hk c e
      · cases h
    rw [if_neg c] at hr; clear c
    have IM : (opW k = 0x13 ∨ opW k = 0x1b) → plainL k ⟨9, 0, rdW k, rs1W k, 0, iW k, 0, false⟩ = some i → Can k i := by
      intro ho h
      rw [plain9 _ _ rfl] at h
      unfold immediateL at h
      rcases ho with ho | ho
      · rw [if_neg (by omega)] at h
        split at h
        · rename_i e; injection h with h; subst h; exact can9_3 hk ho e.1 e.2
        split at h
        · rename_i e; injection h with h; subst h; exact can9_7 hk ho e.1 e.2
        split at h
        · rename_i e; injection h with h; subst h; exact can9_8 hk ho e.1 e.2
        split at h
        · rename_i e; injection h with h; subst h; exact can9 hk ho e.2.1 e.2.2
        · cases h
      · rw [if_pos ho] at h
        split at h
        · rename_i e; injection h with h; subst h; exact can9_19 hk ho e
        split at h
        · rename_i e; injection h with h; subst h; exact can9_21 hk ho e.1 e.2
        split at h
        · rename_i e; injection h with h; subst h; exact can9_22 hk ho e.1 e.2
        split at h
        · rename_i e; injection h with h; subst h; exact can9_23 hk ho e.1 e.2
        · cases h
    by_cases c : opW k = 0x13
    · rw [if_pos c] at hr; injection hr with hr; subst hr
      exact IM (.inl c) h
    rw [if_neg c] at hr; clear c
    by_cases c : opW k = 0x1b
    · rw [if_pos c] at hr; injection hr with hr; subst hr
      exact IM (.inr c) h
    rw [if_neg c] at hr; clear c
    by_cases c : opW k = 0x33
    · rw [if_pos c] at hr; injection hr with hr; subst hr
      replace h : plainL k ⟨8, 0, rdW k, rs1W k, rs2W k, 0, 0, false⟩ = some i := h
      rw [plain8 _ _ rfl, decide_eq_true c] at h
      split at h
      · rename_i e; injection h with h; subst h; exact can8 hk c e
      · cases h
    rw [if_neg c] at hr
    by_cases d : opW k = 0x3b
    · rw [if_pos d] at hr; injection hr with hr; subst hr
      replace h : plainL k ⟨8, 0, rdW k, rs1W k, rs2W k, 0, 0, false⟩ = some i := h
      rw [plain8 _ _ rfl, decide_eq_false c] at h
      split at h
      · rename_i e; injection h with h; subst h; exact can8w hk d e
      · cases h
    rw [if_neg d] at hr; cases hr

theorem wordR_b (i : Ins) : U32 (wordR i) := by
  unfold wordR
  repeat' refine U_ite ?_ ?_
  all_goals first | exact or_b _ _ | exact ⟨by decide, by decide⟩
theorem mayR (i : Ins) : mayL i = decide (decodeL (wordR i) = some i) ∧ (mayL i = true → encL i = wordR i) := by
  have K : ∀ w, U32 w → decodeL w = some i → decodeL (encL i) = some i ∧ decodeL (wordR i) = some i ∧ encL i = wordR i := by
    intro w hw h
    obtain ⟨n, hn, hd, ha, hb⟩ := canon hw h
    exact ⟨by rw [ha.eq]; exact hd, by rw [hb.eq]; exact hd, by rw [ha.eq, hb.eq]⟩
  unfold mayL
  refine ⟨?_, fun h => (K _ (encL_b i) (of_decide_eq_true h)).2.2⟩
  apply Bool.eq_iff_iff.2
  simp only [decide_eq_true_eq]
  exact ⟨fun h => (K _ (encL_b i) h).2.1, fun h => (K _ (wordR_b i) h).1⟩

end Go.Proofs.YtjapahcbhjjeiaaGreatDoor.AS
