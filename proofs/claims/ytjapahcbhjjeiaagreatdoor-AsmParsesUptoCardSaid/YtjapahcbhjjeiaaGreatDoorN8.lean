/- Several texts in one. -/
import Derived.Test.YtjapahcbhjjeiaaGreatDoorE7
import Derived.Test.YtjapahcbhjjeiaaGreatDoorL15
import Derived.Test.YtjapahcbhjjeiaaGreatDoorK9
import Derived.Test.YtjapahcbhjjeiaaGreatDoorK12
import Derived.Deep.CutRange
import Derived.Deep.CutBlock
import Derived.Outline
import Derived.Deep.QuietTactic
import Derived.BigQuiet
/- The plain model of the document's reading of a line: its name, its numbers; what they could be. No program in sight. -/
namespace Go.Proofs.YtjapahcbhjjeiaaGreatDoor.AS
open Go.Lib
set_option linter.unusedVariables false
set_option linter.unusedSimpArgs false

def digB (b : UInt8) : Bool := decide (48 ≤ b.toNat) && decide (b.toNat ≤ 57)
def valGo (v : Int) : List UInt8 → Int
  | [] => v
  | b :: r => valGo (if v < 1099511627776 then 10 * v + (b.toNat - 48) else v) r
def numsGo : Nat → Bool → List UInt8 → List Int
  | 0, _, _ => []
  | k + 1, m, [] => []
  | k + 1, m, b :: r =>
    if digB b = true then (if m = true then -1 else 1) * valGo 0 ((b :: r).takeWhile digB) :: numsGo k false ((b :: r).dropWhile digB)
    else numsGo k (b == 45) r

theorem valGo_app (a b : List UInt8) (v : Int) : valGo v (a ++ b) = valGo (valGo v a) b := by
  induction a generalizing v with
  | nil => rfl
  | cons x a ih => simp only [List.cons_append, valGo]; exact ih _
theorem val_digits (u : Nat) (hu : u < 1099511627776) : valGo 0 (decDigits u) = u := by
  induction u using Nat.strongRecOn with
  | _ u ih =>
    by_cases h : u < 10
    · rw [decDigits_small h]
      have e : (UInt8.ofNat (48 + u)).toNat = 48 + u := by rw [UInt8.toNat_ofNat']; omega
      simp only [valGo, e]
      rw [if_pos (by decide)]
      omega
    · rw [decDigits_big h, valGo_app, ih (u / 10) (by omega) (by omega)]
      have e : (UInt8.ofNat (48 + u % 10)).toNat = 48 + u % 10 := by rw [UInt8.toNat_ofNat']; omega
      simp only [valGo, e]
      rw [if_pos (by omega)]
      omega
theorem digB_dig {b : UInt8} (h : isDig b) : digB b = true := by
  unfold isDig at h
  simp [digB, h.1, h.2]

theorem nums_fuel : ∀ (n : Nat) (l : List UInt8) (m : Bool) (k k' : Nat), l.length ≤ n → l.length < k → l.length < k' → numsGo k m l = numsGo k' m l
  | n, [], m, k, k', _, h1, h2 => by
    obtain ⟨a, rfl⟩ : ∃ a, k = a + 1 := ⟨k - 1, by simp at h1; omega⟩
    obtain ⟨b, rfl⟩ : ∃ b, k' = b + 1 := ⟨k' - 1, by simp at h2; omega⟩
    rfl
  | 0, b :: r, _, _, _, h, _, _ => by simp at h
  | n + 1, b :: r, m, k, k', h, h1, h2 => by
    obtain ⟨x, rfl⟩ : ∃ a, k = a + 1 := ⟨k - 1, by simp at h1; omega⟩
    obtain ⟨y, rfl⟩ : ∃ b, k' = b + 1 := ⟨k' - 1, by simp at h2; omega⟩
    simp only [List.length_cons] at h h1 h2
    simp only [numsGo]
    by_cases d : digB b = true
    · rw [if_pos d, if_pos d]
      have hd : ((b :: r).dropWhile digB).length ≤ r.length := by
        rw [List.dropWhile_cons_of_pos d]
        exact (List.dropWhile_sublist digB).length_le
      rw [nums_fuel n _ false x y (by omega) (by omega) (by omega)]
    · rw [if_neg d, if_neg d]
      exact nums_fuel n r _ x y (by omega) (by omega) (by omega)
def numsL (m : Bool) (l : List UInt8) : List Int := numsGo (l.length + 1) m l
theorem numsL_nil (m : Bool) : numsL m [] = [] := rfl
theorem numsL_non (m : Bool) {b : UInt8} (h : digB b = false) (r : List UInt8) : numsL m (b :: r) = numsL (b == 45) r := by
  unfold numsL
  rw [List.length_cons, numsGo, if_neg (by simp [h])]
theorem span_digits : ∀ (ds rest : List UInt8), (∀ b ∈ ds, digB b = true) → (∀ b r, rest = b :: r → digB b = false) → (ds ++ rest).takeWhile digB = ds ∧ (ds ++ rest).dropWhile digB = rest
  | [], [], _, _ => ⟨rfl, rfl⟩
  | [], b :: r, _, h => by
    have := h b r rfl
    exact ⟨by simp [List.takeWhile_cons, this], by simp [List.dropWhile_cons, this]⟩
  | d :: ds, rest, h1, h2 => by
    have hd := h1 d (List.mem_cons_self ..)
    obtain ⟨e1, e2⟩ := span_digits ds rest (fun b hb => h1 b (List.mem_cons_of_mem _ hb)) h2
    exact ⟨by rw [List.cons_append, List.takeWhile_cons_of_pos hd, e1], by rw [List.cons_append, List.dropWhile_cons_of_pos hd, e2]⟩
theorem numsL_dig (m : Bool) {ds rest : List UInt8} (hn : ds ≠ []) (h1 : ∀ b ∈ ds, digB b = true) (h2 : ∀ b r, rest = b :: r → digB b = false) : numsL m (ds ++ rest) = (if m = true then -1 else 1) * valGo 0 ds :: numsL false rest := by
  obtain ⟨e1, e2⟩ := span_digits ds rest h1 h2
  cases ds with
  | nil => exact absurd rfl hn
  | cons d ds =>
    unfold numsL
    rw [List.cons_append] at e1 e2 ⊢
    rw [List.length_cons, numsGo, if_pos (h1 d (List.mem_cons_self ..)), e1, e2]
    congr 1
    exact nums_fuel rest.length rest false _ _ (Nat.le_refl _) (by rw [List.length_append]; omega) (Nat.lt_succ_self _)
theorem non45 : digB 45 = false := by decide
theorem numsL_itoa {v : Int} (h0 : -1099511627776 < v) (h1 : v < 1099511627776) {rest : List UInt8} (h2 : ∀ b r, rest = b :: r → digB b = false) : numsL false (itoa v ++ rest) = v :: numsL false rest := by
  unfold itoa
  by_cases c : v < 0
  · rw [if_pos c, List.cons_append, numsL_non _ non45, numsL_dig _ (decDigits_ne _) (fun b hb => digB_dig (decDigits_dig _ b hb)) h2, val_digits _ (by omega)]
    congr 1
    simp only [beq_self_eq_true, if_true]
    omega
  · rw [if_neg c, numsL_dig _ (decDigits_ne _) (fun b hb => digB_dig (decDigits_dig _ b hb)) h2, val_digits _ (by omega)]
    congr 1
    simp only [Bool.false_eq_true, if_false]
    omega

end Go.Proofs.YtjapahcbhjjeiaaGreatDoor.AS

/- The document's numbers of an instruction's line are its arguments. No program in sight. -/
namespace Go.Proofs.YtjapahcbhjjeiaaGreatDoor.AS
open Go.Lib
set_option linter.unusedVariables false
set_option linter.unusedSimpArgs false
set_option maxRecDepth 100000

def valA (i : Ins) (k : Nat) : Int := if k = 0 then i.rd else if k = 1 then i.rs1 else if k = 2 then i.rs2 else if k = 4 then i.imm.tdiv 4096 else if k = 5 then i.rs1 else i.imm
theorem numsL_told {i : Ins} (h : Fit i) (k : Nat) {rest : List UInt8} (h2 : ∀ b r, rest = b :: r → digB b = false) : numsL false (toldL i k ++ rest) = valA i k :: numsL false rest := by
  have b0 := h.rdr; have b1 := h.rs1r; have b2 := h.rs2r; have b3 := h.lo; have b4 := h.hi
  have ht : -1099511627776 < i.imm.tdiv 4096 ∧ i.imm.tdiv 4096 < 1099511627776 := by
    rw [Int.tdiv_eq_ediv, show Int.sign 4096 = 1 from rfl]
    split <;> omega
  have R : ∀ v : Int, -1099511627776 < v → v < 1099511627776 → numsL false (120 :: itoa v ++ rest) = v :: numsL false rest := fun v h0 h1 => by
    rw [List.cons_append, numsL_non _ (by decide)]
    exact numsL_itoa h0 h1 h2
  unfold toldL valA
  repeat' split
  all_goals first | exact R _ (by omega) (by omega) | exact numsL_itoa (by omega) (by omega) h2
theorem nd {c : UInt8} {r0 : List UInt8} (h : digB c = false) : ∀ b r, c :: r0 = b :: r → digB b = false := fun b r e => by injection e with e; rw [← e]; exact h
theorem nd0 : ∀ (b : UInt8) (r : List UInt8), ([] : List UInt8) = b :: r → digB b = false := fun b r e => by cases e
theorem nums_fill {i : Ins} (h : Fit i) : numsL false (fillS (formL i.kind).1 ((formL i.kind).2.map (toldL i))) = (formL i.kind).2.map (valA i) := by
  have T := fun k (rest : List UInt8) (h2 : ∀ b r, rest = b :: r → digB b = false) => numsL_told h k h2
  have N : ∀ k, numsL false (toldL i k) = [valA i k] := fun k => by
    have := T k [] nd0
    rw [List.append_nil, numsL_nil] at this
    exact this
  have c32 : digB 32 = false := by decide
  have c44 : digB 44 = false := by decide
  have c40 : digB 40 = false := by decide
  have c41 : digB 41 = false := by decide
  have e32 : ((32 : UInt8) == 45) = false := by decide
  have e44 : ((44 : UInt8) == 45) = false := by decide
  have e40 : ((40 : UInt8) == 45) = false := by decide
  have e41 : ((41 : UInt8) == 45) = false := by decide
  rcases formL_cases i.kind with e | e | e | e | e | e | e | e | e | e | e | e | e <;> rw [e]
  all_goals
    simp only [fillS, sh2, sh3, shM, shL, shA, List.map_cons, List.map_nil, List.append_nil, eq_false (show ¬ (32 : UInt8) = 37 by decide), eq_false (show ¬ (44 : UInt8) = 37 by decide), eq_false (show ¬ (40 : UInt8) = 37 by decide), eq_false (show ¬ (41 : UInt8) = 37 by decide), if_true, if_false]
    repeat (first
      | rw [numsL_non _ c32, e32]
      | rw [numsL_non _ c44, e44]
      | rw [numsL_non _ c40, e40]
      | rw [numsL_non _ c41, e41]
      | rw [T _ _ (nd c44)]
      | rw [T _ _ (nd c40)]
      | rw [T _ _ (nd c41)]
      | rw [N]
      | rw [numsL_nil]
      | rfl)

end Go.Proofs.YtjapahcbhjjeiaaGreatDoor.AS

/- What a line of a name and numbers could be: the instruction whose line it is, is among them. No program in sight. -/
namespace Go.Proofs.YtjapahcbhjjeiaaGreatDoor.AS
open Go.Lib
set_option linter.unusedVariables false
set_option linter.unusedSimpArgs false
set_option maxRecDepth 100000

def findGo (nm : ByteArray) : Int → List ByteArray → Int
  | _, [] => 0
  | k, x :: l => if x = nm ∧ nm ≠ ⟨#[]⟩ then k else findGo nm (k + 1) l
def findB (l : List ByteArray) (nm : ByteArray) : Int := findGo nm 1 l.tail
def guessL (nm : ByteArray) (a b c : Int) : List Ins :=
  [⟨1, 0, a, 0, 0, b * 4096, 0, false⟩, ⟨2, 0, a, 0, 0, b * 4096, 0, false⟩, ⟨3, 0, a, 0, 0, b, 0, false⟩, ⟨4, 0, a, c, 0, b, 0, false⟩] ++ [⟨5, findB brB nm, 0, a, b, c, 0, false⟩] ++
  ([1, 2, 4, 8].flatMap fun sz => [⟨6, 0, a, c, 0, b, sz, true⟩, ⟨6, 0, a, c, 0, b, sz, false⟩, ⟨7, 0, 0, c, a, b, sz, false⟩, ⟨15, 0, a, b, 0, 0, sz, false⟩, ⟨16, 0, a, c, b, 0, sz, false⟩] ++ ([1, 2, 3, 4, 5, 6, 7, 8, 9].map fun f => ⟨17, f, a, c, b, 0, sz, false⟩)) ++
  [⟨8, findB alB nm, a, b, c, 0, 0, false⟩, ⟨9, findB imnB nm, a, b, 0, c, 0, false⟩] ++ ([1, 2, 3].flatMap fun f => [⟨13, f, a, c, 0, b, 0, false⟩, ⟨14, f, a, c, 0, b, 0, false⟩]) ++
  [⟨10, 0, 0, 0, 0, 0, 0, false⟩, ⟨11, 0, 0, 0, 0, 0, 0, false⟩, ⟨12, 0, 0, 0, 0, 0, 0, false⟩, ⟨18, 0, 0, 0, 0, 0, 0, false⟩, ⟨19, 0, 0, 0, 0, 0, 0, false⟩, ⟨20, 0, 0, a, b, 0, 0, false⟩]
theorem find_ok : (heads.all fun h => (decide (h.1 = 5) && decide (findB brB (bB (nameH h)) = h.2.1)) || (decide (h.1 = 8) && decide (findB alB (bB (nameH h)) = h.2.1)) || (decide (h.1 = 9) && decide (findB imnB (bB (nameH h)) = h.2.1)) || decide (h.1 ≠ 5 ∧ h.1 ≠ 8 ∧ h.1 ≠ 9)) = true := by decide +kernel
def pad3 (l : List Int) : Int × Int × Int := (l.getD 0 0, l.getD 1 0, l.getD 2 0)

def headF (h : Int × Int × Int × Bool) : Bool :=
  if h.1 = 5 ∨ h.1 = 8 ∨ h.1 = 9 then decide (h.2.2.1 = 0) && !h.2.2.2
  else if h.1 = 6 then decide (h.2.1 = 0) && decide (h.2.2.1 ∈ [(1 : Int), 2, 4, 8])
  else if h.1 = 7 then decide (h.2.1 = 0) && decide (h.2.2.1 ∈ [(1 : Int), 2, 4, 8]) && !h.2.2.2
  else if h.1 = 13 ∨ h.1 = 14 then decide (h.2.1 ∈ [(1 : Int), 2, 3]) && decide (h.2.2.1 = 0) && !h.2.2.2
  else if h.1 = 15 ∨ h.1 = 16 then decide (h.2.1 = 0) && decide (h.2.2.1 ∈ [(1 : Int), 2, 4, 8]) && !h.2.2.2
  else if h.1 = 17 then decide (h.2.1 ∈ [(1 : Int), 2, 3, 4, 5, 6, 7, 8, 9]) && decide (h.2.2.1 ∈ [(1 : Int), 2, 4, 8]) && !h.2.2.2
  else decide (h.2.1 = 0) && decide (h.2.2.1 = 0) && !h.2.2.2
theorem headF_ok : (heads.all headF) = true := by decide +kernel
set_option maxHeartbeats 4000000 in
theorem guess_mem {i : Ins} (h : Fit i) : i ∈ guessL (bB (nameI i)) (pad3 ((formL i.kind).2.map (valA i))).1 (pad3 ((formL i.kind).2.map (valA i))).2.1 (pad3 ((formL i.kind).2.map (valA i))).2.2 := by
  have hk := List.all_eq_true.1 nm_ok _ h.head
  simp only [Bool.and_eq_true, decide_eq_true_eq] at hk
  have hk := hk.2
  have hf := List.all_eq_true.1 find_ok _ h.head
  have hh := List.all_eq_true.1 headF_ok _ h.head
  have z1 := h.rd; have z2 := h.rs1; have z3 := h.rs2; have z4 := h.imm; have z5 := h.upper
  obtain ⟨kind, fn, rd, rs1, rs2, imm, size, sg⟩ := i
  have hk' : kind = 1 ∨ kind = 2 ∨ kind = 3 ∨ kind = 4 ∨ kind = 5 ∨ kind = 6 ∨ kind = 7 ∨ kind = 8 ∨ kind = 9 ∨ kind = 10 ∨ kind = 11 ∨ kind = 12 ∨ kind = 13 ∨ kind = 14 ∨ kind = 15 ∨ kind = 16 ∨ kind = 17 ∨ kind = 18 ∨ kind = 19 ∨ kind = 20 := by
    simp only at hk; omega
  have en : nameI ⟨kind, fn, rd, rs1, rs2, imm, size, sg⟩ = nameH (kind, fn, size, sg) := rfl
  rw [en]
  clear hk h en
  rcases hk' with rfl | rfl | rfl | rfl | rfl | rfl | rfl | rfl | rfl | rfl | rfl | rfl | rfl | rfl | rfl | rfl | rfl | rfl | rfl | rfl
  all_goals
    simp [headF] at hh
    simp [formL] at z1 z2 z3 z4
    simp at hf
    first
      | (have z := z5 (by simp [formL]); simp only at z; simp [guessL, formL, pad3, valA, z1, z2, z3, z4, hh, hf]; exact z)
      | (simp [guessL, formL, pad3, valA, z1, z2, z3, z4, hh, hf]; done)
      | (obtain ⟨g1, g2⟩ := hh; simp [guessL, formL, pad3, valA, z1, z2, z3, z4, g1, g2, hf]; done)
      | (obtain ⟨rfl, rfl⟩ := hh; generalize nameH _ = nm at *; simp [guessL, formL, pad3, valA, z1, z2, z3, z4, hf]; done)
      | (obtain ⟨rfl, g⟩ := hh; rcases g with rfl | rfl | rfl | rfl <;> cases sg <;> simp [guessL, formL, pad3, valA, z1, z2, z3, z4, hf])
      | (obtain ⟨⟨g1, g2⟩, rfl⟩ := hh; rcases g1 with rfl | rfl | rfl | rfl | rfl | rfl | rfl | rfl | rfl <;> rcases g2 with rfl | rfl | rfl | rfl <;> simp [guessL, formL, pad3, valA, z1, z2, z3, z4, hf])

end Go.Proofs.YtjapahcbhjjeiaaGreatDoor.AS

/- The document's reading of a line's name and numbers. No program in sight. -/
namespace Go.Proofs.YtjapahcbhjjeiaaGreatDoor.AS
open Go.Lib
set_option linter.unusedVariables false
set_option linter.unusedSimpArgs false
set_option maxRecDepth 100000

def numbersR (l : List UInt8) : List UInt8 × List Int :=
  if 32 ∈ l then (l.takeWhile (fun b => b != 32), numsL false (l.dropWhile (fun b => b != 32))) else (l, numsL false l)
theorem numsL_none : ∀ (l : List UInt8) (m : Bool), (l.all fun b => !digB b) = true → numsL m l = []
  | [], m, _ => rfl
  | b :: r, m, h => by
    simp only [List.all_cons, Bool.and_eq_true, Bool.not_eq_true'] at h
    rw [numsL_non m h.1]
    exact numsL_none r _ h.2
theorem bare_ok : (heads.all fun h => decide ((formL h.1).1 ≠ []) || (nameH h).all fun b => !digB b) = true := by decide +kernel
theorem fill_head {k : Int} (l : List (List UInt8)) (h : (formL k).1 ≠ []) : ∃ r, fillS (formL k).1 l = 32 :: r := by
  rcases formL_cases k with e | e | e | e | e | e | e | e | e | e | e | e | e <;> rw [e] at h ⊢
  all_goals first
    | exact absurd rfl h
    | (cases l <;> exact ⟨_, rfl⟩)
theorem numbers_line {i : Ins} (h : Fit i) : numbersR (lineI i) = (nameI i, (formL i.kind).2.map (valA i)) := by
  have hn := okW_name h
  have n32 : ∀ b ∈ nameI i, (b != 32) = true := fun b hb => by
    have := hn.1 b hb
    simp only [isSep, Bool.or_eq_false_iff] at this
    simpa using this.1.1.1
  have hf := nums_fill h
  unfold numbersR lineI
  by_cases c : (formL i.kind).1 = []
  · have hb := List.all_eq_true.1 bare_ok _ h.head
    simp only [Bool.or_eq_true, decide_eq_true_eq] at hb
    have hb : ((nameI i).all fun b => !digB b) = true := hb.resolve_left (fun g => g c)
    rw [c] at hf ⊢
    rw [← hf]
    have e : fillS [] ((formL i.kind).2.map (toldL i)) = [] := by cases (formL i.kind).2.map (toldL i) <;> rfl
    rw [e, List.append_nil]
    rw [if_neg (fun hm => by have := n32 32 hm; simp at this), numsL_none _ _ hb]
    rfl
  · obtain ⟨r, hr⟩ := fill_head ((formL i.kind).2.map (toldL i)) c
    rw [hr] at hf ⊢
    rw [if_pos (by simp), ← hf]
    have T : ∀ (l : List UInt8), (∀ b ∈ l, (b != 32) = true) → (l ++ 32 :: r).takeWhile (fun b => b != 32) = l ∧ (l ++ 32 :: r).dropWhile (fun b => b != 32) = 32 :: r := by
      intro l
      induction l with
      | nil => intro _; exact ⟨by simp [List.takeWhile_cons], by simp [List.dropWhile_cons]⟩
      | cons x l ih =>
        intro hl
        obtain ⟨e1, e2⟩ := ih (fun b hb => hl b (List.mem_cons_of_mem _ hb))
        have hx := hl x (List.mem_cons_self ..)
        exact ⟨by rw [List.cons_append, List.takeWhile_cons, if_pos hx, e1], by rw [List.cons_append, List.dropWhile_cons, if_pos hx, e2]⟩
    obtain ⟨e1, e2⟩ := T (nameI i) n32
    rw [e1, e2]

end Go.Proofs.YtjapahcbhjjeiaaGreatDoor.AS

/- The document's find by its contract; a literal list of instructions. -/
namespace Go.Proofs.YtjapahcbhjjeiaaGreatDoor.AS
open Go.RowKit Go.Lib Go.Proofs.YtjapahcbhjjeiaaGreatDoorW.PrintWords Go.Proofs.YtjapahcbhjjeiaaGreatDoorW.PrintLast Go.Proofs.YtjapahcbhjjeiaaGreatDoorW.PrintMore Go.Proofs.YtjapahcbhjjeiaaGreatDoor.PA
set_option linter.unusedVariables false
set_option linter.unusedSimpArgs false
set_option maxRecDepth 100000
set_option maxHeartbeats 8000000

theorem bB_data' (b : ByteArray) : bB b.data.toList = b := rfl
theorem sq_t {a b : ByteArray} (h : a = b) : (a.toList == b.toList) = true := by simp [h]
theorem sq_f {a b : ByteArray} (h : a ≠ b) : (a.toList == b.toList) = false := by
  have := seq_f (a := a.data.toList) (b := b.data.toList) (fun e => h (ByteArray.ext (Array.toList_inj.1 e)))
  rwa [bB_data', bB_data'] at this
theorem findGo_some {l : List ByteArray} {nm : ByteArray} {k : Nat} (h : k < l.length) (hx : l.getD k ⟨#[]⟩ = nm ∧ nm ≠ ⟨#[]⟩) : findGo nm (k : Int) (l.drop k) = k := by
  rw [List.drop_eq_getElem_cons h, findGo, if_pos (by rw [← show l.getD k ⟨#[]⟩ = l[k] by simp [h]]; exact hx)]
theorem findGo_next {l : List ByteArray} {nm : ByteArray} {k : Nat} (h : k < l.length) (hx : ¬ (l.getD k ⟨#[]⟩ = nm ∧ nm ≠ ⟨#[]⟩)) : findGo nm (k : Int) (l.drop k) = findGo nm ((k + 1 : Nat) : Int) (l.drop (k + 1)) := by
  rw [List.drop_eq_getElem_cons h, findGo, if_neg (by rw [← show l.getD k ⟨#[]⟩ = l[k] by simp [h]]; exact hx)]
  rfl
theorem find_calls (l : List ByteArray) (nm : ByteArray) (A : Option Addr) (c : Nat) (W : World) (hC : Kd.C Kd.string W A l.length l) (hl : l.length ≤ 1000) :
    Calls Tryz.prog 63 #[.slice A l.length c, .string nm] W fun e w' => e = .returned (.int .i64 (findB l nm)) ∧ w' = W := by
  obtain ⟨tot, htot⟩ : ∃ x, x = findB l nm := ⟨_, rfl⟩
  have HT : Aside0 (findGo nm ((1 : Nat) : Int) (l.drop 1) = tot) := ⟨by rw [htot, List.drop_one]; rfl⟩
  rw [← htot]
  have HC := Aside0.mk hC
  clear hC htot
  go_enter Tryz.func63, Tryz.ntmps63
  go_wp2
  go_loop [5] (fun v5 => ∃ k : Nat, v5 = .int .i64 (k : Int) ∧ k ≤ l.length + 1 ∧ findGo nm (k : Int) (l.drop k) = tot) (fun v5 => l.length + 1 - (RowKit.intOf v5).toNat)
  case atStart => exact ⟨1, rfl, by omega, HT.out⟩
  case round =>
    obtain ⟨k, rfl, hk, hgo⟩ := hrel
    clear HT
    have HG := Aside0.mk hgo
    clear hgo
    by_cases hlt : k < l.length
    · have d0 : decide ((k : Int) < (l.length : Int)) = true := decide_eq_true (by omega)
      have b0 : (0 : Int) ≤ (k : Int) := by omega
      have b1 : (k : Int) < (l.length : Int) := by omega
      obtain ⟨ad, hA, y⟩ := str_cell HC.out hlt
      subst hA
      have HX : Aside0 (∀ v, v = l.getD k ⟨#[]⟩ → ((v = nm ∧ nm ≠ ⟨#[]⟩) → (k : Int) = tot) ∧ (¬ (v = nm ∧ nm ≠ ⟨#[]⟩) → findGo nm ((k + 1 : Nat) : Int) (l.drop (k + 1)) = tot)) := ⟨fun v hv => by
        subst hv
        exact ⟨fun h => by rw [← HG.out, findGo_some hlt h], fun h => by rw [← HG.out, findGo_next hlt h]⟩⟩
      obtain ⟨u, hu⟩ : ∃ x, x = l.getD k ⟨#[]⟩ := ⟨_, rfl⟩
      have HU := Aside0.mk (HX.out u hu)
      have HL := Aside0.mk hlt
      rw [← hu] at y
      clear hu HX hlt
      by_cases e1 : u = nm
      · have q1 := sq_t e1
        by_cases e2 : nm = ⟨#[]⟩
        · have q2 := sq_t e2
          have q3 : nm.toList.isEmpty = true := by rw [e2, show (⟨#[]⟩ : ByteArray) = bB [] from rfl, toList_bB]; rfl
          have HN := Aside0.mk (HU.out.2 (fun h => h.2 e2))
          clear e1 e2
          go_wp2
          go_round
          case rel => exact ⟨k + 1, by go_num, by have := HL.out; omega, HN.out⟩
          case measure => simp [RowKit.intOf]; have := HL.out; omega
        · have q2 := sq_f e2
          have q3 : nm.toList.isEmpty = false := by
            cases h : nm.toList with
            | nil => rw [h, show (⟨#[]⟩ : ByteArray) = bB [] from rfl, toList_bB] at q2; cases q2
            | cons _ _ => rfl
          have HN := Aside0.mk (HU.out.1 ⟨e1, e2⟩)
          clear e1 e2
          go_wp2
          go_ret
          exact ⟨by rw [HN.out]; rfl, rfl⟩
      · have q1 := sq_f e1
        have HN := Aside0.mk (HU.out.2 (fun h => e1 h.1))
        clear e1
        go_wp2
        go_round
        case rel => exact ⟨k + 1, by go_num, by have := HL.out; omega, HN.out⟩
        case measure => simp [RowKit.intOf]; have := HL.out; omega
    · have d0 : decide (k < l.length) = false := decide_eq_false hlt
      have HN : Aside0 (tot = 0) := ⟨by rw [← HG.out, List.drop_eq_nil_of_le (by omega)]; rfl⟩
      clear hlt
      go_wp2
      go_ret
      exact ⟨by rw [HN.out]; rfl, rfl⟩

def insC (i : Ins) : List Value := [.int .i64 i.kind, .int .i64 i.fn, .int .i64 i.rd, .int .i64 i.rs1, .int .i64 i.rs2, .int .i64 i.imm, .int .i64 i.size, .bool i.sg]
theorem k23_of (w : World) (i : Ins) : k23.K w (toS i) (insC i) :=
  ⟨[_], _, rfl, rfl, ⟨[_], _, rfl, rfl, ⟨[_], _, rfl, rfl, ⟨[_], _, rfl, rfl, ⟨[_], _, rfl, rfl, ⟨[_], _, rfl, rfl, ⟨[_], _, rfl, rfl, rfl⟩⟩⟩⟩⟩⟩⟩
theorem insC_at : ∀ (l : List Ins) (j : Nat) (x : Ins) (i : Nat), l[j]? = some x → i < 8 → (l.flatMap insC)[j * 8 + i]? = (insC x)[i]?
  | [], j, x, i, h, _ => by simp at h
  | a :: l, 0, x, i, h, hi => by
    simp only [List.getElem?_cons_zero, Option.some.injEq] at h
    subst h
    rw [List.flatMap_cons, List.getElem?_append_left (by simp [insC]; omega)]
    simp
  | a :: l, j + 1, x, i, h, hi => by
    simp only [List.getElem?_cons_succ] at h
    rw [List.flatMap_cons, List.getElem?_append_right (by simp [insC]; omega)]
    have : (j + 1) * 8 + i - (insC a).length = j * 8 + i := by simp [insC]; omega
    rw [this]
    exact insC_at l j x i h hi
theorem litI_C (w : World) (l : List Ins) (hl : l.length ≤ 1000) : Kd.C k23 (w.alloc (.cells (l.flatMap insC).toArray 23)) (some ⟨w.heap.size, 0, none⟩) l.length (l.map toS) := by
  refine ⟨by rw [List.length_map], by omega, fun _ => ⟨_, rfl, fun j p hj => ?_⟩⟩
  rw [List.getElem?_map] at hj
  obtain ⟨x, hx, rfl⟩ := Option.map_eq_some_iff.1 hj
  refine ⟨insC x, rfl, k23_of _ x, ?_⟩
  intro i u hu
  have hi : i < 8 := by
    have := (List.getElem?_eq_some_iff.1 hu).1
    exact this
  have e : ((⟨w.heap.size, 0, none⟩ : Addr).add (j * 8 + i)) = ⟨w.heap.size, j * 8 + i, none⟩ := by unfold Addr.add; split <;> simp_all
  show (w.alloc _).cell? ((⟨w.heap.size, 0, none⟩ : Addr).add (j * 8 + i)) = _
  rw [e, blk_cell (blk_new w _) (j * 8 + i)]
  rw [List.getElem?_toArray, insC_at l j x i hx hi]
  exact hu
variable {P : Program} {ops : Array Oper} {rest : List Oper} {o : Oper} {a : Act} {Q : Exit → Act → World → Prop}
theorem litI_event {W : World} (hgd : o.guard = none) {N : Tmp} (_hd : o.dst = some N) (l : List Ins) (hl : l.length ≤ 1000)
    (hrun : (execOp a.eval o).run P W = .ok (.value (.slice (some ⟨W.heap.size, 0, none⟩) l.length l.length)) (W.alloc (.cells (l.flatMap insC).toArray 23)))
    (h : ∀ A w1, Kd.C k23 w1 A l.length (l.map toS) → Below W.heap.size W w1 → wpList P ops Q rest (a.put o.dst (.slice A l.length l.length)) w1) : wpList P ops Q (o :: rest) a W :=
  Kd.event_run hgd hrun (h _ _ (litI_C W l hl) (below_alloc (Below.refl _ _) _))

end Go.Proofs.YtjapahcbhjjeiaaGreatDoor.AS

/- The document's numbers by its contract. -/
namespace Go.Proofs.YtjapahcbhjjeiaaGreatDoor.AS
open Go.RowKit Go.Lib Go.Proofs.YtjapahcbhjjeiaaGreatDoorW.PrintWords Go.Proofs.YtjapahcbhjjeiaaGreatDoorW.PrintLast Go.Proofs.YtjapahcbhjjeiaaGreatDoorW.PrintMore Go.Proofs.YtjapahcbhjjeiaaGreatDoor.PA
set_option linter.unusedVariables false
set_option linter.unusedSimpArgs false
set_option maxRecDepth 100000
set_option maxHeartbeats 8000000

def nameR (l : List UInt8) : List UInt8 := if 32 ∈ l then l.takeWhile (fun b => b != 32) else l
def restR (l : List UInt8) : List UInt8 := if 32 ∈ l then l.dropWhile (fun b => b != 32) else l
theorem numbersR_eq (l : List UInt8) : numbersR l = (nameR l, numsL false (restR l)) := by
  unfold numbersR nameR restR
  split <;> rfl
theorem span_at : ∀ (l : List UInt8) (k : Nat), (∀ b ∈ l.take k, b ≠ 32) → l[k]? = some 32 → nameR l = l.take k ∧ restR l = l.drop k
  | [], k, _, h => by simp at h
  | b :: l, 0, _, h => by
    simp only [List.getElem?_cons_zero, Option.some.injEq] at h
    subst h
    simp [nameR, restR]
  | b :: l, k + 1, h0, h => by
    simp only [List.getElem?_cons_succ] at h
    have hb : b ≠ 32 := h0 b (by simp)
    obtain ⟨e1, e2⟩ := span_at l k (fun x hx => h0 x (by simp [hx])) h
    have hm : 32 ∈ l := List.mem_of_getElem? h
    unfold nameR restR at *
    rw [if_pos hm] at e1 e2
    rw [if_pos (List.mem_cons_of_mem _ hm), if_pos (List.mem_cons_of_mem _ hm), List.takeWhile_cons_of_pos (by simpa using hb), List.dropWhile_cons_of_pos (by simpa using hb), e1, e2]
    simp
theorem span_none {l : List UInt8} (h : ∀ b ∈ l, b ≠ 32) : nameR l = l ∧ restR l = l := by
  have : 32 ∉ l := fun hm => h 32 hm rfl
  unfold nameR restR
  rw [if_neg this, if_neg this]
  exact ⟨rfl, rfl⟩
theorem restR_len (l : List UInt8) : (restR l).length ≤ l.length := by
  unfold restR
  split
  · exact (List.dropWhile_sublist _).length_le
  · exact Nat.le_refl _
theorem u8_ne {x c : UInt8} (h : x ≠ c) : ((x.toNat : Int) == (c.toNat : Int)) = false := beq_f (fun e => h (UInt8.toNat_inj.1 (by omega)))
theorem u8_eq (x c : UInt8) : ((x.toNat : Int) == (c.toNat : Int)) = (x == c) := by
  by_cases h : x = c
  · subst h; simp
  · rw [u8_ne h]; simp [h]
def prevM (m : List UInt8) : Nat → Bool
  | 0 => false
  | k + 1 => m[k]? == some 45
theorem numsL_dg (b : Bool) {x : UInt8} (h : digB x = true) (r : List UInt8) : numsL b (x :: r) = (if b = true then -1 else 1) * valGo 0 ((x :: r).takeWhile digB) :: numsL false ((x :: r).dropWhile digB) := by
  have e := List.takeWhile_append_dropWhile (p := digB) (l := x :: r)
  conv => lhs; rw [← e]
  refine numsL_dig b ?_ ?_ ?_
  · rw [List.takeWhile_cons_of_pos h]; simp
  · intro y hy; exact (List.all_eq_true.1 (List.all_takeWhile (p := digB)) y hy)
  · intro y r' hy
    have := List.head?_dropWhile_not digB (x :: r)
    rw [hy] at this
    simpa using this
theorem dw_head (l : List UInt8) {x : UInt8} {r : List UInt8} (h : l.dropWhile digB = x :: r) : digB x = false := by
  have := List.head?_dropWhile_not digB l
  rw [h] at this
  simpa using this
theorem valGo_bd : ∀ (l : List UInt8) (v : Int), (∀ b ∈ l, digB b = true) → 0 ≤ v → v < 17592186044416 → 0 ≤ valGo v l ∧ valGo v l < 17592186044416
  | [], v, _, h0, h1 => ⟨h0, h1⟩
  | b :: r, v, h, h0, h1 => by
    have hb : digB b = true := h b (by simp)
    simp only [digB, Bool.and_eq_true, decide_eq_true_eq] at hb
    simp only [valGo]
    refine valGo_bd r _ (fun x hx => h x (by simp [hx])) ?_ ?_
    · split <;> omega
    · split <;> omega
theorem numsL_bd : ∀ (n : Nat) (l : List UInt8) (m : Bool), l.length ≤ n → ∀ x ∈ numsL m l, -17592186044416 < x ∧ x < 17592186044416
  | n, [], m, _, x, hx => by rw [numsL_nil] at hx; cases hx
  | 0, b :: r, m, h, x, hx => by simp at h
  | n + 1, b :: r, m, h, x, hx => by
    simp only [List.length_cons] at h
    by_cases d : digB b = true
    · rw [numsL_dg m d] at hx
      rcases List.mem_cons.1 hx with rfl | hx
      · have := valGo_bd ((b :: r).takeWhile digB) 0 (fun y hy => List.all_eq_true.1 (List.all_takeWhile (p := digB)) y hy) (by decide) (by decide)
        split <;> omega
      · refine numsL_bd n _ false ?_ x hx
        have hd : ((b :: r).dropWhile digB).length ≤ r.length := by
          rw [List.dropWhile_cons_of_pos d]
          exact (List.dropWhile_sublist digB).length_le
        omega
    · rw [numsL_non m (by simpa using d)] at hx
      exact numsL_bd n r _ (by omega) x hx

theorem numbers_calls (l : List UInt8) (hl : l.length ≤ 1073741824) (W : World) :
    Calls Tryz.prog 41 #[.string (bB l)] W fun e w' => ∃ v, e = .returned (.tuple #[.string (bB (nameR l)), v]) ∧ Kd.R (Kd.int .i64) 3 w' W.heap.size (fun _ => True) v (numsL false (restR l)) ∧ Below W.heap.size W w' := by
  obtain ⟨nm, hnm⟩ : ∃ x, x = nameR l := ⟨_, rfl⟩
  obtain ⟨m, hm⟩ : ∃ x, x = restR l := ⟨_, rfl⟩
  have HML : Aside0 (m.length ≤ 1073741824) := ⟨by have := restR_len l; rw [← hm] at this; omega⟩
  have HNM : Aside0 (nm = nameR l ∧ m = restR l) := ⟨hnm, hm⟩
  rw [← hnm, ← hm]
  have HL := Aside0.mk hl
  obtain ⟨tot, htot⟩ : ∃ x, x = numsL false m := ⟨_, rfl⟩
  rw [← htot]
  have HT := Aside0.mk htot
  obtain ⟨s, hs⟩ : ∃ x, x = bB l := ⟨_, rfl⟩
  have HS := Aside0.mk hs
  have hsz : s.size ≤ 1073741824 := by rw [hs, bB_size]; exact hl
  rw [← hs]
  clear hl hnm hm hs htot
  go_enter Tryz.func41, Tryz.ntmps41
  go_upto_block 0 with fail
  go_cut [0, 4] from 10 to 26 (fun v0 v4 wx => v0 = .string (bB m) ∧ v4 = .string (bB nm) ∧ W = wx)
  case first =>
    go_wp2
    go_loop [0, 4, 5] (fun v0 v4 v5 => ∃ k : Nat, v0 = .string s ∧ v4 = .string s ∧ v5 = .int .i64 (k : Int) ∧ k ≤ l.length ∧ (∀ b ∈ l.take k, b ≠ 32)) (fun _ _ v5 => l.length - (RowKit.intOf v5).toNat)
    case atStart => exact ⟨0, rfl, rfl, rfl, Nat.zero_le _, fun b hb => by simp at hb⟩
    case round =>
      obtain ⟨k, rfl, rfl, rfl, hk, hall⟩ := hrel
      have HA := Aside0.mk hall
      have hs0 := HS.out
      clear hall
      by_cases hlt : k < l.length
      · have hks : k < s.size := by rw [HS.out, bB_size]; exact hlt
        have hx : s[k] = l[k] := by subst hs0; rfl
        by_cases e : l[k] = 32
        · have q1 : ((s[k].toNat : Int) == 32) = true := by rw [hx, e]; rfl
          have HX : Aside0 (nm = l.take k ∧ m = l.drop k) := ⟨by
            obtain ⟨a1, a2⟩ := HNM.out
            have a3 := span_at l k HA.out (by rw [List.getElem?_eq_getElem hlt, e])
            exact ⟨a1.trans a3.1, a2.trans a3.2⟩⟩
          have HE1 : Aside0 (s.extract 0 k = bB nm) := ⟨by rw [HX.out.1, HS.out]; exact take_bB l k⟩
          have HE2 : Aside0 (s.extract k s.size = bB m) := ⟨by rw [HX.out.2, HS.out, bB_size]; exact drop_bB l k⟩
          clear hx e hlt hs0
          go_wp2
          go_meet
          case rel => exact ⟨by rw [HE2.out], by rw [HE1.out], rfl⟩
        · have q1 : ((s[k].toNat : Int) == 32) = false := by rw [hx]; exact u8_ne e
          have HX : Aside0 (∀ b ∈ l.take (k + 1), b ≠ 32) := ⟨by
            intro b hb
            rw [List.take_succ_eq_append_getElem hlt] at hb
            rcases List.mem_append.1 hb with h | h
            · exact HA.out b h
            · simp only [List.mem_singleton] at h; rw [h]; exact e⟩
          have HLT := Aside0.mk hlt
          clear hx e hlt hs0
          go_wp2
          go_round
          case rel => exact ⟨k + 1, rfl, rfl, by go_num, by have := HLT.out; omega, HX.out⟩
          case measure => simp [RowKit.intOf]; have := HLT.out; omega
      · have HX : Aside0 (nm = l ∧ m = l) := ⟨by
          obtain ⟨a1, a2⟩ := HNM.out
          have a3 := span_none (l := l) (fun b hb => HA.out b (by rw [List.take_of_length_le (by omega)]; exact hb))
          exact ⟨a1.trans a3.1, a2.trans a3.2⟩⟩
        have hks : ¬ k < s.size := by rw [HS.out, bB_size]; exact hlt
        have q0 : decide ((k : Int) < (s.size : Int)) = false := decide_eq_false (by omega)
        clear hlt hs0
        go_wp2
        go_meet
        case rel => exact ⟨by rw [HX.out.2, HS.out], by rw [HX.out.1, HS.out], rfl⟩
  case rest =>
    obtain ⟨rfl, rfl, rfl⟩ := hcut
    clear hsz
    obtain ⟨s2, hs2⟩ : ∃ x, x = bB m := ⟨_, rfl⟩
    have HS2 := Aside0.mk hs2
    have hsz : s2.size ≤ 1073741824 := by rw [hs2, bB_size]; exact HML.out
    have HSZ : Aside0 (s2.size = m.length) := ⟨by rw [hs2, bB_size]⟩
    rw [← hs2]
    have hg : ∀ (k : Nat) (h : k < m.length) (h2 : k < s2.size), s2[k] = m[k] := by subst hs2; exact fun _ _ _ => rfl
    have HGET := Aside0.mk hg
    clear hs2 hg
    go_wp2
    go_loopw [6, 7] (fun v6 v7 wr => ∃ (k : Nat) (acc : List Int), v7 = .int .i64 (k : Int) ∧ k ≤ m.length + 1 ∧ Kd.R (Kd.int .i64) 3 wr W.heap.size (fun _ => True) v6 acc ∧ Below W.heap.size W wr ∧ acc ++ numsL (prevM m k) (m.drop k) = tot ∧ acc.length ≤ k) (fun _ v7 _ => m.length + 1 - (RowKit.intOf v7).toNat)
    case atStart => exact ⟨0, [], rfl, Nat.zero_le _, Kd.R_nil _ _ _ _ _, Below.refl _ _, by rw [HT.out]; rfl, Nat.zero_le _⟩
    case round =>
      obtain ⟨k, acc, rfl, hk, hR, hB, hgo, hal⟩ := hrel
      have HR := Aside0.mk hR
      have HB := Aside0.mk hB
      have HG := Aside0.mk hgo
      have HAL := Aside0.mk hal
      obtain ⟨A6, c6, hv6⟩ := Kd.R_slice hR
      subst hv6
      clear hR hB hgo hal
      by_cases hlt : k < m.length
      · have hks : k < s2.size := by rw [HSZ.out]; exact hlt
        obtain ⟨x, hx⟩ : ∃ x, x = m[k] := ⟨_, rfl⟩
        have hsx : s2[k] = x := by rw [hx, HGET.out k hlt hks]
        have hdr : m.drop k = x :: m.drop (k + 1) := by rw [hx]; exact List.drop_eq_getElem_cons hlt
        have HPM : Aside0 (prevM m (k + 1) = (x == 45)) := ⟨by rw [prevM, List.getElem?_eq_getElem hlt, ← hx]; simp⟩
        have HLT := Aside0.mk hlt
        have HDR := Aside0.mk hdr
        clear hx hdr hlt
        by_cases hd : digB x = true
        · have hdd : 48 ≤ x.toNat ∧ x.toNat ≤ 57 := by simpa [digB] using hd
          have d1 : decide ((s2[k].toNat : Int) < 48) = false := decide_eq_false (by rw [hsx]; omega)
          have d2 : decide (57 < (s2[k].toNat : Int)) = false := decide_eq_false (by rw [hsx]; omega)
          have kb : k ≤ 1073741824 := by have h1 := HLT.out; have h2 := HML.out; omega
          go_upto_region 14 with fail
          go_cut [51] from 27 to 85 (fun v51 wx => v51 = .bool (prevM m k) ∧ wr = wx)
          case first =>
            by_cases hk0 : k = 0
            · have d3 : decide (0 < k) = false := decide_eq_false (by omega)
              have HX : Aside0 (prevM m k = false) := ⟨by rw [hk0]; rfl⟩
              clear hk0
              go_wp2
              go_meet
              case rel => exact ⟨by rw [HX.out], rfl⟩
            · have d3 : decide ((0 : Int) < (k : Int)) = true := decide_eq_true (by omega)
              have hw : wrap64 ((k : Int) - 1) = (k : Int) - 1 := w64 (by omega) (by omega)
              have b0 : (0 : Int) ≤ (k : Int) - 1 := by omega
              have b1 : (1 : Int) ≤ (k : Int) := by omega
              have b2 : ((k : Int) - 1).toNat = k - 1 := by omega
              have b3 : (k : Int) - 1 < (s2.size : Int) := by omega
              have b4 : k - 1 < s2.size := by omega
              have HX : Aside0 (prevM m k = (s2[k - 1] == 45)) := ⟨by
                have h1 := HLT.out
                obtain ⟨j, rfl⟩ : ∃ j, k = j + 1 := ⟨k - 1, by omega⟩
                rw [prevM, List.getElem?_eq_getElem (show j < m.length by omega), HGET.out (j + 1 - 1) (by omega) (by omega)]
                simp⟩
              clear hk0
              go_wp2
              go_meet
              case rel => exact ⟨by rw [HX.out]; exact congrArg Value.bool (u8_eq _ 45), rfl⟩
          case rest =>
            obtain ⟨rfl, rfl⟩ := hcut
            obtain ⟨pm, hpm⟩ : ∃ y, y = prevM m k := ⟨_, rfl⟩
            rw [← hpm]
            have HP := Aside0.mk hpm
            clear hpm
            go_upto_if 51 with fail
            go_cut [8] from 27 to 85 (fun v8 wx => v8 = .int .i64 (if pm = true then -1 else 1) ∧ wr = wx)
            case first =>
              cases pm with
              | true => go_wp2; go_meet; case rel => exact ⟨rfl, rfl⟩
              | false => go_wp2; go_meet; case rel => exact ⟨rfl, rfl⟩
            case rest =>
              obtain ⟨rfl, rfl⟩ := hcut
              obtain ⟨vt, hvt⟩ : ∃ y, y = valGo 0 ((m.drop k).takeWhile digB) := ⟨_, rfl⟩
              obtain ⟨D, hD⟩ : ∃ y, y = (m.drop k).dropWhile digB := ⟨_, rfl⟩
              obtain ⟨sg, hsg⟩ : ∃ y : Int, y = (if pm = true then -1 else 1) := ⟨_, rfl⟩
              have hsg2 : sg = 1 ∨ sg = -1 := by rw [hsg]; split <;> simp
              have HV : Aside0 (0 ≤ vt ∧ vt < 17592186044416) := ⟨by rw [hvt]; exact valGo_bd _ 0 (fun y hy => List.all_eq_true.1 (List.all_takeWhile (p := digB)) y hy) (by decide) (by decide)⟩
              have HX : Aside0 (acc ++ (sg * vt :: numsL false D) = tot) := ⟨by
                have h := HG.out
                rw [HDR.out, numsL_dg _ hd, ← HDR.out, ← hvt, ← hD, ← HP.out, ← hsg] at h
                exact h⟩
              have HVT := Aside0.mk hvt
              have HD := Aside0.mk hD
              rw [← hsg]
              clear hvt hD hsg hd hsx d1 d2 hdd
              go_upto_block 4 with fail
              go_cut [7, 9] from 52 to 79 (fun v7 v9 wx => ∃ j : Nat, v7 = .int .i64 (j : Int) ∧ k < j + 1 ∧ j ≤ m.length ∧ m.drop j = D ∧ v9 = .int .i64 vt ∧ wr = wx)
              case first =>
                go_wp2
                go_loop [7, 9] (fun v7 v9 => ∃ (j : Nat) (v : Int), v7 = .int .i64 (j : Int) ∧ k ≤ j ∧ j ≤ m.length ∧ v9 = .int .i64 v ∧ 0 ≤ v ∧ v < 17592186044416 ∧ valGo v ((m.drop j).takeWhile digB) = vt ∧ (m.drop j).dropWhile digB = D) (fun v7 _ => m.length - (RowKit.intOf v7).toNat)
                case atStart => exact ⟨k, 0, rfl, Nat.le_refl _, by have := HLT.out; omega, rfl, by decide, by decide, HVT.out.symm, HD.out.symm⟩
                case round =>
                  obtain ⟨j, v, rfl, hkj, hj, rfl, hv0, hv1, hv2, hv3⟩ := hrel
                  have H2 := Aside0.mk hv2
                  have H3 := Aside0.mk hv3
                  clear hv2 hv3
                  by_cases hjl : j < m.length
                  · have hjs : j < s2.size := by rw [HSZ.out]; exact hjl
                    obtain ⟨z, hz⟩ : ∃ z, z = m[j] := ⟨_, rfl⟩
                    have hsz2 : s2[j] = z := by rw [hz, HGET.out j hjl hjs]
                    have hdz : m.drop j = z :: m.drop (j + 1) := by rw [hz]; exact List.drop_eq_getElem_cons hjl
                    have HJL := Aside0.mk hjl
                    have H4 := Aside0.mk H2.out
                    have H5 := Aside0.mk H3.out
                    rw [hdz] at H4 H5
                    clear hz hdz hjl H2 H3
                    by_cases hd2 : digB z = true
                    · have hzb : 48 ≤ z.toNat ∧ z.toNat ≤ 57 := by simpa [digB] using hd2
                      have e1 : decide (48 ≤ (s2[j].toNat : Int)) = true := decide_eq_true (by rw [hsz2]; omega)
                      have e2 : decide ((s2[j].toNat : Int) ≤ 57) = true := decide_eq_true (by rw [hsz2]; omega)
                      rw [List.takeWhile_cons_of_pos hd2, valGo] at H4
                      rw [List.dropWhile_cons_of_pos hd2] at H5
                      clear hd2
                      by_cases hv : v < 1099511627776
                      · have e3 : decide (v < 1099511627776) = true := decide_eq_true hv
                        have w1 : IntKind.u8.wrap ((s2[j].toNat : Int) - 48) = (s2[j].toNat : Int) - 48 := by rw [IntKind.wrap_u8', hsz2]; omega
                        have w2 : ((s2[j].toNat : Int) - 48) % 256 = (s2[j].toNat : Int) - 48 := by rw [hsz2]; omega
                        have w3 : wrap64 (10 * v) = 10 * v := w64 (by omega) (by omega)
                        have w4 : wrap64 (10 * v + ((s2[j].toNat : Int) - 48)) = 10 * v + ((s2[j].toNat : Int) - 48) := by rw [hsz2]; exact w64 (by omega) (by omega)
                        rw [if_pos hv] at H4
                        have HVV := Aside0.mk hv
                        clear hv
                        go_wp2
                        go_round
                        case rel => exact ⟨j + 1, 10 * v + ((z.toNat : Int) - 48), by go_num, by omega, by have := HJL.out; omega, rfl, by have := HVV.out; omega, by have := HVV.out; omega, H4.out, H5.out⟩
                        case measure => simp [RowKit.intOf]; have := HJL.out; omega
                      · have e3 : decide (v < 1099511627776) = false := decide_eq_false hv
                        rw [if_neg hv] at H4
                        clear hv
                        go_wp2
                        go_round
                        case rel => exact ⟨j + 1, v, by go_num, by omega, by have := HJL.out; omega, rfl, hv0, hv1, H4.out, H5.out⟩
                        case measure => simp [RowKit.intOf]; have := HJL.out; omega
                    · have HE : Aside0 (m.drop j = D ∧ v = vt) := ⟨by
                        have h4 := H4.out; have h5 := H5.out
                        rw [List.takeWhile_cons_of_neg hd2, valGo] at h4
                        rw [List.dropWhile_cons_of_neg hd2] at h5
                        refine ⟨?_, h4⟩
                        rw [← h5]
                        have h6 := HJL.out
                        rw [List.drop_eq_getElem_cons h6, ← HGET.out j h6 hjs, hsz2]⟩
                      have hor : z.toNat < 48 ∨ (48 ≤ z.toNat ∧ 57 < z.toNat) := by
                        simp only [digB, Bool.and_eq_true, decide_eq_true_eq] at hd2; omega
                      clear hd2
                      rcases hor with h | ⟨h, h'⟩
                      · have e1 : decide (48 ≤ (s2[j].toNat : Int)) = false := decide_eq_false (by rw [hsz2]; omega)
                        clear h hsz2
                        go_wp2
                        go_meet
                        case rel => exact ⟨j, rfl, by omega, hj, HE.out.1, by rw [HE.out.2], rfl⟩
                      · have e1 : decide (48 ≤ (s2[j].toNat : Int)) = true := decide_eq_true (by rw [hsz2]; omega)
                        have e2 : decide ((s2[j].toNat : Int) ≤ 57) = false := decide_eq_false (by rw [hsz2]; omega)
                        clear h hsz2
                        go_wp2
                        go_meet
                        case rel => exact ⟨j, rfl, by omega, hj, HE.out.1, by rw [HE.out.2], rfl⟩
                  · have HE : Aside0 (m.drop j = D ∧ v = vt) := ⟨by
                      have h4 := H2.out; have h5 := H3.out
                      rw [List.drop_eq_nil_of_le (by omega)] at h4 h5 ⊢
                      exact ⟨h5, h4⟩⟩
                    have hjs : ¬ j < s2.size := by rw [HSZ.out]; exact hjl
                    have q0 : decide (j < s2.size) = false := decide_eq_false hjs
                    clear hjl
                    go_wp2
                    go_meet
                    case rel => exact ⟨j, rfl, by omega, hj, HE.out.1, by rw [HE.out.2], rfl⟩
              case rest =>
                obtain ⟨j, rfl, hkj, hj, hjd, rfl, rfl⟩ := hcut
                have HJD := Aside0.mk hjd
                obtain ⟨q, hq⟩ : ∃ q, q = sg * vt := ⟨_, rfl⟩
                have w1 : wrap64 (sg * vt) = q := by
                  rw [hq]
                  have h := HV.out
                  rcases hsg2 with rfl | rfl
                  · exact w64 (by omega) (by omega)
                  · exact w64 (by omega) (by omega)
                have w2 : IntKind.i64.wrap (sg * vt) = q := by rw [i64_w]; exact w1
                have hjb : j ≤ 1073741824 := by have := HML.out; omega
                have HX2 := HX.out
                rw [← hq] at HX2
                have HY := Aside0.mk HX2
                have HALN : Aside0 (acc.length ≤ 1073741825) := ⟨by have h1 := HAL.out; have h2 := HML.out; omega⟩
                clear hq hsg2 hjd HX2 HX
                go_wp2_with (first | ((with_reducible refine gate_dst (N := 84) rfl ?_); (refine lit_event ?hg (N := 84) ?hd [q] (by simp) ?hr ?_; (case hd => rfl); (case hg => rfl); (case hr => first | (go_simp; done) | (go_simp; rfl)); intro A9 w9 hC9 hb9; have HC9 := Aside0.mk hC9; have HB9 := Aside0.mk (below_step HB.out hb9); have HR9 := Aside0.mk (Kd.R_below HR.out hb9); clear hC9 hb9)) | ((with_reducible refine gate_dst (N := 85) rfl ?_); at_builtin; refine Kd.R_append_rows (Kd.int .i64) (w0 := W) W.heap.size rfl (.tmp 80) (.tmp 84) 50 3 (.int .i64 0) 8 rfl Tryz.underlying50 info3 rfl (by decide) (by decide) (.slice A6 acc.length c6) acc [q] A9 _ _ (fun _ => True) (fun _ => False) rfl rfl ?aO ?aR (fun _ _ h => h) (fun _ h => h.elim) (fun _ _ => trivial) ?aB ?aS ?aL ?_; (case aR => exact HC9.out); (case aO => exact HR9.out); (case aB => exact HB9.out); (case aS => exact (HB9.out).size); (case aL => have h1 := HALN.out; simp; omega); intro v10 w10 ho hb hg hat; have HR10 := Aside0.mk ho; have HB10 := Aside0.mk hb; clear ho hb hg hat) | fail)
                go_roundw
                case rel =>
                  clear w1 w2
                  refine ⟨j + 1, acc ++ [q], by go_num, by omega, HR10.out, HB10.out, ?_, by have := HAL.out; simp; omega⟩
                  rw [← HY.out, List.append_assoc]
                  congr 1
                  rw [List.singleton_append]
                  congr 1
                  rw [← HJD.out]
                  by_cases hjl : j < m.length
                  · have hd : digB m[j] = false := dw_head (m.drop k) (r := m.drop (j + 1)) (by rw [← HD.out, ← HJD.out]; exact List.drop_eq_getElem_cons hjl)
                    rw [List.drop_eq_getElem_cons hjl, numsL_non _ hd, prevM, List.getElem?_eq_getElem hjl]
                    congr 1
                  · rw [List.drop_eq_nil_of_le (by omega), List.drop_eq_nil_of_le (by omega), numsL_nil, numsL_nil]
                case measure => clear w1 w2; simp [RowKit.intOf]; omega
        · have HX : Aside0 (acc ++ numsL (prevM m (k + 1)) (m.drop (k + 1)) = tot) := ⟨by
            have h := HG.out
            rw [HDR.out, numsL_non _ (by simpa using hd)] at h
            rw [HPM.out]; exact h⟩
          have hor : x.toNat < 48 ∨ (48 ≤ x.toNat ∧ 57 < x.toNat) := by
            simp only [digB, Bool.and_eq_true, decide_eq_true_eq] at hd; omega
          clear hd
          rcases hor with h | ⟨h, h'⟩
          · have d1 : decide ((s2[k].toNat : Int) < 48) = true := decide_eq_true (by rw [hsx]; omega)
            clear h hsx
            go_wp2
            go_roundw
            case rel => exact ⟨k + 1, acc, by go_num, by have := HLT.out; omega, HR.out, HB.out, HX.out, by have := HAL.out; omega⟩
            case measure => simp [RowKit.intOf]; have := HLT.out; omega
          · have d1 : decide ((s2[k].toNat : Int) < 48) = false := decide_eq_false (by rw [hsx]; omega)
            have d2 : decide (57 < (s2[k].toNat : Int)) = true := decide_eq_true (by rw [hsx]; omega)
            clear h hsx
            go_wp2
            go_roundw
            case rel => exact ⟨k + 1, acc, by go_num, by have := HLT.out; omega, HR.out, HB.out, HX.out, by have := HAL.out; omega⟩
            case measure => simp [RowKit.intOf]; have := HLT.out; omega
      · have q0 : decide (k < s2.size) = false := decide_eq_false (by rw [HSZ.out]; exact hlt)
        have HE : Aside0 (acc = tot) := ⟨by rw [← HG.out, List.drop_eq_nil_of_le (by omega), numsL_nil, List.append_nil]⟩
        clear hlt
        go_wp2
        go_ret2
        exact ⟨_, rfl, by rw [← HE.out]; exact HR.out, HB.out⟩
end Go.Proofs.YtjapahcbhjjeiaaGreatDoor.AS

/- The document's guesses by its contract. -/
namespace Go.Proofs.YtjapahcbhjjeiaaGreatDoor.AS
open Go.RowKit Go.Lib Go.Proofs.YtjapahcbhjjeiaaGreatDoorW.PrintWords Go.Proofs.YtjapahcbhjjeiaaGreatDoorW.PrintLast Go.Proofs.YtjapahcbhjjeiaaGreatDoorW.PrintMore Go.Proofs.YtjapahcbhjjeiaaGreatDoor.PA
set_option linter.unusedVariables false
set_option linter.unusedSimpArgs false
set_option maxRecDepth 100000
set_option maxHeartbeats 8000000

def zs (j : Nat) : Int := if j = 0 then 1 else if j = 1 then 2 else if j = 2 then 4 else if j = 3 then 8 else 16
theorem zs_next {j : Nat} (h : j < 4) : 1 ≤ zs j ∧ zs j ≤ 8 ∧ zs (j + 1) = 2 * zs j ∧ ([1, 2, 4, 8] : List Int).take (j + 1) = ([1, 2, 4, 8] : List Int).take j ++ [zs j] := by
  have : j = 0 ∨ j = 1 ∨ j = 2 ∨ j = 3 := by omega
  rcases this with rfl | rfl | rfl | rfl <;> exact ⟨by decide, by decide, by decide, by decide⟩
theorem take9 {i : Nat} (h : i < 9) : ([1, 2, 3, 4, 5, 6, 7, 8, 9] : List Int).take (i + 1) = ([1, 2, 3, 4, 5, 6, 7, 8, 9] : List Int).take i ++ [(i : Int) + 1] := by
  have : i = 0 ∨ i = 1 ∨ i = 2 ∨ i = 3 ∨ i = 4 ∨ i = 5 ∨ i = 6 ∨ i = 7 ∨ i = 8 := by omega
  rcases this with rfl | rfl | rfl | rfl | rfl | rfl | rfl | rfl | rfl <;> decide
theorem take3 {i : Nat} (h : i < 3) : ([1, 2, 3] : List Int).take (i + 1) = ([1, 2, 3] : List Int).take i ++ [(i : Int) + 1] := by
  have : i = 0 ∨ i = 1 ∨ i = 2 := by omega
  rcases this with rfl | rfl | rfl <;> decide
def five (a b c sz : Int) : List Ins := [⟨6, 0, a, c, 0, b, sz, true⟩, ⟨6, 0, a, c, 0, b, sz, false⟩, ⟨7, 0, 0, c, a, b, sz, false⟩, ⟨15, 0, a, b, 0, 0, sz, false⟩, ⟨16, 0, a, c, b, 0, sz, false⟩]
def amoG (a b c sz f : Int) : Ins := ⟨17, f, a, c, b, 0, sz, false⟩
def csrG (a b c f : Int) : List Ins := [⟨13, f, a, c, 0, b, 0, false⟩, ⟨14, f, a, c, 0, b, 0, false⟩]
theorem guess_eq (nm : ByteArray) (a b c : Int) : guessL nm a b c = [⟨1, 0, a, 0, 0, b * 4096, 0, false⟩, ⟨2, 0, a, 0, 0, b * 4096, 0, false⟩, ⟨3, 0, a, 0, 0, b, 0, false⟩, ⟨4, 0, a, c, 0, b, 0, false⟩] ++ [⟨5, findB brB nm, 0, a, b, c, 0, false⟩] ++
  ([1, 2, 4, 8].flatMap fun sz => five a b c sz ++ ([1, 2, 3, 4, 5, 6, 7, 8, 9].map (amoG a b c sz))) ++ [⟨8, findB alB nm, a, b, c, 0, 0, false⟩, ⟨9, findB imnB nm, a, b, 0, c, 0, false⟩] ++ ([1, 2, 3].flatMap (csrG a b c)) ++
  [⟨10, 0, 0, 0, 0, 0, 0, false⟩, ⟨11, 0, 0, 0, 0, 0, 0, false⟩, ⟨12, 0, 0, 0, 0, 0, 0, false⟩, ⟨18, 0, 0, 0, 0, 0, 0, false⟩, ⟨19, 0, 0, 0, 0, 0, 0, false⟩, ⟨20, 0, 0, a, b, 0, 0, false⟩] := rfl

theorem guesses_calls (nm : ByteArray) (a b c : Int) (r : List Int) (hb0 : -17592186044416 < b) (hb1 : b < 17592186044416) (A : Option Addr) (cap : Nat) (W : World) (hC : Kd.C (Kd.int .i64) W A (a :: b :: c :: r).length (a :: b :: c :: r)) :
    Calls Tryz.prog 42 #[.string nm, .slice A (a :: b :: c :: r).length cap] W fun e w' => ∃ v, e = .returned v ∧ Kd.R k23 23 w' W.heap.size (fun _ => True) v ((guessL nm a b c).map toS) ∧ Below W.heap.size W w' := by
  obtain ⟨n, hn⟩ : ∃ x, x = (a :: b :: c :: r).length := ⟨_, rfl⟩
  have hn3 : 3 ≤ n := by rw [hn]; simp
  obtain ⟨ad, rfl, y0⟩ := Kd.at_int hC 0 (by decide) (by simp; omega)
  obtain ⟨_, e1, y1⟩ := Kd.at_int hC 1 (by decide) (by simp; omega)
  obtain rfl := Option.some.inj e1
  obtain ⟨_, e2, y2⟩ := Kd.at_int hC 2 (by decide) (by simp; omega)
  obtain rfl := Option.some.inj e2
  have r0 : rd (a :: b :: c :: r) 0 = a := rfl
  have r1 : rd (a :: b :: c :: r) 1 = b := by simp [rd]
  have r2 : rd (a :: b :: c :: r) 2 = c := by simp [rd]; try omega
  rw [r0] at y0
  rw [r1] at y1
  rw [r2] at y2
  have k0 : (0 : Int) < (n : Int) := by omega
  have k1 : (1 : Int) < (n : Int) := by omega
  have k2 : (2 : Int) < (n : Int) := by omega
  have j0 : 0 < n := by omega
  have j1 : 1 < n := by omega
  have j2 : 2 < n := by omega
  have z0 : W.cell? ad = some (.int .i64 a) := by simpa [Addr.add] using y0
  have z1 : W.cell? { block := ad.block, off := ad.off + 1 } = some (.int .i64 b) := by simpa [Addr.add] using y1
  have z2 : W.cell? { block := ad.block, off := ad.off + 2 } = some (.int .i64 c) := by simpa [Addr.add] using y2
  rw [← hn]
  have HGE := Aside0.mk (guess_eq nm a b c)
  obtain ⟨tot, htot⟩ : ∃ x, x = guessL nm a b c := ⟨_, rfl⟩
  rw [← htot] at HGE ⊢
  have HB := Aside0.mk (Below.refl W.heap.size W)
  clear htot hC r0 r1 r2 e1 e2 hn
  go_enter Tryz.func42, Tryz.ntmps42
  go_upto_region 2 with fail
  go_quiet (fail)
  obtain ⟨wq, hwq⟩ : ∃ x, x = W.drewN nq := ⟨_, rfl⟩
  have HB2 : Aside0 (Below W.heap.size W wq) := ⟨by rw [hwq]; exact pw_below_drewN HB.out nq⟩
  rw [← hwq]
  clear hwq HB y0 y1 y2 z0 z1 z2 k0 k1 k2 j0 j1 j2
  have HB := HB2
  clear HB2
  have HR0 := Aside0.mk (Kd.R_nil k23 23 wq W.heap.size (fun _ => True))
  have HL0 : Aside0 (([] : List Ins).length ≤ 0) := ⟨Nat.le_refl _⟩
  go_wp2_with (first | ((with_reducible refine gate_dst (N := 37) rfl ?_); go_loud (refine litI_event ?hg (N := 37) ?hd [(⟨1, 0, a, 0, 0, b * 4096, 0, false⟩ : Ins), (⟨2, 0, a, 0, 0, b * 4096, 0, false⟩ : Ins), (⟨3, 0, a, 0, 0, b, 0, false⟩ : Ins), (⟨4, 0, a, c, 0, b, 0, false⟩ : Ins)] (by simp) ?hr ?_; (case hd => rfl); (case hg => rfl); (case hr => first | (go_simp; done) | (go_simp; rfl)); intro A37 w37 hC hb; have HC37 := Aside0.mk hC; have HB2 := Aside0.mk (below_step (by repeat (first | (with_reducible first | exact HB.out | apply below_alloc | apply pw_below_drewN | apply below_drew1) | exact HB.out)) hb); have HR37 := Aside0.mk (Kd.R_below HR0.out hb); clear hC hb HB HR0; have HB := HB2; clear HB2)) | ((with_reducible refine gate_dst (N := 38) rfl ?_); go_loud (at_builtin; refine Kd.R_append_rows k23 (w0 := W) W.heap.size rfl (.tmp 21) (.tmp 37) 41 23 (.agg #[(.int .i64 0), (.int .i64 0), (.int .i64 0), (.int .i64 0), (.int .i64 0), (.int .i64 0), (.int .i64 0), (.bool false)]) 64 rfl Tryz.underlying41 info23 rfl (by decide) (by decide) (.slice none 0 0) (([] : List Ins).map toS) ([(⟨1, 0, a, 0, 0, b * 4096, 0, false⟩ : Ins), (⟨2, 0, a, 0, 0, b * 4096, 0, false⟩ : Ins), (⟨3, 0, a, 0, 0, b, 0, false⟩ : Ins), (⟨4, 0, a, c, 0, b, 0, false⟩ : Ins)].map toS) A37 _ _ (fun _ => True) (fun _ => False) rfl rfl ?aO ?aR (fun _ _ h => h) (fun _ h => h.elim) (fun _ _ => trivial) ?aB ?aS ?aL ?_; (case aR => exact HC37.out); (case aO => exact HR37.out); (case aB => exact HB.out); (case aS => exact (HB.out).size); (case aL => have h1 := HL0.out; simp only [List.length_map, List.length_cons, List.length_nil]; omega); intro v w38 ho hb hg hat; obtain ⟨a38, ha⟩ : ∃ x : List Ins, x = ([] : List Ins) ++ [(⟨1, 0, a, 0, 0, b * 4096, 0, false⟩ : Ins), (⟨2, 0, a, 0, 0, b * 4096, 0, false⟩ : Ins), (⟨3, 0, a, 0, 0, b, 0, false⟩ : Ins), (⟨4, 0, a, c, 0, b, 0, false⟩ : Ins)] := ⟨_, rfl⟩; rw [← List.map_append, ← ha] at ho; obtain ⟨A38, c38, hv⟩ := Kd.R_slice ho; rw [List.length_map] at hv; subst hv; have HR38 := Aside0.mk ho; have HE38 := Aside0.mk ha; have HL38 : Aside0 (a38.length ≤ 0 + 4) := ⟨by rw [ha, List.length_append]; have h1 := HL0.out; simp only [List.length_cons, List.length_nil]; omega⟩; have hb2 := hb; clear ho hb hg hat HB ha HC37; have HB := Aside0.mk hb2; clear hb2)) | (go_at_call 32; (with_reducible refine (l32_calls _).mono ?_); rintro e w' ⟨B32, rfl, hCa, hb⟩; have HF32 := Aside0.mk hCa; have HB2 := Aside0.mk (below_step (by repeat (first | (with_reducible first | exact HB.out | apply below_alloc | apply pw_below_drewN | apply below_drew1) | exact HB.out)) hb); have HR2 := Aside0.mk (Kd.R_below HR38.out hb); clear hCa hb HB HR38; have HB := HB2; have HR38 := HR2; clear HB2 HR2) | (go_at_call 63; (refine (find_calls brB nm B32 7 _ HF32.out (by decide)).mono ?_); rintro e w' ⟨rfl, rfl⟩; clear HF32) | ((with_reducible refine gate_dst (N := 47) rfl ?_); go_loud (refine litI_event ?hg (N := 47) ?hd [(⟨5, findB brB nm, 0, a, b, c, 0, false⟩ : Ins)] (by simp) ?hr ?_; (case hd => rfl); (case hg => rfl); (case hr => first | (go_simp; done) | (go_simp; rfl)); intro A47 w47 hC hb; have HC47 := Aside0.mk hC; have HB2 := Aside0.mk (below_step (by repeat (first | (with_reducible first | exact HB.out | apply below_alloc | apply pw_below_drewN | apply below_drew1) | exact HB.out)) hb); have HR47 := Aside0.mk (Kd.R_below HR38.out hb); clear hC hb HB HR38; have HB := HB2; clear HB2)) | ((with_reducible refine gate_dst (N := 48) rfl ?_); go_loud (at_builtin; refine Kd.R_append_rows k23 (w0 := W) W.heap.size rfl (.tmp 39) (.tmp 47) 41 23 (.agg #[(.int .i64 0), (.int .i64 0), (.int .i64 0), (.int .i64 0), (.int .i64 0), (.int .i64 0), (.int .i64 0), (.bool false)]) 64 rfl Tryz.underlying41 info23 rfl (by decide) (by decide) (.slice A38 a38.length c38) (a38.map toS) ([(⟨5, findB brB nm, 0, a, b, c, 0, false⟩ : Ins)].map toS) A47 _ _ (fun _ => True) (fun _ => False) rfl rfl ?aO ?aR (fun _ _ h => h) (fun _ h => h.elim) (fun _ _ => trivial) ?aB ?aS ?aL ?_; (case aR => exact HC47.out); (case aO => exact HR47.out); (case aB => exact HB.out); (case aS => exact (HB.out).size); (case aL => have h1 := HL38.out; simp only [List.length_map, List.length_cons, List.length_nil]; omega); intro v w48 ho hb hg hat; obtain ⟨a48, ha⟩ : ∃ x : List Ins, x = a38 ++ [(⟨5, findB brB nm, 0, a, b, c, 0, false⟩ : Ins)] := ⟨_, rfl⟩; rw [← List.map_append, ← ha] at ho; obtain ⟨A48, c48, hv⟩ := Kd.R_slice ho; rw [List.length_map] at hv; subst hv; have HR48 := Aside0.mk ho; have HE48 := Aside0.mk ha; have HL48 : Aside0 (a48.length ≤ 4 + 1) := ⟨by rw [ha, List.length_append]; have h1 := HL38.out; simp only [List.length_cons, List.length_nil]; omega⟩; have hb2 := hb; clear ho hb hg hat HB ha HC47; have HB := Aside0.mk hb2; clear hb2)) | fail)
  go_loopw [5, 9] (fun v5 v9 wr => ∃ (j : Nat) (acc : List Ins), v9 = .int .i64 (zs j) ∧ j ≤ 4 ∧ Kd.R k23 23 wr W.heap.size (fun _ => True) v5 (acc.map toS) ∧ Below W.heap.size W wr ∧ acc = a48 ++ (([1, 2, 4, 8] : List Int).take j).flatMap (fun sz => five a b c sz ++ ([1, 2, 3, 4, 5, 6, 7, 8, 9].map (amoG a b c sz))) ∧ acc.length ≤ 5 + 14 * j) (fun _ v9 _ => (16 - RowKit.intOf v9).toNat)
  case atStart => exact ⟨0, a48, rfl, by decide, HR48.out, HB.out, by simp, by have := HL48.out; omega⟩
  case round =>
    obtain ⟨j, acc, rfl, hj, hR, hB, hacc, hal⟩ := hrel
    obtain ⟨A5, c5, hv5⟩ := Kd.R_slice hR; rw [List.length_map] at hv5; subst hv5; have HR5 := Aside0.mk hR; have HE5 := Aside0.mk hacc; have HL5 := Aside0.mk hal; clear HB; have HB := Aside0.mk hB; clear hR hacc hal hB
    by_cases hj4 : j < 4
    · obtain ⟨z0, z1, z2, z3⟩ := zs_next hj4
      obtain ⟨z, hz⟩ : ∃ z, z = zs j := ⟨_, rfl⟩
      rw [← hz] at z0 z1 z2 z3 ⊢
      have Z2 := Aside0.mk z2
      have Z3 := Aside0.mk z3
      clear z2 z3 hz
      go_wp2_with (first | ((with_reducible refine gate_dst (N := 69) rfl ?_); go_loud (refine litI_event ?hg (N := 69) ?hd [(⟨6, 0, a, c, 0, b, z, true⟩ : Ins), (⟨6, 0, a, c, 0, b, z, false⟩ : Ins), (⟨7, 0, 0, c, a, b, z, false⟩ : Ins)] (by simp) ?hr ?_; (case hd => rfl); (case hg => rfl); (case hr => first | (go_simp; done) | (go_simp; rfl)); intro A69 w69 hC hb; have HC69 := Aside0.mk hC; have HB2 := Aside0.mk (below_step (by repeat (first | (with_reducible first | exact HB.out | apply below_alloc | apply pw_below_drewN | apply below_drew1) | exact HB.out)) hb); have HR69 := Aside0.mk (Kd.R_below HR5.out hb); clear hC hb HB HR5; have HB := HB2; clear HB2)) | ((with_reducible refine gate_dst (N := 70) rfl ?_); go_loud (at_builtin; refine Kd.R_append_rows k23 (w0 := W) W.heap.size rfl (.tmp 53) (.tmp 69) 41 23 (.agg #[(.int .i64 0), (.int .i64 0), (.int .i64 0), (.int .i64 0), (.int .i64 0), (.int .i64 0), (.int .i64 0), (.bool false)]) 64 rfl Tryz.underlying41 info23 rfl (by decide) (by decide) (.slice A5 acc.length c5) (acc.map toS) ([(⟨6, 0, a, c, 0, b, z, true⟩ : Ins), (⟨6, 0, a, c, 0, b, z, false⟩ : Ins), (⟨7, 0, 0, c, a, b, z, false⟩ : Ins)].map toS) A69 _ _ (fun _ => True) (fun _ => False) rfl rfl ?aO ?aR (fun _ _ h => h) (fun _ h => h.elim) (fun _ _ => trivial) ?aB ?aS ?aL ?_; (case aR => exact HC69.out); (case aO => exact HR69.out); (case aB => exact HB.out); (case aS => exact (HB.out).size); (case aL => have h1 := HL5.out; simp only [List.length_map, List.length_cons, List.length_nil]; omega); intro v w70 ho hb hg hat; obtain ⟨a70, ha⟩ : ∃ x : List Ins, x = acc ++ [(⟨6, 0, a, c, 0, b, z, true⟩ : Ins), (⟨6, 0, a, c, 0, b, z, false⟩ : Ins), (⟨7, 0, 0, c, a, b, z, false⟩ : Ins)] := ⟨_, rfl⟩; rw [← List.map_append, ← ha] at ho; obtain ⟨A70, c70, hv⟩ := Kd.R_slice ho; rw [List.length_map] at hv; subst hv; have HR70 := Aside0.mk ho; have HE70 := Aside0.mk ha; have HL70 : Aside0 (a70.length ≤ 60 + 3) := ⟨by rw [ha, List.length_append]; have h1 := HL5.out; simp only [List.length_cons, List.length_nil]; omega⟩; have hb2 := hb; clear ho hb hg hat HB ha HC69; have HB := Aside0.mk hb2; clear hb2)) | ((with_reducible refine gate_dst (N := 81) rfl ?_); go_loud (refine litI_event ?hg (N := 81) ?hd [(⟨15, 0, a, b, 0, 0, z, false⟩ : Ins), (⟨16, 0, a, c, b, 0, z, false⟩ : Ins)] (by simp) ?hr ?_; (case hd => rfl); (case hg => rfl); (case hr => first | (go_simp; done) | (go_simp; rfl)); intro A81 w81 hC hb; have HC81 := Aside0.mk hC; have HB2 := Aside0.mk (below_step (by repeat (first | (with_reducible first | exact HB.out | apply below_alloc | apply pw_below_drewN | apply below_drew1) | exact HB.out)) hb); have HR81 := Aside0.mk (Kd.R_below HR70.out hb); clear hC hb HB HR70; have HB := HB2; clear HB2)) | ((with_reducible refine gate_dst (N := 82) rfl ?_); go_loud (at_builtin; refine Kd.R_append_rows k23 (w0 := W) W.heap.size rfl (.tmp 71) (.tmp 81) 41 23 (.agg #[(.int .i64 0), (.int .i64 0), (.int .i64 0), (.int .i64 0), (.int .i64 0), (.int .i64 0), (.int .i64 0), (.bool false)]) 64 rfl Tryz.underlying41 info23 rfl (by decide) (by decide) (.slice A70 a70.length c70) (a70.map toS) ([(⟨15, 0, a, b, 0, 0, z, false⟩ : Ins), (⟨16, 0, a, c, b, 0, z, false⟩ : Ins)].map toS) A81 _ _ (fun _ => True) (fun _ => False) rfl rfl ?aO ?aR (fun _ _ h => h) (fun _ h => h.elim) (fun _ _ => trivial) ?aB ?aS ?aL ?_; (case aR => exact HC81.out); (case aO => exact HR81.out); (case aB => exact HB.out); (case aS => exact (HB.out).size); (case aL => have h1 := HL70.out; simp only [List.length_map, List.length_cons, List.length_nil]; omega); intro v w82 ho hb hg hat; obtain ⟨a82, ha⟩ : ∃ x : List Ins, x = a70 ++ [(⟨15, 0, a, b, 0, 0, z, false⟩ : Ins), (⟨16, 0, a, c, b, 0, z, false⟩ : Ins)] := ⟨_, rfl⟩; rw [← List.map_append, ← ha] at ho; obtain ⟨A82, c82, hv⟩ := Kd.R_slice ho; rw [List.length_map] at hv; subst hv; have HR82 := Aside0.mk ho; have HE82 := Aside0.mk ha; have HL82 : Aside0 (a82.length ≤ 66 + 2) := ⟨by rw [ha, List.length_append]; have h1 := HL70.out; simp only [List.length_cons, List.length_nil]; omega⟩; have hb2 := hb; clear ho hb hg hat HB ha HC81; have HB := Aside0.mk hb2; clear hb2)) | fail)
      go_loopw [5, 10] (fun v5 v10 wr => ∃ (i : Nat) (acc : List Ins), v10 = .int .i64 ((i : Int) + 1) ∧ i ≤ 9 ∧ Kd.R k23 23 wr W.heap.size (fun _ => True) v5 (acc.map toS) ∧ Below W.heap.size W wr ∧ acc = a82 ++ (([1, 2, 3, 4, 5, 6, 7, 8, 9] : List Int).take i).map (amoG a b c z) ∧ acc.length ≤ a82.length + i) (fun _ v10 _ => (11 - RowKit.intOf v10).toNat)
      case atStart => exact ⟨0, a82, by rfl, by decide, HR82.out, HB.out, by simp, Nat.le_refl _⟩
      case round =>
        have HE0 := HE5
        have HL0' := HL5
        clear HE5 HL5
        obtain ⟨i, acc2, rfl, hi, hR, hB, hacc, hal⟩ := hrel
        obtain ⟨A5, c5, hv5⟩ := Kd.R_slice hR; rw [List.length_map] at hv5; subst hv5; have HR5 := Aside0.mk hR; have HE5 := Aside0.mk hacc; have HL5 := Aside0.mk hal; clear HB; have HB := Aside0.mk hB; clear hR hacc hal hB
        have HL6 : Aside0 (acc2.length ≤ 100) := ⟨by have h1 := HL5.out; have h2 := HL82.out; have h3 := HL0'.out; omega⟩
        by_cases hi9 : i < 9
        · have d0 : decide ((i : Int) + 1 ≤ 9) = true := decide_eq_true (by omega)
          have T9 := Aside0.mk (take9 hi9)
          have HI := Aside0.mk hi9
          clear hi9
          go_wp2_with (first | ((with_reducible refine gate_dst (N := 94) rfl ?_); go_loud (refine litI_event ?hg (N := 94) ?hd [(⟨17, (i : Int) + 1, a, c, b, 0, z, false⟩ : Ins)] (by simp) ?hr ?_; (case hd => rfl); (case hg => rfl); (case hr => first | (go_simp; done) | (go_simp; rfl)); intro A94 w94 hC hb; have HC94 := Aside0.mk hC; have HB2 := Aside0.mk (below_step (by repeat (first | (with_reducible first | exact HB.out | apply below_alloc | apply pw_below_drewN | apply below_drew1) | exact HB.out)) hb); have HR94 := Aside0.mk (Kd.R_below HR5.out hb); clear hC hb HB HR5; have HB := HB2; clear HB2)) | ((with_reducible refine gate_dst (N := 95) rfl ?_); go_loud (at_builtin; refine Kd.R_append_rows k23 (w0 := W) W.heap.size rfl (.tmp 87) (.tmp 94) 41 23 (.agg #[(.int .i64 0), (.int .i64 0), (.int .i64 0), (.int .i64 0), (.int .i64 0), (.int .i64 0), (.int .i64 0), (.bool false)]) 64 rfl Tryz.underlying41 info23 rfl (by decide) (by decide) (.slice A5 acc2.length c5) (acc2.map toS) ([(⟨17, (i : Int) + 1, a, c, b, 0, z, false⟩ : Ins)].map toS) A94 _ _ (fun _ => True) (fun _ => False) rfl rfl ?aO ?aR (fun _ _ h => h) (fun _ h => h.elim) (fun _ _ => trivial) ?aB ?aS ?aL ?_; (case aR => exact HC94.out); (case aO => exact HR94.out); (case aB => exact HB.out); (case aS => exact (HB.out).size); (case aL => have h1 := HL6.out; simp only [List.length_map, List.length_cons, List.length_nil]; omega); intro v w95 ho hb hg hat; obtain ⟨a95, ha⟩ : ∃ x : List Ins, x = acc2 ++ [(⟨17, (i : Int) + 1, a, c, b, 0, z, false⟩ : Ins)] := ⟨_, rfl⟩; rw [← List.map_append, ← ha] at ho; obtain ⟨A95, c95, hv⟩ := Kd.R_slice ho; rw [List.length_map] at hv; subst hv; have HR95 := Aside0.mk ho; have HE95 := Aside0.mk ha; have HL95 : Aside0 (a95.length ≤ 100 + 1) := ⟨by rw [ha, List.length_append]; have h1 := HL6.out; simp only [List.length_cons, List.length_nil]; omega⟩; have hb2 := hb; clear ho hb hg hat HB ha HC94; have HB := Aside0.mk hb2; clear hb2)) | fail)
          go_roundw
          case rel => exact ⟨i + 1, a95, by go_num, HI.out, HR95.out, HB.out, by rw [HE95.out, HE5.out, T9.out, List.map_append, List.append_assoc]; rfl, by rw [HE95.out, List.length_append]; have := HL5.out; simp only [List.length_cons, List.length_nil]; omega⟩
          case measure => simp [RowKit.intOf]; have := HI.out; omega
        · obtain rfl : i = 9 := by omega
          clear hi9
          go_wp2
          go_roundw
          case rel =>
            refine ⟨j + 1, acc2, by rw [Z2.out], by omega, HR5.out, HB.out, ?_, ?_⟩
            · rw [HE5.out, HE82.out, HE70.out, HE0.out, Z3.out, List.flatMap_append, List.flatMap_singleton]
              simp only [List.append_assoc]
              rfl
            · have h1 := HL5.out; have h3 := HL0'.out
              have h4 : a82.length = acc.length + 5 := by rw [HE82.out, HE70.out]; simp
              omega
          case measure => simp [RowKit.intOf]; omega
    · obtain rfl : j = 4 := by omega
      have h16 : zs 4 = 16 := rfl
      rw [h16]
      clear h16 hj4
      go_wp2_with (first | (go_at_call 34; (with_reducible refine (l34_calls _).mono ?_); rintro e w' ⟨B34, rfl, hCa, hb⟩; have HF34 := Aside0.mk hCa; have HB2 := Aside0.mk (below_step (by repeat (first | (with_reducible first | exact HB.out | apply below_alloc | apply pw_below_drewN | apply below_drew1) | exact HB.out)) hb); have HR2 := Aside0.mk (Kd.R_below HR5.out hb); clear hCa hb HB HR5; have HB := HB2; have HR5 := HR2; clear HB2 HR2) | (go_at_call 63; (refine (find_calls alB nm B34 29 _ HF34.out (by decide)).mono ?_); rintro e w' ⟨rfl, rfl⟩; clear HF34) | (go_at_call 35; (with_reducible refine (l35_calls _).mono ?_); rintro e w' ⟨B35, rfl, hCa, hb⟩; have HF35 := Aside0.mk hCa; have HB2 := Aside0.mk (below_step (by repeat (first | (with_reducible first | exact HB.out | apply below_alloc | apply pw_below_drewN | apply below_drew1) | exact HB.out)) hb); have HR2 := Aside0.mk (Kd.R_below HR5.out hb); clear hCa hb HB HR5; have HB := HB2; have HR5 := HR2; clear HB2 HR2) | (go_at_call 63; (refine (find_calls imnB nm B35 24 _ HF35.out (by decide)).mono ?_); rintro e w' ⟨rfl, rfl⟩; clear HF35) | ((with_reducible refine gate_dst (N := 111) rfl ?_); go_loud (refine litI_event ?hg (N := 111) ?hd [(⟨8, findB alB nm, a, b, c, 0, 0, false⟩ : Ins), (⟨9, findB imnB nm, a, b, 0, c, 0, false⟩ : Ins)] (by simp) ?hr ?_; (case hd => rfl); (case hg => rfl); (case hr => first | (go_simp; done) | (go_simp; rfl)); intro A111 w111 hC hb; have HC111 := Aside0.mk hC; have HB2 := Aside0.mk (below_step (by repeat (first | (with_reducible first | exact HB.out | apply below_alloc | apply pw_below_drewN | apply below_drew1) | exact HB.out)) hb); have HR111 := Aside0.mk (Kd.R_below HR5.out hb); clear hC hb HB HR5; have HB := HB2; clear HB2)) | ((with_reducible refine gate_dst (N := 112) rfl ?_); go_loud (at_builtin; refine Kd.R_append_rows k23 (w0 := W) W.heap.size rfl (.tmp 96) (.tmp 111) 41 23 (.agg #[(.int .i64 0), (.int .i64 0), (.int .i64 0), (.int .i64 0), (.int .i64 0), (.int .i64 0), (.int .i64 0), (.bool false)]) 64 rfl Tryz.underlying41 info23 rfl (by decide) (by decide) (.slice A5 acc.length c5) (acc.map toS) ([(⟨8, findB alB nm, a, b, c, 0, 0, false⟩ : Ins), (⟨9, findB imnB nm, a, b, 0, c, 0, false⟩ : Ins)].map toS) A111 _ _ (fun _ => True) (fun _ => False) rfl rfl ?aO ?aR (fun _ _ h => h) (fun _ h => h.elim) (fun _ _ => trivial) ?aB ?aS ?aL ?_; (case aR => exact HC111.out); (case aO => exact HR111.out); (case aB => exact HB.out); (case aS => exact (HB.out).size); (case aL => have h1 := HL5.out; simp only [List.length_map, List.length_cons, List.length_nil]; omega); intro v w112 ho hb hg hat; obtain ⟨a112, ha⟩ : ∃ x : List Ins, x = acc ++ [(⟨8, findB alB nm, a, b, c, 0, 0, false⟩ : Ins), (⟨9, findB imnB nm, a, b, 0, c, 0, false⟩ : Ins)] := ⟨_, rfl⟩; rw [← List.map_append, ← ha] at ho; obtain ⟨A112, c112, hv⟩ := Kd.R_slice ho; rw [List.length_map] at hv; subst hv; have HR112 := Aside0.mk ho; have HE112 := Aside0.mk ha; have HL112 : Aside0 (a112.length ≤ (5 + 14 * 4) + 2) := ⟨by rw [ha, List.length_append]; have h1 := HL5.out; simp only [List.length_cons, List.length_nil]; omega⟩; have hb2 := hb; clear ho hb hg hat HB ha HC111; have HB := Aside0.mk hb2; clear hb2)) | fail)
      go_loopw [5, 11] (fun v5 v11 wr => ∃ (i : Nat) (acc : List Ins), v11 = .int .i64 ((i : Int) + 1) ∧ i ≤ 3 ∧ Kd.R k23 23 wr W.heap.size (fun _ => True) v5 (acc.map toS) ∧ Below W.heap.size W wr ∧ acc = a112 ++ (([1, 2, 3] : List Int).take i).flatMap (csrG a b c) ∧ acc.length ≤ a112.length + 2 * i) (fun _ v11 _ => (5 - RowKit.intOf v11).toNat)
      case atStart => exact ⟨0, a112, by rfl, by decide, HR112.out, HB.out, by simp, Nat.le_refl _⟩
      case round =>
        have HE0 := HE5
        have HL0' := HL5
        clear HE5 HL5
        obtain ⟨i, acc2, rfl, hi, hR, hB, hacc, hal⟩ := hrel
        obtain ⟨A5, c5, hv5⟩ := Kd.R_slice hR; rw [List.length_map] at hv5; subst hv5; have HR5 := Aside0.mk hR; have HE5 := Aside0.mk hacc; have HL5 := Aside0.mk hal; clear HB; have HB := Aside0.mk hB; clear hR hacc hal hB
        have HL6 : Aside0 (acc2.length ≤ 100) := ⟨by have h1 := HL5.out; have h2 := HL112.out; have h3 := HL0'.out; omega⟩
        by_cases hi3 : i < 3
        · have d0 : decide ((i : Int) + 1 ≤ 3) = true := decide_eq_true (by omega)
          have T3 := Aside0.mk (take3 hi3)
          have HI := Aside0.mk hi3
          clear hi3
          go_wp2_with (first | ((with_reducible refine gate_dst (N := 128) rfl ?_); go_loud (refine litI_event ?hg (N := 128) ?hd [(⟨13, (i : Int) + 1, a, c, 0, b, 0, false⟩ : Ins), (⟨14, (i : Int) + 1, a, c, 0, b, 0, false⟩ : Ins)] (by simp) ?hr ?_; (case hd => rfl); (case hg => rfl); (case hr => first | (go_simp; done) | (go_simp; rfl)); intro A128 w128 hC hb; have HC128 := Aside0.mk hC; have HB2 := Aside0.mk (below_step (by repeat (first | (with_reducible first | exact HB.out | apply below_alloc | apply pw_below_drewN | apply below_drew1) | exact HB.out)) hb); have HR128 := Aside0.mk (Kd.R_below HR5.out hb); clear hC hb HB HR5; have HB := HB2; clear HB2)) | ((with_reducible refine gate_dst (N := 129) rfl ?_); go_loud (at_builtin; refine Kd.R_append_rows k23 (w0 := W) W.heap.size rfl (.tmp 117) (.tmp 128) 41 23 (.agg #[(.int .i64 0), (.int .i64 0), (.int .i64 0), (.int .i64 0), (.int .i64 0), (.int .i64 0), (.int .i64 0), (.bool false)]) 64 rfl Tryz.underlying41 info23 rfl (by decide) (by decide) (.slice A5 acc2.length c5) (acc2.map toS) ([(⟨13, (i : Int) + 1, a, c, 0, b, 0, false⟩ : Ins), (⟨14, (i : Int) + 1, a, c, 0, b, 0, false⟩ : Ins)].map toS) A128 _ _ (fun _ => True) (fun _ => False) rfl rfl ?aO ?aR (fun _ _ h => h) (fun _ h => h.elim) (fun _ _ => trivial) ?aB ?aS ?aL ?_; (case aR => exact HC128.out); (case aO => exact HR128.out); (case aB => exact HB.out); (case aS => exact (HB.out).size); (case aL => have h1 := HL6.out; simp only [List.length_map, List.length_cons, List.length_nil]; omega); intro v w129 ho hb hg hat; obtain ⟨a129, ha⟩ : ∃ x : List Ins, x = acc2 ++ [(⟨13, (i : Int) + 1, a, c, 0, b, 0, false⟩ : Ins), (⟨14, (i : Int) + 1, a, c, 0, b, 0, false⟩ : Ins)] := ⟨_, rfl⟩; rw [← List.map_append, ← ha] at ho; obtain ⟨A129, c129, hv⟩ := Kd.R_slice ho; rw [List.length_map] at hv; subst hv; have HR129 := Aside0.mk ho; have HE129 := Aside0.mk ha; have HL129 : Aside0 (a129.length ≤ 100 + 2) := ⟨by rw [ha, List.length_append]; have h1 := HL6.out; simp only [List.length_cons, List.length_nil]; omega⟩; have hb2 := hb; clear ho hb hg hat HB ha HC128; have HB := Aside0.mk hb2; clear hb2)) | fail)
          go_roundw
          case rel => exact ⟨i + 1, a129, by go_num, HI.out, HR129.out, HB.out, by rw [HE129.out, HE5.out, T3.out, List.flatMap_append, List.flatMap_singleton, List.append_assoc]; rfl, by rw [HE129.out, List.length_append]; have := HL5.out; simp only [List.length_cons, List.length_nil]; omega⟩
          case measure => simp [RowKit.intOf]; have := HI.out; omega
        · obtain rfl : i = 3 := by omega
          clear hi3
          go_wp2_with (first | ((with_reducible refine gate_dst (N := 139) rfl ?_); go_loud (refine litI_event ?hg (N := 139) ?hd [(⟨10, 0, 0, 0, 0, 0, 0, false⟩ : Ins), (⟨11, 0, 0, 0, 0, 0, 0, false⟩ : Ins), (⟨12, 0, 0, 0, 0, 0, 0, false⟩ : Ins), (⟨18, 0, 0, 0, 0, 0, 0, false⟩ : Ins), (⟨19, 0, 0, 0, 0, 0, 0, false⟩ : Ins), (⟨20, 0, 0, a, b, 0, 0, false⟩ : Ins)] (by simp) ?hr ?_; (case hd => rfl); (case hg => rfl); (case hr => first | (go_simp; done) | (go_simp; rfl)); intro A139 w139 hC hb; have HC139 := Aside0.mk hC; have HB2 := Aside0.mk (below_step (by repeat (first | (with_reducible first | exact HB.out | apply below_alloc | apply pw_below_drewN | apply below_drew1) | exact HB.out)) hb); have HR139 := Aside0.mk (Kd.R_below HR5.out hb); clear hC hb HB HR5; have HB := HB2; clear HB2)) | ((with_reducible refine gate_dst (N := 140) rfl ?_); go_loud (at_builtin; refine Kd.R_append_rows k23 (w0 := W) W.heap.size rfl (.tmp 130) (.tmp 139) 41 23 (.agg #[(.int .i64 0), (.int .i64 0), (.int .i64 0), (.int .i64 0), (.int .i64 0), (.int .i64 0), (.int .i64 0), (.bool false)]) 64 rfl Tryz.underlying41 info23 rfl (by decide) (by decide) (.slice A5 acc2.length c5) (acc2.map toS) ([(⟨10, 0, 0, 0, 0, 0, 0, false⟩ : Ins), (⟨11, 0, 0, 0, 0, 0, 0, false⟩ : Ins), (⟨12, 0, 0, 0, 0, 0, 0, false⟩ : Ins), (⟨18, 0, 0, 0, 0, 0, 0, false⟩ : Ins), (⟨19, 0, 0, 0, 0, 0, 0, false⟩ : Ins), (⟨20, 0, 0, a, b, 0, 0, false⟩ : Ins)].map toS) A139 _ _ (fun _ => True) (fun _ => False) rfl rfl ?aO ?aR (fun _ _ h => h) (fun _ h => h.elim) (fun _ _ => trivial) ?aB ?aS ?aL ?_; (case aR => exact HC139.out); (case aO => exact HR139.out); (case aB => exact HB.out); (case aS => exact (HB.out).size); (case aL => have h1 := HL6.out; simp only [List.length_map, List.length_cons, List.length_nil]; omega); intro v w140 ho hb hg hat; obtain ⟨a140, ha⟩ : ∃ x : List Ins, x = acc2 ++ [(⟨10, 0, 0, 0, 0, 0, 0, false⟩ : Ins), (⟨11, 0, 0, 0, 0, 0, 0, false⟩ : Ins), (⟨12, 0, 0, 0, 0, 0, 0, false⟩ : Ins), (⟨18, 0, 0, 0, 0, 0, 0, false⟩ : Ins), (⟨19, 0, 0, 0, 0, 0, 0, false⟩ : Ins), (⟨20, 0, 0, a, b, 0, 0, false⟩ : Ins)] := ⟨_, rfl⟩; rw [← List.map_append, ← ha] at ho; obtain ⟨A140, c140, hv⟩ := Kd.R_slice ho; rw [List.length_map] at hv; subst hv; have HR140 := Aside0.mk ho; have HE140 := Aside0.mk ha; have HL140 : Aside0 (a140.length ≤ 100 + 6) := ⟨by rw [ha, List.length_append]; have h1 := HL6.out; simp only [List.length_cons, List.length_nil]; omega⟩; have hb2 := hb; clear ho hb hg hat HB ha HC139; have HB := Aside0.mk hb2; clear hb2)) | fail)
          go_ret
          refine ⟨_, rfl, ?_, HB.out⟩
          have e : a140 = tot := by
            rw [HGE.out, HE140.out, HE5.out, HE112.out, HE0.out, HE48.out, HE38.out]
            rfl
          rw [← e]
          exact HR140.out

end Go.Proofs.YtjapahcbhjjeiaaGreatDoor.AS

/- The document's Parse by its contract: it reads what the program reads. -/
namespace Go.Proofs.YtjapahcbhjjeiaaGreatDoor.AS
open Go.RowKit Go.Proofs.YtjapahcbhjjeiaaGreatDoorW.PrintWords Go.Proofs.YtjapahcbhjjeiaaGreatDoorW.PrintLast Go.Proofs.YtjapahcbhjjeiaaGreatDoorW.PrintMore Go.Proofs.YtjapahcbhjjeiaaGreatDoor.PA
set_option linter.unusedVariables false
set_option linter.unusedSimpArgs false
set_option maxRecDepth 100000
set_option maxHeartbeats 8000000

def fitsL (line : List UInt8) (i : Ins) : Bool := mayL i && decide (lineI i = line)
def rparseL (line : List UInt8) (p : Int × Int × Int) : Option Ins := (guessL (bB (nameR line)) p.1 p.2.1 p.2.2).find? (fitsL line)
theorem rparse_eq (line : List UInt8) : rparseL line (pad3 (numsL false (restR line))) = parseL mayL line := by
  have P : ∀ x, fitsL line x = true → parseL mayL line = some x := fun x hx => by
    simp only [fitsL, Bool.and_eq_true, decide_eq_true_eq] at hx
    have := parseL_line mayL_fit hx.1
    rwa [hx.2] at this
  cases h : parseL mayL line with
  | none =>
    unfold rparseL
    rw [List.find?_eq_none]
    intro x _ hx
    have := P x hx
    rw [h] at this
    cases this
  | some i =>
    obtain ⟨h1, h2⟩ := parseL_some h
    have hf := mayL_fit i h1
    have hn := numbers_line hf
    rw [h2, numbersR_eq] at hn
    injection hn with e1 e2
    have hm := guess_mem hf
    rw [← e1, ← e2] at hm
    cases hr : rparseL line (pad3 (numsL false (restR line))) with
    | none =>
      unfold rparseL at hr
      rw [List.find?_eq_none] at hr
      exact absurd (by simp [fitsL, h1, h2]) (hr i hm)
    | some j =>
      unfold rparseL at hr
      have := P j (List.find?_some hr)
      rw [h] at this
      exact this.symm ▸ rfl
theorem pad3_zero (l : List Int) (h : l.length < 3) : pad3 (l ++ [0]) = pad3 l := by
  match l, h with
  | [], _ => rfl
  | [a], _ => rfl
  | [a, b], _ => rfl
theorem three {l : List Int} (h : 3 ≤ l.length) : ∃ r, l = (pad3 l).1 :: (pad3 l).2.1 :: (pad3 l).2.2 :: r := by
  match l, h with
  | a :: b :: c :: r, _ => exact ⟨r, rfl⟩

theorem rparse_calls (line : List UInt8) (hl : line.length ≤ 1073741824) (W : World) : Calls Tryz.prog 14 #[.string (bB line)] W fun e w' => e = .returned (.tuple #[insV ((parseL mayL line).getD zeroI), .bool (parseL mayL line).isSome]) ∧ Below W.heap.size W w' := by
  have HB := Aside0.mk (Below.refl W.heap.size W)
  have hu23 := Tryz.underlying23
  obtain ⟨tot, htot⟩ : ∃ x, x = parseL mayL line := ⟨_, rfl⟩
  have NC := numbers_calls line hl
  obtain ⟨ns, hns⟩ : ∃ x, x = numsL false (restR line) := ⟨_, rfl⟩
  obtain ⟨nm, hnm⟩ : ∃ x, x = bB (nameR line) := ⟨_, rfl⟩
  have HT : Aside0 ((guessL nm (pad3 ns).1 (pad3 ns).2.1 (pad3 ns).2.2).find? (fitsL line) = tot) := ⟨by rw [htot, ← rparse_eq, hns, hnm]; rfl⟩
  have HBD : Aside0 (-17592186044416 < (pad3 ns).2.1 ∧ (pad3 ns).2.1 < 17592186044416) := ⟨by
    have := numsL_bd _ (restR line) false (Nat.le_refl _)
    rw [← hns] at this
    match ns, this with
    | [], _ => exact (show (-17592186044416 : Int) < 0 ∧ (0 : Int) < 17592186044416 from ⟨by decide, by decide⟩)
    | [a], _ => exact (show (-17592186044416 : Int) < 0 ∧ (0 : Int) < 17592186044416 from ⟨by decide, by decide⟩)
    | a :: b :: r, h => exact h b (by simp)⟩
  have HNL : Aside0 (ns.length ≤ 1073741824) := ⟨by
    have h1 : ∀ (n : Nat) (l : List UInt8) (m : Bool), l.length ≤ n → (numsL m l).length ≤ n := by
      intro n
      induction n with
      | zero => intro l m h; cases l with | nil => simp [numsL_nil] | cons _ _ => simp at h
      | succ n ih =>
        intro l m h
        cases l with
        | nil => simp [numsL_nil]
        | cons b r =>
          simp only [List.length_cons] at h
          by_cases d : digB b = true
          · rw [numsL_dg m d, List.length_cons]
            have hd : ((b :: r).dropWhile digB).length ≤ r.length := by
              rw [List.dropWhile_cons_of_pos d]
              exact (List.dropWhile_sublist digB).length_le
            have := ih _ false (show ((b :: r).dropWhile digB).length ≤ n by omega)
            omega
          · rw [numsL_non m (by simpa using d)]
            have := ih r (b == 45) (by omega)
            omega
    have := h1 _ (restR line) false (Nat.le_refl _)
    have h2 := restR_len line
    rw [hns]
    omega⟩
  rw [← htot]
  rw [← hns, ← hnm] at NC
  clear hl htot hns hnm
  go_enter Tryz.func14, Tryz.ntmps14
  go_wp2_with (first | ((with_reducible refine gate_dst (N := 2) rfl ?_); refine box_event (by rfl) (N := 2) (by rfl) (cs := #[.int .i64 0, .int .i64 0, .int .i64 0, .int .i64 0, .int .i64 0, .int .i64 0, .int .i64 0, .bool false]) (t := 23) (by first | (go_simp; done) | (go_simp; rfl)) ?_; intro g2 hg w2 hbox hb; have H2 := Aside0.mk hbox; have HB' := Aside0.mk (below_step HB.out hb); have HL2 := Aside0.mk (show W.heap.size ≤ g2 by omega); clear HB; have HB := HB'; clear HB'; clear hbox hb hg) | fail)
  refine (NC _).mono ?_
  rintro e w3 ⟨v3, rfl, hR, hb⟩
  have HB3 := Aside0.mk (below_step HB.out hb)
  have H23 := Aside0.mk (blk_below H2.out hb)
  have HW2 : Aside0 (W.heap.size ≤ w2.heap.size) := ⟨HB.out.size⟩
  have HBs := Aside0.mk hb
  have HBW2 := HB
  have HR3 := Aside0.mk hR
  have HX2 := H2
  clear HB H2 hb hR NC
  have HB := HB3; have H2 := HX2
  clear HB3 H23 HX2
  go_wp2
  go_loopw [5] (fun v5 wr => ∃ (acc : List Int), Kd.R (Kd.int .i64) 3 wr w2.heap.size (fun _ => True) v5 acc ∧ Below w2.heap.size w2 wr ∧ pad3 acc = pad3 ns ∧ (acc.length ≤ 3 ∨ acc.length ≤ ns.length)) (fun v5 _ => match v5 with | .slice _ n _ => 3 - n | _ => 0)
  case atStart => exact ⟨ns, HR3.out, HBs.out, rfl, .inr (Nat.le_refl _)⟩
  case round =>
    obtain ⟨acc, hR, hB, hp, hal⟩ := hrel
    obtain ⟨A5, c5, hv5⟩ := Kd.R_slice hR
    subst hv5
    have HR := Aside0.mk hR
    have HBr := Aside0.mk hB
    have HP := Aside0.mk hp
    have HAL : Aside0 (acc.length ≤ 1073741824) := ⟨by have := HNL.out; omega⟩
    clear hR hB hp hal
    by_cases h3 : acc.length < 3
    · have d0 : decide ((acc.length : Int) < 3) = true := decide_eq_true (by omega)
      have H3 := Aside0.mk h3
      clear h3
      go_wp2_with (first | ((with_reducible refine gate_dst (N := 19) rfl ?_); refine lit_event ?hg (N := 19) ?hd [0] (by simp) ?hr ?_; (case hd => rfl); (case hg => rfl); (case hr => first | (go_simp; done) | (go_simp; rfl)); intro A9 w9 hC9 hb9; have HC9 := Aside0.mk hC9; have HB9 := Aside0.mk (below_step HBr.out hb9); have HR9 := Aside0.mk (Kd.R_below HR.out hb9); clear hC9 hb9) | ((with_reducible refine gate_dst (N := 20) rfl ?_); at_builtin; refine Kd.R_append_rows (Kd.int .i64) (w0 := w2) w2.heap.size rfl (.tmp 18) (.tmp 19) 50 3 (.int .i64 0) 8 rfl Tryz.underlying50 info3 rfl (by decide) (by decide) (.slice A5 acc.length c5) acc [0] A9 _ _ (fun _ => True) (fun _ => False) rfl rfl ?aO ?aR (fun _ _ h => h) (fun _ h => h.elim) (fun _ _ => trivial) ?aB ?aS ?aL ?_; (case aR => exact HC9.out); (case aO => exact HR9.out); (case aB => exact HB9.out); (case aS => exact (HB9.out).size); (case aL => have h1 := HAL.out; simp only [List.length_cons, List.length_nil]; omega); intro v10 w10 ho hb hg hat; obtain ⟨A10, c10, hv10⟩ := Kd.R_slice ho; subst hv10; have HR10 := Aside0.mk ho; have HB10 := Aside0.mk hb; clear ho hb hg hat) | fail)
      go_roundw
      case rel => exact ⟨acc ++ [0], by have h := HR10.out; rw [List.length_append] at h; exact h, HB10.out, by rw [pad3_zero _ H3.out]; exact HP.out, .inl (by rw [List.length_append]; have := H3.out; simp only [List.length_cons, List.length_nil]; omega)⟩
      case measure => have := H3.out; simp only [List.length_append, List.length_cons, List.length_nil]; omega
    · have d0 : decide ((acc.length : Int) < 3) = false := decide_eq_false (by omega)
      obtain ⟨r, hr⟩ := three (l := acc) (by omega)
      rw [HP.out] at hr
      have hgc := (Kd.R_reads' HR.out).2.2
      rw [hr] at hgc
      have GC := guesses_calls nm _ _ _ r HBD.out.1 HBD.out.2 A5 c5 wr hgc
      rw [← hr] at GC
      have HGC := Aside0.mk GC
      have H2r := Aside0.mk (blk_below H2.out HBr.out)
      have HBW : Aside0 (Below W.heap.size W wr) := ⟨HBW2.out.trans (HBr.out.mono HBW2.out.size)⟩
      obtain ⟨G, hG⟩ : ∃ x, x = guessL nm (pad3 ns).1 (pad3 ns).2.1 (pad3 ns).2.2 := ⟨_, rfl⟩
      have HGC2 := HGC.out
      rw [← hG] at HGC2
      have HT2 := HT.out
      rw [← hG] at HT2
      have HGC := Aside0.mk HGC2
      have HT := Aside0.mk HT2
      have HGL : Aside0 (G.length ≤ 1000) := ⟨by rw [hG]; simp [guessL]⟩
      clear hr hgc GC h3 HGC2 HT2 hG
      go_wp2_with fail
      refine HGC.out.mono ?_
      rintro e w6 ⟨v6, rfl, hR, hb⟩
      obtain ⟨A6, c6, hv6⟩ := Kd.R_slice hR
      rw [List.length_map] at hv6
      subst hv6
      have HC6 := (Kd.R_reads' hR).2.2
      rw [List.length_map] at HC6
      have HC6 := Aside0.mk HC6
      have HB6 := Aside0.mk (below_step HBW.out hb)
      have H26 := Aside0.mk (blk_below H2r.out hb)
      clear hR hb HR HBr H2 H2r HGC HB HBs HR3 hu23
      have hu23 := Tryz.underlying23
      go_wp2
      go_loopw [7] (fun v7 wr => ∃ (k : Nat), v7 = .int .i64 (k : Int) ∧ k ≤ G.length ∧ Below w6.heap.size w6 wr ∧ (G.drop k).find? (fitsL line) = tot) (fun v7 _ => G.length - (intOf v7).toNat)
      case atStart => exact ⟨0, rfl, Nat.zero_le _, Below.refl _ _, HT.out⟩
      case round =>
        obtain ⟨k, rfl, hk, hB, hgo⟩ := hrel
        have HBr := Aside0.mk hB
        have HGO := Aside0.mk hgo
        have H2r := Aside0.mk (blk_below H26.out hB)
        have HBr2 := Aside0.mk (HB6.out.trans (hB.mono HB6.out.size))
        clear hB hgo
        by_cases hlt : k < G.length
        · have hk58 : k < 1000 := by have := HGL.out; omega
          obtain ⟨cc, hcc⟩ : ∃ x, x = G[k] := ⟨_, rfl⟩
          have hdk : G.drop k = cc :: G.drop (k + 1) := by rw [hcc]; exact List.drop_eq_getElem_cons hlt
          have HDK := Aside0.mk hdk
          have hfc : (if fitsL line cc = true then some cc else (G.drop (k + 1)).find? (fitsL line)) = tot := by
            rw [← HGO.out, hdk, List.find?_cons]
            cases fitsL line cc <;> rfl
          have LC := rLine_calls cc
          have hfl : fitsL line cc = (mayL cc && decide (lineI cc = line)) := rfl
          obtain ⟨ok, hok⟩ : ∃ x, x = mayL cc := ⟨_, rfl⟩
          have hln : lnB cc = if ok = true then bB (lineI cc) else ⟨#[]⟩ := by rw [hok]; rfl
          obtain ⟨ln, hlnn⟩ : ∃ x, x = lnB cc := ⟨_, rfl⟩
          rw [← hok, ← hlnn] at LC
          rw [← hok] at hfl
          rw [← hlnn] at hln
          have HLN := Aside0.mk hln
          have HFL := Aside0.mk hfl
          have HFC := Aside0.mk hfc
          clear hln hfl hfc hok hlnn hcc
          obtain ⟨kd, fn, rv, r1, r2, imm, sz, sg⟩ := cc
          obtain ⟨ad5, rfl, z0, z1, z2, z3, z4, z5, z6, z7⟩ := all_cell (Kd.C_below HC6.out HBr.out) hdk
          have hlt' : (k : Int) < (G.length : Int) := by omega
          have hd0 : decide ((k : Int) < (G.length : Int)) = true := decide_eq_true hlt'
          have HKL := Aside0.mk hlt
          clear hdk hlt HGO
          unfold insV at LC
          dsimp only at LC
          have HLC := Aside0.mk LC
          clear LC
          go_wp2_with fail
          refine (HLC.out _).mono ?_
          rintro e w7 ⟨rfl, hb⟩
          have HB7 := Aside0.mk (below_step HBr.out hb)
          have HB7W := Aside0.mk (below_step HBr2.out hb)
          have H27 := Aside0.mk (blk_below H2r.out hb)
          have HC7 := Aside0.mk (Kd.C_below HC6.out HB7.out)
          obtain ⟨_, e5, t0, t1, t2, t3, t4, t5, t6, t7⟩ := all_cell (w := w7) HC7.out (show G.drop k = _ from HDK.out)
          obtain rfl := Option.some.inj e5
          clear hb z0 z1 z2 z3 z4 z5 z6 z7 HLC e5
          cases ok with
          | false =>
            have HN : Aside0 ((G.drop (k + 1)).find? (fitsL line) = tot) := ⟨by rw [← HFC.out, HFL.out]; rfl⟩
            go_wp2
            go_roundw
            case rel => exact ⟨k + 1, by go_num, by have := HKL.out; omega, HB7.out, HN.out⟩
            case measure => simp [intOf]; have := HKL.out; omega
          | true =>
            obtain ⟨li, hli⟩ : ∃ x, x = lineI ⟨kd, fn, rv, r1, r2, imm, sz, sg⟩ := ⟨_, rfl⟩
            obtain rfl : ln = bB li := by rw [HLN.out, if_pos rfl, hli]
            by_cases hle : li = line
            · have HN : Aside0 (tot = some ⟨kd, fn, rv, r1, r2, imm, sz, sg⟩) := ⟨by rw [← HFC.out, HFL.out, ← hli, decide_eq_true hle]; rfl⟩
              have hs := seq_t hle
              clear hle hli
              go_wp2_with (first | ((with_reducible refine gate_store (t := 23) rfl ?_); refine store_event rfl 23 (.tmp 2) (.tmp 47) rfl (g := g2) #[.int .i64 kd, .int .i64 fn, .int .i64 rv, .int .i64 r1, .int .i64 r2, .int .i64 imm, .int .i64 sz, .bool sg] H27.out rfl rfl (by kernel_rfl) rfl rfl ?_; intro w11 hbox hfar hbel; have H2z := Aside0.mk hbox; have HBz := Aside0.mk (hbel _ _ HB7W.out HL2.out); clear hbox hfar hbel) | fail)
              refine bodyPost_ret (results_ct rfl _ _ g2 23 #[.int .i64 kd, .int .i64 fn, .int .i64 rv, .int .i64 r1, .int .i64 r2, .int .i64 imm, .int .i64 sz, .bool sg] (0, 0) _ rfl H2z.out Tryz.underlying23 rfl (by kernel_rfl)) rfl ?_
              exact ⟨by rw [HN.out]; rfl, HBz.out⟩
            · have HN : Aside0 ((G.drop (k + 1)).find? (fitsL line) = tot) := ⟨by rw [← HFC.out, HFL.out, ← hli, decide_eq_false hle]; rfl⟩
              have hs := seq_f hle
              clear hle hli
              go_wp2
              go_roundw
              case rel => exact ⟨k + 1, by go_num, by have := HKL.out; omega, HB7.out, HN.out⟩
              case measure => simp [intOf]; have := HKL.out; omega
        · have hd0 : decide (k < G.length) = false := decide_eq_false hlt
          have HN : Aside0 (tot = none) := ⟨by rw [← HGO.out, List.drop_eq_nil_of_le (by omega)]; rfl⟩
          clear hlt
          go_wp2_with (first | ((with_reducible refine gate_store (t := 23) rfl ?_); refine store_event rfl 23 (.tmp 2) (.tmp 48) rfl (g := g2) #[.int .i64 0, .int .i64 0, .int .i64 0, .int .i64 0, .int .i64 0, .int .i64 0, .int .i64 0, .bool false] H2r.out rfl rfl (by kernel_rfl) rfl rfl ?_; intro w11 hbox hfar hbel; have H2z := Aside0.mk hbox; have HBz := Aside0.mk (hbel _ _ HBr2.out HL2.out); clear hbox hfar hbel) | fail)
          refine bodyPost_ret (results_ct rfl _ _ g2 23 #[.int .i64 0, .int .i64 0, .int .i64 0, .int .i64 0, .int .i64 0, .int .i64 0, .int .i64 0, .bool false] (0, 0) _ rfl H2z.out Tryz.underlying23 rfl (by kernel_rfl)) rfl ?_
          exact ⟨by rw [HN.out]; rfl, HBz.out⟩

end Go.Proofs.YtjapahcbhjjeiaaGreatDoor.AS
