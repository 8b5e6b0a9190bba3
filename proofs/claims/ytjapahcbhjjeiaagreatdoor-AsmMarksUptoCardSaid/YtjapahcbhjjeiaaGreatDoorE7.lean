/- Several texts in one. -/
import Derived.Lib.Atoi
import Derived.Lib.AtoiAll
import Derived.Lib.ItoaNum
import Derived.Lib.ItoaMem
import Derived.Lib.Strings
import Derived.Lib.ParseIntB
/- Plain laws of decimal numerals: what itoa writes, atoi reads. No program in sight. -/
namespace Go.Proofs.YtjapahcbhjjeiaaGreatDoor.AS
open Go.Lib

def isDig (b : UInt8) : Prop := 48 ≤ b.toNat ∧ b.toNat ≤ 57

theorem digitVal_dig {k : Nat} (h : k < 10) : digitVal (UInt8.ofNat (48 + k)) = some k := by
  have e : (UInt8.ofNat (48 + k)).toNat = 48 + k := by rw [UInt8.toNat_ofNat']; omega
  unfold digitVal
  rw [if_pos (by omega), e]
  congr 1
  omega

theorem isDig_dig {k : Nat} (h : k < 10) : isDig (UInt8.ofNat (48 + k)) := by
  have e : (UInt8.ofNat (48 + k)).toNat = 48 + k := by rw [UInt8.toNat_ofNat']; omega
  unfold isDig
  omega

theorem decFrom_append : ∀ (l r : List UInt8) (acc : Nat), decFrom acc (l ++ r) = (decFrom acc l).bind fun n => decFrom n r
  | [], r, acc => rfl
  | b :: l, r, acc => by
    simp only [List.cons_append, decFrom]
    cases digitVal b with
    | none => rfl
    | some d => exact decFrom_append l r _

theorem decDigits_ne (u : Nat) : decDigits u ≠ [] := by
  intro h
  have := decDigits_length u
  rw [h] at this
  have := nDigits_pos u
  simp at *
  omega

theorem decDigits_small {u : Nat} (h : u < 10) : decDigits u = [UInt8.ofNat (48 + u)] := by rw [decDigits, dif_pos h]
theorem decDigits_big {u : Nat} (h : ¬ u < 10) : decDigits u = decDigits (u / 10) ++ [UInt8.ofNat (48 + u % 10)] := by rw [decDigits, dif_neg h]

theorem decFrom_decDigits (u : Nat) : decFrom 0 (decDigits u) = some u := by
  induction u using Nat.strongRecOn with
  | _ u ih =>
    by_cases h : u < 10
    · rw [decDigits_small h]
      simp only [decFrom, digitVal_dig h]
      congr 1
      omega
    · rw [decDigits_big h, decFrom_append, ih (u / 10) (by omega)]
      simp only [Option.bind_some, decFrom, digitVal_dig (Nat.mod_lt u (by omega : 0 < 10))]
      congr 1
      omega

theorem decDigits_dig (u : Nat) : ∀ b ∈ decDigits u, isDig b := by
  induction u using Nat.strongRecOn with
  | _ u ih =>
    intro b hb
    by_cases h : u < 10
    · rw [decDigits_small h] at hb
      simp only [List.mem_singleton] at hb
      subst hb
      exact isDig_dig h
    · rw [decDigits_big h] at hb
      rcases List.mem_append.1 hb with hb | hb
      · exact ih (u / 10) (by omega) b hb
      · simp only [List.mem_singleton] at hb
        subst hb
        exact isDig_dig (Nat.mod_lt u (by omega))

theorem decNat_decDigits (u : Nat) : decNat (decDigits u) = some u := by
  unfold decNat
  rw [if_neg (by simp [decDigits_ne u]), decFrom_decDigits]

theorem atoi_itoa (n : Int) : atoi (itoa n) = some n := by
  unfold itoa
  by_cases h : n < 0
  · rw [if_pos h]
    simp only [atoi, beq_self_eq_true, if_true, decNat_decDigits, Option.map_some]
    congr 1
    omega
  · rw [if_neg h]
    have hd := decDigits_dig n.toNat
    have hn := decNat_decDigits n.toNat
    cases hl : decDigits n.toNat with
    | nil => exact absurd hl (decDigits_ne _)
    | cons b r =>
      rw [hl] at hd hn
      have hb := hd b (List.mem_cons_self ..)
      unfold isDig at hb
      have h45 : (b == 45) = false := by
        rw [beq_eq_false_iff_ne]; rintro rfl; simp at hb
      have h43 : (b == 43) = false := by
        rw [beq_eq_false_iff_ne]; rintro rfl; simp at hb
      simp only [atoi, h45, h43, Bool.false_eq_true, if_false, hn, Option.map_some]
      congr 1
      omega

theorem itoa_bytes (n : Int) : ∀ b ∈ itoa n, isDig b ∨ b = 45 := by
  intro b hb
  unfold itoa at hb
  split at hb
  · rcases List.mem_cons.1 hb with rfl | hb
    · exact Or.inr rfl
    · exact Or.inl (decDigits_dig _ _ hb)
  · exact Or.inl (decDigits_dig _ _ hb)

theorem itoa_ne (n : Int) : itoa n ≠ [] := by
  unfold itoa
  split
  · simp
  · exact decDigits_ne _

theorem itoa_inj {m n : Int} (h : itoa m = itoa n) : m = n := by
  have := atoi_itoa m
  rw [h, atoi_itoa] at this
  exact (Option.some.inj this).symm

end Go.Proofs.YtjapahcbhjjeiaaGreatDoor.AS

/- Plain laws of lines: a line's words, a shape filled with arguments. No program in sight. -/
namespace Go.Proofs.YtjapahcbhjjeiaaGreatDoor.AS
open Go.Lib

def isSep (b : UInt8) : Bool := b == 32 || b == 44 || b == 40 || b == 41

def split (cur : List UInt8) : List UInt8 → List (List UInt8)
  | [] => if cur = [] then [] else [cur]
  | b :: r => if isSep b then (if cur = [] then split [] r else cur :: split [] r) else split (cur ++ [b]) r

def wordsL (l : List UInt8) : List (List UInt8) := split [] l

def noSep (w : List UInt8) : Prop := ∀ b ∈ w, isSep b = false

theorem split_word : ∀ (w cur rest : List UInt8), noSep w → split cur (w ++ rest) = split (cur ++ w) rest
  | [], cur, rest, _ => by simp
  | b :: w, cur, rest, h => by
    have hb : isSep b = false := h b (List.mem_cons_self ..)
    rw [List.cons_append, split, if_neg (by simp [hb]), split_word w (cur ++ [b]) rest (fun x hx => h x (List.mem_cons_of_mem _ hx))]
    simp

theorem wordsL_sep {b : UInt8} (h : isSep b = true) (rest : List UInt8) : wordsL (b :: rest) = wordsL rest := by
  unfold wordsL
  rw [split, if_pos h, if_pos rfl]

theorem wordsL_word_sep {w : List UInt8} (hn : noSep w) (hw : w ≠ []) {b : UInt8} (h : isSep b = true) (rest : List UInt8) : wordsL (w ++ b :: rest) = w :: wordsL rest := by
  unfold wordsL
  rw [split_word w [] _ hn, List.nil_append, split, if_pos h, if_neg hw]

theorem wordsL_word {w : List UInt8} (hn : noSep w) (hw : w ≠ []) : wordsL w = [w] := by
  have := split_word w [] [] hn
  unfold wordsL
  rw [List.append_nil, List.nil_append] at this
  rw [this, split, if_neg hw]

theorem wordsL_nil : wordsL [] = [] := rfl

def fillS : List UInt8 → List (List UInt8) → List UInt8
  | [], _ => []
  | b :: r, [] => b :: fillS r []
  | b :: r, a :: l => if b = 37 then a ++ fillS r l else b :: fillS r (a :: l)

def sh2 : List UInt8 := [32, 37, 44, 32, 37]
def shM : List UInt8 := [32, 37, 44, 32, 37, 40, 37, 41]
def sh3 : List UInt8 := [32, 37, 44, 32, 37, 44, 32, 37]
def shL : List UInt8 := [32, 37, 44, 32, 40, 37, 41]
def shA : List UInt8 := [32, 37, 44, 32, 37, 44, 32, 40, 37, 41]

def okW (w : List UInt8) : Prop := noSep w ∧ w ≠ []

theorem words_sh2 {n a b : List UInt8} (hn : okW n) (ha : okW a) (hb : okW b) : wordsL (n ++ fillS sh2 [a, b]) = [n, a, b] := by
  have e : n ++ fillS sh2 [a, b] = n ++ (32 :: (a ++ (44 :: 32 :: b))) := by simp [fillS, sh2]
  rw [e, wordsL_word_sep hn.1 hn.2 (by decide), wordsL_word_sep ha.1 ha.2 (by decide), wordsL_sep (by decide), wordsL_word hb.1 hb.2]

theorem words_shM {n a b c : List UInt8} (hn : okW n) (ha : okW a) (hb : okW b) (hc : okW c) : wordsL (n ++ fillS shM [a, b, c]) = [n, a, b, c] := by
  have e : n ++ fillS shM [a, b, c] = n ++ (32 :: (a ++ (44 :: 32 :: (b ++ (40 :: (c ++ [41])))))) := by simp [fillS, shM]
  rw [e, wordsL_word_sep hn.1 hn.2 (by decide), wordsL_word_sep ha.1 ha.2 (by decide), wordsL_sep (by decide), wordsL_word_sep hb.1 hb.2 (by decide), wordsL_word_sep hc.1 hc.2 (by decide), wordsL_nil]

theorem words_sh3 {n a b c : List UInt8} (hn : okW n) (ha : okW a) (hb : okW b) (hc : okW c) : wordsL (n ++ fillS sh3 [a, b, c]) = [n, a, b, c] := by
  have e : n ++ fillS sh3 [a, b, c] = n ++ (32 :: (a ++ (44 :: 32 :: (b ++ (44 :: 32 :: c))))) := by simp [fillS, sh3]
  rw [e, wordsL_word_sep hn.1 hn.2 (by decide), wordsL_word_sep ha.1 ha.2 (by decide), wordsL_sep (by decide), wordsL_word_sep hb.1 hb.2 (by decide), wordsL_sep (by decide), wordsL_word hc.1 hc.2]

theorem words_shL {n a b : List UInt8} (hn : okW n) (ha : okW a) (hb : okW b) : wordsL (n ++ fillS shL [a, b]) = [n, a, b] := by
  have e : n ++ fillS shL [a, b] = n ++ (32 :: (a ++ (44 :: 32 :: 40 :: (b ++ [41])))) := by simp [fillS, shL]
  rw [e, wordsL_word_sep hn.1 hn.2 (by decide), wordsL_word_sep ha.1 ha.2 (by decide), wordsL_sep (by decide), wordsL_sep (by decide), wordsL_word_sep hb.1 hb.2 (by decide), wordsL_nil]

theorem words_shA {n a b c : List UInt8} (hn : okW n) (ha : okW a) (hb : okW b) (hc : okW c) : wordsL (n ++ fillS shA [a, b, c]) = [n, a, b, c] := by
  have e : n ++ fillS shA [a, b, c] = n ++ (32 :: (a ++ (44 :: 32 :: (b ++ (44 :: 32 :: 40 :: (c ++ [41])))))) := by simp [fillS, shA]
  rw [e, wordsL_word_sep hn.1 hn.2 (by decide), wordsL_word_sep ha.1 ha.2 (by decide), wordsL_sep (by decide), wordsL_word_sep hb.1 hb.2 (by decide), wordsL_sep (by decide), wordsL_sep (by decide), wordsL_word_sep hc.1 hc.2 (by decide), wordsL_nil]

theorem isSep_dig {b : UInt8} (h : isDig b) : isSep b = false := by
  unfold isDig at h
  unfold isSep
  have n1 : b ≠ 32 := by rintro rfl; simp at h
  have n2 : b ≠ 44 := by rintro rfl; simp at h
  have n3 : b ≠ 40 := by rintro rfl; simp at h
  have n4 : b ≠ 41 := by rintro rfl; simp at h
  simp [n1, n2, n3, n4]

theorem okW_itoa (n : Int) : okW (itoa n) := by
  refine ⟨fun b hb => ?_, itoa_ne n⟩
  rcases itoa_bytes n b hb with h | rfl
  · exact isSep_dig h
  · decide

theorem okW_reg (n : Int) : okW (120 :: itoa n) := by
  refine ⟨fun b hb => ?_, by simp⟩
  rcases List.mem_cons.1 hb with rfl | hb
  · decide
  · exact (okW_itoa n).1 b hb

theorem reg_inj {m n : Int} (h : (120 : UInt8) :: itoa m = 120 :: itoa n) : m = n := itoa_inj (List.cons.inj h).2

end Go.Proofs.YtjapahcbhjjeiaaGreatDoor.AS

/- The plain model of asm's lines: an instruction's name, its shape, its arguments, its line; which instructions may be; a line has one instruction. No program in sight. -/
namespace Go.Proofs.YtjapahcbhjjeiaaGreatDoor.AS
open Go.Lib

structure Ins where
  kind : Int
  fn : Int
  rd : Int
  rs1 : Int
  rs2 : Int
  imm : Int
  size : Int
  sg : Bool
  deriving DecidableEq

def zeroI : Ins := ⟨0, 0, 0, 0, 0, 0, 0, false⟩

def by_ (s : String) : List UInt8 := s.toList.map fun c => UInt8.ofNat c.toNat

def opsL : List String := ["", "add", "sub", "sll", "slt", "sltu", "xor", "srl", "sra", "or", "and", "mul", "mulh", "mulhsu", "mulhu", "div", "divu", "rem", "remu", "addw", "subw", "sllw", "srlw", "sraw", "mulw", "divw", "divuw", "remw", "remuw"]

def ofL (at_ : Int) (l : List String) : String := if at_ < 0 ∨ (l.length : Int) ≤ at_ then "" else l.getD at_.toNat ""

def immL (op : String) : String :=
  if op = "sltu" then "sltiu" else
  if op = "addw" then "addiw" else if op = "sllw" then "slliw" else if op = "srlw" then "srliw" else if op = "sraw" then "sraiw" else op ++ "i"

def wideL (size : Int) : String := if size = 4 then ".w" else if size = 8 then ".d" else ""

def nameS (kind fn size : Int) (sg : Bool) : String :=
  if kind = 5 then ofL fn ["", "beq", "bne", "blt", "bge", "bltu", "bgeu"]
  else if kind = 6 then (if sg = false then ofL size ["", "lbu", "lhu", "", "lwu"] else ofL size ["", "lb", "lh", "", "lw", "", "", "", "ld"])
  else if kind = 7 then ofL size ["", "sb", "sh", "", "sw", "", "", "", "sd"]
  else if kind = 8 then ofL fn opsL
  else if kind = 9 then immL (ofL fn opsL)
  else if kind = 13 then ofL fn ["", "csrrw", "csrrs", "csrrc"]
  else if kind = 14 then ofL fn ["", "csrrwi", "csrrsi", "csrrci"]
  else if kind = 17 then ofL fn ["", "amoswap", "amoadd", "amoxor", "amoand", "amoor", "amomin", "amomax", "amominu", "amomaxu"] ++ wideL size
  else if kind = 15 then "lr" ++ wideL size
  else if kind = 16 then "sc" ++ wideL size
  else ofL kind ["", "lui", "auipc", "jal", "jalr", "", "", "", "", "", "fence", "ecall", "ebreak", "", "", "", "", "", "sret", "wfi", "sfence.vma"]

def nameI (i : Ins) : List UInt8 := by_ (nameS i.kind i.fn i.size i.sg)

def formL (kind : Int) : List UInt8 × List Nat :=
  if kind = 1 ∨ kind = 2 then (sh2, [0, 4])
  else if kind = 3 then (sh2, [0, 3])
  else if kind = 4 ∨ kind = 6 then (shM, [0, 3, 1])
  else if kind = 5 then (sh3, [1, 2, 3])
  else if kind = 7 then (shM, [2, 3, 1])
  else if kind = 8 then (sh3, [0, 1, 2])
  else if kind = 9 then (sh3, [0, 1, 3])
  else if kind = 13 then (sh3, [0, 3, 1])
  else if kind = 14 then (sh3, [0, 3, 5])
  else if kind = 15 then (shL, [0, 1])
  else if kind = 16 ∨ kind = 17 then (shA, [0, 2, 1])
  else if kind = 20 then (sh2, [1, 2])
  else ([], [])

def toldL (i : Ins) (what : Nat) : List UInt8 :=
  if what = 0 then 120 :: itoa i.rd else if what = 1 then 120 :: itoa i.rs1 else if what = 2 then 120 :: itoa i.rs2
  else if what = 4 then itoa (i.imm.tdiv 4096) else if what = 5 then itoa i.rs1 else itoa i.imm

def lineI (i : Ins) : List UInt8 := nameI i ++ fillS (formL i.kind).1 ((formL i.kind).2.map (toldL i))

theorem okW_told (i : Ins) (what : Nat) : okW (toldL i what) := by
  unfold toldL
  repeat' split
  all_goals first | exact okW_reg _ | exact okW_itoa _

def heads : List (Int × Int × Int × Bool) :=
  [(1, 0, 0, false), (2, 0, 0, false), (3, 0, 0, false), (4, 0, 0, false)] ++
  ([1, 2, 3, 4, 5, 6].map fun f => (5, f, 0, false)) ++
  [(6, 0, 1, true), (6, 0, 2, true), (6, 0, 4, true), (6, 0, 8, true), (6, 0, 1, false), (6, 0, 2, false), (6, 0, 4, false)] ++
  [(7, 0, 1, false), (7, 0, 2, false), (7, 0, 4, false), (7, 0, 8, false)] ++
  ([1, 2, 3, 4, 5, 6, 7, 8, 9, 10, 11, 12, 13, 14, 15, 16, 17, 18, 19, 20, 21, 22, 23, 24, 25, 26, 27, 28].map fun f => (8, f, 0, false)) ++
  ([1, 3, 4, 5, 6, 7, 8, 9, 10, 19, 21, 22, 23].map fun f => (9, f, 0, false)) ++
  [(10, 0, 0, false), (11, 0, 0, false), (12, 0, 0, false)] ++
  ([1, 2, 3].map fun f => (13, f, 0, false)) ++ ([1, 2, 3].map fun f => (14, f, 0, false)) ++
  [(15, 0, 4, false), (15, 0, 8, false), (16, 0, 4, false), (16, 0, 8, false)] ++
  ([1, 2, 3, 4, 5, 6, 7, 8, 9].map fun f => (17, f, 4, false)) ++ ([1, 2, 3, 4, 5, 6, 7, 8, 9].map fun f => (17, f, 8, false)) ++
  [(18, 0, 0, false), (19, 0, 0, false), (20, 0, 0, false)]

def nameH (h : Int × Int × Int × Bool) : List UInt8 := by_ (nameS h.1 h.2.1 h.2.2.1 h.2.2.2)

set_option maxRecDepth 100000 in
theorem names_apart : (heads.all fun a => heads.all fun b => decide (a = b) || decide (nameH a ≠ nameH b)) = true := by decide +kernel
set_option maxRecDepth 100000 in
theorem names_ok : (heads.all fun a => (nameH a).all (fun b => !isSep b) && decide (nameH a ≠ [])) = true := by decide +kernel

structure Fit (i : Ins) : Prop where
  head : (i.kind, i.fn, i.size, i.sg) ∈ heads
  rd : 0 ∉ (formL i.kind).2 → i.rd = 0
  rs1 : 1 ∉ (formL i.kind).2 → 5 ∉ (formL i.kind).2 → i.rs1 = 0
  rs2 : 2 ∉ (formL i.kind).2 → i.rs2 = 0
  imm : 3 ∉ (formL i.kind).2 → 4 ∉ (formL i.kind).2 → i.imm = 0
  upper : 4 ∈ (formL i.kind).2 → i.imm = i.imm.tdiv 4096 * 4096
  lo : -2 ^ 31 ≤ i.imm
  hi : i.imm < 2 ^ 31
  rdr : 0 ≤ i.rd ∧ i.rd < 32
  rs1r : 0 ≤ i.rs1 ∧ i.rs1 < 32
  rs2r : 0 ≤ i.rs2 ∧ i.rs2 < 32

theorem okW_name {i : Ins} (h : Fit i) : okW (nameI i) := by
  have := List.all_eq_true.1 names_ok _ h.head
  simp only [Bool.and_eq_true, List.all_eq_true, decide_eq_true_eq, Bool.not_eq_true'] at this
  exact ⟨fun b hb => this.1 b hb, this.2⟩

theorem head_of_name {i j : Ins} (hi : Fit i) (hj : Fit j) (h : nameI i = nameI j) : i.kind = j.kind ∧ i.fn = j.fn ∧ i.size = j.size ∧ i.sg = j.sg := by
  have := List.all_eq_true.1 (List.all_eq_true.1 names_apart _ hi.head) _ hj.head
  simp only [Bool.or_eq_true, decide_eq_true_eq] at this
  rcases this with e | e
  · simp only [Prod.mk.injEq] at e
    exact e
  · exact absurd h e

end Go.Proofs.YtjapahcbhjjeiaaGreatDoor.AS

/- A line's words are its name and its arguments; a line has one instruction. No program in sight. -/
namespace Go.Proofs.YtjapahcbhjjeiaaGreatDoor.AS
open Go.Lib

theorem formL_cases (k : Int) : formL k = (sh2, [0, 4]) ∨ formL k = (sh2, [0, 3]) ∨ formL k = (shM, [0, 3, 1]) ∨ formL k = (sh3, [1, 2, 3]) ∨ formL k = (shM, [2, 3, 1]) ∨ formL k = (sh3, [0, 1, 2]) ∨ formL k = (sh3, [0, 1, 3]) ∨
    formL k = (sh3, [0, 3, 1]) ∨ formL k = (sh3, [0, 3, 5]) ∨ formL k = (shL, [0, 1]) ∨ formL k = (shA, [0, 2, 1]) ∨ formL k = (sh2, [1, 2]) ∨ formL k = ([], []) := by
  generalize hf : formL k = f
  unfold formL at hf
  by_cases c0 : k = 1 ∨ k = 2
  · rw [if_pos c0] at hf; subst hf; simp
  rw [if_neg c0] at hf
  by_cases c1 : k = 3
  · rw [if_pos c1] at hf; subst hf; simp
  rw [if_neg c1] at hf
  by_cases c2 : k = 4 ∨ k = 6
  · rw [if_pos c2] at hf; subst hf; simp
  rw [if_neg c2] at hf
  by_cases c3 : k = 5
  · rw [if_pos c3] at hf; subst hf; simp
  rw [if_neg c3] at hf
  by_cases c4 : k = 7
  · rw [if_pos c4] at hf; subst hf; simp
  rw [if_neg c4] at hf
  by_cases c5 : k = 8
  · rw [if_pos c5] at hf; subst hf; simp
  rw [if_neg c5] at hf
  by_cases c6 : k = 9
  · rw [if_pos c6] at hf; subst hf; simp
  rw [if_neg c6] at hf
  by_cases c7 : k = 13
  · rw [if_pos c7] at hf; subst hf; simp
  rw [if_neg c7] at hf
  by_cases c8 : k = 14
  · rw [if_pos c8] at hf; subst hf; simp
  rw [if_neg c8] at hf
  by_cases c9 : k = 15
  · rw [if_pos c9] at hf; subst hf; simp
  rw [if_neg c9] at hf
  by_cases c10 : k = 16 ∨ k = 17
  · rw [if_pos c10] at hf; subst hf; simp
  rw [if_neg c10] at hf
  by_cases c11 : k = 20
  · rw [if_pos c11] at hf; subst hf; simp
  rw [if_neg c11] at hf
  subst hf; simp

theorem words_line {i : Ins} (h : okW (nameI i)) : wordsL (lineI i) = nameI i :: (formL i.kind).2.map (toldL i) := by
  unfold lineI
  have t := okW_told i
  rcases formL_cases i.kind with e | e | e | e | e | e | e | e | e | e | e | e | e <;> rw [e] <;> simp only [List.map_cons, List.map_nil]
  · exact words_sh2 h (t _) (t _)
  · exact words_sh2 h (t _) (t _)
  · exact words_shM h (t _) (t _) (t _)
  · exact words_sh3 h (t _) (t _) (t _)
  · exact words_shM h (t _) (t _) (t _)
  · exact words_sh3 h (t _) (t _) (t _)
  · exact words_sh3 h (t _) (t _) (t _)
  · exact words_sh3 h (t _) (t _) (t _)
  · exact words_sh3 h (t _) (t _) (t _)
  · exact words_shL h (t _) (t _)
  · exact words_shA h (t _) (t _) (t _)
  · exact words_sh2 h (t _) (t _)
  · rw [fillS, List.append_nil, wordsL_word h.1 h.2]

theorem line_inj {i j : Ins} (hi : Fit i) (hj : Fit j) (h : lineI i = lineI j) : i = j := by
  have w : wordsL (lineI i) = wordsL (lineI j) := by rw [h]
  rw [words_line (okW_name hi), words_line (okW_name hj)] at w
  obtain ⟨hn, ha⟩ := List.cons.inj w
  obtain ⟨hk, hf, hs, hg⟩ := head_of_name hi hj hn
  rw [← hk] at ha
  have hm : ∀ k, k ∈ (formL i.kind).2 → toldL i k = toldL j k := List.map_inj_left.1 ha
  have hjrd := hj.rd; have hjrs1 := hj.rs1; have hjrs2 := hj.rs2; have hjimm := hj.imm; have hjup := hj.upper
  rw [← hk] at hjrd hjrs1 hjrs2 hjimm hjup
  have erd : i.rd = j.rd := by
    by_cases m : 0 ∈ (formL i.kind).2
    · exact reg_inj (hm 0 m)
    · rw [hi.rd m, hjrd m]
  have ers1 : i.rs1 = j.rs1 := by
    by_cases m : 1 ∈ (formL i.kind).2
    · exact reg_inj (hm 1 m)
    · by_cases m5 : 5 ∈ (formL i.kind).2
      · exact itoa_inj (hm 5 m5)
      · rw [hi.rs1 m m5, hjrs1 m m5]
  have ers2 : i.rs2 = j.rs2 := by
    by_cases m : 2 ∈ (formL i.kind).2
    · exact reg_inj (hm 2 m)
    · rw [hi.rs2 m, hjrs2 m]
  have eimm : i.imm = j.imm := by
    by_cases m : 3 ∈ (formL i.kind).2
    · exact itoa_inj (hm 3 m)
    · by_cases m4 : 4 ∈ (formL i.kind).2
      · have : i.imm.tdiv 4096 = j.imm.tdiv 4096 := itoa_inj (hm 4 m4)
        rw [hi.upper m4, hjup m4, this]
      · rw [hi.imm m m4, hjimm m m4]
  cases i; cases j
  simp only at hk hf hs hg erd ers1 ers2 eimm
  simp [hk, hf, hs, hg, erd, ers1, ers2, eimm]

end Go.Proofs.YtjapahcbhjjeiaaGreatDoor.AS

/- Reading a line: the plain model of asm.Parse over a test V of what may be; what is written is read. No program in sight. -/
namespace Go.Proofs.YtjapahcbhjjeiaaGreatDoor.AS
open Go.Lib

theorem dig_of {k : Nat} (h : k < 10) : (UInt8.ofNat (48 + k)).toNat = 48 + k := by rw [UInt8.toNat_ofNat']; omega

theorem parseUint10_append : ∀ (l : List UInt8) (acc n : Nat) (k : Nat), parseUint10 acc l = .ok n → k < 10 → n < 1844674407370955161 →
    parseUint10 acc (l ++ [UInt8.ofNat (48 + k)]) = .ok (n * 10 + k)
  | [], acc, n, k, h, hk, hn => by
    simp only [parseUint10] at h
    injection h with h
    subst h
    simp only [List.nil_append, parseUint10, dig_of hk]
    rw [if_pos (by omega), if_neg (by omega), if_neg (by omega)]
    congr 1
    omega
  | c :: r, acc, n, k, h, hk, hn => by
    rw [List.cons_append]
    simp only [parseUint10] at h ⊢
    by_cases c1 : 48 ≤ c.toNat ∧ c.toNat ≤ 57
    · rw [if_pos c1] at h ⊢
      by_cases c2 : 1844674407370955162 ≤ acc
      · rw [if_pos c2] at h; cases h
      · rw [if_neg c2] at h ⊢
        by_cases c3 : 18446744073709551616 ≤ acc * 10 + (c.toNat - 48)
        · rw [if_pos c3] at h; cases h
        · rw [if_neg c3] at h ⊢
          exact parseUint10_append r _ n k h hk hn
    · rw [if_neg c1] at h; cases h

theorem parseUint10_dec (u : Nat) (hu : u < 10000000000000000000) : parseUint10 0 (decDigits u) = .ok u := by
  induction u using Nat.strongRecOn with
  | _ u ih =>
    by_cases h : u < 10
    · rw [decDigits_small h]
      have := parseUint10_append [] 0 0 u rfl h (by omega)
      simpa using this
    · rw [decDigits_big h, parseUint10_append (decDigits (u / 10)) 0 (u / 10) (u % 10) (ih (u / 10) (by omega) (by omega)) (by omega) (by omega)]
      congr 1
      omega

theorem parseMag_dec (u : Nat) (hu : u < 10000000000000000000) : parseMag (decDigits u) = .ok u := by
  unfold parseMag
  rw [if_neg (decDigits_ne u), parseUint10_dec u hu]

theorem atoiAll_itoa (n : Int) (h0 : -9223372036854775808 ≤ n) (h1 : n < 9223372036854775808) : atoiAll (itoa n) = .ok n := by
  unfold itoa
  by_cases h : n < 0
  · rw [if_pos h]
    have e : (45 : UInt8).toNat = 45 := rfl
    simp only [atoiAll, e, or_true, if_true, parseMag_dec n.natAbs (by omega)]
    rw [if_neg (by simp), if_neg (by omega)]
    congr 1
    omega
  · rw [if_neg h]
    have hd := decDigits_dig n.toNat
    have hn := parseMag_dec n.toNat (by omega)
    cases hl : decDigits n.toNat with
    | nil => exact absurd hl (decDigits_ne _)
    | cons b r =>
      rw [hl] at hd hn
      have hb := hd b (List.mem_cons_self ..)
      unfold isDig at hb
      simp only [atoiAll]
      rw [if_neg (by omega), hn]
      simp only
      rw [if_neg (by omega), if_neg (by omega), if_neg (by omega)]
      congr 1
      omega

def numL (what : Nat) (t : List UInt8) : Option Int :=
  match atoiAll (if what ≤ 2 then trimPrefix t [120] else t) with
  | .ok n => if -4294967296 ≤ n ∧ n ≤ 4294967296 then some n else none
  | _ => none

def setL (c : Ins) (what : Nat) (n : Int) : Ins :=
  if what = 0 then { c with rd := n } else if what = 1 ∨ what = 5 then { c with rs1 := n } else if what = 2 then { c with rs2 := n }
  else if what = 4 then { c with imm := n * 4096 } else { c with imm := n }

def fillGo (c : Ins) : List Nat → List (List UInt8) → Option Ins
  | [], [] => some c
  | k :: ks, t :: ts => (numL k t).bind fun n => fillGo (setL c k n) ks ts
  | _, _ => none

def fillL (c : Ins) (ws : List (List UInt8)) : Option Ins := fillGo c (formL c.kind).2 ws

theorem num_reg (n : Int) (h0 : 0 ≤ n) (h1 : n < 32) (what : Nat) (hw : what ≤ 2) : numL what (120 :: itoa n) = some n := by
  unfold numL
  rw [if_pos hw]
  have : trimPrefix (120 :: itoa n) [120] = itoa n := by simp [trimPrefix, hasPrefix]
  rw [this, atoiAll_itoa n (by omega) (by omega)]
  simp only
  rw [if_pos (by omega)]

theorem num_plain (n : Int) (h0 : -4294967296 ≤ n) (h1 : n ≤ 4294967296) (what : Nat) (hw : ¬ what ≤ 2) : numL what (itoa n) = some n := by
  unfold numL
  rw [if_neg hw, atoiAll_itoa n (by omega) (by omega)]
  simp only
  rw [if_pos (by omega)]

def headI (i : Ins) : Ins := ⟨i.kind, i.fn, 0, 0, 0, 0, i.size, i.sg⟩

theorem fill_told {i : Ins} (hi : Fit i) : fillL (headI i) ((formL i.kind).2.map (toldL i)) = some i := by
  have hrd := hi.rd; have hrs1 := hi.rs1; have hrs2 := hi.rs2; have himm := hi.imm
  have hup : 4 ∈ (formL i.kind).2 → i.imm.tdiv 4096 * 4096 = i.imm := fun m => (hi.upper m).symm
  have n0 : ∀ what, what ≤ 2 → numL what (120 :: itoa i.rd) = some i.rd := num_reg _ hi.rdr.1 hi.rdr.2
  have n1 : ∀ what, what ≤ 2 → numL what (120 :: itoa i.rs1) = some i.rs1 := num_reg _ hi.rs1r.1 hi.rs1r.2
  have n2 : ∀ what, what ≤ 2 → numL what (120 :: itoa i.rs2) = some i.rs2 := num_reg _ hi.rs2r.1 hi.rs2r.2
  have hlo := hi.lo; have hhi := hi.hi; have hr1 := hi.rs1r
  have n3 : numL 3 (itoa i.imm) = some i.imm := num_plain _ (by omega) (by omega) 3 (by omega)
  have ht : -4294967296 ≤ i.imm.tdiv 4096 ∧ i.imm.tdiv 4096 ≤ 4294967296 := by
    rw [Int.tdiv_eq_ediv, show Int.sign 4096 = 1 from rfl]
    split <;> omega
  have n4 : numL 4 (itoa (i.imm.tdiv 4096)) = some (i.imm.tdiv 4096) := num_plain _ ht.1 ht.2 4 (by omega)
  have n5 : numL 5 (itoa i.rs1) = some i.rs1 := num_plain _ (by omega) (by omega) 5 (by omega)
  unfold fillL
  rw [show (headI i).kind = i.kind from rfl]
  obtain ⟨kind, fn, rd, rs1, rs2, imm, size, sg⟩ := i
  simp only at hrd hrs1 hrs2 himm hup n0 n1 n2 n3 n4 n5 ⊢
  rcases formL_cases kind with e | e | e | e | e | e | e | e | e | e | e | e | e <;> rw [e] at hrd hrs1 hrs2 himm hup ⊢ <;>
    simp [toldL, fillGo, setL, headI, n0, n1, n2, n3, n4, n5] at hrd hrs1 hrs2 himm hup ⊢ <;>
    simp_all

end Go.Proofs.YtjapahcbhjjeiaaGreatDoor.AS

/- asm.Parse's plain model: the first candidate that fits; what is written is read as the same, what is read is written as the same. No program in sight. -/
namespace Go.Proofs.YtjapahcbhjjeiaaGreatDoor.AS
open Go.Lib

def pairI (k f s : Int) : List Ins := [⟨k, f, 0, 0, 0, 0, s, false⟩, ⟨k, f, 0, 0, 0, 0, s, true⟩]

def allI : List Ins := (List.range 20).flatMap fun k => (List.range 29).flatMap fun f => [0, 1, 2, 4, 8].flatMap fun s => pairI (k + 1 : Nat) (f : Nat) s

def tryL (V : Ins → Bool) (line n : List UInt8) (ws : List (List UInt8)) (c : Ins) : Option Ins :=
  if nameI c = n then (fillL c ws).bind fun i => if V i = true ∧ lineI i = line then some i else none else none

def parseL (V : Ins → Bool) (line : List UInt8) : Option Ins :=
  match wordsL line with
  | [] => none
  | n :: ws => allI.findSome? (tryL V line n ws)

theorem tryL_some {V : Ins → Bool} {line n : List UInt8} {ws : List (List UInt8)} {c i : Ins} (h : tryL V line n ws c = some i) : V i = true ∧ lineI i = line := by
  unfold tryL at h
  split at h
  · cases hf : fillL c ws with
    | none => rw [hf] at h; cases h
    | some j =>
      rw [hf, Option.bind_some] at h
      split at h
      · rename_i hc
        injection h with h
        subst h
        exact hc
      · cases h
  · cases h

theorem parseL_some {V : Ins → Bool} {line : List UInt8} {i : Ins} (h : parseL V line = some i) : V i = true ∧ lineI i = line := by
  unfold parseL at h
  split at h
  · cases h
  · obtain ⟨c, _, hc⟩ := List.exists_of_findSome?_eq_some h
    exact tryL_some hc

theorem heads_bounds : (heads.all fun h => decide (1 ≤ h.1 ∧ h.1 ≤ 20 ∧ 0 ≤ h.2.1 ∧ h.2.1 < 29 ∧ h.2.2.1 ∈ [(0 : Int), 1, 2, 4, 8])) = true := by decide +kernel

theorem head_mem {i : Ins} (hi : Fit i) : headI i ∈ allI := by
  have := List.all_eq_true.1 heads_bounds _ hi.head
  simp only [decide_eq_true_eq] at this
  obtain ⟨k1, k2, f1, f2, hs⟩ := this
  unfold allI
  simp only [List.mem_flatMap, List.mem_range]
  refine ⟨(i.kind - 1).toNat, by omega, i.fn.toNat, by omega, i.size, hs, ?_⟩
  unfold pairI headI
  rw [show (((i.kind - 1).toNat + 1 : Nat) : Int) = i.kind by omega, show ((i.fn.toNat : Nat) : Int) = i.fn by omega]
  cases i.sg <;> simp

theorem parseL_line {V : Ins → Bool} (hV : ∀ i, V i = true → Fit i) {i : Ins} (h : V i = true) : parseL V (lineI i) = some i := by
  have hi := hV i h
  have hs : (parseL V (lineI i)).isSome := by
    unfold parseL
    rw [words_line (okW_name hi)]
    simp only
    rw [List.findSome?_isSome_iff]
    refine ⟨headI i, head_mem hi, ?_⟩
    unfold tryL
    rw [if_pos (show nameI (headI i) = nameI i from rfl), fill_told hi, Option.bind_some, if_pos ⟨h, rfl⟩]
    rfl
  obtain ⟨j, hj⟩ := Option.isSome_iff_exists.1 hs
  obtain ⟨h1, h2⟩ := parseL_some hj
  rw [hj, line_inj (hV j h1) hi h2]

end Go.Proofs.YtjapahcbhjjeiaaGreatDoor.AS

/- The plain model of asm.Assemble: lines, marks, places, words, bytes. No program in sight. -/
namespace Go.Proofs.YtjapahcbhjjeiaaGreatDoor.AS
open Go.Lib

def cutLines (cur : List UInt8) : List UInt8 → List (List UInt8)
  | [] => if cur = [] then [] else [cur]
  | b :: r => if b = 10 then cur :: cutLines [] r else cutLines (cur ++ [b]) r

def isLow (b : UInt8) : Bool := 97 ≤ b.toNat && b.toNat ≤ 122
def isTail (b : UInt8) : Bool := isLow b || b == 95 || (48 ≤ b.toNat && b.toNat ≤ 57)

def namedL : List UInt8 → Bool
  | [] => false
  | b :: r => isLow b && r.all isTail

def nothingL (l : List UInt8) : Bool := l.isEmpty || l.head? == some 35

def markL (l : List UInt8) : Option (List UInt8) :=
  if l.getLast? = some 58 ∧ namedL l.dropLast = true then some l.dropLast else none

def placesGo (acc : List (List UInt8 × Nat × Nat)) (bytes i : Nat) : List (List UInt8) → List (List UInt8 × Nat × Nat)
  | [] => acc
  | l :: r =>
    if nothingL l then placesGo acc bytes (i + 1) r
    else match markL l with
      | some m => if acc.any (fun x => x.1 == m) then placesGo acc (bytes + 4) (i + 1) r else placesGo (acc ++ [(m, bytes, i)]) bytes (i + 1) r
      | none => placesGo acc (bytes + 4) (i + 1) r

def placesL (ls : List (List UInt8)) : List (List UInt8 × Nat × Nat) := placesGo [] 0 0 ls

theorem cutLines_line : ∀ (l cur rest : List UInt8), (∀ b ∈ l, b ≠ 10) → cutLines cur (l ++ 10 :: rest) = (cur ++ l) :: cutLines [] rest
  | [], cur, rest, _ => by simp [cutLines]
  | b :: l, cur, rest, h => by
    rw [List.cons_append, cutLines, if_neg (h b (List.mem_cons_self ..)), cutLines_line l (cur ++ [b]) rest (fun x hx => h x (List.mem_cons_of_mem _ hx))]
    simp

end Go.Proofs.YtjapahcbhjjeiaaGreatDoor.AS

/- The plain model of inst.Decode, and that whatever it reads is an instruction that a line tells wholly. No program in sight. -/
namespace Go.Proofs.YtjapahcbhjjeiaaGreatDoor.AS
open Go.Lib

def fl (w : Int) (hi lo : Nat) : Int := w / 2 ^ lo % 2 ^ (hi - lo + 1)
def sx (v : Int) (b : Nat) : Int := (v + 2 ^ (b - 1)) % 2 ^ b - 2 ^ (b - 1)

def pickL (l : List Int) (at_ : Int) : Int := if at_ < 0 ∨ (l.length : Int) ≤ at_ then 0 else l.getD at_.toNat 0

def opW (w : Int) : Int := fl w 6 0
def rdW (w : Int) : Int := fl w 11 7
def f3W (w : Int) : Int := fl w 14 12
def rs1W (w : Int) : Int := fl w 19 15
def rs2W (w : Int) : Int := fl w 24 20
def f7W (w : Int) : Int := fl w 31 25
def iW (w : Int) : Int := sx (fl w 31 20) 12
def sW (w : Int) : Int := sx (f7W w * 32 + rdW w) 12
def uW (w : Int) : Int := sx (fl w 31 12 * 4096) 32
def bW (w : Int) : Int := sx (fl w 31 31 * 4096 + fl w 7 7 * 2048 + fl w 30 25 * 32 + fl w 11 8 * 2) 13
def jW (w : Int) : Int := sx (fl w 31 31 * 1048576 + fl w 19 12 * 4096 + fl w 20 20 * 2048 + fl w 30 21 * 2) 21

def branchesL : List Int := [1, 2, 0, 0, 3, 4, 5, 6]
def immsL : List Int := [1, 0, 4, 5, 6, 0, 9, 10]
def amosL : List Int := [2, 3, 5, 4, 6, 7, 8, 9]

def registerL (wide : Bool) (f3 f7 : Int) : Int :=
  if wide = true ∧ f7 = 0 then pickL [1, 3, 4, 5, 6, 7, 9, 10] f3
  else if wide = true ∧ f7 = 32 then pickL [2, 0, 0, 0, 0, 8] f3
  else if wide = true ∧ f7 = 1 then pickL [11, 12, 13, 14, 15, 16, 17, 18] f3
  else if wide = false ∧ f7 = 0 then pickL [19, 21, 0, 0, 0, 22] f3
  else if wide = false ∧ f7 = 32 then pickL [20, 0, 0, 0, 0, 23] f3
  else if wide = false ∧ f7 = 1 then pickL [24, 0, 0, 0, 25, 26, 27, 28] f3
  else 0

def rowL (w : Int) : Option (Int × Int × Bool × Bool × Bool) :=
  if opW w = 0x37 then some (1, uW w, true, false, false)
  else if opW w = 0x17 then some (2, uW w, true, false, false)
  else if opW w = 0x6f then some (3, jW w, true, false, false)
  else if opW w = 0x67 then some (4, iW w, true, true, false)
  else if opW w = 0x63 then some (5, bW w, false, true, true)
  else if opW w = 0x03 then some (6, iW w, true, true, false)
  else if opW w = 0x23 then some (7, sW w, false, true, true)
  else if opW w = 0x13 then some (9, iW w, true, true, false)
  else if opW w = 0x1b then some (9, iW w, true, true, false)
  else if opW w = 0x33 then some (8, 0, true, true, true)
  else if opW w = 0x3b then some (8, 0, true, true, true)
  else none

def immediateL (w : Int) (imm : Int) : Option (Int × Int) :=
  if opW w = 0x1b then
    (if f3W w = 0 then some (19, imm)
     else if f3W w = 1 ∧ f7W w = 0 then some (21, fl w 24 20)
     else if f3W w = 5 ∧ f7W w = 0 then some (22, fl w 24 20)
     else if f3W w = 5 ∧ f7W w = 32 then some (23, fl w 24 20)
     else none)
  else
    (if f3W w = 1 ∧ fl w 31 26 = 0 then some (3, fl w 25 20)
     else if f3W w = 5 ∧ fl w 31 26 = 0 then some (7, fl w 25 20)
     else if f3W w = 5 ∧ fl w 31 26 = 16 then some (8, fl w 25 20)
     else if opW w = 0x13 ∧ f3W w ≠ 1 ∧ f3W w ≠ 5 then some (pickL immsL (f3W w), imm)
     else none)

def p2 (n : Int) : Int := if n = 0 then 1 else if n = 1 then 2 else if n = 2 then 4 else if n = 3 then 8 else if n = 4 then 16 else if n = 5 then 32 else if n = 6 then 64 else 128

def plainL (w : Int) (i : Ins) : Option Ins :=
  if i.kind = 1 ∨ i.kind = 2 ∨ i.kind = 3 then some i
  else if i.kind = 4 then (if f3W w = 0 then some i else none)
  else if i.kind = 5 then (if pickL branchesL (f3W w) ≠ 0 then some { i with fn := pickL branchesL (f3W w) } else none)
  else if i.kind = 6 then (if f3W w < 7 then some { i with size := p2 (f3W w % 4), sg := decide (f3W w < 4) } else none)
  else if i.kind = 7 then (if f3W w < 4 then some { i with size := p2 (f3W w) } else none)
  else if i.kind = 9 then (immediateL w i.imm).map fun r => { i with fn := r.1, imm := r.2 }
  else if registerL (decide (opW w = 0x33)) (f3W w) (f7W w) ≠ 0 then some { i with fn := registerL (decide (opW w = 0x33)) (f3W w) (f7W w) } else none

def systemL (w : Int) : Option Ins :=
  if w = 0x73 then some ⟨11, 0, 0, 0, 0, 0, 0, false⟩
  else if w = 0x00100073 then some ⟨12, 0, 0, 0, 0, 0, 0, false⟩
  else if w = 0x10200073 then some ⟨18, 0, 0, 0, 0, 0, 0, false⟩
  else if w = 0x10500073 then some ⟨19, 0, 0, 0, 0, 0, 0, false⟩
  else if f3W w = 0 then (if f7W w = 9 ∧ rdW w = 0 then some ⟨20, 0, 0, rs1W w, rs2W w, 0, 0, false⟩ else none)
  else if f3W w % 4 ≠ 0 then some ⟨if 3 < f3W w then 14 else 13, f3W w % 4, rdW w, rs1W w, 0, fl w 31 20, 0, false⟩
  else none

def atomicL (w : Int) : Option Ins :=
  if f3W w ≠ 2 ∧ f3W w ≠ 3 then none
  else if fl w 31 27 = 2 then (if rs2W w = 0 then some ⟨15, 0, rdW w, rs1W w, rs2W w, 0, p2 (f3W w), false⟩ else none)
  else if fl w 31 27 = 3 then some ⟨16, 0, rdW w, rs1W w, rs2W w, 0, p2 (f3W w), false⟩
  else if fl w 31 27 = 1 then some ⟨17, 1, rdW w, rs1W w, rs2W w, 0, p2 (f3W w), false⟩
  else if fl w 31 27 % 4 ≠ 0 then none
  else some ⟨17, pickL amosL (fl w 31 27 / 4), rdW w, rs1W w, rs2W w, 0, p2 (f3W w), false⟩

def decodeL (w : Int) : Option Ins :=
  if opW w = 0x0f then (if f3W w < 2 then some ⟨10, 0, 0, 0, 0, 0, 0, false⟩ else none)
  else if opW w = 0x73 then systemL w
  else if opW w = 0x2f then atomicL w
  else (rowL w).bind fun r => plainL w ⟨r.1, 0, if r.2.2.1 = true then rdW w else 0, if r.2.2.2.1 = true then rs1W w else 0, if r.2.2.2.2 = true then rs2W w else 0, r.2.1, 0, false⟩

theorem fl_b (w : Int) (hi lo : Nat) : 0 ≤ fl w hi lo ∧ fl w hi lo < 2 ^ (hi - lo + 1) := by
  unfold fl
  have : (0 : Int) < 2 ^ (hi - lo + 1) := Int.pow_pos (by decide)
  exact ⟨Int.emod_nonneg _ (by omega), Int.emod_lt_of_pos _ this⟩
theorem rdW_b (w : Int) : 0 ≤ rdW w ∧ rdW w < 32 := fl_b w 11 7
theorem rs1W_b (w : Int) : 0 ≤ rs1W w ∧ rs1W w < 32 := fl_b w 19 15
theorem rs2W_b (w : Int) : 0 ≤ rs2W w ∧ rs2W w < 32 := fl_b w 24 20
theorem f3W_b (w : Int) : 0 ≤ f3W w ∧ f3W w < 8 := fl_b w 14 12
theorem f7W_b (w : Int) : 0 ≤ f7W w ∧ f7W w < 128 := fl_b w 31 25

theorem f3_cases (w : Int) : f3W w = 0 ∨ f3W w = 1 ∨ f3W w = 2 ∨ f3W w = 3 ∨ f3W w = 4 ∨ f3W w = 5 ∨ f3W w = 6 ∨ f3W w = 7 := by
  have := f3W_b w
  omega

theorem iW_b (w : Int) : -2 ^ 31 ≤ iW w ∧ iW w < 2 ^ 31 := by unfold iW sx; omega
theorem sW_b (w : Int) : -2 ^ 31 ≤ sW w ∧ sW w < 2 ^ 31 := by unfold sW sx; omega
theorem uW_b (w : Int) : -2 ^ 31 ≤ uW w ∧ uW w < 2 ^ 31 := by unfold uW sx; omega
theorem bW_b (w : Int) : -2 ^ 31 ≤ bW w ∧ bW w < 2 ^ 31 := by unfold bW sx; omega
theorem jW_b (w : Int) : -2 ^ 31 ≤ jW w ∧ jW w < 2 ^ 31 := by unfold jW sx; omega
theorem tdiv_mul {x : Int} (h : x % 4096 = 0) : x = x.tdiv 4096 * 4096 := by
  obtain ⟨k, rfl⟩ : ∃ k, x = k * 4096 := ⟨x / 4096, by omega⟩
  rw [Int.mul_tdiv_cancel k (by decide : (4096 : Int) ≠ 0)]
theorem uW_up (w : Int) : uW w = (uW w).tdiv 4096 * 4096 := by
  apply tdiv_mul
  unfold uW sx
  generalize fl w 31 12 = v
  omega

theorem fit_of {i : Ins} {l : List Nat} (hl : (formL i.kind).2 = l) (head : (i.kind, i.fn, i.size, i.sg) ∈ heads) (rd : 0 ∈ l ∨ i.rd = 0) (rs1 : 1 ∈ l ∨ 5 ∈ l ∨ i.rs1 = 0) (rs2 : 2 ∈ l ∨ i.rs2 = 0) (imm : 3 ∈ l ∨ 4 ∈ l ∨ i.imm = 0) (up : 4 ∉ l ∨ i.imm = i.imm.tdiv 4096 * 4096)
    (b0 : -2 ^ 31 ≤ i.imm ∧ i.imm < 2 ^ 31) (b1 : 0 ≤ i.rd ∧ i.rd < 32) (b2 : 0 ≤ i.rs1 ∧ i.rs1 < 32) (b3 : 0 ≤ i.rs2 ∧ i.rs2 < 32) : Fit i := by
  subst hl
  exact ⟨head, fun h => rd.resolve_left h, fun h k => (rs1.resolve_left h).resolve_left k, fun h => rs2.resolve_left h, fun h k => (imm.resolve_left h).resolve_left k, fun h => up.resolve_left (fun n => n h), b0.1, b0.2, b1, b2, b3⟩

theorem b00 : (0 : Int) ≤ 0 ∧ (0 : Int) < 32 := by omega
theorem b31 : (-2 : Int) ^ 31 ≤ 0 ∧ (0 : Int) < 2 ^ 31 := by omega
theorem fl12_b (w : Int) : -2 ^ 31 ≤ fl w 31 20 ∧ fl w 31 20 < 2 ^ 31 := by have := fl_b w 31 20; omega

theorem fit_system {w : Int} {i : Ins} (h : systemL w = some i) : Fit i := by
  unfold systemL at h
  have F : ∀ k, (k, (0 : Int), (0 : Int), false) ∈ heads → (formL k).2 = [] → Fit ⟨k, 0, 0, 0, 0, 0, 0, false⟩ := fun k h1 h2 => fit_of h2 h1 (.inr rfl) (.inr (.inr rfl)) (.inr rfl) (.inr (.inr rfl)) (.inl (by simp)) b31 b00 b00 b00
  split at h
  · injection h with h; subst h; exact F 11 (by decide) rfl
  split at h
  · injection h with h; subst h; exact F 12 (by decide) rfl
  split at h
  · injection h with h; subst h; exact F 18 (by decide) rfl
  split at h
  · injection h with h; subst h; exact F 19 (by decide) rfl
  split at h
  · split at h
    · injection h with h; subst h
      exact fit_of (l := [1, 2]) rfl (show ((20 : Int), (0 : Int), (0 : Int), false) ∈ heads by decide) (.inr rfl) (.inl (by simp)) (.inl (by simp)) (.inr (.inr rfl)) (.inl (by simp)) b31 b00 (rs1W_b w) (rs2W_b w)
    · cases h
  split at h
  · injection h with h
    have hb := f3W_b w
    have hf : f3W w % 4 = 1 ∨ f3W w % 4 = 2 ∨ f3W w % 4 = 3 := by omega
    by_cases h3 : 3 < f3W w
    · rw [if_pos h3] at h; subst h
      refine fit_of (l := [0, 3, 5]) rfl ?_ (.inl (by simp)) (.inr (.inl (by simp))) (.inr rfl) (.inl (by simp)) (.inl (by simp)) (fl12_b w) (rdW_b w) (rs1W_b w) b00
      rcases hf with e | e | e <;> simp only [e] <;> decide
    · rw [if_neg h3] at h; subst h
      refine fit_of (l := [0, 3, 1]) rfl ?_ (.inl (by simp)) (.inl (by simp)) (.inr rfl) (.inl (by simp)) (.inl (by simp)) (fl12_b w) (rdW_b w) (rs1W_b w) b00
      rcases hf with e | e | e <;> simp only [e] <;> decide
  · cases h

theorem fit_atomic {w : Int} {i : Ins} (h : atomicL w = some i) : Fit i := by
  unfold atomicL at h
  split at h
  · cases h
  next h3 =>
  have hf : f3W w = 2 ∨ f3W w = 3 := by omega
  split at h
  · split at h
    · injection h with h; subst h
      next h2 =>
      refine fit_of (l := [0, 1]) rfl ?_ (.inl (by simp)) (.inl (by simp)) (.inr h2) (.inr (.inr rfl)) (.inl (by simp)) b31 (rdW_b w) (rs1W_b w) (rs2W_b w)
      rcases hf with e | e <;> simp only [e] <;> decide
    · cases h
  split at h
  · injection h with h; subst h
    refine fit_of (l := [0, 2, 1]) rfl ?_ (.inl (by simp)) (.inl (by simp)) (.inl (by simp)) (.inr (.inr rfl)) (.inl (by simp)) b31 (rdW_b w) (rs1W_b w) (rs2W_b w)
    rcases hf with e | e <;> simp only [e] <;> decide
  split at h
  · injection h with h; subst h
    refine fit_of (l := [0, 2, 1]) rfl ?_ (.inl (by simp)) (.inl (by simp)) (.inl (by simp)) (.inr (.inr rfl)) (.inl (by simp)) b31 (rdW_b w) (rs1W_b w) (rs2W_b w)
    rcases hf with e | e <;> simp only [e] <;> decide
  split at h
  · cases h
  injection h with h; subst h
  have hb := fl_b w 31 27
  have ha : fl w 31 27 / 4 = 0 ∨ fl w 31 27 / 4 = 1 ∨ fl w 31 27 / 4 = 2 ∨ fl w 31 27 / 4 = 3 ∨ fl w 31 27 / 4 = 4 ∨ fl w 31 27 / 4 = 5 ∨ fl w 31 27 / 4 = 6 ∨ fl w 31 27 / 4 = 7 := by omega
  refine fit_of (l := [0, 2, 1]) rfl ?_ (.inl (by simp)) (.inl (by simp)) (.inl (by simp)) (.inr (.inr rfl)) (.inl (by simp)) b31 (rdW_b w) (rs1W_b w) (rs2W_b w)
  rcases hf with e | e <;> rcases ha with a | a | a | a | a | a | a | a <;> simp only [e, a] <;> decide

theorem imm_fit {w imm fn n : Int} (h : immediateL w imm = some (fn, n)) (hi : -2 ^ 31 ≤ imm ∧ imm < 2 ^ 31) : -2 ^ 31 ≤ n ∧ n < 2 ^ 31 ∧ ((9 : Int), fn, (0 : Int), false) ∈ heads := by
  have b5 := fl_b w 24 20
  have b6 := fl_b w 25 20
  have f3 := f3_cases w
  unfold immediateL at h
  repeat' split at h
  all_goals (first | (cases h; done) | (injection h with h; injection h with h1 h2; subst h1; subst h2))
  all_goals first
    | exact ⟨by omega, by omega, by decide⟩
    | skip
  next hx =>
  refine ⟨hi.1, hi.2, ?_⟩
  rcases f3 with e | e | e | e | e | e | e | e <;> rw [e] at hx ⊢ <;> first | (exfalso; omega) | decide

theorem reg_head {wide : Bool} {w f7 : Int} (h : registerL wide (f3W w) f7 ≠ 0) : ((8 : Int), registerL wide (f3W w) f7, (0 : Int), false) ∈ heads := by
  have f3 := f3_cases w
  generalize f3W w = f at *
  unfold registerL at h ⊢
  rcases f3 with rfl | rfl | rfl | rfl | rfl | rfl | rfl | rfl <;> repeat' split
  all_goals first
    | decide
    | (exfalso; revert h; simp_all; done)
    | (exfalso; apply h; simp_all [pickL]; done)

theorem plain1 (w : Int) (i : Ins) (h : i.kind = 1 ∨ i.kind = 2 ∨ i.kind = 3) : plainL w i = some i := by unfold plainL; rw [if_pos h]
theorem plain4 (w : Int) (i : Ins) (h : i.kind = 4) : plainL w i = if f3W w = 0 then some i else none := by unfold plainL; rw [if_neg (by omega), if_pos h]
theorem plain5 (w : Int) (i : Ins) (h : i.kind = 5) : plainL w i = if pickL branchesL (f3W w) ≠ 0 then some { i with fn := pickL branchesL (f3W w) } else none := by unfold plainL; rw [if_neg (by omega), if_neg (by omega), if_pos h]
theorem plain6 (w : Int) (i : Ins) (h : i.kind = 6) : plainL w i = if f3W w < 7 then some { i with size := p2 (f3W w % 4), sg := decide (f3W w < 4) } else none := by unfold plainL; rw [if_neg (by omega), if_neg (by omega), if_neg (by omega), if_pos h]
theorem plain7 (w : Int) (i : Ins) (h : i.kind = 7) : plainL w i = if f3W w < 4 then some { i with size := p2 (f3W w) } else none := by unfold plainL; rw [if_neg (by omega), if_neg (by omega), if_neg (by omega), if_neg (by omega), if_pos h]
theorem plain9 (w : Int) (i : Ins) (h : i.kind = 9) : plainL w i = (immediateL w i.imm).map fun r => { i with fn := r.1, imm := r.2 } := by unfold plainL; rw [if_neg (by omega), if_neg (by omega), if_neg (by omega), if_neg (by omega), if_neg (by omega), if_pos h]
theorem plain8 (w : Int) (i : Ins) (h : i.kind = 8) : plainL w i = if registerL (decide (opW w = 0x33)) (f3W w) (f7W w) ≠ 0 then some { i with fn := registerL (decide (opW w = 0x33)) (f3W w) (f7W w) } else none := by unfold plainL; rw [if_neg (by omega), if_neg (by omega), if_neg (by omega), if_neg (by omega), if_neg (by omega), if_neg (by omega)]

theorem fit_imm {w : Int} {i : Ins} (h : plainL w ⟨9, 0, rdW w, rs1W w, 0, iW w, 0, false⟩ = some i) : Fit i := by
  rw [plain9 _ _ rfl] at h
  cases hm : immediateL w (iW w) with
  | none => rw [show (Ins.mk 9 0 (rdW w) (rs1W w) 0 (iW w) 0 false).imm = iW w from rfl, hm] at h; cases h
  | some r =>
    rw [show (Ins.mk 9 0 (rdW w) (rs1W w) 0 (iW w) 0 false).imm = iW w from rfl, hm] at h
    injection h with h; subst h
    have hb := imm_fit (fn := r.1) (n := r.2) hm (iW_b w)
    exact fit_of (l := [0, 1, 3]) rfl hb.2.2 (.inl (by simp)) (.inl (by simp)) (.inr rfl) (.inl (by simp)) (.inl (by simp)) ⟨hb.1, hb.2.1⟩ (rdW_b w) (rs1W_b w) b00
theorem fit_reg {w : Int} {i : Ins} (h : plainL w ⟨8, 0, rdW w, rs1W w, rs2W w, 0, 0, false⟩ = some i) : Fit i := by
  rw [plain8 _ _ rfl] at h
  split at h
  · next hn =>
    injection h with h; subst h
    exact fit_of (l := [0, 1, 2]) rfl (reg_head hn) (.inl (by simp)) (.inl (by simp)) (.inl (by simp)) (.inr (.inr rfl)) (.inl (by simp)) b31 (rdW_b w) (rs1W_b w) (rs2W_b w)
  · cases h

theorem fit_decode {w : Int} {i : Ins} (h : decodeL w = some i) : Fit i := by
  unfold decodeL at h
  split at h
  · split at h
    · injection h with h; subst h
      exact fit_of (l := []) rfl (by decide) (.inr rfl) (.inr (.inr rfl)) (.inr rfl) (.inr (.inr rfl)) (.inl (by simp)) b31 b00 b00 b00
    · cases h
  split at h
  · exact fit_system h
  split at h
  · exact fit_atomic h
  cases hr : rowL w with
  | none => rw [hr] at h; cases h
  | some r =>
    rw [hr, Option.bind_some] at h
    unfold rowL at hr
    have f3 := f3_cases w
    by_cases c0 : opW w = 0x37
    · rw [if_pos c0] at hr; injection hr with hr; subst hr
      replace h : plainL w ⟨1, 0, rdW w, 0, 0, uW w, 0, false⟩ = some i := h
      rw [plain1 _ _ (.inl rfl)] at h; injection h with h; subst h
      exact fit_of (l := [0, 4]) rfl (show ((1 : Int), (0 : Int), (0 : Int), false) ∈ heads by decide) (.inl (by simp)) (.inr (.inr rfl)) (.inr rfl) (.inr (.inl (by simp))) (.inr (uW_up w)) (uW_b w) (rdW_b w) b00 b00
    rw [if_neg c0] at hr
    by_cases c1 : opW w = 0x17
    · rw [if_pos c1] at hr; injection hr with hr; subst hr
      replace h : plainL w ⟨2, 0, rdW w, 0, 0, uW w, 0, false⟩ = some i := h
      rw [plain1 _ _ (.inr (.inl rfl))] at h; injection h with h; subst h
      exact fit_of (l := [0, 4]) rfl (show ((2 : Int), (0 : Int), (0 : Int), false) ∈ heads by decide) (.inl (by simp)) (.inr (.inr rfl)) (.inr rfl) (.inr (.inl (by simp))) (.inr (uW_up w)) (uW_b w) (rdW_b w) b00 b00
    rw [if_neg c1] at hr
    by_cases c2 : opW w = 0x6f
    · rw [if_pos c2] at hr; injection hr with hr; subst hr
      replace h : plainL w ⟨3, 0, rdW w, 0, 0, jW w, 0, false⟩ = some i := h
      rw [plain1 _ _ (.inr (.inr rfl))] at h; injection h with h; subst h
      exact fit_of (l := [0, 3]) rfl (show ((3 : Int), (0 : Int), (0 : Int), false) ∈ heads by decide) (.inl (by simp)) (.inr (.inr rfl)) (.inr rfl) (.inl (by simp)) (.inl (by simp)) (jW_b w) (rdW_b w) b00 b00
    rw [if_neg c2] at hr
    by_cases c3 : opW w = 0x67
    · rw [if_pos c3] at hr; injection hr with hr; subst hr
      replace h : plainL w ⟨4, 0, rdW w, rs1W w, 0, iW w, 0, false⟩ = some i := h
      rw [plain4 _ _ rfl] at h
      split at h
      · injection h with h; subst h
        exact fit_of (l := [0, 3, 1]) rfl (show ((4 : Int), (0 : Int), (0 : Int), false) ∈ heads by decide) (.inl (by simp)) (.inl (by simp)) (.inr rfl) (.inl (by simp)) (.inl (by simp)) (iW_b w) (rdW_b w) (rs1W_b w) b00
      · cases h
    rw [if_neg c3] at hr
    by_cases c4 : opW w = 0x63
    · rw [if_pos c4] at hr; injection hr with hr; subst hr
      replace h : plainL w ⟨5, 0, 0, rs1W w, rs2W w, bW w, 0, false⟩ = some i := h
      rw [plain5 _ _ rfl] at h
      split at h
      · next hn =>
        injection h with h; subst h
        refine fit_of (l := [1, 2, 3]) rfl ?_ (.inr rfl) (.inl (by simp)) (.inl (by simp)) (.inl (by simp)) (.inl (by simp)) (bW_b w) b00 (rs1W_b w) (rs2W_b w)
        rcases f3 with e | e | e | e | e | e | e | e <;> rw [e] at hn <;> simp only [e] <;> first | decide | exact absurd rfl hn
      · cases h
    rw [if_neg c4] at hr
    by_cases c5 : opW w = 0x03
    · rw [if_pos c5] at hr; injection hr with hr; subst hr
      replace h : plainL w ⟨6, 0, rdW w, rs1W w, 0, iW w, 0, false⟩ = some i := h
      rw [plain6 _ _ rfl] at h
      split at h
      · next hn =>
        injection h with h; subst h
        refine fit_of (l := [0, 3, 1]) rfl ?_ (.inl (by simp)) (.inl (by simp)) (.inr rfl) (.inl (by simp)) (.inl (by simp)) (iW_b w) (rdW_b w) (rs1W_b w) b00
        rcases f3 with e | e | e | e | e | e | e | e <;> rw [e] at hn <;> simp only [e] <;> first | decide | omega
      · cases h
    rw [if_neg c5] at hr
    by_cases c6 : opW w = 0x23
    · rw [if_pos c6] at hr; injection hr with hr; subst hr
      replace h : plainL w ⟨7, 0, 0, rs1W w, rs2W w, sW w, 0, false⟩ = some i := h
      rw [plain7 _ _ rfl] at h
      split at h
      · next hn =>
        injection h with h; subst h
        refine fit_of (l := [2, 3, 1]) rfl ?_ (.inr rfl) (.inl (by simp)) (.inl (by simp)) (.inl (by simp)) (.inl (by simp)) (sW_b w) b00 (rs1W_b w) (rs2W_b w)
        rcases f3 with e | e | e | e | e | e | e | e <;> rw [e] at hn <;> simp only [e] <;> first | decide | omega
      · cases h
    rw [if_neg c6] at hr
    by_cases c7 : opW w = 0x13
    · rw [if_pos c7] at hr; injection hr with hr; subst hr
      exact fit_imm h
    rw [if_neg c7] at hr
    by_cases c8 : opW w = 0x1b
    · rw [if_pos c8] at hr; injection hr with hr; subst hr
      exact fit_imm h
    rw [if_neg c8] at hr
    by_cases c9 : opW w = 0x33
    · rw [if_pos c9] at hr; injection hr with hr; subst hr
      exact fit_reg h
    rw [if_neg c9] at hr
    by_cases c10 : opW w = 0x3b
    · rw [if_pos c10] at hr; injection hr with hr; subst hr
      exact fit_reg h
    rw [if_neg c10] at hr
    cases hr

end Go.Proofs.YtjapahcbhjjeiaaGreatDoor.AS
