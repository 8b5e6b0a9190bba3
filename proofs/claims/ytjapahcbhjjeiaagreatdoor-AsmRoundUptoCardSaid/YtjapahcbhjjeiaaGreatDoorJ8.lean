/- Several texts in one. -/
import Derived.Test.YtjapahcbhjjeiaaGreatDoorE7
import Derived.Lib.TrimByte
import Derived.Lib.Strings
import Derived.Test.YtjapahcbhjjeiaaGreatDoorK16
import Derived.Deep.CutBlock
import Derived.Deep.DeepCutAuto
import Derived.Test.YtjapahcbhjjeiaaGreatDoorK22
import Derived.Test.YtjapahcbhjjeiaaGreatDoorK18
/- What bytes a line of an instruction has: no line feed, no colon, no '#'; it begins with a letter and does not end with a blank; behind a comma stands a blank. No program in sight. -/
namespace Go.Proofs.YtjapahcbhjjeiaaGreatDoor.AS
open Go.Lib

def lb (b : UInt8) : Bool := b != 10 && b != 35 && b != 58
def wb (b : UInt8) : Bool := lb b && b != 32 && b != 44

set_option maxRecDepth 100000 in
theorem names_b : (heads.all fun a => (nameH a).all wb && match nameH a with | [] => false | c :: _ => isLow c) = true := by decide +kernel

theorem name_wb {i : Ins} (h : Fit i) : (∀ b ∈ nameI i, wb b = true) ∧ ∃ c r, nameI i = c :: r ∧ isLow c = true := by
  have := List.all_eq_true.1 names_b _ h.head
  simp only [Bool.and_eq_true, List.all_eq_true] at this
  refine ⟨fun b hb => this.1 b hb, ?_⟩
  have h2 := this.2
  show ∃ c r, nameH (i.kind, i.fn, i.size, i.sg) = c :: r ∧ _
  revert h2
  generalize nameH (i.kind, i.fn, i.size, i.sg) = l
  intro h2
  cases l with
  | nil => cases h2
  | cons c r => exact ⟨c, r, rfl, h2⟩

theorem itoa_wb (n : Int) : ∀ b ∈ itoa n, wb b = true := by
  intro b hb
  have hne : ∀ k : UInt8, (48 ≤ b.toNat ∧ b.toNat ≤ 57) → (k.toNat < 48 ∨ 57 < k.toNat) → (b != k) = true := by
    intro k h1 h2
    simp only [bne_iff_ne, ne_eq]
    rintro rfl
    omega
  rcases itoa_bytes n b hb with h | rfl
  · unfold wb lb
    rw [hne 10 h (by decide), hne 35 h (by decide), hne 58 h (by decide), hne 32 h (by decide), hne 44 h (by decide)]
    rfl
  · rfl

theorem told_wb (i : Ins) (what : Nat) : (∀ b ∈ toldL i what, wb b = true) ∧ toldL i what ≠ [] := by
  have cons : ∀ n : Int, (∀ b ∈ (120 : UInt8) :: itoa n, wb b = true) ∧ (120 : UInt8) :: itoa n ≠ [] := fun n => ⟨fun b hb => by
    rcases List.mem_cons.1 hb with rfl | h
    · rfl
    · exact itoa_wb n b h, by simp⟩
  unfold toldL
  repeat' split
  all_goals first | exact cons _ | exact ⟨itoa_wb _, itoa_ne _⟩

theorem wb_lb {b : UInt8} (h : wb b = true) : lb b = true := by
  unfold wb at h
  simp only [Bool.and_eq_true] at h
  exact h.1.1

theorem lb_cons {b : UInt8} {r : List UInt8} (h : lb b = true) (hr : ∀ x ∈ r, lb x = true) : ∀ x ∈ b :: r, lb x = true := by
  intro x hx
  rcases List.mem_cons.1 hx with rfl | h'
  · exact h
  · exact hr x h'

def comma : List UInt8 → Bool
  | [] => true
  | b :: r => (b != 44 || r.head? == some 32) && comma r

theorem comma_word : ∀ (w r : List UInt8), (∀ b ∈ w, wb b = true) → comma r = true → comma (w ++ r) = true
  | [], r, _, h => h
  | b :: w, r, hw, h => by
    rw [List.cons_append, comma, comma_word w r (fun x hx => hw x (List.mem_cons_of_mem _ hx)) h, Bool.and_true]
    have := hw b (List.mem_cons_self ..)
    unfold wb at this
    simp only [Bool.and_eq_true] at this
    rw [this.2]; rfl
theorem comma_sep {b : UInt8} {r : List UInt8} (hb : (b != 44) = true) (h : comma r = true) : comma (b :: r) = true := by rw [comma, h, hb]; rfl
theorem comma_comma {r : List UInt8} (h : comma r = true) : comma (44 :: 32 :: r) = true := by rw [comma, comma_sep (by decide) h]; rfl

structure Tl (t : List UInt8) : Prop where
  all : ∀ b ∈ t, lb b = true
  com : comma t = true
  last : t.getLast? ≠ some 32

theorem last_word {w : List UInt8} (hw : ∀ b ∈ w, wb b = true) : w.getLast? ≠ some 32 := by
  intro h
  have hm := hw 32 (List.mem_of_getLast? h)
  exact absurd hm (by decide)

theorem Tl.word {w t : List UInt8} (hw : ∀ b ∈ w, wb b = true) (ht : Tl t) : Tl (w ++ t) := by
  refine ⟨?_, comma_word w t hw ht.com, ?_⟩
  · intro b hb
    rcases List.mem_append.1 hb with h | h
    · exact wb_lb (hw b h)
    · exact ht.all b h
  · rw [List.getLast?_append]
    cases h : t.getLast? with
    | none => simpa using last_word hw
    | some x => simpa using fun e => ht.last (by rw [h, e])
theorem Tl.sep {b : UInt8} {t : List UInt8} (h1 : lb b = true) (h2 : (b != 44) = true) (hne : t ≠ []) (ht : Tl t) : Tl (b :: t) := by
  refine ⟨lb_cons h1 ht.all, comma_sep h2 ht.com, ?_⟩
  cases t with
  | nil => exact absurd rfl hne
  | cons c r => rw [List.getLast?_cons_cons]; exact ht.last
theorem Tl.comma {t : List UInt8} (hne : t ≠ []) (ht : Tl t) : Tl (44 :: 32 :: t) := by
  refine ⟨lb_cons (by decide) (lb_cons (by decide) ht.all), comma_comma ht.com, ?_⟩
  cases t with
  | nil => exact absurd rfl hne
  | cons c r => rw [List.getLast?_cons_cons, List.getLast?_cons_cons]; exact ht.last
theorem Tl.nil : Tl [] := ⟨by simp, rfl, by simp⟩
theorem Tl.close : Tl [41] := ⟨by decide, rfl, by decide⟩

theorem ne_app {w t : List UInt8} (h : w ≠ []) : w ++ t ≠ [] := by
  intro e
  exact h (List.append_eq_nil_iff.1 e).1

theorem line_tl {i : Ins} (h : Fit i) : Tl (lineI i) := by
  unfold lineI
  have nb := (name_wb h).1
  have t := told_wb i
  have w : ∀ k, Tl (toldL i k) := fun k => by have := Tl.word (t k).1 Tl.nil; rwa [List.append_nil] at this
  have f2 : ∀ a b, Tl (fillS sh2 [toldL i a, toldL i b]) := fun a b => by
    show Tl (32 :: (toldL i a ++ 44 :: 32 :: (toldL i b ++ [])))
    rw [List.append_nil]
    exact Tl.sep (by decide) (by decide) (ne_app (t a).2) (Tl.word (t a).1 (Tl.comma (t b).2 (w b)))
  have fM : ∀ a b c, Tl (fillS shM [toldL i a, toldL i b, toldL i c]) := fun a b c => by
    show Tl (32 :: (toldL i a ++ 44 :: 32 :: (toldL i b ++ 40 :: (toldL i c ++ [41]))))
    exact Tl.sep (by decide) (by decide) (ne_app (t a).2) (Tl.word (t a).1 (Tl.comma (ne_app (t b).2) (Tl.word (t b).1 (Tl.sep (by decide) (by decide) (ne_app (t c).2) (Tl.word (t c).1 Tl.close)))))
  have f3 : ∀ a b c, Tl (fillS sh3 [toldL i a, toldL i b, toldL i c]) := fun a b c => by
    show Tl (32 :: (toldL i a ++ 44 :: 32 :: (toldL i b ++ 44 :: 32 :: (toldL i c ++ []))))
    rw [List.append_nil]
    exact Tl.sep (by decide) (by decide) (ne_app (t a).2) (Tl.word (t a).1 (Tl.comma (ne_app (t b).2) (Tl.word (t b).1 (Tl.comma (t c).2 (w c)))))
  have fL : ∀ a b, Tl (fillS shL [toldL i a, toldL i b]) := fun a b => by
    show Tl (32 :: (toldL i a ++ 44 :: 32 :: 40 :: (toldL i b ++ [41])))
    exact Tl.sep (by decide) (by decide) (ne_app (t a).2) (Tl.word (t a).1 (Tl.comma (by simp) (Tl.sep (by decide) (by decide) (ne_app (t b).2) (Tl.word (t b).1 Tl.close))))
  have fA : ∀ a b c, Tl (fillS shA [toldL i a, toldL i b, toldL i c]) := fun a b c => by
    show Tl (32 :: (toldL i a ++ 44 :: 32 :: (toldL i b ++ 44 :: 32 :: 40 :: (toldL i c ++ [41]))))
    exact Tl.sep (by decide) (by decide) (ne_app (t a).2) (Tl.word (t a).1 (Tl.comma (ne_app (t b).2) (Tl.word (t b).1 (Tl.comma (by simp) (Tl.sep (by decide) (by decide) (ne_app (t c).2) (Tl.word (t c).1 Tl.close))))))
  refine Tl.word nb ?_
  rcases formL_cases i.kind with e | e | e | e | e | e | e | e | e | e | e | e | e <;> rw [e] <;> simp only [List.map_cons, List.map_nil]
  · exact f2 _ _
  · exact f2 _ _
  · exact fM _ _ _
  · exact f3 _ _ _
  · exact fM _ _ _
  · exact f3 _ _ _
  · exact f3 _ _ _
  · exact f3 _ _ _
  · exact f3 _ _ _
  · exact fL _ _
  · exact fA _ _ _
  · exact f2 _ _
  · exact Tl.nil

theorem line_head {i : Ins} (h : Fit i) : ∃ c r, lineI i = c :: r ∧ isLow c = true := by
  obtain ⟨c, r, e, hc⟩ := (name_wb h).2
  exact ⟨c, r ++ fillS (formL i.kind).1 ((formL i.kind).2.map (toldL i)), by unfold lineI; rw [e]; rfl, hc⟩

theorem trim_id {c : UInt8} {r : List UInt8} (h0 : (c == 32) = false) (h1 : (c :: r).getLast? ≠ some 32) : trimB (c :: r) 32 = c :: r := by
  have e : trimRightB (c :: r) 32 = c :: r := by
    unfold trimRightB
    obtain ⟨p, x, e⟩ : ∃ p x, c :: r = p ++ [x] := ⟨(c :: r).dropLast, (c :: r).getLast (by simp), (List.dropLast_concat_getLast (by simp)).symm⟩
    rw [e] at h1 ⊢
    rw [List.getLast?_append] at h1
    have hx : (x == 32) = false := by simpa using h1
    rw [List.reverse_append]
    show ((x :: p.reverse).dropWhile (· == 32)).reverse = _
    rw [List.dropWhile_cons, if_neg (by rw [hx]; simp)]
    simp
  unfold trimB
  rw [e]
  unfold trimLeftB
  rw [List.dropWhile_cons, if_neg (by rw [h0]; simp)]

theorem low_ne {c k : UInt8} (h : isLow c = true) (hk : k.toNat < 97) : (c == k) = false := by
  unfold isLow at h
  simp only [Bool.and_eq_true, decide_eq_true_eq] at h
  simp only [beq_eq_false_iff_ne, ne_eq]
  rintro rfl
  omega

structure Ln (l : List UInt8) : Prop where
  feed : ∀ b ∈ l, b ≠ 10
  trim : trimB l 32 = l
  some' : nothingL l = false
  mark : markL l = none
  dot : hasPrefix l [46, 119, 111, 114, 100, 32] = false

theorem ln_of {c : UInt8} {r : List UInt8} (hc : isLow c = true) (h : Tl (c :: r)) : Ln (c :: r) := by
  refine ⟨?_, trim_id (low_ne hc (by decide)) h.last, ?_, ?_, ?_⟩
  · intro b hb e
    subst e
    exact absurd (h.all 10 hb) (by decide)
  · show (false || (some c == some 35)) = false
    rw [Bool.false_or]
    simpa using low_ne hc (k := 35) (by decide)
  · unfold markL
    rw [if_neg]
    rintro ⟨h1, -⟩
    exact absurd (h.all 58 (List.mem_of_getLast? h1)) (by decide)
  · show ([46, 119, 111, 114, 100, 32] : List UInt8).isPrefixOf (c :: r) = false
    have h46 := low_ne hc (k := 46) (by decide)
    have : ((46 : UInt8) == c) = false := by
      simp only [beq_eq_false_iff_ne, ne_eq] at h46 ⊢
      exact fun e => h46 e.symm
    rw [List.isPrefixOf, this]; rfl

theorem line_ln {i : Ins} (h : Fit i) : Ln (lineI i) := by
  obtain ⟨c, r, e, hc⟩ := line_head h
  have := line_tl h
  rw [e] at this ⊢
  exact ln_of hc this

end Go.Proofs.YtjapahcbhjjeiaaGreatDoor.AS

/- Lines of instructions, one below the other: what asm.Assemble makes of them. No program in sight but for the plain models. -/
namespace Go.Proofs.YtjapahcbhjjeiaaGreatDoor.AS
open Go.Lib

theorem places_none : ∀ (ls : List (List UInt8)), (∀ l ∈ ls, markL l = none) → ∀ b i, placesGo [] b i ls = []
  | [], _, _, _ => rfl
  | l :: r, h, b, i => by
    have ih := places_none r (fun x hx => h x (List.mem_cons_of_mem _ hx))
    have hm := h l (List.mem_cons_self ..)
    rw [placesGo]
    split
    · exact ih _ _
    · rw [hm]; exact ih _ _

end Go.Proofs.YtjapahcbhjjeiaaGreatDoor.AS

/- The walk of AsmJoins. -/
namespace Go.Proofs.YtjapahcbhjjeiaaGreatDoor.AS
open Go.RowKit Go.MapKept Go.Proofs.YtjapahcbhjjeiaaGreatDoorW.PrintWords Go.Proofs.YtjapahcbhjjeiaaGreatDoorW.PrintLast Go.Proofs.YtjapahcbhjjeiaaGreatDoorW.PrintMore Go.Proofs.YtjapahcbhjjeiaaGreatDoor.PA
set_option linter.unusedVariables false
set_option linter.unusedSimpArgs false
set_option maxRecDepth 100000

section
variable {P : Program} {ops : Array Oper} {rest : List Oper} {o : Oper} {a : Act} {Q : Exit → Act → World → Prop}
theorem guard_strip {d op ty po af g} {W : World} (hw : Region.wanted ⟨d, op, ty, po, af, some g⟩ (yielded ops a.tmps) = true) (h : wpList P ops Q (⟨d, op, ty, po, af, none⟩ :: rest) a W) : wpList P ops Q (⟨d, op, ty, po, af, some g⟩ :: rest) a W := by
  unfold wpList at h ⊢
  rw [if_pos hw]
  rw [if_pos (by rfl)] at h
  exact h
end

theorem same_l0 (l : List Int) (hl : l.length ≤ 1000000000) : ∀ (n : Nat) (j : Nat), j + n = l.length → citadellaw00_SameBytes.l0 (n + 1) l l (j : Int) = some true
  | 0, j, h => by
    rw [citadellaw00_SameBytes.l0, if_neg (by omega)]
  | n + 1, j, h => by
    rw [citadellaw00_SameBytes.l0, if_pos (by omega), if_pos (by omega), if_pos (by omega), if_pos rfl, w64 (by omega) (by omega)]
    exact same_l0 l hl n (j + 1) (by omega)
theorem same_f (l : List Int) (hl : l.length ≤ 1000000000) : citadellaw00_SameBytes.f (l.length + 1) l l = some true := by
  unfold citadellaw00_SameBytes.f
  rw [if_pos rfl]
  exact same_l0 l hl l.length 0 (by omega)

theorem asm_of (t : List UInt8) (ls : List (List UInt8)) (ht : t.length ≤ 1073741824) (hls : linesB t = ls) (hmk : ∀ l ∈ ls, Ln l) (hsh : ∀ l ∈ ls, l.length ≤ 1000) (code : List Int) (wrong : Nat) (hgo : asmGo (instL []) [] [] 0 ls = (code, wrong)) (W : World) (hg : GW W) :
    Calls Tryz.prog 18 #[.string (bB t)] W fun e w' => ∃ A c, e = .returned (.tuple #[.slice A code.length c, .int .i64 (wrong : Nat)]) ∧ code.length ≤ c ∧ Kd.C (Kd.int .u8) w' A code.length code ∧ Below W.heap.size W w' := by
  have hp : placesL ls = [] := places_none ls (fun l hl => (hmk l hl).mark) 0 0
  have := assemble_calls t ht (instL []) W hg (by
    rw [hls, hp]
    intro l hl _ hU
    exact word_ok _ l (by have := hsh l hl; omega) (by simp) (hmk l hl).dot hU)
  rw [hls, hp, hgo] at this
  refine this.mono ?_
  rintro e w' ⟨A, n, c, rfl, rfl, hc, hC, hb⟩
  exact ⟨A, c, rfl, hc, hC, hb⟩

end Go.Proofs.YtjapahcbhjjeiaaGreatDoor.AS

/- Bytes told as lines, and put together again: the plain law of AsmRound. -/
namespace Go.Proofs.YtjapahcbhjjeiaaGreatDoor.AS
open Go.Lib Go.RowKit Go.MapKept Go.Proofs.YtjapahcbhjjeiaaGreatDoorW.PrintWords Go.Proofs.YtjapahcbhjjeiaaGreatDoorW.PrintLast Go.Proofs.YtjapahcbhjjeiaaGreatDoorW.PrintMore Go.Proofs.YtjapahcbhjjeiaaGreatDoor.PA
set_option linter.unusedVariables false
set_option maxRecDepth 100000

def wordsW : List Int → List Int
  | b0 :: b1 :: b2 :: b3 :: r => w4 b0 b1 b2 b3 :: wordsW r
  | _ => []

structure Lw (l : List UInt8) : Prop where
  feed : ∀ b ∈ l, b ≠ 10
  trim : trimB l 32 = l
  some' : nothingL l = false
  mark : markL l = none

theorem dig_wb (n : Nat) : ∀ b ∈ decDigits n, wb b = true := by
  intro b hb
  have := itoa_wb (n : Int) b
  rw [itoa_nonneg] at this
  exact this hb

theorem dot_lw (n : Nat) : Lw (dotL n) := by
  have hd := dig_wb n
  have hl : (dotL n).getLast? = (decDigits n).getLast? := by
    show (dotW ++ decDigits n).getLast? = _
    rw [List.getLast?_append]
    cases h : (decDigits n).getLast? with
    | none => exact absurd (List.getLast?_eq_none_iff.1 h) (decDigits_ne n)
    | some x => rfl
  refine ⟨?_, ?_, rfl, ?_⟩
  · intro b hb e
    subst e
    rcases List.mem_append.1 (show (10 : UInt8) ∈ dotW ++ decDigits n from hb) with h | h
    · exact absurd h (by decide)
    · exact absurd (hd 10 h) (by decide)
  · exact trim_id (c := 46) (r := [119, 111, 114, 100, 32] ++ decDigits n) rfl (by
      show (dotL n).getLast? ≠ some 32
      rw [hl]
      exact last_word hd)
  · unfold markL
    rw [if_neg]
    rintro ⟨h1, -⟩
    rw [hl] at h1
    exact absurd (hd 58 (List.mem_of_getLast? h1)) (by decide)

theorem lineW_lw (w : Int) : Lw (lineW w) := by
  unfold lineW
  split
  · rename_i h
    have := line_ln (mayL_fit _ h.1)
    exact ⟨this.feed, this.trim, this.some', this.mark⟩
  · exact dot_lw _

theorem feed_cut' {l : List UInt8} (h : Lw l) (u : List UInt8) : linesB (l ++ 10 :: u) = l :: linesB u := by
  rw [linesB_cut (l := l ++ 10 :: u) (p := l) (q := u) rfl h.feed, h.trim]

theorem lines_textL : ∀ (n : Nat) (l : List Int), l.length ≤ n → linesB (textL l) = (wordsW l).map lineW
  | 0, l, h => by
    obtain rfl : l = [] := List.length_eq_zero_iff.1 (by omega)
    rfl
  | n + 1, l, h => by
    rcases Nat.lt_or_ge l.length 4 with h4 | h4
    · rw [textL_short h4]
      match l, h4 with
      | [], _ => rfl
      | [_], _ => rfl
      | [_, _], _ => rfl
      | [_, _, _], _ => rfl
    · obtain ⟨b0, b1, b2, b3, r, rfl⟩ := four h4
      rw [textL, feed_cut' (lineW_lw _), lines_textL n r (by simp at h; omega)]
      rfl

theorem wordsW_b : ∀ (n : Nat) (l : List Int), l.length ≤ n → (∀ b ∈ l, Byte b) → ∀ w ∈ wordsW l, 0 ≤ w ∧ w < 4294967296
  | 0, l, h, _ => by
    obtain rfl : l = [] := List.length_eq_zero_iff.1 (by omega)
    intro w hw; cases hw
  | n + 1, l, h, hb => by
    rcases Nat.lt_or_ge l.length 4 with h4 | h4
    · match l, h4 with
      | [], _ => intro w hw; cases hw
      | [_], _ => intro w hw; cases hw
      | [_, _], _ => intro w hw; cases hw
      | [_, _, _], _ => intro w hw; cases hw
    · obtain ⟨b0, b1, b2, b3, r, rfl⟩ := four h4
      intro w hw
      rcases List.mem_cons.1 hw with rfl | hw
      · exact w4_b (hb b0 (by simp)) (hb b1 (by simp)) (hb b2 (by simp)) (hb b3 (by simp))
      · exact wordsW_b n r (by simp at h; omega) (fun b hbr => hb b (by simp [hbr])) w hw

theorem le4_w4 {b0 b1 b2 b3 : Int} (h0 : Byte b0) (h1 : Byte b1) (h2 : Byte b2) (h3 : Byte b3) : le4 (w4 b0 b1 b2 b3) = [b0, b1, b2, b3] := by
  unfold le4 w4 Byte at *
  congr 1
  · omega
  congr 1
  · omega
  congr 1
  · omega
  congr 1
  omega

theorem bytes_words : ∀ (n : Nat) (l : List Int), l.length ≤ n → (∀ b ∈ l, Byte b) → (wordsW l).flatMap le4 = l.take (l.length / 4 * 4) ∧ (wordsW l).length = l.length / 4
  | 0, l, h, _ => by
    obtain rfl : l = [] := List.length_eq_zero_iff.1 (by omega)
    exact ⟨rfl, rfl⟩
  | n + 1, l, h, hb => by
    rcases Nat.lt_or_ge l.length 4 with h4 | h4
    · have h0 : l.length / 4 = 0 := by omega
      rw [h0]
      match l, h4 with
      | [], _ => exact ⟨rfl, rfl⟩
      | [_], _ => exact ⟨rfl, rfl⟩
      | [_, _], _ => exact ⟨rfl, rfl⟩
      | [_, _, _], _ => exact ⟨rfl, rfl⟩
    · obtain ⟨b0, b1, b2, b3, r, rfl⟩ := four h4
      have ih := bytes_words n r (by simp at h; omega) (fun b hbr => hb b (by simp [hbr]))
      have e : (b0 :: b1 :: b2 :: b3 :: r).length / 4 = r.length / 4 + 1 := by simp only [List.length_cons]; omega
      rw [e]
      constructor
      · show le4 (w4 b0 b1 b2 b3) ++ (wordsW r).flatMap le4 = _
        rw [le4_w4 (hb b0 (by simp)) (hb b1 (by simp)) (hb b2 (by simp)) (hb b3 (by simp)), ih.1, show (r.length / 4 + 1) * 4 = r.length / 4 * 4 + 4 by omega]
        rfl
      · show (wordsW r).length + 1 = _
        rw [ih.2]

def wdW (at_ : Nat) (l : List UInt8) : Option Int :=
  if hasPrefix l dotW = true then (match parseUintB 32 (l.drop 6) with | .ok n => some (n : Int) | _ => none) else instL [] at_ l

theorem wdW_line {w : Int} (h0 : 0 ≤ w) (h1 : w < 4294967296) (at_ : Nat) : wdW at_ (lineW w) = some w := by
  unfold lineW
  split
  · rename_i h
    have hn := (line_ln (mayL_fit _ h.1)).dot
    unfold wdW
    rw [if_neg (by rw [show hasPrefix _ dotW = false from hn]; simp)]
    unfold instL
    rw [parseL_line mayL_fit h.1]
    dsimp only
    rw [h.2]
  · have hp : hasPrefix (dotL w.toNat) dotW = true := by
      show dotW.isPrefixOf (dotW ++ decDigits w.toNat) = true
      simp
    unfold wdW
    rw [if_pos hp, show (dotL w.toNat).drop 6 = decDigits w.toNat from rfl, parse_dec w.toNat (by omega)]
    dsimp only
    congr 1
    omega

theorem wdW_inst {i : Ins} (h : mayL i = true) (hU : Uniq []) : WordOk [] wdW (lineI i) := by
  have hn := (line_ln (mayL_fit i h)).dot
  have hlen := line_short i (mayL_fit i h)
  intro p at_ W hat hg hM
  refine (word_ok [] (lineI i) (by omega) (by simp) hn hU p at_ W hat hg hM).mono ?_
  rintro e' w' ⟨v, ok, rfl, hw, hr, hb⟩
  refine ⟨v, ok, rfl, ?_, hr, hb⟩
  rw [← hw]
  unfold wdW
  rw [if_neg (by rw [show hasPrefix _ dotW = false from hn]; simp)]
theorem wdW_dot (n : Nat) (hn : n < 4294967296) : WordOk [] wdW (dotL n) := by
  intro p at_ W hat hg hM
  refine (word_dot n hn p at_ W hg).mono ?_
  rintro e' w' ⟨rfl, hb⟩
  refine ⟨(n : Int), true, rfl, ?_, fun _ => by omega, hb⟩
  have hp : hasPrefix (dotL n) dotW = true := by
    show dotW.isPrefixOf (dotW ++ decDigits n) = true
    simp
  unfold wdW
  rw [if_pos hp, show (dotL n).drop 6 = decDigits n from rfl, parse_dec n hn]
  rfl
theorem wdW_ok {w : Int} (h0 : 0 ≤ w) (h1 : w < 4294967296) (hU : Uniq []) : WordOk [] wdW (lineW w) := by
  by_cases h : mayL (insW w) = true ∧ encL (insW w) = w
  · rw [show lineW w = lineI (insW w) by unfold lineW; rw [if_pos h]]
    exact wdW_inst h.1 hU
  · rw [show lineW w = dotL w.toNat by unfold lineW; rw [if_neg h]]
    exact wdW_dot _ (by omega)

theorem here_none' {l : List UInt8} (h : markL l = none) (ps : List Mk) (i : Nat) : isHere ps l i = false := by unfold isHere; rw [h]
theorem places_none' : ∀ (ls : List (List UInt8)), (∀ l ∈ ls, markL l = none) → ∀ b i, placesGo [] b i ls = []
  | [], _, _, _ => rfl
  | l :: r, h, b, i => by
    have ih := places_none' r (fun x hx => h x (List.mem_cons_of_mem _ hx))
    have hm := h l (List.mem_cons_self ..)
    rw [placesGo]
    split
    · exact ih _ _
    · rw [hm]; exact ih _ _

theorem go_words : ∀ (ws : List Int), (∀ w ∈ ws, 0 ≤ w ∧ w < 4294967296) → ∀ (b : List Int) (k : Nat),
    (b.length + 4 * ws.length ≤ 65536 → asmGo wdW [] b k (ws.map lineW) = (b ++ ws.flatMap le4, 0)) ∧
    (65536 < b.length + 4 * ws.length → b.length ≤ 65536 → ∃ j, asmGo wdW [] b k (ws.map lineW) = ([], j + 1))
  | [], _, b, k => ⟨fun _ => by simp [asmGo], fun h h' => by simp only [List.length_nil] at h; omega⟩
  | w :: r, h, b, k => by
    have hw := h w (List.mem_cons_self ..)
    have hl := lineW_lw w
    have ih := go_words r (fun x hx => h x (List.mem_cons_of_mem _ hx)) (b ++ le4 w) (k + 1)
    have e : asmGo wdW [] b k ((w :: r).map lineW) = if b.length + 4 > 65536 then ([], k + 1) else asmGo wdW [] (b ++ le4 w) (k + 1) (r.map lineW) := by
      rw [List.map_cons, asmGo, if_neg (by rw [hl.some']; simp), if_neg (by rw [here_none' hl.mark]; simp), wdW_line hw.1 hw.2]
    have hbl : (b ++ le4 w).length = b.length + 4 := by rw [List.length_append]; rfl
    rw [hbl] at ih
    simp only [List.length_cons]
    constructor
    · intro hle
      rw [e, if_neg (by omega), ih.1 (by omega), List.append_assoc]
      rfl
    · intro hgt hb
      by_cases c : b.length + 4 > 65536
      · exact ⟨k, by rw [e, if_pos c]⟩
      · obtain ⟨j, hj⟩ := ih.2 (by omega) (by omega)
        exact ⟨j, by rw [e, if_neg c, hj]⟩

theorem asm_text (l : List Int) (hby : ∀ b ∈ l, Byte b) (hl : l.length ≤ 2000000) (W : World) (hg : GW W) :
    Calls Tryz.prog 18 #[.string (bB (textL l))] W fun e w' => ∃ A n c x wrong, e = .returned (.tuple #[.slice A n c, .int .i64 ((wrong : Nat) : Int)]) ∧ n = x.length ∧ n ≤ c ∧ Kd.C (Kd.int .u8) w' A n x ∧
      (l.length / 4 * 4 ≤ 65536 → x = l.take (l.length / 4 * 4) ∧ wrong = 0) ∧ (65536 < l.length / 4 * 4 → x = [] ∧ 0 < wrong) ∧ Below W.heap.size W w' := by
  have hls := lines_textL l.length l (Nat.le_refl _)
  have hwb := wordsW_b l.length l (Nat.le_refl _) hby
  have hbw := bytes_words l.length l (Nat.le_refl _) hby
  have hp : placesL ((wordsW l).map lineW) = [] := places_none' _ (fun x hx => by obtain ⟨w, _, rfl⟩ := List.mem_map.1 hx; exact (lineW_lw w).mark) 0 0
  have htl := textL_len l.length l (Nat.le_refl _) hby
  have := assemble_calls (textL l) (by omega) wdW W hg (by
    rw [hls, hp]
    intro x hx _ hU
    obtain ⟨w, hw, rfl⟩ := List.mem_map.1 hx
    exact wdW_ok (hwb w hw).1 (hwb w hw).2 hU)
  rw [hls, hp] at this
  have g := go_words (wordsW l) hwb [] 0
  rw [hbw.1, hbw.2] at g
  refine this.mono ?_
  rintro e w' ⟨A, n, c, rfl, hn, hc, hC, hb⟩
  refine ⟨A, n, c, _, _, rfl, hn, hc, hC, ?_, ?_, hb⟩
  · intro h
    rw [g.1 (by simp only [List.length_nil]; omega)]
    exact ⟨rfl, rfl⟩
  · intro h
    obtain ⟨j, hj⟩ := g.2 (by simp only [List.length_nil]; omega) (by simp)
    rw [hj]
    exact ⟨rfl, Nat.succ_pos _⟩

end Go.Proofs.YtjapahcbhjjeiaaGreatDoor.AS

/- The walk of AsmRound. -/
namespace Go.Proofs.YtjapahcbhjjeiaaGreatDoor.AS
open Go.RowKit Go.MapKept Go.Proofs.YtjapahcbhjjeiaaGreatDoorW.PrintWords Go.Proofs.YtjapahcbhjjeiaaGreatDoorW.PrintLast Go.Proofs.YtjapahcbhjjeiaaGreatDoorW.PrintMore Go.Proofs.YtjapahcbhjjeiaaGreatDoor.PA
set_option linter.unusedVariables false
set_option linter.unusedSimpArgs false
set_option maxRecDepth 100000

set_option maxHeartbeats 8000000 in
theorem round_calls (l : List Int) (hby : ∀ b ∈ l, Byte b) (hlen : l.length ≤ 2000000) (A : Option Addr) (c : Nat) (W : World) (hgw : GW W) (hC : Kd.C (Kd.int .u8) W A l.length l) (hc : l.length ≤ c) :
    Calls Tryz.prog 9 #[.slice A l.length c] W fun e w' => e = .returned (.bool true) ∧ Below W.heap.size W w' := by
  have HB := Aside0.mk (Below.refl W.heap.size W)
  have HG := Aside0.mk hgw
  have HC := Aside0.mk hC
  have Hc := Aside0.mk hc
  have TX := text_calls l hby (by omega) A c
  have AT := asm_text l hby hlen
  have AW := awake_calls
  obtain ⟨i0, hi0, _, hsz, _⟩ := info_parts info5'
  have HI0 := Aside0.mk hi0
  have HSZ := Aside0.mk hsz
  clear hi0 hsz
  obtain ⟨tx, htx⟩ : ∃ x, x = bB (textL l) := ⟨_, rfl⟩
  rw [← htx] at TX AT
  obtain ⟨m, hm⟩ : ∃ m, m = l.length := ⟨_, rfl⟩
  have TX' : ∀ W, GW W → Kd.C (Kd.int .u8) W A l.length l → Calls Tryz.prog 22 #[.slice A m c] W fun e w' => e = .returned (.string tx) ∧ Below W.heap.size W w' := fun W hg h => by rw [hm]; exact TX W hg h Hc.out
  have HM := Aside0.mk hm
  have AT' : ∀ W, GW W → Calls Tryz.prog 18 #[.string tx] W fun e w' => ∃ A n c x wrong, e = .returned (.tuple #[.slice A n c, .int .i64 ((wrong : Nat) : Int)]) ∧ n = x.length ∧ n ≤ c ∧ Kd.C (Kd.int .u8) w' A n x ∧
      (m / 4 * 4 ≤ 65536 → x = l.take (m / 4 * 4) ∧ wrong = 0) ∧ (65536 < m / 4 * 4 → x = [] ∧ 0 < wrong) ∧ Below W.heap.size W w' := fun W hg => by rw [hm]; exact AT W hg
  rw [← hm]
  have hm2 : (m : Int) ≤ 2000000 := by omega
  obtain ⟨q, hq⟩ : ∃ q, q = m / 4 * 4 := ⟨_, rfl⟩
  rw [← hq] at AT'
  have HQ := Aside0.mk hq
  clear hgw hC hc hby hlen TX AT htx hm hq
  go_enter Tryz.func9, Tryz.ntmps9
  go_wp2_with fail
  refine (TX' _ HG.out HC.out).mono ?_
  rintro e w3 ⟨rfl, hb⟩
  have HB3 := Aside0.mk (below_step HB.out hb)
  have HG3 := Aside0.mk (HG.out.below hb)
  clear hb TX' HB HG
  go_wp2_with fail
  refine (AT' _ HG3.out).mono ?_
  rintro e w4 ⟨A4, n4, c4, x, wr, rfl, hn4, hc4, hC4, hlo, hhi, hb⟩
  have HB4 := Aside0.mk (below_step HB3.out hb)
  have HG4 := Aside0.mk (HG3.out.below hb)
  clear hb AT' HB3 HG3
  have hqi : (m : Int) / 4 * 4 = (q : Int) := by rw [HQ.out]; omega
  by_cases h16 : q ≤ 65536
  · obtain ⟨hx, rfl⟩ := hlo h16
    have hdg : decide (65536 < (m : Int) / 4 * 4) = false := decide_eq_false (by omega)
    have hng : (m : Int) / 4 * 4 ≤ 65536 := by omega
    have hqm : q ≤ l.length := by rw [← HM.out, HQ.out]; omega
    obtain ⟨hcut, hrd, hle⟩ := print_take_int (P := Tryz.prog) (k := .u8) 38 5 Tryz.underlying38 HI0.out HSZ.out A c l (q : Int) (by omega) (by omega) Hc.out
    rw [Int.toNat_natCast, ← hx] at hcut hrd hle
    have hcut1 : ∀ W, (Instr.slice 38 (.slice A m c) none (some (.int .i64 ((m : Int) / 4 * 4))) none).run Tryz.prog W = .ok (.slice A n4 c) W := fun W => by rw [hqi, HM.out, hn4]; exact hcut W
    have HC9 : Aside0 (Kd.C (Kd.int .u8) w4 A x.length x) := ⟨Kd.C_of_reads (h1 := fun _ => rfl) (hrd w4 (Kd.reads_of_C (d := 0) (h1 := fun _ => rfl) (Kd.C_below HC.out HB4.out)))⟩
    have HL9 := Aside0.mk hle
    have HC4 : Aside0 (Kd.C (Kd.int .u8) w4 A4 x.length x) := ⟨by rw [← hn4]; exact hC4⟩
    have Hc4 : Aside0 (x.length ≤ c4) := ⟨by rw [← hn4]; exact hc4⟩
    have HN4 := Aside0.mk hn4
    have HX4 : Aside0 (x.length ≤ 1000000000) := ⟨by rw [hx, List.length_take]; omega⟩
    clear hhi hlo hC4 hc4 hn4 hx hcut hrd hle hqm hqi
    go_wp2_with (first | ((with_reducible refine gate_dst (N := 36) rfl ?_); refine guard_strip (by rfl) ?_) | fail)
    rw [HN4.out]
    refine (citadellaw00_SameBytes.calls (x.length + 1) A4 c4 x A c x true _ HC4.out Hc4.out HC9.out HL9.out (same_f _ HX4.out)).mono ?_
    rintro e w5 ⟨rfl, hdr⟩
    obtain ⟨nd, rfl⟩ := hdr.out
    have HB5 := Aside0.mk (pw_below_drewN HB4.out nd)
    have HG5 := Aside0.mk (HG4.out.below (pw_below_drewN (Below.refl _ _) nd))
    clear hdr
    go_wp2_with (first | ((with_reducible refine gate_dst (N := 39) rfl ?_); refine guard_strip (by rfl) ?_) | fail)
    refine (AW _ HG5.out).mono ?_
    rintro e w6 ⟨rfl, hb⟩
    have HB6 := Aside0.mk (below_step HB5.out hb)
    clear hb
    go_wp2
    go_ret
    exact ⟨rfl, HB6.out⟩
  · obtain ⟨rfl, hwr⟩ := hhi (by omega)
    have hdg : decide (65536 < (m : Int) / 4 * 4) = true := decide_eq_true (by omega)
    have hng : 65536 < (m : Int) / 4 * 4 := by omega
    have hw0 : (0 : Int) < (wr : Int) := by omega
    obtain rfl : n4 = 0 := hn4
    clear hlo hhi hC4 hqi h16
    go_wp2_with (first | ((with_reducible refine gate_dst (N := 24) rfl ?_); refine guard_strip (by rfl) ?_) | fail)
    refine (AW _ HG4.out).mono ?_
    rintro e w6 ⟨rfl, hb⟩
    have HB6 := Aside0.mk (below_step HB4.out hb)
    clear hb
    go_wp2
    go_ret
    exact ⟨rfl, HB6.out⟩

end Go.Proofs.YtjapahcbhjjeiaaGreatDoor.AS

/- AsmRound over the reading of its argument. -/
namespace Go.Proofs.YtjapahcbhjjeiaaGreatDoor.AS
open Go.RowKit Go.WideShapes Go.ChangeShapes Go.Proofs.YtjapahcbhjjeiaaGreatDoorW.PrintWords Go.Proofs.YtjapahcbhjjeiaaGreatDoor.Opn Go.Proofs.YtjapahcbhjjeiaaGreatDoor.PA
set_option linter.unusedVariables false
set_option maxRecDepth 100000

theorem cells5 : Tryz.prog.cellsOf 5 = 1 := by kernel_rfl
theorem byte_of {n : Int} (hw : (Lit.int .u8 n).wf = true) : Byte n := by
  have hlo : IntKind.u8.min = 0 := by decide
  have hhi : IntKind.u8.max = 255 := by decide
  simp [Lit.wf, hlo, hhi] at hw
  unfold Byte
  omega
theorem open_bytes {H : Type} {enc : TypeId × Value → H} {W : World} {base : Nat} {v : Value} {d : DataW H} {p : List MemPlace} (o : Value.okWide Tryz.prog W .any base 38 v) (h : DataW.Trod enc Tryz.prog W 0 (fun _ => true) true 38 v d p) :
    ∃ (A : Option Addr) (c : Nat) (l : List Int), v = .slice A l.length c ∧ Kd.C (Kd.int .u8) W A l.length l ∧ l.length ≤ c ∧ (∀ b ∈ l, Byte b) ∧ l.length ≤ Rows.uptoBulk d := by
  obtain ⟨a, len, cap, rfl⟩ := okWide_slice Tryz.underlying38 o
  obtain ⟨fuel, h⟩ := h
  obtain ⟨A, c, ls, e, l, C, g⟩ := opens_row (d := Kd.int .u8) (G := GInt .u8) Tryz.underlying38 (opens_int Tryz.underlying5) cells5 h
  have e' : Value.slice a len cap = .slice A ls.length c := by simpa [Value.cells] using e
  exact ⟨A, c, ls, e', C, l, fun b hb => by obtain ⟨_, _, hg⟩ := g.2 b hb; exact byte_of hg.2, by have := g.1; simp only at this; omega⟩

theorem asmRound_core (H : Type) (enc : TypeId × Value → H) (W : World) (base : Nat) (v0 : Value) (d0 : DataW H) (p0 : List MemPlace)
    (o0 : Value.okWide Tryz.prog W .any base 38 v0) (h0 : DataW.Trod enc Tryz.prog W 0 (fun _ => true) true 38 v0 d0 p0) (hb : Rows.uptoBulkAll [d0] ≤ 1048576) (hg : GW W) :
    Calls Tryz.prog 9 #[v0] W fun e W' => e = .returned (.bool true) ∧ Below W.heap.size W W' := by
  obtain ⟨A0, c0, l, rfl, C0, l0, hby, hbl⟩ := open_bytes o0 h0
  simp only [Rows.uptoBulkAll] at hb
  exact round_calls l hby (by omega) A0 c0 W hg C0 l0

end Go.Proofs.YtjapahcbhjjeiaaGreatDoor.AS
