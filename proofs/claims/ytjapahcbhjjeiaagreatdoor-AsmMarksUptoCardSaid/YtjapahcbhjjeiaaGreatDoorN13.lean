/- Several texts in one. -/
import Derived.Test.YtjapahcbhjjeiaaGreatDoorE7
import Derived.Lib.TrimByte
import Derived.Lib.Strings
import Derived.Test.YtjapahcbhjjeiaaGreatDoorK16
import Derived.Test.YtjapahcbhjjeiaaGreatDoorL12
import Derived.Test.YtjapahcbhjjeiaaGreatDoorF2
import Derived.Test.YtjapahcbhjjeiaaGreatDoorL8
import Derived.Test.YtjapahcbhjjeiaaGreatDoorK9
import Derived.Test.YtjapahcbhjjeiaaGreatDoorK21
import Derived.Outline
import Derived.Deep.QuietTactic
import Derived.BigQuiet
import Derived.Test.YtjapahcbhjjeiaaGreatDoorK18
/- What bytes a line of an instruction has: no line feed, no colon, no '#'; it begins with a letter and does not end with a blank; behind a comma stands a blank. No program in sight. -/
namespace Go.Proofs.YtjapahcbhjjeiaaGreatDoor.AS
open Go.Lib

def lb (b : UInt8) : Bool := b != 10 && b != 35 && b != 58
def wb (b : UInt8) : Bool := lb b && b != 32 && b != 44

set_option maxRecDepth 100000 in
theorem names_b : (heads.all fun a => (nameH a).all wb && match nameH a with | [] => false | c :: _ => isLow c) = true := by decide +kernel

theorem name_wb {i : Ins} (h : Fit i) : (∀ b ∈ nameI i, wb b = true) ∧ ∃ c r, nameI i = c :: r ∧ isLow c = true := by
  have := List.all_eq_true.1 names_b _ h.head
  simp only [Bool.and_eq_true, List.all_eq_true] at this
  refine ⟨fun b hb => this.1 b hb, ?_⟩
  have h2 := this.2
  show ∃ c r, nameH (i.kind, i.fn, i.size, i.sg) = c :: r ∧ _
  revert h2
  generalize nameH (i.kind, i.fn, i.size, i.sg) = l
  intro h2
  cases l with
  | nil => cases h2
  | cons c r => exact ⟨c, r, rfl, h2⟩

theorem itoa_wb (n : Int) : ∀ b ∈ itoa n, wb b = true := by
  intro b hb
  have hne : ∀ k : UInt8, (48 ≤ b.toNat ∧ b.toNat ≤ 57) → (k.toNat < 48 ∨ 57 < k.toNat) → (b != k) = true := by
    intro k h1 h2
    simp only [bne_iff_ne, ne_eq]
    rintro rfl
    omega
  rcases itoa_bytes n b hb with h | rfl
  · unfold wb lb
    rw [hne 10 h (by decide), hne 35 h (by decide), hne 58 h (by decide), hne 32 h (by decide), hne 44 h (by decide)]
    rfl
  · rfl

theorem told_wb (i : Ins) (what : Nat) : (∀ b ∈ toldL i what, wb b = true) ∧ toldL i what ≠ [] := by
  have cons : ∀ n : Int, (∀ b ∈ (120 : UInt8) :: itoa n, wb b = true) ∧ (120 : UInt8) :: itoa n ≠ [] := fun n => ⟨fun b hb => by
    rcases List.mem_cons.1 hb with rfl | h
    · rfl
    · exact itoa_wb n b h, by simp⟩
  unfold toldL
  repeat' split
  all_goals first | exact cons _ | exact ⟨itoa_wb _, itoa_ne _⟩

theorem wb_lb {b : UInt8} (h : wb b = true) : lb b = true := by
  unfold wb at h
  simp only [Bool.and_eq_true] at h
  exact h.1.1

theorem lb_cons {b : UInt8} {r : List UInt8} (h : lb b = true) (hr : ∀ x ∈ r, lb x = true) : ∀ x ∈ b :: r, lb x = true := by
  intro x hx
  rcases List.mem_cons.1 hx with rfl | h'
  · exact h
  · exact hr x h'

def comma : List UInt8 → Bool
  | [] => true
  | b :: r => (b != 44 || r.head? == some 32) && comma r

theorem comma_word : ∀ (w r : List UInt8), (∀ b ∈ w, wb b = true) → comma r = true → comma (w ++ r) = true
  | [], r, _, h => h
  | b :: w, r, hw, h => by
    rw [List.cons_append, comma, comma_word w r (fun x hx => hw x (List.mem_cons_of_mem _ hx)) h, Bool.and_true]
    have := hw b (List.mem_cons_self ..)
    unfold wb at this
    simp only [Bool.and_eq_true] at this
    rw [this.2]; rfl
theorem comma_sep {b : UInt8} {r : List UInt8} (hb : (b != 44) = true) (h : comma r = true) : comma (b :: r) = true := by rw [comma, h, hb]; rfl
theorem comma_comma {r : List UInt8} (h : comma r = true) : comma (44 :: 32 :: r) = true := by rw [comma, comma_sep (by decide) h]; rfl

structure Tl (t : List UInt8) : Prop where
  all : ∀ b ∈ t, lb b = true
  com : comma t = true
  last : t.getLast? ≠ some 32

theorem last_word {w : List UInt8} (hw : ∀ b ∈ w, wb b = true) : w.getLast? ≠ some 32 := by
  intro h
  have hm := hw 32 (List.mem_of_getLast? h)
  exact absurd hm (by decide)

theorem Tl.word {w t : List UInt8} (hw : ∀ b ∈ w, wb b = true) (ht : Tl t) : Tl (w ++ t) := by
  refine ⟨?_, comma_word w t hw ht.com, ?_⟩
  · intro b hb
    rcases List.mem_append.1 hb with h | h
    · exact wb_lb (hw b h)
    · exact ht.all b h
  · rw [List.getLast?_append]
    cases h : t.getLast? with
    | none => simpa using last_word hw
    | some x => simpa using fun e => ht.last (by rw [h, e])
theorem Tl.sep {b : UInt8} {t : List UInt8} (h1 : lb b = true) (h2 : (b != 44) = true) (hne : t ≠ []) (ht : Tl t) : Tl (b :: t) := by
  refine ⟨lb_cons h1 ht.all, comma_sep h2 ht.com, ?_⟩
  cases t with
  | nil => exact absurd rfl hne
  | cons c r => rw [List.getLast?_cons_cons]; exact ht.last
theorem Tl.comma {t : List UInt8} (hne : t ≠ []) (ht : Tl t) : Tl (44 :: 32 :: t) := by
  refine ⟨lb_cons (by decide) (lb_cons (by decide) ht.all), comma_comma ht.com, ?_⟩
  cases t with
  | nil => exact absurd rfl hne
  | cons c r => rw [List.getLast?_cons_cons, List.getLast?_cons_cons]; exact ht.last
theorem Tl.nil : Tl [] := ⟨by simp, rfl, by simp⟩
theorem Tl.close : Tl [41] := ⟨by decide, rfl, by decide⟩

theorem ne_app {w t : List UInt8} (h : w ≠ []) : w ++ t ≠ [] := by
  intro e
  exact h (List.append_eq_nil_iff.1 e).1

theorem line_tl {i : Ins} (h : Fit i) : Tl (lineI i) := by
  unfold lineI
  have nb := (name_wb h).1
  have t := told_wb i
  have w : ∀ k, Tl (toldL i k) := fun k => by have := Tl.word (t k).1 Tl.nil; rwa [List.append_nil] at this
  have f2 : ∀ a b, Tl (fillS sh2 [toldL i a, toldL i b]) := fun a b => by
    show Tl (32 :: (toldL i a ++ 44 :: 32 :: (toldL i b ++ [])))
    rw [List.append_nil]
    exact Tl.sep (by decide) (by decide) (ne_app (t a).2) (Tl.word (t a).1 (Tl.comma (t b).2 (w b)))
  have fM : ∀ a b c, Tl (fillS shM [toldL i a, toldL i b, toldL i c]) := fun a b c => by
    show Tl (32 :: (toldL i a ++ 44 :: 32 :: (toldL i b ++ 40 :: (toldL i c ++ [41]))))
    exact Tl.sep (by decide) (by decide) (ne_app (t a).2) (Tl.word (t a).1 (Tl.comma (ne_app (t b).2) (Tl.word (t b).1 (Tl.sep (by decide) (by decide) (ne_app (t c).2) (Tl.word (t c).1 Tl.close)))))
  have f3 : ∀ a b c, Tl (fillS sh3 [toldL i a, toldL i b, toldL i c]) := fun a b c => by
    show Tl (32 :: (toldL i a ++ 44 :: 32 :: (toldL i b ++ 44 :: 32 :: (toldL i c ++ []))))
    rw [List.append_nil]
    exact Tl.sep (by decide) (by decide) (ne_app (t a).2) (Tl.word (t a).1 (Tl.comma (ne_app (t b).2) (Tl.word (t b).1 (Tl.comma (t c).2 (w c)))))
  have fL : ∀ a b, Tl (fillS shL [toldL i a, toldL i b]) := fun a b => by
    show Tl (32 :: (toldL i a ++ 44 :: 32 :: 40 :: (toldL i b ++ [41])))
    exact Tl.sep (by decide) (by decide) (ne_app (t a).2) (Tl.word (t a).1 (Tl.comma (by simp) (Tl.sep (by decide) (by decide) (ne_app (t b).2) (Tl.word (t b).1 Tl.close))))
  have fA : ∀ a b c, Tl (fillS shA [toldL i a, toldL i b, toldL i c]) := fun a b c => by
    show Tl (32 :: (toldL i a ++ 44 :: 32 :: (toldL i b ++ 44 :: 32 :: 40 :: (toldL i c ++ [41]))))
    exact Tl.sep (by decide) (by decide) (ne_app (t a).2) (Tl.word (t a).1 (Tl.comma (ne_app (t b).2) (Tl.word (t b).1 (Tl.comma (by simp) (Tl.sep (by decide) (by decide) (ne_app (t c).2) (Tl.word (t c).1 Tl.close))))))
  refine Tl.word nb ?_
  rcases formL_cases i.kind with e | e | e | e | e | e | e | e | e | e | e | e | e <;> rw [e] <;> simp only [List.map_cons, List.map_nil]
  · exact f2 _ _
  · exact f2 _ _
  · exact fM _ _ _
  · exact f3 _ _ _
  · exact fM _ _ _
  · exact f3 _ _ _
  · exact f3 _ _ _
  · exact f3 _ _ _
  · exact f3 _ _ _
  · exact fL _ _
  · exact fA _ _ _
  · exact f2 _ _
  · exact Tl.nil

theorem line_head {i : Ins} (h : Fit i) : ∃ c r, lineI i = c :: r ∧ isLow c = true := by
  obtain ⟨c, r, e, hc⟩ := (name_wb h).2
  exact ⟨c, r ++ fillS (formL i.kind).1 ((formL i.kind).2.map (toldL i)), by unfold lineI; rw [e]; rfl, hc⟩

theorem trim_id {c : UInt8} {r : List UInt8} (h0 : (c == 32) = false) (h1 : (c :: r).getLast? ≠ some 32) : trimB (c :: r) 32 = c :: r := by
  have e : trimRightB (c :: r) 32 = c :: r := by
    unfold trimRightB
    obtain ⟨p, x, e⟩ : ∃ p x, c :: r = p ++ [x] := ⟨(c :: r).dropLast, (c :: r).getLast (by simp), (List.dropLast_concat_getLast (by simp)).symm⟩
    rw [e] at h1 ⊢
    rw [List.getLast?_append] at h1
    have hx : (x == 32) = false := by simpa using h1
    rw [List.reverse_append]
    show ((x :: p.reverse).dropWhile (· == 32)).reverse = _
    rw [List.dropWhile_cons, if_neg (by rw [hx]; simp)]
    simp
  unfold trimB
  rw [e]
  unfold trimLeftB
  rw [List.dropWhile_cons, if_neg (by rw [h0]; simp)]

theorem low_ne {c k : UInt8} (h : isLow c = true) (hk : k.toNat < 97) : (c == k) = false := by
  unfold isLow at h
  simp only [Bool.and_eq_true, decide_eq_true_eq] at h
  simp only [beq_eq_false_iff_ne, ne_eq]
  rintro rfl
  omega

structure Ln (l : List UInt8) : Prop where
  feed : ∀ b ∈ l, b ≠ 10
  trim : trimB l 32 = l
  some' : nothingL l = false
  mark : markL l = none
  dot : hasPrefix l [46, 119, 111, 114, 100, 32] = false

theorem ln_of {c : UInt8} {r : List UInt8} (hc : isLow c = true) (h : Tl (c :: r)) : Ln (c :: r) := by
  refine ⟨?_, trim_id (low_ne hc (by decide)) h.last, ?_, ?_, ?_⟩
  · intro b hb e
    subst e
    exact absurd (h.all 10 hb) (by decide)
  · show (false || (some c == some 35)) = false
    rw [Bool.false_or]
    simpa using low_ne hc (k := 35) (by decide)
  · unfold markL
    rw [if_neg]
    rintro ⟨h1, -⟩
    exact absurd (h.all 58 (List.mem_of_getLast? h1)) (by decide)
  · show ([46, 119, 111, 114, 100, 32] : List UInt8).isPrefixOf (c :: r) = false
    have h46 := low_ne hc (k := 46) (by decide)
    have : ((46 : UInt8) == c) = false := by
      simp only [beq_eq_false_iff_ne, ne_eq] at h46 ⊢
      exact fun e => h46 e.symm
    rw [List.isPrefixOf, this]; rfl

theorem line_ln {i : Ins} (h : Fit i) : Ln (lineI i) := by
  obtain ⟨c, r, e, hc⟩ := line_head h
  have := line_tl h
  rw [e] at this ⊢
  exact ln_of hc this

end Go.Proofs.YtjapahcbhjjeiaaGreatDoor.AS

/- Lines of instructions, one below the other: what asm.Assemble makes of them. No program in sight but for the plain models. -/
namespace Go.Proofs.YtjapahcbhjjeiaaGreatDoor.AS
open Go.Lib

def txt (l : List Ins) : List UInt8 := l.flatMap fun i => lineI i ++ [10]
def codeL (l : List Ins) : List Int := l.flatMap fun i => le4 (encL i)

theorem txt_append (a b : List Ins) : txt (a ++ b) = txt a ++ txt b := by unfold txt; rw [List.flatMap_append]
theorem txt_snoc (a : List Ins) (i : Ins) : txt (a ++ [i]) = txt a ++ lineI i ++ [10] := by rw [txt_append]; simp [txt]
theorem codeL_append (a b : List Ins) : codeL (a ++ b) = codeL a ++ codeL b := by unfold codeL; rw [List.flatMap_append]
theorem codeL_len : ∀ (a : List Ins), (codeL a).length = 4 * a.length
  | [] => rfl
  | i :: r => by
    have := codeL_len r
    show (le4 (encL i) ++ codeL r).length = _
    rw [List.length_append, this, show (le4 (encL i)).length = 4 from rfl, List.length_cons]
    omega

theorem feed_cut {l : List UInt8} (h : Ln l) (u : List UInt8) : linesB (l ++ 10 :: u) = l :: linesB u := by
  rw [linesB_cut (l := l ++ 10 :: u) (p := l) (q := u) rfl h.feed, h.trim]

theorem linesB_txt : ∀ (l : List Ins), (∀ i ∈ l, Fit i) → ∀ u, linesB (txt l ++ u) = l.map lineI ++ linesB u
  | [], _, u => rfl
  | i :: r, h, u => by
    have ih := linesB_txt r (fun x hx => h x (List.mem_cons_of_mem _ hx)) u
    show linesB ((lineI i ++ [10] ++ txt r) ++ u) = _
    rw [List.append_assoc, List.append_assoc, List.singleton_append, feed_cut (line_ln (h i (List.mem_cons_self ..))), ih]
    rfl
theorem here_none {l : List UInt8} (h : markL l = none) (ps : List Mk) (i : Nat) : isHere ps l i = false := by unfold isHere; rw [h]

theorem inst_line {i : Ins} (h : mayL i = true) (ps : List Mk) (at_ : Nat) : instL ps at_ (lineI i) = some (encL i) := by
  unfold instL
  rw [parseL_line mayL_fit h]

theorem go_lines (ps : List Mk) : ∀ (l : List Ins), (∀ i ∈ l, mayL i = true) → ∀ (b : List Int) (k : Nat) (r : List (List UInt8)), b.length + 4 * l.length ≤ 65536 →
    asmGo (instL ps) ps b k (l.map lineI ++ r) = asmGo (instL ps) ps (b ++ codeL l) (k + l.length) r
  | [], _, b, k, r, _ => by simp [codeL]
  | i :: l, h, b, k, r, hb => by
    have hi := h i (List.mem_cons_self ..)
    have hl := line_ln (mayL_fit i hi)
    simp only [List.length_cons] at hb
    rw [List.map_cons, List.cons_append, asmGo, if_neg (by rw [hl.some']; simp), if_neg (by rw [here_none hl.mark]; simp)]
    rw [inst_line hi]
    dsimp only
    rw [if_neg (by omega), go_lines ps l (fun x hx => h x (List.mem_cons_of_mem _ hx)) (b ++ le4 (encL i)) (k + 1) r (by rw [List.length_append, show (le4 (encL i)).length = 4 from rfl]; omega)]
    have e1 : b ++ le4 (encL i) ++ codeL l = b ++ codeL (i :: l) := by rw [List.append_assoc]; rfl
    have e2 : k + 1 + l.length = k + (i :: l).length := by rw [List.length_cons]; omega
    rw [e1, e2]
end Go.Proofs.YtjapahcbhjjeiaaGreatDoor.AS

/- The plain model of the document's reading of a line: its name, its numbers; what they could be. No program in sight. -/
namespace Go.Proofs.YtjapahcbhjjeiaaGreatDoor.AS
open Go.Lib
set_option linter.unusedVariables false
set_option linter.unusedSimpArgs false

def digB (b : UInt8) : Bool := decide (48 ≤ b.toNat) && decide (b.toNat ≤ 57)
def valGo (v : Int) : List UInt8 → Int
  | [] => v
  | b :: r => valGo (if v < 1099511627776 then 10 * v + (b.toNat - 48) else v) r
def numsGo : Nat → Bool → List UInt8 → List Int
  | 0, _, _ => []
  | k + 1, m, [] => []
  | k + 1, m, b :: r =>
    if digB b = true then (if m = true then -1 else 1) * valGo 0 ((b :: r).takeWhile digB) :: numsGo k false ((b :: r).dropWhile digB)
    else numsGo k (b == 45) r

theorem valGo_app (a b : List UInt8) (v : Int) : valGo v (a ++ b) = valGo (valGo v a) b := by
  induction a generalizing v with
  | nil => rfl
  | cons x a ih => simp only [List.cons_append, valGo]; exact ih _
theorem val_digits (u : Nat) (hu : u < 1099511627776) : valGo 0 (decDigits u) = u := by
  induction u using Nat.strongRecOn with
  | _ u ih =>
    by_cases h : u < 10
    · rw [decDigits_small h]
      have e : (UInt8.ofNat (48 + u)).toNat = 48 + u := by rw [UInt8.toNat_ofNat']; omega
      simp only [valGo, e]
      rw [if_pos (by decide)]
      omega
    · rw [decDigits_big h, valGo_app, ih (u / 10) (by omega) (by omega)]
      have e : (UInt8.ofNat (48 + u % 10)).toNat = 48 + u % 10 := by rw [UInt8.toNat_ofNat']; omega
      simp only [valGo, e]
      rw [if_pos (by omega)]
      omega
theorem digB_dig {b : UInt8} (h : isDig b) : digB b = true := by
  unfold isDig at h
  simp [digB, h.1, h.2]

theorem nums_fuel : ∀ (n : Nat) (l : List UInt8) (m : Bool) (k k' : Nat), l.length ≤ n → l.length < k → l.length < k' → numsGo k m l = numsGo k' m l
  | n, [], m, k, k', _, h1, h2 => by
    obtain ⟨a, rfl⟩ : ∃ a, k = a + 1 := ⟨k - 1, by simp at h1; omega⟩
    obtain ⟨b, rfl⟩ : ∃ b, k' = b + 1 := ⟨k' - 1, by simp at h2; omega⟩
    rfl
  | 0, b :: r, _, _, _, h, _, _ => by simp at h
  | n + 1, b :: r, m, k, k', h, h1, h2 => by
    obtain ⟨x, rfl⟩ : ∃ a, k = a + 1 := ⟨k - 1, by simp at h1; omega⟩
    obtain ⟨y, rfl⟩ : ∃ b, k' = b + 1 := ⟨k' - 1, by simp at h2; omega⟩
    simp only [List.length_cons] at h h1 h2
    simp only [numsGo]
    by_cases d : digB b = true
    · rw [if_pos d, if_pos d]
      have hd : ((b :: r).dropWhile digB).length ≤ r.length := by
        rw [List.dropWhile_cons_of_pos d]
        exact (List.dropWhile_sublist digB).length_le
      rw [nums_fuel n _ false x y (by omega) (by omega) (by omega)]
    · rw [if_neg d, if_neg d]
      exact nums_fuel n r _ x y (by omega) (by omega) (by omega)
def numsL (m : Bool) (l : List UInt8) : List Int := numsGo (l.length + 1) m l
theorem numsL_nil (m : Bool) : numsL m [] = [] := rfl
theorem numsL_non (m : Bool) {b : UInt8} (h : digB b = false) (r : List UInt8) : numsL m (b :: r) = numsL (b == 45) r := by
  unfold numsL
  rw [List.length_cons, numsGo, if_neg (by simp [h])]
theorem span_digits : ∀ (ds rest : List UInt8), (∀ b ∈ ds, digB b = true) → (∀ b r, rest = b :: r → digB b = false) → (ds ++ rest).takeWhile digB = ds ∧ (ds ++ rest).dropWhile digB = rest
  | [], [], _, _ => ⟨rfl, rfl⟩
  | [], b :: r, _, h => by
    have := h b r rfl
    exact ⟨by simp [List.takeWhile_cons, this], by simp [List.dropWhile_cons, this]⟩
  | d :: ds, rest, h1, h2 => by
    have hd := h1 d (List.mem_cons_self ..)
    obtain ⟨e1, e2⟩ := span_digits ds rest (fun b hb => h1 b (List.mem_cons_of_mem _ hb)) h2
    exact ⟨by rw [List.cons_append, List.takeWhile_cons_of_pos hd, e1], by rw [List.cons_append, List.dropWhile_cons_of_pos hd, e2]⟩
theorem numsL_dig (m : Bool) {ds rest : List UInt8} (hn : ds ≠ []) (h1 : ∀ b ∈ ds, digB b = true) (h2 : ∀ b r, rest = b :: r → digB b = false) : numsL m (ds ++ rest) = (if m = true then -1 else 1) * valGo 0 ds :: numsL false rest := by
  obtain ⟨e1, e2⟩ := span_digits ds rest h1 h2
  cases ds with
  | nil => exact absurd rfl hn
  | cons d ds =>
    unfold numsL
    rw [List.cons_append] at e1 e2 ⊢
    rw [List.length_cons, numsGo, if_pos (h1 d (List.mem_cons_self ..)), e1, e2]
    congr 1
    exact nums_fuel rest.length rest false _ _ (Nat.le_refl _) (by rw [List.length_append]; omega) (Nat.lt_succ_self _)
theorem non45 : digB 45 = false := by decide
theorem numsL_itoa {v : Int} (h0 : -1099511627776 < v) (h1 : v < 1099511627776) {rest : List UInt8} (h2 : ∀ b r, rest = b :: r → digB b = false) : numsL false (itoa v ++ rest) = v :: numsL false rest := by
  unfold itoa
  by_cases c : v < 0
  · rw [if_pos c, List.cons_append, numsL_non _ non45, numsL_dig _ (decDigits_ne _) (fun b hb => digB_dig (decDigits_dig _ b hb)) h2, val_digits _ (by omega)]
    congr 1
    simp only [beq_self_eq_true, if_true]
    omega
  · rw [if_neg c, numsL_dig _ (decDigits_ne _) (fun b hb => digB_dig (decDigits_dig _ b hb)) h2, val_digits _ (by omega)]
    congr 1
    simp only [Bool.false_eq_true, if_false]
    omega

end Go.Proofs.YtjapahcbhjjeiaaGreatDoor.AS

/- The document's numbers of an instruction's line are its arguments. No program in sight. -/
namespace Go.Proofs.YtjapahcbhjjeiaaGreatDoor.AS
open Go.Lib
set_option linter.unusedVariables false
set_option linter.unusedSimpArgs false
set_option maxRecDepth 100000

def valA (i : Ins) (k : Nat) : Int := if k = 0 then i.rd else if k = 1 then i.rs1 else if k = 2 then i.rs2 else if k = 4 then i.imm.tdiv 4096 else if k = 5 then i.rs1 else i.imm
theorem numsL_told {i : Ins} (h : Fit i) (k : Nat) {rest : List UInt8} (h2 : ∀ b r, rest = b :: r → digB b = false) : numsL false (toldL i k ++ rest) = valA i k :: numsL false rest := by
  have b0 := h.rdr; have b1 := h.rs1r; have b2 := h.rs2r; have b3 := h.lo; have b4 := h.hi
  have ht : -1099511627776 < i.imm.tdiv 4096 ∧ i.imm.tdiv 4096 < 1099511627776 := by
    rw [Int.tdiv_eq_ediv, show Int.sign 4096 = 1 from rfl]
    split <;> omega
  have R : ∀ v : Int, -1099511627776 < v → v < 1099511627776 → numsL false (120 :: itoa v ++ rest) = v :: numsL false rest := fun v h0 h1 => by
    rw [List.cons_append, numsL_non _ (by decide)]
    exact numsL_itoa h0 h1 h2
  unfold toldL valA
  repeat' split
  all_goals first | exact R _ (by omega) (by omega) | exact numsL_itoa (by omega) (by omega) h2
theorem nd {c : UInt8} {r0 : List UInt8} (h : digB c = false) : ∀ b r, c :: r0 = b :: r → digB b = false := fun b r e => by injection e with e; rw [← e]; exact h
theorem nd0 : ∀ (b : UInt8) (r : List UInt8), ([] : List UInt8) = b :: r → digB b = false := fun b r e => by cases e
theorem nums_fill {i : Ins} (h : Fit i) : numsL false (fillS (formL i.kind).1 ((formL i.kind).2.map (toldL i))) = (formL i.kind).2.map (valA i) := by
  have T := fun k (rest : List UInt8) (h2 : ∀ b r, rest = b :: r → digB b = false) => numsL_told h k h2
  have N : ∀ k, numsL false (toldL i k) = [valA i k] := fun k => by
    have := T k [] nd0
    rw [List.append_nil, numsL_nil] at this
    exact this
  have c32 : digB 32 = false := by decide
  have c44 : digB 44 = false := by decide
  have c40 : digB 40 = false := by decide
  have c41 : digB 41 = false := by decide
  have e32 : ((32 : UInt8) == 45) = false := by decide
  have e44 : ((44 : UInt8) == 45) = false := by decide
  have e40 : ((40 : UInt8) == 45) = false := by decide
  have e41 : ((41 : UInt8) == 45) = false := by decide
  rcases formL_cases i.kind with e | e | e | e | e | e | e | e | e | e | e | e | e <;> rw [e]
  all_goals
    simp only [fillS, sh2, sh3, shM, shL, shA, List.map_cons, List.map_nil, List.append_nil, eq_false (show ¬ (32 : UInt8) = 37 by decide), eq_false (show ¬ (44 : UInt8) = 37 by decide), eq_false (show ¬ (40 : UInt8) = 37 by decide), eq_false (show ¬ (41 : UInt8) = 37 by decide), if_true, if_false]
    repeat (first
      | rw [numsL_non _ c32, e32]
      | rw [numsL_non _ c44, e44]
      | rw [numsL_non _ c40, e40]
      | rw [numsL_non _ c41, e41]
      | rw [T _ _ (nd c44)]
      | rw [T _ _ (nd c40)]
      | rw [T _ _ (nd c41)]
      | rw [N]
      | rw [numsL_nil]
      | rfl)

end Go.Proofs.YtjapahcbhjjeiaaGreatDoor.AS

/- The document's reading of a line's name and numbers. No program in sight. -/
namespace Go.Proofs.YtjapahcbhjjeiaaGreatDoor.AS
open Go.Lib
set_option linter.unusedVariables false
set_option linter.unusedSimpArgs false
set_option maxRecDepth 100000

def numbersR (l : List UInt8) : List UInt8 × List Int :=
  if 32 ∈ l then (l.takeWhile (fun b => b != 32), numsL false (l.dropWhile (fun b => b != 32))) else (l, numsL false l)
theorem numsL_none : ∀ (l : List UInt8) (m : Bool), (l.all fun b => !digB b) = true → numsL m l = []
  | [], m, _ => rfl
  | b :: r, m, h => by
    simp only [List.all_cons, Bool.and_eq_true, Bool.not_eq_true'] at h
    rw [numsL_non m h.1]
    exact numsL_none r _ h.2
theorem bare_ok : (heads.all fun h => decide ((formL h.1).1 ≠ []) || (nameH h).all fun b => !digB b) = true := by decide +kernel
theorem fill_head {k : Int} (l : List (List UInt8)) (h : (formL k).1 ≠ []) : ∃ r, fillS (formL k).1 l = 32 :: r := by
  rcases formL_cases k with e | e | e | e | e | e | e | e | e | e | e | e | e <;> rw [e] at h ⊢
  all_goals first
    | exact absurd rfl h
    | (cases l <;> exact ⟨_, rfl⟩)
theorem numbers_line {i : Ins} (h : Fit i) : numbersR (lineI i) = (nameI i, (formL i.kind).2.map (valA i)) := by
  have hn := okW_name h
  have n32 : ∀ b ∈ nameI i, (b != 32) = true := fun b hb => by
    have := hn.1 b hb
    simp only [isSep, Bool.or_eq_false_iff] at this
    simpa using this.1.1.1
  have hf := nums_fill h
  unfold numbersR lineI
  by_cases c : (formL i.kind).1 = []
  · have hb := List.all_eq_true.1 bare_ok _ h.head
    simp only [Bool.or_eq_true, decide_eq_true_eq] at hb
    have hb : ((nameI i).all fun b => !digB b) = true := hb.resolve_left (fun g => g c)
    rw [c] at hf ⊢
    rw [← hf]
    have e : fillS [] ((formL i.kind).2.map (toldL i)) = [] := by cases (formL i.kind).2.map (toldL i) <;> rfl
    rw [e, List.append_nil]
    rw [if_neg (fun hm => by have := n32 32 hm; simp at this), numsL_none _ _ hb]
    rfl
  · obtain ⟨r, hr⟩ := fill_head ((formL i.kind).2.map (toldL i)) c
    rw [hr] at hf ⊢
    rw [if_pos (by simp), ← hf]
    have T : ∀ (l : List UInt8), (∀ b ∈ l, (b != 32) = true) → (l ++ 32 :: r).takeWhile (fun b => b != 32) = l ∧ (l ++ 32 :: r).dropWhile (fun b => b != 32) = 32 :: r := by
      intro l
      induction l with
      | nil => intro _; exact ⟨by simp [List.takeWhile_cons], by simp [List.dropWhile_cons]⟩
      | cons x l ih =>
        intro hl
        obtain ⟨e1, e2⟩ := ih (fun b hb => hl b (List.mem_cons_of_mem _ hb))
        have hx := hl x (List.mem_cons_self ..)
        exact ⟨by rw [List.cons_append, List.takeWhile_cons, if_pos hx, e1], by rw [List.cons_append, List.dropWhile_cons, if_pos hx, e2]⟩
    obtain ⟨e1, e2⟩ := T (nameI i) n32
    rw [e1, e2]

end Go.Proofs.YtjapahcbhjjeiaaGreatDoor.AS

/- AsmMarks: what its text is put together to. No program in sight but for the plain models. -/
namespace Go.Proofs.YtjapahcbhjjeiaaGreatDoor.AS
open Go.Lib
set_option linter.unusedVariables false
set_option linter.unusedSimpArgs false
set_option maxRecDepth 100000

def fenI : Ins := ⟨10, 0, 0, 0, 0, 0, 0, false⟩
def ecaI : Ins := ⟨11, 0, 0, 0, 0, 0, 0, false⟩
def wfiI : Ins := ⟨19, 0, 0, 0, 0, 0, 0, false⟩
theorem may_fen : mayL fenI = true := by decide +kernel
theorem may_eca : mayL ecaI = true := by decide +kernel
theorem may_wfi : mayL wfiI = true := by decide +kernel
theorem line_fen : lineI fenI = [102, 101, 110, 99, 101] := by decide +kernel
theorem line_eca : lineI ecaI = [101, 99, 97, 108, 108] := by decide +kernel
theorem line_wfi : lineI wfiI = [119, 102, 105] := by decide +kernel
def backB : List UInt8 := [98, 97, 99, 107]
def onB : List UInt8 := [111, 110]
def brI (f a c imm : Int) : Ins := ⟨5, f + 1, 0, a, c, imm, 0, false⟩
def opL (f a c : Int) : List UInt8 := nameH (5, f + 1, 0, false) ++ 32 :: 120 :: (itoa a ++ 44 :: 32 :: 120 :: (itoa c ++ [44, 32]))
theorem line_br (f a c imm : Int) : lineI (brI f a c imm) = opL f a c ++ itoa imm := by
  have e : lineI (brI f a c imm) = nameH (5, f + 1, 0, false) ++ fillS (formL 5).1 ((formL 5).2.map (toldL (brI f a c imm))) := rfl
  rw [e]
  simp [formL, fillS, sh3, toldL, opL, brI]

theorem br_can {f a c imm : Int} (f0 : 0 ≤ f) (f1 : f < 6) (a0 : 0 ≤ a) (a1 : a < 32) (c0 : 0 ≤ c) (c1 : c < 32) (i0 : -4096 ≤ imm) (i1 : imm < 4096) (i2 : imm % 2 = 0) : mayL (brI f a c imm) = true ∧ 0 ≤ encL (brI f a c imm) ∧ encL (brI f a c imm) < 4294967296 := by
  obtain ⟨u, hu⟩ : ∃ u : Nat, (u : Int) = imm % 8192 := ⟨(imm % 8192).toNat, by omega⟩
  obtain ⟨x, rfl⟩ : ∃ x : Nat, a = (x : Int) := ⟨a.toNat, by omega⟩
  obtain ⟨y, rfl⟩ : ∃ x : Nat, c = (x : Int) := ⟨c.toNat, by omega⟩
  obtain ⟨g, hg⟩ : ∃ g : Nat, g = (if f < 2 then f.toNat else f.toNat + 2) := ⟨_, rfl⟩
  have hg8 : g < 8 := by rw [hg]; split <;> omega
  obtain ⟨p, q, r, t, hp2, hq2, hr2, ht2, hu2⟩ : ∃ p q r t : Nat, p < 2 ∧ q < 2 ∧ r < 64 ∧ t < 16 ∧ u = p * 4096 + q * 2048 + r * 32 + t * 2 := ⟨u / 4096, u / 2048 % 2, u / 32 % 64, u / 2 % 16, by omega, by omega, by omega, by omega, by omega⟩
  obtain ⟨k, hk⟩ : ∃ k : Nat, k = p * 2147483648 + r * 33554432 + y * 1048576 + x * 32768 + g * 4096 + t * 256 + q * 128 + 99 := ⟨_, rfl⟩
  have hk32 : k < 4294967296 := by omega
  have ho : opW k = 99 := by unfold opW fl; omega
  have h3 : f3W k = (g : Int) := by unfold f3W fl; clear hg hu hu2; omega
  have h1 : rs1W k = (x : Int) := by unfold rs1W fl; clear hg hu hu2; omega
  have h2 : rs2W k = (y : Int) := by unfold rs2W fl; clear hg hu hu2; omega
  have hb : bW k = imm := by
    have q1 : fl k 31 31 = (p : Int) := by unfold fl; clear hg hu hu2; omega
    have q2 : fl k 7 7 = (q : Int) := by unfold fl; clear hg hu hu2; omega
    have q3 : fl k 30 25 = (r : Int) := by unfold fl; clear hg hu hu2; omega
    have q4 : fl k 11 8 = (t : Int) := by unfold fl; clear hg hu hu2; omega
    unfold bW sx
    rw [q1, q2, q3, q4]
    clear hk hg
    omega
  have hp : pickL branchesL (f3W k) = f + 1 := by
    rw [h3, hg]
    have : f = 0 ∨ f = 1 ∨ f = 2 ∨ f = 3 ∨ f = 4 ∨ f = 5 := by omega
    rcases this with rfl | rfl | rfl | rfl | rfl | rfl <;> decide
  have hn : pickL branchesL (f3W k) ≠ 0 := by rw [hp]; omega
  have hc := can5 hk32 ho hn
  have hd : decodeL (k : Int) = some ⟨5, pickL branchesL (f3W k), 0, rs1W k, rs2W k, bW k, 0, false⟩ := by
    unfold decodeL rowL plainL
    rw [ho]
    simp [hn]
  rw [hp, h1, h2, hb] at hc hd
  have he : encL (brI f x y imm) = (k : Int) := hc.1.eq
  refine ⟨?_, by rw [he]; omega, by rw [he]; omega⟩
  unfold mayL
  rw [he, hd]
  exact decide_eq_true rfl

theorem br_names : (heads.all fun h => [(1 : Int), 2, 3, 4, 5, 6].all fun f => decide (nameH h = nameH (5, f, 0, false) → h.1 = 5)) = true := by decide +kernel
theorem br_word : ([(1 : Int), 2, 3, 4, 5, 6].all fun f => (nameH (5, f, 0, false)).all (fun b => wb b && (b != 32)) && (match nameH (5, f, 0, false) with | [] => false | c :: _ => isLow c)) = true := by decide +kernel
theorem f_mem {f : Int} (f0 : 0 ≤ f) (f1 : f < 6) : f + 1 ∈ [(1 : Int), 2, 3, 4, 5, 6] := by
  have : f = 0 ∨ f = 1 ∨ f = 2 ∨ f = 3 ∨ f = 4 ∨ f = 5 := by omega
  rcases this with rfl | rfl | rfl | rfl | rfl | rfl <;> decide
theorem bad_op {f a c : Int} (f0 : 0 ≤ f) (f1 : f < 6) (a0 : 0 ≤ a) (a1 : a < 32) (c0 : 0 ≤ c) (c1 : c < 32) {t : List UInt8} (ht : (t.all fun b => !digB b) = true) : parseL mayL (opL f a c ++ t) = none := by
  cases h : parseL mayL (opL f a c ++ t) with
  | none => rfl
  | some i =>
    exfalso
    obtain ⟨h1, h2⟩ := parseL_some h
    have hf := mayL_fit i h1
    have hn := numbers_line hf
    have hw := List.all_eq_true.1 br_word _ (f_mem f0 f1)
    simp only [Bool.and_eq_true] at hw
    have hw := List.all_eq_true.1 hw.1
    have n32 : ∀ b ∈ nameH (5, f + 1, 0, false), (b != 32) = true := fun b hb => by
      have := hw b hb
      simp only [Bool.and_eq_true] at this
      exact this.2
    have T : ∀ (l r : List UInt8), (∀ b ∈ l, (b != 32) = true) → (l ++ 32 :: r).takeWhile (fun b => b != 32) = l ∧ (l ++ 32 :: r).dropWhile (fun b => b != 32) = 32 :: r := by
      intro l r
      induction l with
      | nil => intro _; exact ⟨by simp [List.takeWhile_cons], by simp [List.dropWhile_cons]⟩
      | cons x l ih =>
        intro hl
        obtain ⟨e1, e2⟩ := ih (fun b hb => hl b (List.mem_cons_of_mem _ hb))
        have hx := hl x (List.mem_cons_self ..)
        exact ⟨by rw [List.cons_append, List.takeWhile_cons, if_pos hx, e1], by rw [List.cons_append, List.dropWhile_cons, if_pos hx, e2]⟩
    have c32 : digB 32 = false := by decide
    have c44 : digB 44 = false := by decide
    have c120 : digB 120 = false := by decide
    have e32 : ((32 : UInt8) == 45) = false := by decide
    have e44 : ((44 : UInt8) == 45) = false := by decide
    have e120 : ((120 : UInt8) == 45) = false := by decide
    have hN : numbersR (opL f a c ++ t) = (nameH (5, f + 1, 0, false), [a, c]) := by
      have e : opL f a c ++ t = nameH (5, f + 1, 0, false) ++ 32 :: (120 :: (itoa a ++ 44 :: 32 :: 120 :: (itoa c ++ 44 :: 32 :: t))) := by simp [opL]
      unfold numbersR
      rw [e, if_pos (by simp), (T _ _ n32).1, (T _ _ n32).2, numsL_non _ c32, e32, numsL_non _ c120, e120, numsL_itoa (by omega) (by omega) (nd c44), numsL_non _ c44, e44, numsL_non _ c32, e32, numsL_non _ c120, e120, numsL_itoa (by omega) (by omega) (nd c44), numsL_non _ c44, e44, numsL_non _ c32, e32, numsL_none _ _ ht]
    rw [h2, hN] at hn
    injection hn with g1 g2
    have hk := List.all_eq_true.1 br_names _ hf.head
    have hk := List.all_eq_true.1 hk _ (f_mem f0 f1)
    have hk := of_decide_eq_true hk g1.symm
    have hk : i.kind = 5 := hk
    have := congrArg List.length g2
    rw [hk] at this
    simp [formL] at this

theorem lastL_at (p m : List UInt8) (hm : ∀ b ∈ m, b ≠ 32) : lastL (p ++ 32 :: m) = p.length + 1 := by
  have G : ∀ j : Nat, ((bB (p ++ 32 :: m)).data[j]!) = (p ++ 32 :: m)[j]! := fun j => by simp [bB]
  have at0 : (p ++ 32 :: m)[p.length]! = 32 := by simp
  have hsz : (bB (p ++ 32 :: m)).size = p.length + (m.length + 1) := by rw [bB_size]; simp
  unfold lastL
  rcases lastIndexByte_spec (bB (p ++ 32 :: m)) 32 with ⟨_, h⟩ | ⟨i, hi, h, hc, hn⟩
  · have := h p.length (by omega)
    rw [G, at0] at this
    exact absurd rfl this
  · rw [h]
    rw [G] at hc
    rcases Nat.lt_trichotomy i p.length with hlt | heq | hgt
    · have := hn p.length hlt (by omega)
      rw [G, at0] at this
      exact absurd rfl this
    · omega
    · exfalso
      obtain ⟨d, rfl⟩ : ∃ d, i = p.length + 1 + d := ⟨i - (p.length + 1), by omega⟩
      have hd : d < m.length := by omega
      have e : (p ++ 32 :: m)[p.length + 1 + d]! = m[d] := by
        rw [getElem!_pos _ _ (by simp; omega), List.getElem_append_right (by omega)]
        have : p.length + 1 + d - p.length = d + 1 := by omega
        simp [this]
      rw [e] at hc
      exact hm _ (List.getElem_mem hd) (UInt8.toNat_inj.1 (by show m[d].toNat = 32; omega))
theorem inst_mark {ps : List Mk} {at_ pl ln : Nat} {f a c : Int} {m : List UInt8} (f0 : 0 ≤ f) (f1 : f < 6) (a0 : 0 ≤ a) (a1 : a < 32) (c0 : 0 ≤ c) (c1 : c < 32) (ht : (m.all fun b => !digB b && (b != 32)) = true) (hf : ps.find? (fun x => x.1 == m) = some (m, pl, ln)) (i0 : -4096 ≤ (pl : Int) - at_) (i1 : (pl : Int) - at_ < 4096) (i2 : ((pl : Int) - at_) % 2 = 0) :
    instL ps at_ (opL f a c ++ m) = some (encL (brI f a c ((pl : Int) - at_))) := by
  have hd : (m.all fun b => !digB b) = true := List.all_eq_true.2 fun b hb => by have := List.all_eq_true.1 ht b hb; simp only [Bool.and_eq_true] at this; exact this.1
  have h32 : ∀ b ∈ m, b ≠ 32 := fun b hb => by have := List.all_eq_true.1 ht b hb; simp only [Bool.and_eq_true] at this; simpa using this.2
  obtain ⟨p, hp⟩ : ∃ p, opL f a c = p ++ [32] := ⟨nameH (5, f + 1, 0, false) ++ 32 :: 120 :: (itoa a ++ 44 :: 32 :: 120 :: (itoa c ++ [44])), by simp [opL]⟩
  have hl : lastL (opL f a c ++ m) = (opL f a c).length := by
    rw [hp, List.append_assoc, List.singleton_append, lastL_at p m h32]; simp
  unfold instL
  rw [bad_op f0 f1 a0 a1 c0 c1 hd, hl]
  simp only [List.drop_left, hf, List.take_left]
  rw [if_neg (by rw [hp]; simp), ← line_br, parseL_line mayL_fit (br_can f0 f1 a0 a1 c0 c1 i0 i1 i2).1]
  rfl

end Go.Proofs.YtjapahcbhjjeiaaGreatDoor.AS

/- AsmMarks: its text's lines, marks and bytes. No program in sight but for the plain models. -/
namespace Go.Proofs.YtjapahcbhjjeiaaGreatDoor.AS
open Go.Lib
set_option linter.unusedVariables false
set_option linter.unusedSimpArgs false
set_option maxRecDepth 100000

def tail2 (k : Nat) : List UInt8 := txt (List.replicate k ecaI) ++ [111, 110, 58, 10, 119, 102, 105]
def tail1 (op : List UInt8) (k : Nat) : List UInt8 := 32 :: 32 :: (op ++ onB ++ [32, 32]) ++ 10 :: ([35, 32, 119, 111, 114, 100, 115] ++ 10 :: ([] ++ 10 :: (op ++ backB ++ 10 :: tail2 k)))
def marksT (n k : Nat) (op : List UInt8) : List UInt8 := [98, 97, 99, 107, 58] ++ 10 :: (txt (List.replicate n fenI) ++ tail1 op k)
def marksL (n k : Nat) (op : List UInt8) : List (List UInt8) := [98, 97, 99, 107, 58] :: ((List.replicate n fenI).map lineI ++ (op ++ onB) :: [35, 32, 119, 111, 114, 100, 115] :: [] :: (op ++ backB) :: ((List.replicate k ecaI).map lineI ++ [[111, 110, 58], [119, 102, 105]]))

theorem op_ln {f a c : Int} (f0 : 0 ≤ f) (f1 : f < 6) {m : List UInt8} (hm : ∀ b ∈ m, wb b = true) (hne : m ≠ []) : Ln (opL f a c ++ m) ∧ ∃ x r, opL f a c ++ m = x :: r ∧ isLow x = true := by
  have hw := List.all_eq_true.1 br_word _ (f_mem f0 f1)
  simp only [Bool.and_eq_true] at hw
  obtain ⟨hw, hl⟩ := hw
  have W : ∀ b ∈ nameH (5, f + 1, 0, false), wb b = true := fun b hb => by
    have := List.all_eq_true.1 hw b hb
    simp only [Bool.and_eq_true] at this
    exact this.1
  have R : ∀ z : Int, ∀ b ∈ 120 :: itoa z, wb b = true := fun z b hb => by
    rcases List.mem_cons.1 hb with rfl | h
    · decide
    · exact itoa_wb z b h
  have e : opL f a c ++ m = nameH (5, f + 1, 0, false) ++ 32 :: ((120 :: itoa a) ++ 44 :: 32 :: ((120 :: itoa c) ++ 44 :: 32 :: m)) := by simp [opL]
  have ht : Tl (opL f a c ++ m) := by
    rw [e]
    refine Tl.word W (Tl.sep (by decide) (by decide) (by simp) (Tl.word (R a) (Tl.comma (by simp) (Tl.word (R c) (Tl.comma hne ?_)))))
    have := Tl.word hm Tl.nil
    rwa [List.append_nil] at this
  cases hn : nameH (5, f + 1, 0, false) with
  | nil => rw [hn] at hl; cases hl
  | cons x r =>
    rw [hn] at hl e
    rw [e] at ht ⊢
    exact ⟨ln_of hl ht, x, _, rfl, hl⟩

theorem trim_pad {x : UInt8} {r : List UInt8} (h0 : (x == 32) = false) (h1 : (x :: r).getLast? ≠ some 32) : trimB (32 :: 32 :: (x :: r ++ [32, 32])) 32 = x :: r := by
  obtain ⟨p, z, e⟩ : ∃ p z, x :: r = p ++ [z] := ⟨(x :: r).dropLast, (x :: r).getLast (by simp), (List.dropLast_concat_getLast (by simp)).symm⟩
  have hz : (z == 32) = false := by
    rw [e, List.getLast?_append] at h1
    simpa using h1
  have e1 : trimRightB (32 :: 32 :: (x :: r ++ [32, 32])) 32 = 32 :: 32 :: (x :: r) := by
    rw [e]
    have hz' : z ≠ 32 := by simpa using hz
    unfold trimRightB
    simp [List.dropWhile_cons, hz']
  unfold trimB
  rw [e1]
  unfold trimLeftB
  rw [List.dropWhile_cons, if_pos (by decide), List.dropWhile_cons, if_pos (by decide), List.dropWhile_cons, if_neg (by rw [h0]; simp)]

theorem fit_fen : Fit fenI := mayL_fit _ may_fen
theorem fit_eca : Fit ecaI := mayL_fit _ may_eca
theorem on_wb : ∀ b ∈ onB, wb b = true := by decide
theorem back_wb : ∀ b ∈ backB, wb b = true := by decide
theorem marks_lines {f a c : Int} (f0 : 0 ≤ f) (f1 : f < 6) (n k : Nat) : linesB (marksT n k (opL f a c)) = marksL n k (opL f a c) := by
  obtain ⟨l1, x, r, ex, hx⟩ := op_ln (a := a) (c := c) f0 f1 on_wb (by decide)
  obtain ⟨l2, _⟩ := op_ln (a := a) (c := c) f0 f1 back_wb (by decide)
  have hlast : (x :: r).getLast? ≠ some 32 := by
    rw [← ex]
    intro h
    rw [List.getLast?_append] at h
    simp [onB] at h
  have t1 : trimB (32 :: 32 :: (opL f a c ++ onB ++ [32, 32])) 32 = opL f a c ++ onB := by
    rw [ex]
    exact trim_pad (low_ne hx (by decide)) hlast
  have n1 : ∀ b ∈ 32 :: 32 :: (opL f a c ++ onB ++ [32, 32]), b ≠ 10 := by
    intro b hb
    simp only [List.mem_cons, List.mem_append, List.not_mem_nil, or_false] at hb
    rcases hb with rfl | rfl | h | rfl | rfl
    · decide
    · decide
    · exact l1.feed b (List.mem_append.2 h)
    · decide
    · decide
  have t0 : trimB [98, 97, 99, 107, 58] 32 = [98, 97, 99, 107, 58] := by decide +kernel
  have t2 : trimB [35, 32, 119, 111, 114, 100, 115] 32 = [35, 32, 119, 111, 114, 100, 115] := by decide +kernel
  have t3 : trimB [] 32 = [] := by decide +kernel
  have t4 : linesB [111, 110, 58, 10, 119, 102, 105] = [[111, 110, 58], [119, 102, 105]] := by decide +kernel
  unfold marksT marksL
  rw [linesB_cut (p := [98, 97, 99, 107, 58]) rfl (by decide), t0, linesB_txt _ (fun i hi => by rw [(List.mem_replicate.1 hi).2]; exact fit_fen)]
  unfold tail1
  rw [linesB_cut (p := 32 :: 32 :: (opL f a c ++ onB ++ [32, 32])) rfl n1, t1, linesB_cut (p := [35, 32, 119, 111, 114, 100, 115]) rfl (by decide), t2, linesB_cut (p := []) rfl (by decide), t3, linesB_cut (p := opL f a c ++ backB) rfl l2.feed, l2.trim]
  unfold tail2
  rw [linesB_txt _ (fun i hi => by rw [(List.mem_replicate.1 hi).2]; exact fit_eca), t4]

theorem places_ln : ∀ (l : List Ins), (∀ i ∈ l, mayL i = true) → ∀ (acc : List Mk) (b i : Nat) (r : List (List UInt8)), placesGo acc b i (l.map lineI ++ r) = placesGo acc (b + 4 * l.length) (i + l.length) r
  | [], _, acc, b, i, r => rfl
  | x :: l, h, acc, b, i, r => by
    have hl := line_ln (mayL_fit x (h x (List.mem_cons_self ..)))
    rw [List.map_cons, List.cons_append, placesGo, if_neg (by rw [hl.some']; simp), hl.mark]
    simp only
    rw [places_ln l (fun y hy => h y (List.mem_cons_of_mem _ hy))]
    congr 1 <;> simp only [List.length_cons] <;> omega
def marksP (n k : Nat) : List Mk := [(backB, 0, 0), (onB, 4 * (n + k + 2), n + k + 5)]
theorem marks_places {f a c : Int} (f0 : 0 ≤ f) (f1 : f < 6) (n k : Nat) : placesL (marksL n k (opL f a c)) = marksP n k := by
  obtain ⟨l1, _⟩ := op_ln (a := a) (c := c) f0 f1 on_wb (by decide)
  obtain ⟨l2, _⟩ := op_ln (a := a) (c := c) f0 f1 back_wb (by decide)
  have m0 : markL [98, 97, 99, 107, 58] = some backB := by decide +kernel
  have m1 : markL [111, 110, 58] = some onB := by decide +kernel
  have m2 : markL [119, 102, 105] = none := by decide +kernel
  have z0 : nothingL [98, 97, 99, 107, 58] = false := by decide +kernel
  have z1 : nothingL [111, 110, 58] = false := by decide +kernel
  have z2 : nothingL [119, 102, 105] = false := by decide +kernel
  have z3 : nothingL [35, 32, 119, 111, 114, 100, 115] = true := by decide +kernel
  have z4 : nothingL [] = true := by decide +kernel
  have y : (backB == onB) = false := by decide
  unfold placesL marksL
  rw [placesGo, if_neg (by rw [z0]; simp), m0]
  simp only [List.any_nil, Bool.false_eq_true, if_false, List.nil_append]
  rw [places_ln _ (fun i hi => by rw [(List.mem_replicate.1 hi).2]; exact may_fen), placesGo, if_neg (by rw [l1.some']; simp), l1.mark]
  simp only
  rw [placesGo, if_pos z3, placesGo, if_pos z4, placesGo, if_neg (by rw [l2.some']; simp), l2.mark]
  simp only
  rw [places_ln _ (fun i hi => by rw [(List.mem_replicate.1 hi).2]; exact may_eca), placesGo, if_neg (by rw [z1]; simp), m1]
  simp only [List.any_cons, List.any_nil, Bool.or_false, y, Bool.false_eq_true, if_false, List.cons_append, List.nil_append]
  rw [placesGo, if_neg (by rw [z2]; simp), m2]
  simp only
  rw [placesGo]
  unfold marksP
  simp only [List.length_replicate, List.cons.injEq, Prod.mk.injEq, true_and, and_true]
  omega
def marksI (f a c : Int) (n k : Nat) : List Ins := List.replicate n fenI ++ [brI f a c (4 * ((k : Int) + 2)), brI f a c (-4 * ((n : Int) + 1))] ++ List.replicate k ecaI ++ [wfiI]
theorem marks_go {f a c : Int} (f0 : 0 ≤ f) (f1 : f < 6) (a0 : 0 ≤ a) (a1 : a < 32) (c0 : 0 ≤ c) (c1 : c < 32) (n k : Nat) (hn : n < 30) (hk : k < 30) : asmGo (instL (marksP n k)) (marksP n k) [] 0 (marksL n k (opL f a c)) = (codeL (marksI f a c n k), 0) := by
  obtain ⟨l1, _⟩ := op_ln (a := a) (c := c) f0 f1 on_wb (by decide)
  obtain ⟨l2, _⟩ := op_ln (a := a) (c := c) f0 f1 back_wb (by decide)
  have m0 : markL [98, 97, 99, 107, 58] = some backB := by decide +kernel
  have m1 : markL [111, 110, 58] = some onB := by decide +kernel
  have m2 : markL [119, 102, 105] = none := by decide +kernel
  have z0 : nothingL [98, 97, 99, 107, 58] = false := by decide +kernel
  have z1 : nothingL [111, 110, 58] = false := by decide +kernel
  have z2 : nothingL [119, 102, 105] = false := by decide +kernel
  have z3 : nothingL [35, 32, 119, 111, 114, 100, 115] = true := by decide +kernel
  have z4 : nothingL [] = true := by decide +kernel
  have y : (backB == onB) = false := by decide
  have yy : (backB == backB) = true := by decide
  have yo : (onB == onB) = true := by decide
  have fb : (marksP n k).find? (fun x => x.1 == backB) = some (backB, 0, 0) := by simp [marksP, List.find?_cons, yy]
  have fo : (marksP n k).find? (fun x => x.1 == onB) = some (onB, 4 * (n + k + 2), n + k + 5) := by simp [marksP, List.find?_cons, y, yo]
  have h0 : isHere (marksP n k) [98, 97, 99, 107, 58] 0 = true := by unfold isHere valN; rw [m0]; simp [fb]
  have h1 : isHere (marksP n k) [111, 110, 58] (n + k + 5) = true := by unfold isHere valN; rw [m1]; simp [fo]
  have ha : instL (marksP n k) (4 * n) (opL f a c ++ onB) = some (encL (brI f a c (4 * ((k : Int) + 2)))) := by
    have := inst_mark (ps := marksP n k) (at_ := 4 * n) f0 f1 a0 a1 c0 c1 (m := onB) (by decide) fo (by omega) (by omega) (by omega)
    rw [this]
    congr 3
    omega
  have hb : instL (marksP n k) (4 * n + 4) (opL f a c ++ backB) = some (encL (brI f a c (-4 * ((n : Int) + 1)))) := by
    have := inst_mark (ps := marksP n k) (at_ := 4 * n + 4) f0 f1 a0 a1 c0 c1 (m := backB) (by decide) fb (by omega) (by omega) (by omega)
    rw [this]
    congr 3
  have lf : (codeL (List.replicate n fenI)).length = 4 * n := by rw [codeL_len, List.length_replicate]
  have le : ∀ v, (le4 v).length = 4 := fun _ => rfl
  unfold marksL
  rw [asmGo, if_neg (by rw [z0]; simp), if_pos h0, go_lines _ _ (fun i hi => by rw [(List.mem_replicate.1 hi).2]; exact may_fen) _ _ _ (by simp; omega), asmGo, if_neg (by rw [l1.some']; simp), if_neg (by rw [here_none l1.mark]; simp)]
  rw [List.nil_append, lf, ha]
  simp only
  rw [if_neg (by omega), asmGo, if_pos z3, asmGo, if_pos z4, asmGo, if_neg (by rw [l2.some']; simp), if_neg (by rw [here_none l2.mark]; simp)]
  rw [List.length_append, lf, le, hb]
  simp only
  rw [if_neg (by omega), go_lines _ _ (fun i hi => by rw [(List.mem_replicate.1 hi).2]; exact may_eca) _ _ _ (by simp [lf, le]; omega), asmGo, if_neg (by rw [z1]; simp)]
  rw [show 0 + 1 + (List.replicate n fenI).length + 1 + 1 + 1 + 1 + (List.replicate k ecaI).length = n + k + 5 by simp; omega, if_pos h1]
  have hw := go_lines (marksP n k) [wfiI] (fun i hi => by rw [List.mem_singleton.1 hi]; exact may_wfi) (codeL (List.replicate n fenI) ++ le4 (encL (brI f a c (4 * ((k : Int) + 2)))) ++ le4 (encL (brI f a c (-4 * ((n : Int) + 1)))) ++ codeL (List.replicate k ecaI)) (n + k + 5 + 1) [] (by simp [lf, le, codeL_len]; omega)
  rw [List.map_cons, List.map_nil, List.append_nil, line_wfi] at hw
  rw [hw, asmGo]
  unfold marksI
  rw [codeL_append, codeL_append, codeL_append]
  simp [codeL]

theorem code_at : ∀ (l : List Ins) (j r : Nat) (i : Ins), l[j]? = some i → r < 4 → (codeL l)[4 * j + r]? = (le4 (encL i))[r]?
  | [], j, r, i, h, _ => by simp at h
  | x :: l, 0, r, i, h, hr => by
    simp only [List.getElem?_cons_zero, Option.some.injEq] at h
    subst h
    show (le4 (encL x) ++ codeL l)[4 * 0 + r]? = _
    rw [List.getElem?_append_left (by show 4 * 0 + r < 4; omega)]
    simp
  | x :: l, j + 1, r, i, h, hr => by
    simp only [List.getElem?_cons_succ] at h
    show (le4 (encL x) ++ codeL l)[4 * (j + 1) + r]? = _
    rw [List.getElem?_append_right (by show 4 ≤ 4 * (j + 1) + r; omega)]
    have : 4 * (j + 1) + r - (le4 (encL x)).length = 4 * j + r := by show 4 * (j + 1) + r - 4 = _; omega
    rw [this]
    exact code_at l j r i h hr
theorem marks_at (f a c : Int) (n k : Nat) : (marksI f a c n k)[n]? = some (brI f a c (4 * ((k : Int) + 2))) ∧ (marksI f a c n k)[n + 1]? = some (brI f a c (-4 * ((n : Int) + 1))) := by
  have e : marksI f a c n k = List.replicate n fenI ++ (brI f a c (4 * ((k : Int) + 2)) :: brI f a c (-4 * ((n : Int) + 1)) :: (List.replicate k ecaI ++ [wfiI])) := by simp [marksI]
  rw [e]
  constructor
  · rw [List.getElem?_append_right (by simp)]; simp
  · rw [List.getElem?_append_right (by simp)]; simp
theorem marks_len (f a c : Int) (n k : Nat) : (codeL (marksI f a c n k)).length = 4 * (n + k + 3) := by
  rw [codeL_len]; simp [marksI]; omega
theorem op_len {f a c : Int} (f0 : 0 ≤ f) (f1 : f < 6) (a0 : 0 ≤ a) (a1 : a < 32) (c0 : 0 ≤ c) (c1 : c < 32) : (opL f a c).length ≤ 100 := by
  have h1 := itoa_short a (by omega) (by omega)
  have h2 := itoa_short c (by omega) (by omega)
  have h3 : (nameH (5, f + 1, 0, false)).length ≤ 4 := by
    have : f = 0 ∨ f = 1 ∨ f = 2 ∨ f = 3 ∨ f = 4 ∨ f = 5 := by omega
    rcases this with rfl | rfl | rfl | rfl | rfl | rfl <;> decide +kernel
  unfold opL
  simp only [List.length_append, List.length_cons, List.length_nil]
  omega
theorem marks_each {f a c : Int} (f0 : 0 ≤ f) (f1 : f < 6) (a0 : 0 ≤ a) (a1 : a < 32) (c0 : 0 ≤ c) (c1 : c < 32) (n k : Nat) : ∀ l ∈ marksL n k (opL f a c), l.length ≤ 1000 ∧ Lib.hasPrefix l dotW = false := by
  obtain ⟨l1, _⟩ := op_ln (a := a) (c := c) f0 f1 on_wb (by decide)
  obtain ⟨l2, _⟩ := op_ln (a := a) (c := c) f0 f1 back_wb (by decide)
  have hop := op_len f0 f1 a0 a1 c0 c1
  intro l hl
  unfold marksL at hl
  simp only [List.mem_cons, List.mem_append, List.mem_map, List.not_mem_nil, or_false] at hl
  rcases hl with rfl | ⟨i, hi, rfl⟩ | rfl | rfl | rfl | rfl | ⟨i, hi, rfl⟩ | rfl | rfl
  · exact ⟨by decide, by decide +kernel⟩
  · rw [(List.mem_replicate.1 hi).2, line_fen]; exact ⟨by decide, by decide +kernel⟩
  · exact ⟨by rw [List.length_append]; simp [onB]; omega, l1.dot⟩
  · exact ⟨by decide, by decide +kernel⟩
  · exact ⟨by decide, by decide +kernel⟩
  · exact ⟨by rw [List.length_append]; simp [backB]; omega, l2.dot⟩
  · rw [(List.mem_replicate.1 hi).2, line_eca]; exact ⟨by decide, by decide +kernel⟩
  · exact ⟨by decide, by decide +kernel⟩
  · exact ⟨by decide, by decide +kernel⟩

end Go.Proofs.YtjapahcbhjjeiaaGreatDoor.AS

/- The document's find by its contract; a literal list of instructions. -/
namespace Go.Proofs.YtjapahcbhjjeiaaGreatDoor.AS
open Go.RowKit Go.Lib Go.Proofs.YtjapahcbhjjeiaaGreatDoorW.PrintWords Go.Proofs.YtjapahcbhjjeiaaGreatDoorW.PrintLast Go.Proofs.YtjapahcbhjjeiaaGreatDoorW.PrintMore Go.Proofs.YtjapahcbhjjeiaaGreatDoor.PA
set_option linter.unusedVariables false
set_option linter.unusedSimpArgs false
set_option maxRecDepth 100000
set_option maxHeartbeats 8000000

def insC (i : Ins) : List Value := [.int .i64 i.kind, .int .i64 i.fn, .int .i64 i.rd, .int .i64 i.rs1, .int .i64 i.rs2, .int .i64 i.imm, .int .i64 i.size, .bool i.sg]
theorem k23_of (w : World) (i : Ins) : k23.K w (toS i) (insC i) :=
  ⟨[_], _, rfl, rfl, ⟨[_], _, rfl, rfl, ⟨[_], _, rfl, rfl, ⟨[_], _, rfl, rfl, ⟨[_], _, rfl, rfl, ⟨[_], _, rfl, rfl, ⟨[_], _, rfl, rfl, rfl⟩⟩⟩⟩⟩⟩⟩
theorem insC_at : ∀ (l : List Ins) (j : Nat) (x : Ins) (i : Nat), l[j]? = some x → i < 8 → (l.flatMap insC)[j * 8 + i]? = (insC x)[i]?
  | [], j, x, i, h, _ => by simp at h
  | a :: l, 0, x, i, h, hi => by
    simp only [List.getElem?_cons_zero, Option.some.injEq] at h
    subst h
    rw [List.flatMap_cons, List.getElem?_append_left (by simp [insC]; omega)]
    simp
  | a :: l, j + 1, x, i, h, hi => by
    simp only [List.getElem?_cons_succ] at h
    rw [List.flatMap_cons, List.getElem?_append_right (by simp [insC]; omega)]
    have : (j + 1) * 8 + i - (insC a).length = j * 8 + i := by simp [insC]; omega
    rw [this]
    exact insC_at l j x i h hi
theorem litI_C (w : World) (l : List Ins) (hl : l.length ≤ 1000) : Kd.C k23 (w.alloc (.cells (l.flatMap insC).toArray 23)) (some ⟨w.heap.size, 0, none⟩) l.length (l.map toS) := by
  refine ⟨by rw [List.length_map], by omega, fun _ => ⟨_, rfl, fun j p hj => ?_⟩⟩
  rw [List.getElem?_map] at hj
  obtain ⟨x, hx, rfl⟩ := Option.map_eq_some_iff.1 hj
  refine ⟨insC x, rfl, k23_of _ x, ?_⟩
  intro i u hu
  have hi : i < 8 := by
    have := (List.getElem?_eq_some_iff.1 hu).1
    exact this
  have e : ((⟨w.heap.size, 0, none⟩ : Addr).add (j * 8 + i)) = ⟨w.heap.size, j * 8 + i, none⟩ := by unfold Addr.add; split <;> simp_all
  show (w.alloc _).cell? ((⟨w.heap.size, 0, none⟩ : Addr).add (j * 8 + i)) = _
  rw [e, blk_cell (blk_new w _) (j * 8 + i)]
  rw [List.getElem?_toArray, insC_at l j x i hx hi]
  exact hu
variable {P : Program} {ops : Array Oper} {rest : List Oper} {o : Oper} {a : Act} {Q : Exit → Act → World → Prop}
theorem litI_event {W : World} (hgd : o.guard = none) {N : Tmp} (_hd : o.dst = some N) (l : List Ins) (hl : l.length ≤ 1000)
    (hrun : (execOp a.eval o).run P W = .ok (.value (.slice (some ⟨W.heap.size, 0, none⟩) l.length l.length)) (W.alloc (.cells (l.flatMap insC).toArray 23)))
    (h : ∀ A w1, Kd.C k23 w1 A l.length (l.map toS) → Below W.heap.size W w1 → wpList P ops Q rest (a.put o.dst (.slice A l.length l.length)) w1) : wpList P ops Q (o :: rest) a W :=
  Kd.event_run hgd hrun (h _ _ (litI_C W l hl) (below_alloc (Below.refl _ _) _))

end Go.Proofs.YtjapahcbhjjeiaaGreatDoor.AS

/- AsmMarks' walk. -/
namespace Go.Proofs.YtjapahcbhjjeiaaGreatDoor.AS
open Go.RowKit Go.MapKept Go.Proofs.YtjapahcbhjjeiaaGreatDoorW.PrintWords Go.Proofs.YtjapahcbhjjeiaaGreatDoorW.PrintLast Go.Proofs.YtjapahcbhjjeiaaGreatDoorW.PrintMore Go.Proofs.YtjapahcbhjjeiaaGreatDoor.PA
set_option linter.unusedVariables false
set_option linter.unusedSimpArgs false
set_option maxRecDepth 100000
set_option maxHeartbeats 8000000

theorem byteC {wr : World} {A : Option Addr} {l : List Int} {n : Nat} (hC : Kd.C (Kd.int .u8) wr A l.length l) (hn : n < l.length) : ∃ ad, A = some ad ∧ wr.cell? (ad.add n) = some (.int .u8 l[n]) := by
  obtain ⟨ad, rfl, hcell⟩ := Kd.at_int hC (n : Int) (by omega) (by omega)
  refine ⟨ad, rfl, ?_⟩
  rw [Int.toNat_natCast] at hcell
  rw [hcell]
  simp [rd, hn]
theorem place_f (v m : Int) (h1 : 1 ≤ m) (h2 : m ≤ 1000) : citadellaw00_Place.f v m = some (v % m) := by
  unfold citadellaw00_Place.f
  have h := Int.tmod_eq_emod (a := v) (b := m)
  have e0 := Int.emod_nonneg v (b := m) (by omega)
  have e1 := Int.emod_lt_of_pos v (b := m) (by omega)
  have hn : (m.natAbs : Int) = m := by omega
  rw [if_neg (by omega)]
  split at h
  · rw [h, if_neg (by omega)]; simp
  · rw [h, hn, if_pos (by omega), w64 (by omega) (by omega)]
    congr 1
    omega
theorem place_calls (v m : Int) (h1 : 1 ≤ m) (h2 : m ≤ 1000) (W : World) : Calls Tryz.prog 16 #[.int .i64 v, .int .i64 m] W fun e w' => e = .returned (.int .i64 (v % m)) ∧ Below W.heap.size W w' :=
  (citadellaw00_Place.calls v m _ W (place_f v m h1 h2)).mono fun e w' h => ⟨h.1, by obtain ⟨q, rfl⟩ := h.2.out; exact pw_below_drewN (Below.refl _ _) q⟩
theorem asm_marks {f a c : Int} (f0 : 0 ≤ f) (f1 : f < 6) (a0 : 0 ≤ a) (a1 : a < 32) (c0 : 0 ≤ c) (c1 : c < 32) (n k : Nat) (hn : n < 30) (hk : k < 30) (W : World) (hg : GW W) :
    Calls Tryz.prog 18 #[.string (bB (marksT n k (opL f a c)))] W fun e w' => ∃ A q, e = .returned (.tuple #[.slice A (4 * (n + k + 3)) q, .int .i64 0]) ∧ Kd.C (Kd.int .u8) w' A (4 * (n + k + 3)) (codeL (marksI f a c n k)) ∧ Below W.heap.size W w' := by
  have hlen : (marksT n k (opL f a c)).length ≤ 1073741824 := by
    have h1 := op_len f0 f1 a0 a1 c0 c1
    have h2 : ∀ (i : Ins) (m : Nat), (lineI i).length = 5 → (txt (List.replicate m i)).length = 6 * m := by
      intro i m hi
      induction m with
      | zero => rfl
      | succ m ih => rw [List.replicate_succ]; show (lineI i ++ [10] ++ txt (List.replicate m i)).length = _; rw [List.length_append, ih]; simp [hi]; omega
    have e1 := h2 fenI n (by rw [line_fen]; rfl)
    have e2 := h2 ecaI k (by rw [line_eca]; rfl)
    unfold marksT tail1 tail2
    simp only [List.length_append, List.length_cons, List.length_nil, e1, e2, onB, backB]
    omega
  have := assemble_calls (marksT n k (opL f a c)) hlen (instL (marksP n k)) W hg (by
    rw [marks_lines f0 f1, marks_places f0 f1]
    intro l hl _ hU
    obtain ⟨e1, e2⟩ := marks_each f0 f1 a0 a1 c0 c1 n k l hl
    exact word_ok _ l (by omega) (by intro x hx; simp [marksP] at hx; rcases hx with rfl | rfl <;> simp <;> omega) e2 hU)
  rw [marks_lines f0 f1, marks_places f0 f1, marks_go f0 f1 a0 a1 c0 c1 n k hn hk] at this
  refine this.mono ?_
  rintro e w' ⟨A, m, q, rfl, rfl, hc, hC, hb⟩
  rw [marks_len] at hC ⊢
  exact ⟨A, q, rfl, hC, hb⟩

def namesB : List ByteArray := [⟨#[98, 101, 113]⟩, ⟨#[98, 110, 101]⟩, ⟨#[98, 108, 116]⟩, ⟨#[98, 103, 101]⟩, ⟨#[98, 108, 116, 117]⟩, ⟨#[98, 103, 101, 117]⟩]
theorem rep_len {i : Ins} (m : Nat) (l : List UInt8) (h : lineI i = l) : (txt (List.replicate m i)).length = (l.length + 1) * m := by
  induction m with
  | zero => rfl
  | succ m ih => rw [List.replicate_succ]; show (lineI i ++ [10] ++ txt (List.replicate m i)).length = _; rw [List.length_append, ih, h]; simp [Nat.mul_add]; omega
theorem rep_next {i : Ins} {l p : List UInt8} (h : lineI i = l) {m : Nat} : bB (p ++ txt (List.replicate (m + 1) i)) = bB (p ++ txt (List.replicate m i)) ++ bB (l ++ [10]) := by
  rw [bB_app]
  congr 1
  rw [List.replicate_succ', txt_snoc, h]
  simp
theorem marks_walk (v0 v1 v2 v3 v4 : Int) (W : World) (hgw : GW W) : Calls Tryz.prog 6 #[.int .i64 v0, .int .i64 v1, .int .i64 v2, .int .i64 v3, .int .i64 v4] W fun e w' => e = .returned (.bool true) ∧ Below W.heap.size W w' := by
  have HB := Aside0.mk (Below.refl W.heap.size W)
  have HG := Aside0.mk hgw
  have AW := awake_calls
  obtain ⟨n, hn, hnl⟩ : ∃ n : Nat, (n : Int) = v0 % 30 ∧ n < 30 := ⟨(v0 % 30).toNat, by omega, by omega⟩
  obtain ⟨k, hk, hkl⟩ : ∃ n : Nat, (n : Int) = v1 % 30 ∧ n < 30 := ⟨(v1 % 30).toNat, by omega, by omega⟩
  obtain ⟨a, ha, a0, a1⟩ : ∃ a : Int, a = v2 % 32 ∧ 0 ≤ a ∧ a < 32 := ⟨_, rfl, by omega, by omega⟩
  obtain ⟨c, hc, c0, c1⟩ : ∃ a : Int, a = v3 % 32 ∧ 0 ≤ a ∧ a < 32 := ⟨_, rfl, by omega, by omega⟩
  obtain ⟨f, hf, f1⟩ : ∃ n : Nat, (n : Int) = v4 % 6 ∧ n < 6 := ⟨(v4 % 6).toNat, by omega, by omega⟩
  have P0 := place_calls v0 30 (by decide) (by decide)
  have P1 := place_calls v1 30 (by decide) (by decide)
  have P2 := place_calls v2 32 (by decide) (by decide)
  have P3 := place_calls v3 32 (by decide) (by decide)
  have P4 := place_calls v4 6 (by decide) (by decide)
  rw [← hn] at P0
  rw [← hk] at P1
  rw [← ha] at P2
  rw [← hc] at P3
  rw [← hf] at P4
  clear hn hk ha hc hf hgw
  go_enter Tryz.func6, Tryz.ntmps6
  go_upto_block 0 with (first | ((with_reducible refine gate_dst (N := 32) rfl ?_); refine litS_event (by rfl) (N := 32) (by rfl) [⟨#[98, 101, 113]⟩, ⟨#[98, 110, 101]⟩, ⟨#[98, 108, 116]⟩, ⟨#[98, 103, 101]⟩, ⟨#[98, 108, 116, 117]⟩, ⟨#[98, 103, 101, 117]⟩] (by decide) (by first | (go_simp; done) | (go_simp; rfl)) ?_; intro Aa wa hCa hb; have HCa := Aside0.mk hCa; have HB2 := Aside0.mk (below_step (by repeat (first | (with_reducible first | exact HB.out | apply below_alloc | apply pw_below_drewN | apply below_drew1) | exact HB.out)) hb); clear HB hCa hb; have HB := HB2; clear HB2) | (go_at_call 16; (with_reducible first | refine (P2 _).mono ?_ | refine (P3 _).mono ?_ | refine (P4 _).mono ?_); rintro e w' ⟨rfl, hb⟩; have HB2 := Aside0.mk (below_step (by repeat (first | (with_reducible first | exact HB.out | apply below_alloc | apply pw_below_drewN | apply below_drew1) | exact HB.out)) hb); have HC2 := Aside0.mk (Kd.C_below HCa.out hb); clear hb HB HCa; have HCa := HC2; clear HC2; have HB := HB2; clear HB2) | (go_at_call 16; (with_reducible first | refine (P0 _).mono ?_ | refine (P1 _).mono ?_ | refine (P2 _).mono ?_ | refine (P3 _).mono ?_ | refine (P4 _).mono ?_); rintro e w' ⟨rfl, hb⟩; have HB2 := Aside0.mk (below_step (by repeat (first | (with_reducible first | exact HB.out | apply below_alloc | apply pw_below_drewN | apply below_drew1) | exact HB.out)) hb); clear hb HB; have HB := HB2; clear HB2) | fail)
  have HF : Aside0 (namesB.getD f ⟨#[]⟩ = bB (nameH (5, (f : Int) + 1, 0, false))) := ⟨by
    have : f = 0 ∨ f = 1 ∨ f = 2 ∨ f = 3 ∨ f = 4 ∨ f = 5 := by omega
    rcases this with rfl | rfl | rfl | rfl | rfl | rfl <;> decide +kernel⟩
  go_cut [17] from 39 to 45 (fun v17 wx => v17 = .string (bB ([98, 97, 99, 107, 58, 10] ++ txt (List.replicate n fenI))) ∧ w' = wx)
  case first =>
    go_wp2
    go_loop [17, 18] (fun v17 v18 => ∃ i : Nat, v17 = .string (bB ([98, 97, 99, 107, 58, 10] ++ txt (List.replicate i fenI))) ∧ v18 = .int .i64 (i : Int) ∧ i ≤ n) (fun _ v18 => n - (intOf v18).toNat)
    case atStart => exact ⟨0, rfl, rfl, Nat.zero_le _⟩
    case round =>
      obtain ⟨i, rfl, rfl, hi⟩ := hrel
      obtain ⟨s, hs⟩ : ∃ x, x = bB ([98, 97, 99, 107, 58, 10] ++ txt (List.replicate i fenI)) := ⟨_, rfl⟩
      have hsz : s.size ≤ 1000 := by rw [hs, bB_size, List.length_append, rep_len _ _ line_fen]; simp; omega
      rw [← hs]
      have HS := Aside0.mk hs
      clear hs
      by_cases hin : i < n
      · have d0 : decide (i < n) = true := decide_eq_true hin
        have HI := Aside0.mk hin
        clear hin
        go_wp2
        go_round
        case rel => exact ⟨i + 1, by rw [HS.out, rep_next line_fen]; rfl, by go_num, HI.out⟩
        case measure => simp [intOf]; have := HI.out; omega
      · obtain rfl : i = n := by omega
        have d0 : decide (i < i) = false := by simp
        clear hin
        go_wp2
        go_meet
        case rel => exact ⟨by rw [HS.out], rfl⟩
  case rest =>
    obtain ⟨rfl, rfl⟩ := hcut
    obtain ⟨s1, hs1⟩ : ∃ x, x = bB ([98, 97, 99, 107, 58, 10] ++ txt (List.replicate n fenI)) := ⟨_, rfl⟩
    have hz1 : s1.size ≤ 1000 := by rw [hs1, bB_size, List.length_append, rep_len _ _ line_fen]; simp; omega
    rw [← hs1]
    have HS1 := Aside0.mk hs1
    obtain ⟨ad, hA, y0⟩ := str_cell (l := namesB) (n := f) (show Kd.C Kd.string w' Aa namesB.length namesB from HCa.out) f1
    subst hA
    rw [HF.out] at y0
    obtain ⟨nm, hnm⟩ : ∃ x, x = bB (nameH (5, (f : Int) + 1, 0, false)) := ⟨_, rfl⟩
    obtain ⟨sa, hsa⟩ : ∃ x, x = bB (Lib.itoa a) := ⟨_, rfl⟩
    obtain ⟨sc, hsc⟩ : ∃ x, x = bB (Lib.itoa c) := ⟨_, rfl⟩
    have DA := fun W => Dec_calls a W (by omega) (by omega)
    have DC := fun W => Dec_calls c W (by omega) (by omega)
    have HOP : Aside0 (nm ++ ⟨#[32, 120]⟩ ++ sa ++ ⟨#[44, 32, 120]⟩ ++ sc ++ ⟨#[44, 32]⟩ = bB (opL f a c)) := ⟨by
      rw [hnm, hsa, hsc, show (⟨#[32, 120]⟩ : ByteArray) = bB [32, 120] from rfl, show (⟨#[44, 32, 120]⟩ : ByteArray) = bB [44, 32, 120] from rfl, show (⟨#[44, 32]⟩ : ByteArray) = bB [44, 32] from rfl]
      simp only [bB_app]
      unfold opL
      simp⟩
    have hz2 : nm.size ≤ 4 := by
      rw [hnm, bB_size]
      have : f = 0 ∨ f = 1 ∨ f = 2 ∨ f = 3 ∨ f = 4 ∨ f = 5 := by omega
      rcases this with rfl | rfl | rfl | rfl | rfl | rfl <;> decide +kernel
    have hz3 : sa.size ≤ 13 := by rw [hsa, bB_size]; exact itoa_len (by omega) (by omega)
    have hz4 : sc.size ≤ 13 := by rw [hsc, bB_size]; exact itoa_len (by omega) (by omega)
    rw [← hsa] at DA
    rw [← hsc] at DC
    rw [← hnm] at y0
    have b0 : (0 : Int) ≤ (f : Int) := by omega
    have b1 : (f : Int) < 6 := by omega
    clear hs1 hnm hsa hsc HF HCa
    go_upto_region 12 with fail
    go_quiet ((go_at_call 17; with_reducible first | exact quiet_from (DA _) | exact Calls.quiet_of (DA _) | exact quiet_from (DC _) | exact Calls.quiet_of (DC _)))
    rw [HOP.out]
    obtain ⟨o, ho⟩ : ∃ x, x = bB (opL f a c) := ⟨_, rfl⟩
    have hz5 : o.size ≤ 100 := by rw [ho, bB_size]; exact op_len (by omega) (by omega) a0 a1 c0 c1
    rw [← ho]
    have HO := Aside0.mk ho
    obtain ⟨wq, hwq⟩ : ∃ x, x = w'.drewN nq := ⟨_, rfl⟩
    have HBq : Aside0 (Below W.heap.size W wq) := ⟨by rw [hwq]; exact pw_below_drewN HB.out nq⟩
    rw [← hwq]
    clear hwq HB ho HOP DA DC y0
    have HB := HBq
    clear HBq
    go_upto_block 2 with fail
    obtain ⟨p2, hp2⟩ : ∃ x, x = [98, 97, 99, 107, 58, 10] ++ txt (List.replicate n fenI) ++ ([32, 32] ++ opL f a c ++ [111, 110, 32, 32, 10, 35, 32, 119, 111, 114, 100, 115, 10, 10] ++ opL f a c ++ [98, 97, 99, 107, 10]) := ⟨_, rfl⟩
    have HP2 := Aside0.mk hp2
    have e2 : s1 ++ ⟨#[32, 32]⟩ ++ o ++ ⟨#[111, 110, 32, 32, 10, 35, 32, 119, 111, 114, 100, 115, 10, 10]⟩ ++ o ++ ⟨#[98, 97, 99, 107, 10]⟩ = bB p2 := by
      rw [HS1.out, HO.out, hp2, show (⟨#[32, 32]⟩ : ByteArray) = bB [32, 32] from rfl, show (⟨#[111, 110, 32, 32, 10, 35, 32, 119, 111, 114, 100, 115, 10, 10]⟩ : ByteArray) = bB [111, 110, 32, 32, 10, 35, 32, 119, 111, 114, 100, 115, 10, 10] from rfl, show (⟨#[98, 97, 99, 107, 10]⟩ : ByteArray) = bB [98, 97, 99, 107, 10] from rfl]
      simp only [bB_app]
      simp
    have hpl : p2.length ≤ 2000 := by
      have := congrArg ByteArray.size e2
      rw [bB_size] at this
      simp only [ByteArray.size_append] at this
      have q1 : (⟨#[32, 32]⟩ : ByteArray).size = 2 := rfl
      have q2 : (⟨#[111, 110, 32, 32, 10, 35, 32, 119, 111, 114, 100, 115, 10, 10]⟩ : ByteArray).size = 14 := rfl
      have q3 : (⟨#[98, 97, 99, 107, 10]⟩ : ByteArray).size = 5 := rfl
      omega
    rw [e2]
    clear hp2 e2 hz1 hz2 hz3 hz4 hz5
    go_cut [17] from 67 to 73 (fun v17 wx => v17 = .string (bB (p2 ++ txt (List.replicate k ecaI))) ∧ wq = wx)
    case first =>
      go_wp2
      go_loop [17, 20] (fun v17 v20 => ∃ i : Nat, v17 = .string (bB (p2 ++ txt (List.replicate i ecaI))) ∧ v20 = .int .i64 (i : Int) ∧ i ≤ k) (fun _ v20 => k - (RowKit.intOf v20).toNat)
      case atStart => exact ⟨0, by simp [txt], rfl, Nat.zero_le _⟩
      case round =>
        obtain ⟨i, rfl, rfl, hi⟩ := hrel
        obtain ⟨s, hs⟩ : ∃ x, x = bB (p2 ++ txt (List.replicate i ecaI)) := ⟨_, rfl⟩
        have hsz : s.size ≤ 3000 := by rw [hs, bB_size, List.length_append, rep_len _ _ line_eca]; simp; omega
        rw [← hs]
        have HS := Aside0.mk hs
        clear hs
        by_cases hin : i < k
        · have d0 : decide (i < k) = true := decide_eq_true hin
          have HI := Aside0.mk hin
          clear hin
          go_wp2
          go_round
          case rel => exact ⟨i + 1, by rw [HS.out, rep_next line_eca]; rfl, by go_num, HI.out⟩
          case measure => simp [RowKit.intOf]; have := HI.out; omega
        · obtain rfl : i = k := by omega
          have d0 : decide (i < i) = false := by simp
          clear hin
          go_wp2
          go_meet
          case rel => exact ⟨by rw [HS.out], rfl⟩
    case rest =>
      obtain ⟨rfl, rfl⟩ := hcut
      obtain ⟨s3, hs3⟩ : ∃ x, x = bB (p2 ++ txt (List.replicate k ecaI)) := ⟨_, rfl⟩
      have hz1 : s3.size ≤ 3000 := by rw [hs3, bB_size, List.length_append, rep_len _ _ line_eca]; simp; omega
      rw [← hs3]
      obtain ⟨tx, htx⟩ : ∃ x, x = bB (marksT n k (opL f a c)) := ⟨_, rfl⟩
      have e3 : s3 ++ ⟨#[111, 110, 58, 10, 119, 102, 105]⟩ = tx := by
        rw [hs3, htx, HP2.out, show (⟨#[111, 110, 58, 10, 119, 102, 105]⟩ : ByteArray) = bB [111, 110, 58, 10, 119, 102, 105] from rfl, bB_app]
        unfold marksT tail1 tail2 onB backB
        simp
      have AM := asm_marks (f := f) (a := a) (c := c) (by omega) (by omega) a0 a1 c0 c1 n k hnl hkl wq (HG.out.below HB.out)
      rw [← htx] at AM
      obtain ⟨m, hm⟩ : ∃ x, x = 4 * (n + k + 3) := ⟨_, rfl⟩
      rw [← hm] at AM
      have HM := Aside0.mk hm
      have hne : ((m : Int) != 4 * ((n : Int) + (k : Int) + 3)) = false := by
        have : (m : Int) = 4 * ((n : Int) + (k : Int) + 3) := by omega
        simp [this]
      have hne2 : ((m : Int) == 4 * ((n : Int) + (k : Int) + 3)) = true := by
        have : (m : Int) = 4 * ((n : Int) + (k : Int) + 3) := by omega
        simp [this]
      have HAM := Aside0.mk AM
      have HE3 := Aside0.mk e3
      clear hs3 htx hm AM e3
      go_upto_region 19 with fail
      rw [HE3.out]
      go_wp2_with fail
      refine HAM.out.mono ?_
      rintro e w3 ⟨A, q, rfl, hC, hb⟩
      have HC := Aside0.mk hC
      have HB2 := Aside0.mk (below_step HB.out hb)
      clear hC hb HB HAM
      have HB := HB2
      clear HB2
      go_upto_block 4 with (first | ((with_reducible refine gate_dst (N := 109) rfl ?_); refine litI_event ?hg (N := 109) ?hd [(⟨5, (f : Int) + 1, 0, a, c, 4 * ((k : Int) + 2), 0, false⟩ : Ins), (⟨5, (f : Int) + 1, 0, a, c, -4 * ((n : Int) + 1), 0, false⟩ : Ins)] (by simp) ?hr ?_; (case hd => rfl); (case hg => rfl); (case hr => first | (go_simp; done) | (go_simp; rfl)); intro AI wi hCi hb; have HCi := Aside0.mk hCi; have HB2 := Aside0.mk (below_step (by repeat (first | (with_reducible first | exact HB.out | apply below_alloc | apply pw_below_drewN | apply below_drew1) | exact HB.out)) hb); have HC2 := Aside0.mk (Kd.C_below HC.out hb); clear HB HC hCi hb; have HB := HB2; have HC := HC2; clear HB2 HC2) | fail)
      go_wp2_with fail
      go_loopw [24] (fun v24 wr => ∃ i : Nat, v24 = .int .i64 (i : Int) ∧ i ≤ 2 ∧ Below wi.heap.size wi wr) (fun v24 _ => 2 - (RowKit.intOf v24).toNat)
      case atStart => exact ⟨0, rfl, by decide, Below.refl _ _⟩
      case round =>
        obtain ⟨i, rfl, hi, hB⟩ := hrel
        have HBr := Aside0.mk hB
        clear hB
        by_cases hi2 : i < 2
        · obtain ⟨imm, hdr, hat, hi0, hi1, hie⟩ : ∃ imm : Int, ([(⟨5, (f : Int) + 1, 0, a, c, 4 * ((k : Int) + 2), 0, false⟩ : Ins), (⟨5, (f : Int) + 1, 0, a, c, -4 * ((n : Int) + 1), 0, false⟩ : Ins)]).drop i = ⟨5, (f : Int) + 1, 0, a, c, imm, 0, false⟩ :: ([(⟨5, (f : Int) + 1, 0, a, c, 4 * ((k : Int) + 2), 0, false⟩ : Ins), (⟨5, (f : Int) + 1, 0, a, c, -4 * ((n : Int) + 1), 0, false⟩ : Ins)]).drop (i + 1) ∧ (marksI f a c n k)[n + i]? = some (brI f a c imm) ∧ -4096 ≤ imm ∧ imm < 4096 ∧ imm % 2 = 0 := by
            have hm := marks_at f a c n k
            have : i = 0 ∨ i = 1 := by omega
            rcases this with rfl | rfl
            · exact ⟨_, rfl, hm.1, by omega, by omega, by omega⟩
            · exact ⟨_, rfl, hm.2, by omega, by omega, by omega⟩
          obtain ⟨hmay, he0, he1⟩ := br_can (f := f) (a := a) (c := c) (imm := imm) (by omega) (by omega) a0 a1 c0 c1 hi0 hi1 hie
          have RE := rEncode_calls (brI f a c imm)
          rw [if_pos hmay, hmay] at RE
          obtain ⟨ev, hev⟩ : ∃ x, x = encL (brI f a c imm) := ⟨_, rfl⟩
          rw [← hev] at RE he0 he1
          unfold insV brI at RE
          dsimp only at RE
          have HRE := Aside0.mk RE
          obtain ⟨ad5, hA5, z0, z1, z2, z3, z4, z5, z6, z7⟩ := all_cell (Kd.C_below HCi.out HBr.out) hdr
          subst hA5
          obtain ⟨p, hp⟩ : ∃ p : Nat, p = 4 * (n + i) := ⟨_, rfl⟩
          have hpi : 4 * ((n : Int) + (i : Int)) = (p : Int) := by omega
          have HPI := Aside0.mk hpi
          have hml : (codeL (marksI f a c n k)).length = m := by rw [marks_len, HM.out]
          have hpm : p + 4 ≤ m := by rw [hp, HM.out]; omega
          have hpb : p ≤ 1000 := by rw [hp]; omega
          have B : ∀ r v, r < 4 → (le4 ev)[r]? = some v → (codeL (marksI f a c n k))[p + r]? = some v := fun r v hr hv => by
            rw [hp, code_at _ (n + i) r _ hat hr, ← hev, hv]
          obtain ⟨code, hcode⟩ : ∃ x, x = codeL (marksI f a c n k) := ⟨_, rfl⟩
          have HCc := HC.out
          rw [← hcode] at B hml HCc
          obtain ⟨b0, hb0, B0⟩ : ∃ b, b = ev % 256 ∧ 0 ≤ b ∧ b < 256 := ⟨_, rfl, by omega, by omega⟩
          obtain ⟨b1, hb1, B1⟩ : ∃ b, b = ev / 256 % 256 ∧ 0 ≤ b ∧ b < 256 := ⟨_, rfl, by omega, by omega⟩
          obtain ⟨b2, hb2, B2⟩ : ∃ b, b = ev / 65536 % 256 ∧ 0 ≤ b ∧ b < 256 := ⟨_, rfl, by omega, by omega⟩
          obtain ⟨b3, hb3, B3⟩ : ∃ b, b = ev / 16777216 ∧ 0 ≤ b ∧ b < 256 := ⟨_, rfl, by omega, by omega⟩
          have HW : Aside0 (Go.bits .or .u32 (Go.bits .or .u32 (Go.bits .or .u32 b0 (b1 * 256)) (b2 * 65536)) (b3 * 16777216) = ev) := ⟨by
            have e : w4 b0 b1 b2 b3 = ev := by unfold w4; omega
            rw [w4_or B0 B1 B2 B3, e]⟩
          have Q : ∀ (wx : World), Kd.C (Kd.int .u8) wx A code.length code → ∃ ad, A = some ad ∧ wx.cell? (ad.add (p + 0)) = some (.int .u8 b0) ∧ wx.cell? (ad.add (p + 1)) = some (.int .u8 b1) ∧ wx.cell? (ad.add (p + 2)) = some (.int .u8 b2) ∧ wx.cell? (ad.add (p + 3)) = some (.int .u8 b3) := fun wx hC => by
            have G : ∀ r v, r < 4 → (le4 ev)[r]? = some v → ∃ ad, A = some ad ∧ wx.cell? (ad.add (p + r)) = some (.int .u8 v) := fun r v hr hv => by
              obtain ⟨hlt, e⟩ := List.getElem?_eq_some_iff.1 (B r v hr hv)
              obtain ⟨ad, h1, h2⟩ := byteC hC hlt
              exact ⟨ad, h1, by rw [h2, e]⟩
            obtain ⟨ad, rfl, g0⟩ := G 0 b0 (by decide) (by rw [hb0]; rfl)
            obtain ⟨_, e1, g1⟩ := G 1 b1 (by decide) (by rw [hb1]; rfl)
            obtain rfl := Option.some.inj e1
            obtain ⟨_, e2, g2⟩ := G 2 b2 (by decide) (by rw [hb2]; rfl)
            obtain rfl := Option.some.inj e2
            obtain ⟨_, e3, g3⟩ := G 3 b3 (by decide) (by rw [hb3]; rfl)
            obtain rfl := Option.some.inj e3
            exact ⟨_, rfl, g0, g1, g2, g3⟩
          have HQ := Aside0.mk Q
          have HCm : Aside0 (Kd.C (Kd.int .u8) wi A code.length code) := ⟨by rw [hml]; exact HCc⟩
          have HI := Aside0.mk hi2
          have hlt2 : (i : Int) < 2 := by omega
          have d0 : decide ((i : Int) < 2) = true := decide_eq_true hlt2
          have HPM := Aside0.mk hpm
          clear hdr hat hev RE hcode B hb0 hb1 hb2 hb3 Q hmay hp hpi hml hi2 HCc hpm
          go_wp2_with fail
          refine (HRE.out _).mono ?_
          rintro e wr2 ⟨rfl, hb⟩
          have HB3 := Aside0.mk (below_step HBr.out hb)
          clear hb HRE z0 z1 z2 z3 z4 z5 z6 z7
          obtain ⟨adb, hAb, y0, y1, y2, y3⟩ := HQ.out wr2 (Kd.C_below HCm.out HB3.out)
          subst hAb
          rw [Nat.add_zero] at y0
          replace y1 : wr2.cell? { block := adb.block, off := adb.off + (p + 1) } = some (.int .u8 b1) := by simpa [Addr.add] using y1
          replace y2 : wr2.cell? { block := adb.block, off := adb.off + (p + 2) } = some (.int .u8 b2) := by simpa [Addr.add] using y2
          replace y3 : wr2.cell? { block := adb.block, off := adb.off + (p + 3) } = some (.int .u8 b3) := by simpa [Addr.add] using y3
          go_upto_region 28 with fail
          rw [HPI.out]
          have hpm := HPM.out
          have o1 : (0 : Int) ≤ (p : Int) + 1 := by omega
          have n1 : ((p : Int) + 1).toNat = p + 1 := by omega
          have o2 : (0 : Int) ≤ (p : Int) + 2 := by omega
          have n2 : ((p : Int) + 2).toNat = p + 2 := by omega
          have o3 : (0 : Int) ≤ (p : Int) + 3 := by omega
          have n3 : ((p : Int) + 3).toNat = p + 3 := by omega
          have m0 : (p : Int) < (m : Int) := by omega
          have m1 : (p : Int) + 1 < (m : Int) := by omega
          have m2 : (p : Int) + 2 < (m : Int) := by omega
          have m3 : (p : Int) + 3 < (m : Int) := by omega
          have k3 : p + 3 < m := hpm
          have k2 : p + 2 < m := Nat.lt_of_succ_lt k3
          have k1 : p + 1 < m := Nat.lt_of_succ_lt k2
          have k0 : p < m := Nat.lt_of_succ_lt k1
          have hp : ∀ b : Int, (b = 1 ∨ b = 2 ∨ b = 3) → IntKind.i64.wrap ((p : Int) + b) = (p : Int) + b := fun b h => wi64 (by omega) (by omega)
          have hq : ∀ b : Int, (b = 1 ∨ b = 2 ∨ b = 3) → wrap64 ((p : Int) + b) = (p : Int) + b := fun b h => w64 (by omega) (by omega)
          have hw0 : IntKind.u32.wrap b0 = b0 := wraps_u32 _ (by omega) (by omega)
          have hw1 : IntKind.u32.wrap b1 = b1 := wraps_u32 _ (by omega) (by omega)
          have hw2 : IntKind.u32.wrap b2 = b2 := wraps_u32 _ (by omega) (by omega)
          have hw3 : IntKind.u32.wrap b3 = b3 := wraps_u32 _ (by omega) (by omega)
          have hv1 : IntKind.u32.wrap (b1 * 256) = b1 * 256 := wraps_u32 _ (by omega) (by omega)
          have hv2 : IntKind.u32.wrap (b2 * 65536) = b2 * 65536 := wraps_u32 _ (by omega) (by omega)
          have hv3 : IntKind.u32.wrap (b3 * 16777216) = b3 * 16777216 := wraps_u32 _ (by omega) (by omega)
          clear B0 B1 B2 B3 hpm
          go_quiet (fail)
          rw [HW.out]
          have HB4 : Aside0 (Below wi.heap.size wi (wr2.drewN nq)) := ⟨pw_below_drewN HB3.out nq⟩
          obtain ⟨wq2, hwq2⟩ : ∃ x, x = wr2.drewN nq := ⟨_, rfl⟩
          rw [← hwq2] at HB4 ⊢
          clear HW hw0 hw1 hw2 hw3 hv1 hv2 hv3 y0 y1 y2 y3 hwq2 m0 m1 m2 m3 k0 k1 k2 k3 o1 o2 o3 n1 n2 n3 hp hq
          go_wp2
          go_roundw
          case rel => exact ⟨i + 1, by go_num, HI.out, HB4.out⟩
          case measure => simp [RowKit.intOf]; have := HI.out; omega
        · obtain rfl : i = 2 := by omega
          clear hi2
          have HBW : Aside0 (Below W.heap.size W wr) := ⟨HB.out.trans (HBr.out.mono HB.out.size)⟩
          have HGW : Aside0 (GW wr) := ⟨HG.out.below HBW.out⟩
          go_wp2_with fail
          refine (AW _ HGW.out).mono ?_
          rintro e w9 ⟨rfl, hb⟩
          have HB9 := Aside0.mk (below_step HBW.out hb)
          clear hb
          go_wp2
          go_ret
          exact ⟨rfl, HB9.out⟩

end Go.Proofs.YtjapahcbhjjeiaaGreatDoor.AS

/- AsmMarks over the readings of its arguments. -/
namespace Go.Proofs.YtjapahcbhjjeiaaGreatDoor.AS
open Go.RowKit Go.WideShapes Go.ChangeShapes Go.Proofs.YtjapahcbhjjeiaaGreatDoorW.PrintWords Go.Proofs.YtjapahcbhjjeiaaGreatDoor.Opn Go.Proofs.YtjapahcbhjjeiaaGreatDoor.PA
set_option linter.unusedVariables false
set_option maxRecDepth 100000

theorem asmMarks_core (H : Type) (enc : TypeId × Value → H) (W : World) (base : Nat) (v0 v1 v2 v3 v4 : Value) (d0 d1 d2 d3 d4 : DataW H) (p0 p1 p2 p3 p4 : List MemPlace)
    (o0 : Value.okWide Tryz.prog W .any base 3 v0) (h0 : DataW.Trod enc Tryz.prog W 0 (fun _ => true) true 3 v0 d0 p0)
    (o1 : Value.okWide Tryz.prog W .any base 3 v1) (h1 : DataW.Trod enc Tryz.prog W 0 (fun _ => true) true 3 v1 d1 p1)
    (o2 : Value.okWide Tryz.prog W .any base 3 v2) (h2 : DataW.Trod enc Tryz.prog W 0 (fun _ => true) true 3 v2 d2 p2)
    (o3 : Value.okWide Tryz.prog W .any base 3 v3) (h3 : DataW.Trod enc Tryz.prog W 0 (fun _ => true) true 3 v3 d3 p3)
    (o4 : Value.okWide Tryz.prog W .any base 3 v4) (h4 : DataW.Trod enc Tryz.prog W 0 (fun _ => true) true 3 v4 d4 p4) (hb : Rows.uptoBulkAll [d0, d1, d2, d3, d4] ≤ 1048576) (hg : GW W) :
    Calls Tryz.prog 6 #[v0, v1, v2, v3, v4] W fun e W' => e = .returned (.bool true) ∧ Below W.heap.size W W' := by
  obtain ⟨n0, rfl⟩ := okWide_int Tryz.underlying3 o0
  obtain ⟨n1, rfl⟩ := okWide_int Tryz.underlying3 o1
  obtain ⟨n2, rfl⟩ := okWide_int Tryz.underlying3 o2
  obtain ⟨n3, rfl⟩ := okWide_int Tryz.underlying3 o3
  obtain ⟨n4, rfl⟩ := okWide_int Tryz.underlying3 o4
  exact marks_walk n0 n1 n2 n3 n4 W hg

end Go.Proofs.YtjapahcbhjjeiaaGreatDoor.AS
