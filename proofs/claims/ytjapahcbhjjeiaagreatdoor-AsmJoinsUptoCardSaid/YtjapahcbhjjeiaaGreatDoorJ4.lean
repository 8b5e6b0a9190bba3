/- Several texts in one. -/
import Derived.Test.YtjapahcbhjjeiaaGreatDoorE7
import Derived.Lib.TrimByte
import Derived.Lib.Strings
import Derived.Test.YtjapahcbhjjeiaaGreatDoorK16
import Derived.Deep.CutBlock
import Derived.Deep.DeepCutAuto
/- What bytes a line of an instruction has: no line feed, no colon, no '#'; it begins with a letter and does not end with a blank; behind a comma stands a blank. No program in sight. -/
namespace Go.Proofs.YtjapahcbhjjeiaaGreatDoor.AS
open Go.Lib

/-- A byte of a line. -/
def lb (b : UInt8) : Bool := b != 10 && b != 35 && b != 58
/-- A byte of a word. -/
def wb (b : UInt8) : Bool := lb b && b != 32 && b != 44

set_option maxRecDepth 100000 in
theorem names_b : (heads.all fun a => (nameH a).all wb && match nameH a with | [] => false | c :: _ => isLow c) = true := by decide +kernel

theorem name_wb {i : Ins} (h : Fit i) : (∀ b ∈ nameI i, wb b = true) ∧ ∃ c r, nameI i = c :: r ∧ isLow c = true := by
  have := List.all_eq_true.1 names_b _ h.head
  simp only [Bool.and_eq_true, List.all_eq_true] at this
  refine ⟨fun b hb => this.1 b hb, ?_⟩
  have h2 := this.2
  show ∃ c r, nameH (i.kind, i.fn, i.size, i.sg) = c :: r ∧ _
  revert h2
  generalize nameH (i.kind, i.fn, i.size, i.sg) = l
  intro h2
  cases l with
  | nil => cases h2
  | cons c r => exact ⟨c, r, rfl, h2⟩

theorem itoa_wb (n : Int) : ∀ b ∈ itoa n, wb b = true := by
  intro b hb
  have hne : ∀ k : UInt8, (48 ≤ b.toNat ∧ b.toNat ≤ 57) → (k.toNat < 48 ∨ 57 < k.toNat) → (b != k) = true := by
    intro k h1 h2
    simp only [bne_iff_ne, ne_eq]
    rintro rfl
    omega
  rcases itoa_bytes n b hb with h | rfl
  · unfold wb lb
    rw [hne 10 h (by decide), hne 35 h (by decide), hne 58 h (by decide), hne 32 h (by decide), hne 44 h (by decide)]
    rfl
  · rfl

theorem told_wb (i : Ins) (what : Nat) : (∀ b ∈ toldL i what, wb b = true) ∧ toldL i what ≠ [] := by
  have cons : ∀ n : Int, (∀ b ∈ (120 : UInt8) :: itoa n, wb b = true) ∧ (120 : UInt8) :: itoa n ≠ [] := fun n => ⟨fun b hb => by
    rcases List.mem_cons.1 hb with rfl | h
    · rfl
    · exact itoa_wb n b h, by simp⟩
  unfold toldL
  repeat' split
  all_goals first | exact cons _ | exact ⟨itoa_wb _, itoa_ne _⟩

theorem wb_lb {b : UInt8} (h : wb b = true) : lb b = true := by
  unfold wb at h
  simp only [Bool.and_eq_true] at h
  exact h.1.1

theorem lb_cons {b : UInt8} {r : List UInt8} (h : lb b = true) (hr : ∀ x ∈ r, lb x = true) : ∀ x ∈ b :: r, lb x = true := by
  intro x hx
  rcases List.mem_cons.1 hx with rfl | h'
  · exact h
  · exact hr x h'

/-- Behind each comma a blank. -/
def comma : List UInt8 → Bool
  | [] => true
  | b :: r => (b != 44 || r.head? == some 32) && comma r

theorem comma_word : ∀ (w r : List UInt8), (∀ b ∈ w, wb b = true) → comma r = true → comma (w ++ r) = true
  | [], r, _, h => h
  | b :: w, r, hw, h => by
    rw [List.cons_append, comma, comma_word w r (fun x hx => hw x (List.mem_cons_of_mem _ hx)) h, Bool.and_true]
    have := hw b (List.mem_cons_self ..)
    unfold wb at this
    simp only [Bool.and_eq_true] at this
    rw [this.2]; rfl
theorem comma_sep {b : UInt8} {r : List UInt8} (hb : (b != 44) = true) (h : comma r = true) : comma (b :: r) = true := by rw [comma, h, hb]; rfl
theorem comma_comma {r : List UInt8} (h : comma r = true) : comma (44 :: 32 :: r) = true := by rw [comma, comma_sep (by decide) h]; rfl

/-- What a line's end is: each word's bytes, commas, and that it does not end with a blank. -/
structure Tl (t : List UInt8) : Prop where
  all : ∀ b ∈ t, lb b = true
  com : comma t = true
  last : t.getLast? ≠ some 32

theorem last_word {w : List UInt8} (hw : ∀ b ∈ w, wb b = true) : w.getLast? ≠ some 32 := by
  intro h
  have hm := hw 32 (List.mem_of_getLast? h)
  exact absurd hm (by decide)

theorem Tl.word {w t : List UInt8} (hw : ∀ b ∈ w, wb b = true) (ht : Tl t) : Tl (w ++ t) := by
  refine ⟨?_, comma_word w t hw ht.com, ?_⟩
  · intro b hb
    rcases List.mem_append.1 hb with h | h
    · exact wb_lb (hw b h)
    · exact ht.all b h
  · rw [List.getLast?_append]
    cases h : t.getLast? with
    | none => simpa using last_word hw
    | some x => simpa using fun e => ht.last (by rw [h, e])
theorem Tl.sep {b : UInt8} {t : List UInt8} (h1 : lb b = true) (h2 : (b != 44) = true) (hne : t ≠ []) (ht : Tl t) : Tl (b :: t) := by
  refine ⟨lb_cons h1 ht.all, comma_sep h2 ht.com, ?_⟩
  cases t with
  | nil => exact absurd rfl hne
  | cons c r => rw [List.getLast?_cons_cons]; exact ht.last
theorem Tl.comma {t : List UInt8} (hne : t ≠ []) (ht : Tl t) : Tl (44 :: 32 :: t) := by
  refine ⟨lb_cons (by decide) (lb_cons (by decide) ht.all), comma_comma ht.com, ?_⟩
  cases t with
  | nil => exact absurd rfl hne
  | cons c r => rw [List.getLast?_cons_cons, List.getLast?_cons_cons]; exact ht.last
theorem Tl.nil : Tl [] := ⟨by simp, rfl, by simp⟩
theorem Tl.close : Tl [41] := ⟨by decide, rfl, by decide⟩

theorem ne_app {w t : List UInt8} (h : w ≠ []) : w ++ t ≠ [] := by
  intro e
  exact h (List.append_eq_nil_iff.1 e).1

theorem line_tl {i : Ins} (h : Fit i) : Tl (lineI i) := by
  unfold lineI
  have nb := (name_wb h).1
  have t := told_wb i
  have w : ∀ k, Tl (toldL i k) := fun k => by have := Tl.word (t k).1 Tl.nil; rwa [List.append_nil] at this
  have f2 : ∀ a b, Tl (fillS sh2 [toldL i a, toldL i b]) := fun a b => by
    show Tl (32 :: (toldL i a ++ 44 :: 32 :: (toldL i b ++ [])))
    rw [List.append_nil]
    exact Tl.sep (by decide) (by decide) (ne_app (t a).2) (Tl.word (t a).1 (Tl.comma (t b).2 (w b)))
  have fM : ∀ a b c, Tl (fillS shM [toldL i a, toldL i b, toldL i c]) := fun a b c => by
    show Tl (32 :: (toldL i a ++ 44 :: 32 :: (toldL i b ++ 40 :: (toldL i c ++ [41]))))
    exact Tl.sep (by decide) (by decide) (ne_app (t a).2) (Tl.word (t a).1 (Tl.comma (ne_app (t b).2) (Tl.word (t b).1 (Tl.sep (by decide) (by decide) (ne_app (t c).2) (Tl.word (t c).1 Tl.close)))))
  have f3 : ∀ a b c, Tl (fillS sh3 [toldL i a, toldL i b, toldL i c]) := fun a b c => by
    show Tl (32 :: (toldL i a ++ 44 :: 32 :: (toldL i b ++ 44 :: 32 :: (toldL i c ++ []))))
    rw [List.append_nil]
    exact Tl.sep (by decide) (by decide) (ne_app (t a).2) (Tl.word (t a).1 (Tl.comma (ne_app (t b).2) (Tl.word (t b).1 (Tl.comma (t c).2 (w c)))))
  have fL : ∀ a b, Tl (fillS shL [toldL i a, toldL i b]) := fun a b => by
    show Tl (32 :: (toldL i a ++ 44 :: 32 :: 40 :: (toldL i b ++ [41])))
    exact Tl.sep (by decide) (by decide) (ne_app (t a).2) (Tl.word (t a).1 (Tl.comma (by simp) (Tl.sep (by decide) (by decide) (ne_app (t b).2) (Tl.word (t b).1 Tl.close))))
  have fA : ∀ a b c, Tl (fillS shA [toldL i a, toldL i b, toldL i c]) := fun a b c => by
    show Tl (32 :: (toldL i a ++ 44 :: 32 :: (toldL i b ++ 44 :: 32 :: 40 :: (toldL i c ++ [41]))))
    exact Tl.sep (by decide) (by decide) (ne_app (t a).2) (Tl.word (t a).1 (Tl.comma (ne_app (t b).2) (Tl.word (t b).1 (Tl.comma (by simp) (Tl.sep (by decide) (by decide) (ne_app (t c).2) (Tl.word (t c).1 Tl.close))))))
  refine Tl.word nb ?_
  rcases formL_cases i.kind with e | e | e | e | e | e | e | e | e | e | e | e | e <;> rw [e] <;> simp only [List.map_cons, List.map_nil]
  · exact f2 _ _
  · exact f2 _ _
  · exact fM _ _ _
  · exact f3 _ _ _
  · exact fM _ _ _
  · exact f3 _ _ _
  · exact f3 _ _ _
  · exact f3 _ _ _
  · exact f3 _ _ _
  · exact fL _ _
  · exact fA _ _ _
  · exact f2 _ _
  · exact Tl.nil

theorem line_head {i : Ins} (h : Fit i) : ∃ c r, lineI i = c :: r ∧ isLow c = true := by
  obtain ⟨c, r, e, hc⟩ := (name_wb h).2
  exact ⟨c, r ++ fillS (formL i.kind).1 ((formL i.kind).2.map (toldL i)), by unfold lineI; rw [e]; rfl, hc⟩

theorem trim_id {c : UInt8} {r : List UInt8} (h0 : (c == 32) = false) (h1 : (c :: r).getLast? ≠ some 32) : trimB (c :: r) 32 = c :: r := by
  have e : trimRightB (c :: r) 32 = c :: r := by
    unfold trimRightB
    obtain ⟨p, x, e⟩ : ∃ p x, c :: r = p ++ [x] := ⟨(c :: r).dropLast, (c :: r).getLast (by simp), (List.dropLast_concat_getLast (by simp)).symm⟩
    rw [e] at h1 ⊢
    rw [List.getLast?_append] at h1
    have hx : (x == 32) = false := by simpa using h1
    rw [List.reverse_append]
    show ((x :: p.reverse).dropWhile (· == 32)).reverse = _
    rw [List.dropWhile_cons, if_neg (by rw [hx]; simp)]
    simp
  unfold trimB
  rw [e]
  unfold trimLeftB
  rw [List.dropWhile_cons, if_neg (by rw [h0]; simp)]

theorem low_ne {c k : UInt8} (h : isLow c = true) (hk : k.toNat < 97) : (c == k) = false := by
  unfold isLow at h
  simp only [Bool.and_eq_true, decide_eq_true_eq] at h
  simp only [beq_eq_false_iff_ne, ne_eq]
  rintro rfl
  omega

/-- What asm.Assemble asks of a line: it is no mark, no comment, not empty; has no line feed; its blanks are its own; it is no number. -/
structure Ln (l : List UInt8) : Prop where
  feed : ∀ b ∈ l, b ≠ 10
  trim : trimB l 32 = l
  some' : nothingL l = false
  mark : markL l = none
  dot : hasPrefix l [46, 119, 111, 114, 100, 32] = false

theorem ln_of {c : UInt8} {r : List UInt8} (hc : isLow c = true) (h : Tl (c :: r)) : Ln (c :: r) := by
  refine ⟨?_, trim_id (low_ne hc (by decide)) h.last, ?_, ?_, ?_⟩
  · intro b hb e
    subst e
    exact absurd (h.all 10 hb) (by decide)
  · show (false || (some c == some 35)) = false
    rw [Bool.false_or]
    simpa using low_ne hc (k := 35) (by decide)
  · unfold markL
    rw [if_neg]
    rintro ⟨h1, -⟩
    exact absurd (h.all 58 (List.mem_of_getLast? h1)) (by decide)
  · show ([46, 119, 111, 114, 100, 32] : List UInt8).isPrefixOf (c :: r) = false
    have h46 := low_ne hc (k := 46) (by decide)
    have : ((46 : UInt8) == c) = false := by
      simp only [beq_eq_false_iff_ne, ne_eq] at h46 ⊢
      exact fun e => h46 e.symm
    rw [List.isPrefixOf, this]; rfl

theorem line_ln {i : Ins} (h : Fit i) : Ln (lineI i) := by
  obtain ⟨c, r, e, hc⟩ := line_head h
  have := line_tl h
  rw [e] at this ⊢
  exact ln_of hc this

end Go.Proofs.YtjapahcbhjjeiaaGreatDoor.AS

/- Lines of instructions, one below the other: what asm.Assemble makes of them. No program in sight but for the plain models. -/
namespace Go.Proofs.YtjapahcbhjjeiaaGreatDoor.AS
open Go.Lib

/-- Instructions as a text, each a line. -/
def txt (l : List Ins) : List UInt8 := l.flatMap fun i => lineI i ++ [10]
/-- .. and as bytes. -/
def codeL (l : List Ins) : List Int := l.flatMap fun i => le4 (encL i)

theorem txt_append (a b : List Ins) : txt (a ++ b) = txt a ++ txt b := by unfold txt; rw [List.flatMap_append]
theorem txt_snoc (a : List Ins) (i : Ins) : txt (a ++ [i]) = txt a ++ lineI i ++ [10] := by rw [txt_append]; simp [txt]
theorem codeL_append (a b : List Ins) : codeL (a ++ b) = codeL a ++ codeL b := by unfold codeL; rw [List.flatMap_append]
theorem codeL_len : ∀ (a : List Ins), (codeL a).length = 4 * a.length
  | [] => rfl
  | i :: r => by
    have := codeL_len r
    show (le4 (encL i) ++ codeL r).length = _
    rw [List.length_append, this, show (le4 (encL i)).length = 4 from rfl, List.length_cons]
    omega

theorem feed_cut {l : List UInt8} (h : Ln l) (u : List UInt8) : linesB (l ++ 10 :: u) = l :: linesB u := by
  rw [linesB_cut (l := l ++ 10 :: u) (p := l) (q := u) rfl h.feed, h.trim]

theorem linesB_txt : ∀ (l : List Ins), (∀ i ∈ l, Fit i) → ∀ u, linesB (txt l ++ u) = l.map lineI ++ linesB u
  | [], _, u => rfl
  | i :: r, h, u => by
    have ih := linesB_txt r (fun x hx => h x (List.mem_cons_of_mem _ hx)) u
    show linesB ((lineI i ++ [10] ++ txt r) ++ u) = _
    rw [List.append_assoc, List.append_assoc, List.singleton_append, feed_cut (line_ln (h i (List.mem_cons_self ..))), ih]
    rfl
theorem linesB_txt' (l : List Ins) (h : ∀ i ∈ l, Fit i) : linesB (txt l) = l.map lineI := by
  have := linesB_txt l h []
  rwa [List.append_nil, linesB_nil, List.append_nil] at this

theorem places_none : ∀ (ls : List (List UInt8)), (∀ l ∈ ls, markL l = none) → ∀ b i, placesGo [] b i ls = []
  | [], _, _, _ => rfl
  | l :: r, h, b, i => by
    have ih := places_none r (fun x hx => h x (List.mem_cons_of_mem _ hx))
    have hm := h l (List.mem_cons_self ..)
    rw [placesGo]
    split
    · exact ih _ _
    · rw [hm]; exact ih _ _

theorem here_none {l : List UInt8} (h : markL l = none) (ps : List Mk) (i : Nat) : isHere ps l i = false := by unfold isHere; rw [h]

theorem inst_line {i : Ins} (h : mayL i = true) (ps : List Mk) (at_ : Nat) : instL ps at_ (lineI i) = some (encL i) := by
  unfold instL
  rw [parseL_line mayL_fit h]

theorem go_lines (ps : List Mk) : ∀ (l : List Ins), (∀ i ∈ l, mayL i = true) → ∀ (b : List Int) (k : Nat) (r : List (List UInt8)), b.length + 4 * l.length ≤ 65536 →
    asmGo (instL ps) ps b k (l.map lineI ++ r) = asmGo (instL ps) ps (b ++ codeL l) (k + l.length) r
  | [], _, b, k, r, _ => by simp [codeL]
  | i :: l, h, b, k, r, hb => by
    have hi := h i (List.mem_cons_self ..)
    have hl := line_ln (mayL_fit i hi)
    simp only [List.length_cons] at hb
    rw [List.map_cons, List.cons_append, asmGo, if_neg (by rw [hl.some']; simp), if_neg (by rw [here_none hl.mark]; simp)]
    rw [inst_line hi]
    dsimp only
    rw [if_neg (by omega), go_lines ps l (fun x hx => h x (List.mem_cons_of_mem _ hx)) (b ++ le4 (encL i)) (k + 1) r (by rw [List.length_append, show (le4 (encL i)).length = 4 from rfl]; omega)]
    have e1 : b ++ le4 (encL i) ++ codeL l = b ++ codeL (i :: l) := by rw [List.append_assoc]; rfl
    have e2 : k + 1 + l.length = k + (i :: l).length := by rw [List.length_cons]; omega
    rw [e1, e2]
theorem go_lines' (ps : List Mk) (l : List Ins) (h : ∀ i ∈ l, mayL i = true) (hl : 4 * l.length ≤ 65536) : asmGo (instL ps) ps [] 0 (l.map lineI) = (codeL l, 0) := by
  have := go_lines ps l h [] 0 [] (by simpa using hl)
  rw [List.append_nil, List.nil_append] at this
  rw [this]; rfl

/-- A line that is none: no blanks behind its commas. -/
def badL : List UInt8 := [97, 100, 100, 105, 32, 120, 49, 44, 120, 50, 44, 51]
theorem bad_ln : Ln badL := ⟨by decide, by decide, by decide, by decide, by decide⟩
theorem bad_parse : parseL mayL badL = none := by
  cases h : parseL mayL badL with
  | none => rfl
  | some j =>
    have := parseL_some h
    have c := (line_tl (mayL_fit j this.1)).com
    rw [this.2] at c
    exact absurd c (by decide)
theorem bad_inst (at_ : Nat) : instL [] at_ badL = none := by
  unfold instL
  rw [bad_parse]
  dsimp only
  split <;> rfl
theorem go_bad (l : List Ins) (h : ∀ i ∈ l, mayL i = true) (hl : 4 * l.length ≤ 65536) (r : List (List UInt8)) : asmGo (instL []) [] [] 0 (l.map lineI ++ badL :: r) = ([], l.length + 1) := by
  rw [go_lines [] l h [] 0 _ (by simpa using hl), asmGo, if_neg (by decide), if_neg (by rw [here_none bad_ln.mark]; simp), bad_inst]
  simp

end Go.Proofs.YtjapahcbhjjeiaaGreatDoor.AS

/- The walk of AsmJoins. -/
namespace Go.Proofs.YtjapahcbhjjeiaaGreatDoor.AS
open Go.RowKit Go.MapKept Go.Proofs.YtjapahcbhjjeiaaGreatDoorW.PrintWords Go.Proofs.YtjapahcbhjjeiaaGreatDoorW.PrintLast Go.Proofs.YtjapahcbhjjeiaaGreatDoorW.PrintMore Go.Proofs.YtjapahcbhjjeiaaGreatDoor.PA
set_option linter.unusedVariables false
set_option linter.unusedSimpArgs false
set_option maxRecDepth 100000

section
variable {P : Program} {ops : Array Oper} {rest : List Oper} {o : Oper} {a : Act} {Q : Exit → Act → World → Prop}
theorem guard_strip {d op ty po af g} {W : World} (hw : Region.wanted ⟨d, op, ty, po, af, some g⟩ (yielded ops a.tmps) = true) (h : wpList P ops Q (⟨d, op, ty, po, af, none⟩ :: rest) a W) : wpList P ops Q (⟨d, op, ty, po, af, some g⟩ :: rest) a W := by
  unfold wpList at h ⊢
  rw [if_pos hw]
  rw [if_pos (by rfl)] at h
  exact h
end

theorem same_l0 (l : List Int) (hl : l.length ≤ 1000000000) : ∀ (n : Nat) (j : Nat), j + n = l.length → citadellaw00_SameBytes.l0 (n + 1) l l (j : Int) = some true
  | 0, j, h => by
    rw [citadellaw00_SameBytes.l0, if_neg (by omega)]
  | n + 1, j, h => by
    rw [citadellaw00_SameBytes.l0, if_pos (by omega), if_pos (by omega), if_pos (by omega), if_pos rfl, w64 (by omega) (by omega)]
    exact same_l0 l hl n (j + 1) (by omega)
theorem same_f (l : List Int) (hl : l.length ≤ 1000000000) : citadellaw00_SameBytes.f (l.length + 1) l l = some true := by
  unfold citadellaw00_SameBytes.f
  rw [if_pos rfl]
  exact same_l0 l hl l.length 0 (by omega)

theorem txt_len : ∀ (l : List Ins), (∀ i ∈ l, mayL i = true) → (txt l).length ≤ 401 * l.length
  | [], _ => by simp [txt]
  | i :: r, h => by
    have := txt_len r (fun x hx => h x (List.mem_cons_of_mem _ hx))
    have h1 := line_short i (mayL_fit i (h i (List.mem_cons_self ..)))
    show (lineI i ++ [10] ++ txt r).length ≤ _
    simp only [List.length_append, List.length_cons, List.length_nil]
    omega

theorem asm_of (t : List UInt8) (ls : List (List UInt8)) (ht : t.length ≤ 1073741824) (hls : linesB t = ls) (hmk : ∀ l ∈ ls, Ln l) (hsh : ∀ l ∈ ls, l.length ≤ 1000) (code : List Int) (wrong : Nat) (hgo : asmGo (instL []) [] [] 0 ls = (code, wrong)) (W : World) (hg : GW W) :
    Calls Tryz.prog 18 #[.string (bB t)] W fun e w' => ∃ A c, e = .returned (.tuple #[.slice A code.length c, .int .i64 (wrong : Nat)]) ∧ code.length ≤ c ∧ Kd.C (Kd.int .u8) w' A code.length code ∧ Below W.heap.size W w' := by
  have hp : placesL ls = [] := places_none ls (fun l hl => (hmk l hl).mark) 0 0
  have := assemble_calls t ht (instL []) W hg (by
    rw [hls, hp]
    intro l hl _ hU
    exact word_ok _ l (by have := hsh l hl; omega) (by simp) (hmk l hl).dot hU)
  rw [hls, hp, hgo] at this
  refine this.mono ?_
  rintro e w' ⟨A, n, c, rfl, rfl, hc, hC, hb⟩
  exact ⟨A, c, rfl, hc, hC, hb⟩

theorem lines_ok (l : List Ins) (h : ∀ i ∈ l, mayL i = true) : (∀ x ∈ l.map lineI, Ln x) ∧ ∀ x ∈ l.map lineI, x.length ≤ 1000 := by
  refine ⟨fun x hx => ?_, fun x hx => ?_⟩ <;> obtain ⟨i, hi, rfl⟩ := List.mem_map.1 hx
  · exact line_ln (mayL_fit i (h i hi))
  · have := line_short i (mayL_fit i (h i hi)); omega

theorem asm_txt (l : List Ins) (h : ∀ i ∈ l, mayL i = true) (hn : l.length ≤ 8000) (W : World) (hg : GW W) :
    Calls Tryz.prog 18 #[.string (bB (txt l))] W fun e w' => ∃ A c, e = .returned (.tuple #[.slice A (codeL l).length c, .int .i64 0]) ∧ (codeL l).length ≤ c ∧ Kd.C (Kd.int .u8) w' A (codeL l).length (codeL l) ∧ Below W.heap.size W w' :=
  asm_of (txt l) (l.map lineI) (by have := txt_len l h; omega) (linesB_txt' l fun i hi => mayL_fit i (h i hi)) (lines_ok l h).1 (lines_ok l h).2 (codeL l) 0 (go_lines' [] l h (by omega)) W hg

theorem asm_bad (l r : List Ins) (h : ∀ i ∈ l, mayL i = true) (hr : ∀ i ∈ r, mayL i = true) (hn : l.length ≤ 4000) (hm : r.length ≤ 4000) (W : World) (hg : GW W) :
    Calls Tryz.prog 18 #[.string (bB (txt l ++ (badL ++ [10]) ++ txt r))] W fun e w' => ∃ A c, e = .returned (.tuple #[.slice A 0 c, .int .i64 ((l.length + 1 : Nat) : Int)]) ∧ Below W.heap.size W w' := by
  have e : linesB (txt l ++ (badL ++ [10]) ++ txt r) = l.map lineI ++ badL :: r.map lineI := by
    rw [List.append_assoc, linesB_txt l (fun i hi => mayL_fit i (h i hi)), List.append_assoc, List.singleton_append, feed_cut bad_ln, linesB_txt' r fun i hi => mayL_fit i (hr i hi)]
  refine (asm_of _ _ ?_ e ?_ ?_ [] (l.length + 1) (go_bad l h (by omega) _) W hg).mono ?_
  · have h1 := txt_len l h; have h2 := txt_len r hr
    simp only [List.length_append, show badL.length = 12 from rfl, List.length_singleton]
    omega
  · intro x hx
    rcases List.mem_append.1 hx with hx | hx
    · exact (lines_ok l h).1 x hx
    · rcases List.mem_cons.1 hx with rfl | hx
      · exact bad_ln
      · exact (lines_ok r hr).1 x hx
  · intro x hx
    rcases List.mem_append.1 hx with hx | hx
    · exact (lines_ok l h).2 x hx
    · rcases List.mem_cons.1 hx with rfl | hx
      · decide
      · exact (lines_ok r hr).2 x hx
  · rintro e w' ⟨A, c, rfl, -, -, hb⟩
    exact ⟨A, c, rfl, hb⟩

end Go.Proofs.YtjapahcbhjjeiaaGreatDoor.AS

/- The walk of AsmJoins. -/
namespace Go.Proofs.YtjapahcbhjjeiaaGreatDoor.AS
open Go.RowKit Go.MapKept Go.Proofs.YtjapahcbhjjeiaaGreatDoorW.PrintWords Go.Proofs.YtjapahcbhjjeiaaGreatDoorW.PrintLast Go.Proofs.YtjapahcbhjjeiaaGreatDoorW.PrintMore Go.Proofs.YtjapahcbhjjeiaaGreatDoor.PA
set_option linter.unusedVariables false
set_option linter.unusedSimpArgs false
set_option maxRecDepth 100000

set_option maxHeartbeats 8000000 in
theorem joins_calls (la lb : List Ins) (A0 A1 : Option Addr) (c0 c1 : Nat) (wrong : Bool) (W : World) (hgw : GW W) (h0 : Kd.C k23 W A0 la.length (la.map toS)) (hc0 : la.length ≤ c0) (h1 : Kd.C k23 W A1 lb.length (lb.map toS)) (hc1 : lb.length ≤ c1) :
    Calls Tryz.prog 7 #[.slice A0 la.length c0, .slice A1 lb.length c1, .bool wrong] W fun e w' => e = .returned (.bool true) ∧ Below W.heap.size W w' := by
  have HB := Aside0.mk (Below.refl W.heap.size W)
  have HG := Aside0.mk hgw
  have H0 := Aside0.mk h0
  have H1 := Aside0.mk h1
  have hu23 := Tryz.underlying23
  clear hgw h0 h1
  go_enter Tryz.func7, Tryz.ntmps7
  go_upto_block 0 with fail
  go_cut [7, 8] (fun v7 v8 wx => ∃ X : List Ins, X.length ≤ 4000 ∧ (∀ i ∈ X, mayL i = true) ∧ v7 = .string (bB (txt X)) ∧ v8 = .int .i64 (X.length : Int) ∧ Below W.heap.size W wx)
  case first =>
    go_wp2_with fail
    go_loopw [7, 8, 9] (fun v7 v8 v9 wr => ∃ (k : Nat) (X : List Ins), v9 = .int .i64 (k : Int) ∧ k ≤ la.length ∧ k ≤ 4000 ∧ X.length ≤ k ∧ (∀ i ∈ X, mayL i = true) ∧ v7 = .string (bB (txt X)) ∧ v8 = .int .i64 (X.length : Int) ∧ Below W.heap.size W wr) (fun _ _ v9 _ => la.length - (intOf v9).toNat)
    case atStart => exact ⟨0, [], rfl, Nat.zero_le _, Nat.zero_le _, Nat.le_refl _, by simp, rfl, rfl, HB.out⟩
    case round =>
      obtain ⟨k, X, rfl, hk, hk4, hX, hM, rfl, rfl, hB⟩ := hrel
      have HBr := Aside0.mk hB
      have HGr := Aside0.mk (HG.out.below hB)
      have HM := Aside0.mk hM
      have HX := Aside0.mk hX
      have hXk : (X.length : Int) ≤ 4000 := by omega
      have HTL := Aside0.mk (txt_len X hM)
      obtain ⟨sx, hsx⟩ : ∃ x, x = bB (txt X) := ⟨_, rfl⟩
      have hsz : sx.size ≤ 401 * 4000 := by rw [hsx, bB_size]; have := HTL.out; omega
      rw [← hsx]
      have HSX := Aside0.mk hsx
      clear hB hM hX HTL hsx
      by_cases hin : k < la.length ∧ k < 4000
      · have hkl : (k : Int) < (la.length : Int) := by omega
        have hk40 : (k : Int) < 4000 := by omega
        have hd0 : decide ((k : Int) < (la.length : Int)) = true := decide_eq_true hkl
        have hd1 : decide ((k : Int) < 4000) = true := decide_eq_true hk40
        obtain ⟨cx, hcx⟩ : ∃ x, x = la[k]'hin.1 := ⟨_, rfl⟩
        have hdk : la.drop k = cx :: la.drop (k + 1) := by rw [hcx]; exact List.drop_eq_getElem_cons hin.1
        obtain ⟨kd, fn, rv, r1, r2, imm, sz, sg⟩ := cx
        obtain ⟨ad, rfl, z0, z1, z2, z3, z4, z5, z6, z7⟩ := all_cell (Kd.C_below H0.out HBr.out) hdk
        have HIN := Aside0.mk hin
        clear hcx hdk hin hk hk4
        cases hm : mayL ⟨kd, fn, rv, r1, r2, imm, sz, sg⟩ with
        | true =>
          have LY := Line_yes ⟨kd, fn, rv, r1, r2, imm, sz, sg⟩ hm
          have hll := line_short _ (mayL_fit _ hm)
          obtain ⟨tx, htx⟩ : ∃ x, x = bB (lineI ⟨kd, fn, rv, r1, r2, imm, sz, sg⟩) := ⟨_, rfl⟩
          have htz : tx.size ≤ 400 := by rw [htx, bB_size]; exact hll
          rw [← htx] at LY
          have HTX := Aside0.mk htx
          have HMM := Aside0.mk hm
          clear htx hll hm
          go_wp2_with fail
          refine (LY _ HGr.out).mono ?_
          rintro e w6 ⟨rfl, hb⟩
          have HB6 := Aside0.mk (below_step HBr.out hb)
          clear hb LY z0 z1 z2 z3 z4 z5 z6 z7
          have hs1 : ¬ 9223372036854775807 < sx.size + tx.size := by omega
          have hs2 : ¬ 9223372036854775807 < sx.size + tx.size + 1 := by omega
          have hs3 : ¬ 9223372036854775807 < (sx ++ tx).size + 1 := by rw [ByteArray.size_append]; omega
          go_wp2
          go_roundw
          case rel =>
            refine ⟨k + 1, X ++ [⟨kd, fn, rv, r1, r2, imm, sz, sg⟩], by go_num, by have := HIN.out; omega, by have := HIN.out; omega, by have := HX.out; simp; omega, ?_, ?_, ?_, HB6.out⟩
            · intro i hi
              rcases List.mem_append.1 hi with h | h
              · exact HM.out i h
              · rw [List.mem_singleton.1 h]; exact HMM.out
            · rw [txt_snoc, HSX.out, HTX.out, bB_append]; exact congrArg Value.string (bB_append _ _)
            · simp
          case measure => simp [intOf]; have := HIN.out; omega
        | false =>
          have LN := Line_no ⟨kd, fn, rv, r1, r2, imm, sz, sg⟩ hm
          clear hm
          go_wp2_with fail
          refine (LN _).mono ?_
          rintro e w6 ⟨rfl, hb⟩
          have HB6 := Aside0.mk (below_step HBr.out hb)
          clear hb LN z0 z1 z2 z3 z4 z5 z6 z7
          go_wp2
          go_roundw
          case rel => exact ⟨k + 1, X, by go_num, by have := HIN.out; omega, by have := HIN.out; omega, by have := HX.out; omega, HM.out, congrArg Value.string HSX.out, rfl, HB6.out⟩
          case measure => simp [intOf]; have := HIN.out; omega
      · by_cases h1 : k < la.length
        · have hk40 : (k : Int) < (la.length : Int) := by omega
          have hd0 : decide ((k : Int) < (la.length : Int)) = true := decide_eq_true hk40
          have hk41 : (4000 : Int) ≤ (k : Int) := by omega
          have hd1 : decide ((k : Int) < 4000) = false := decide_eq_false (by omega)
          clear h1 hin hk hk4
          go_wp2
          go_meet
          exact ⟨X, by have := HX.out; omega, HM.out, congrArg Value.string HSX.out, rfl, HBr.out⟩
        · have hk41 : (la.length : Int) ≤ (k : Int) := by omega
          have hd0 : decide ((k : Int) < (la.length : Int)) = false := decide_eq_false (by omega)
          clear h1 hin hk hk4
          go_wp2
          go_meet
          exact ⟨X, by have := HX.out; omega, HM.out, congrArg Value.string HSX.out, rfl, HBr.out⟩
  obtain ⟨X, hX, hMX, rfl, rfl, hB⟩ := hcut
  have HX := Aside0.mk hX
  have HMX := Aside0.mk hMX
  clear HB
  have HB := Aside0.mk hB
  clear hX hMX hB
  go_upto_block 2 with fail
  go_cut [12] (fun v12 wx => ∃ X : List Ins, X.length ≤ 4000 ∧ (∀ i ∈ X, mayL i = true) ∧ v12 = .string (bB (txt X)) ∧ Below W.heap.size W wx)
  case first =>
    go_wp2_with fail
    go_loopw [12, 13] (fun v12 v13 wr => ∃ (k : Nat) (X : List Ins), v13 = .int .i64 (k : Int) ∧ k ≤ lb.length ∧ k ≤ 4000 ∧ X.length ≤ k ∧ (∀ i ∈ X, mayL i = true) ∧ v12 = .string (bB (txt X)) ∧ Below W.heap.size W wr) (fun _ v13 _ => lb.length - (intOf v13).toNat)
    case atStart => exact ⟨0, [], rfl, Nat.zero_le _, Nat.zero_le _, Nat.le_refl _, by simp, rfl, HB.out⟩
    case round =>
      obtain ⟨k, X, rfl, hk, hk4, hX, hM, rfl, hB⟩ := hrel
      have HBr := Aside0.mk hB
      have HGr := Aside0.mk (HG.out.below hB)
      have HM := Aside0.mk hM
      have HX := Aside0.mk hX
      have hXk : (X.length : Int) ≤ 4000 := by omega
      have HTL := Aside0.mk (txt_len X hM)
      obtain ⟨sx, hsx⟩ : ∃ x, x = bB (txt X) := ⟨_, rfl⟩
      have hsz : sx.size ≤ 401 * 4000 := by rw [hsx, bB_size]; have := HTL.out; omega
      rw [← hsx]
      have HSX := Aside0.mk hsx
      clear hB hM hX HTL hsx
      by_cases hin : k < lb.length ∧ k < 4000
      · have hkl : (k : Int) < (lb.length : Int) := by omega
        have hk40 : (k : Int) < 4000 := by omega
        have hd0 : decide ((k : Int) < (lb.length : Int)) = true := decide_eq_true hkl
        have hd1 : decide ((k : Int) < 4000) = true := decide_eq_true hk40
        obtain ⟨cx, hcx⟩ : ∃ x, x = lb[k]'hin.1 := ⟨_, rfl⟩
        have hdk : lb.drop k = cx :: lb.drop (k + 1) := by rw [hcx]; exact List.drop_eq_getElem_cons hin.1
        obtain ⟨kd, fn, rv, r1, r2, imm, sz, sg⟩ := cx
        obtain ⟨ad, rfl, z0, z1, z2, z3, z4, z5, z6, z7⟩ := all_cell (Kd.C_below H1.out HBr.out) hdk
        have HIN := Aside0.mk hin
        clear hcx hdk hin hk hk4
        cases hm : mayL ⟨kd, fn, rv, r1, r2, imm, sz, sg⟩ with
        | true =>
          have LY := Line_yes ⟨kd, fn, rv, r1, r2, imm, sz, sg⟩ hm
          have hll := line_short _ (mayL_fit _ hm)
          obtain ⟨tx, htx⟩ : ∃ x, x = bB (lineI ⟨kd, fn, rv, r1, r2, imm, sz, sg⟩) := ⟨_, rfl⟩
          have htz : tx.size ≤ 400 := by rw [htx, bB_size]; exact hll
          rw [← htx] at LY
          have HTX := Aside0.mk htx
          have HMM := Aside0.mk hm
          clear htx hll hm
          go_wp2_with fail
          refine (LY _ HGr.out).mono ?_
          rintro e w6 ⟨rfl, hb⟩
          have HB6 := Aside0.mk (below_step HBr.out hb)
          clear hb LY z0 z1 z2 z3 z4 z5 z6 z7
          have hs1 : ¬ 9223372036854775807 < sx.size + tx.size := by omega
          have hs2 : ¬ 9223372036854775807 < sx.size + tx.size + 1 := by omega
          have hs3 : ¬ 9223372036854775807 < (sx ++ tx).size + 1 := by rw [ByteArray.size_append]; omega
          go_wp2
          go_roundw
          case rel =>
            refine ⟨k + 1, X ++ [⟨kd, fn, rv, r1, r2, imm, sz, sg⟩], by go_num, by have := HIN.out; omega, by have := HIN.out; omega, by have := HX.out; simp; omega, ?_, ?_, HB6.out⟩
            · intro i hi
              rcases List.mem_append.1 hi with h | h
              · exact HM.out i h
              · rw [List.mem_singleton.1 h]; exact HMM.out
            · rw [txt_snoc, HSX.out, HTX.out, bB_append]; exact congrArg Value.string (bB_append _ _)
          case measure => simp [intOf]; have := HIN.out; omega
        | false =>
          have LN := Line_no ⟨kd, fn, rv, r1, r2, imm, sz, sg⟩ hm
          clear hm
          go_wp2_with fail
          refine (LN _).mono ?_
          rintro e w6 ⟨rfl, hb⟩
          have HB6 := Aside0.mk (below_step HBr.out hb)
          clear hb LN z0 z1 z2 z3 z4 z5 z6 z7
          go_wp2
          go_roundw
          case rel => exact ⟨k + 1, X, by go_num, by have := HIN.out; omega, by have := HIN.out; omega, by have := HX.out; omega, HM.out, congrArg Value.string HSX.out, HB6.out⟩
          case measure => simp [intOf]; have := HIN.out; omega
      · by_cases h1 : k < lb.length
        · have hk40 : (k : Int) < (lb.length : Int) := by omega
          have hd0 : decide ((k : Int) < (lb.length : Int)) = true := decide_eq_true hk40
          have hk41 : (4000 : Int) ≤ (k : Int) := by omega
          have hd1 : decide ((k : Int) < 4000) = false := decide_eq_false (by omega)
          clear h1 hin hk hk4
          go_wp2
          go_meet
          exact ⟨X, by have := HX.out; omega, HM.out, congrArg Value.string HSX.out, HBr.out⟩
        · have hk41 : (lb.length : Int) ≤ (k : Int) := by omega
          have hd0 : decide ((k : Int) < (lb.length : Int)) = false := decide_eq_false (by omega)
          clear h1 hin hk hk4
          go_wp2
          go_meet
          exact ⟨X, by have := HX.out; omega, HM.out, congrArg Value.string HSX.out, HBr.out⟩
  obtain ⟨Y, hY, hMY, rfl, hB⟩ := hcut
  have HY := Aside0.mk hY
  have HMY := Aside0.mk hMY
  have HG1 := Aside0.mk (HG.out.below hB)
  clear HB HG
  have HB := Aside0.mk hB
  have HG := HG1
  clear hY hMY hB HG1
  have CX := asm_txt X HMX.out (by have := HX.out; omega)
  have CY := asm_txt Y HMY.out (by have := HY.out; omega)
  have CZ := asm_txt (X ++ Y) (fun i hi => (List.mem_append.1 hi).elim (HMX.out i) (HMY.out i)) (by have h1 := HX.out; have h2 := HY.out; rw [List.length_append]; omega)
  have CB := asm_bad X Y HMX.out HMY.out HX.out HY.out
  have HZX := Aside0.mk (txt_len X HMX.out)
  have HZY := Aside0.mk (txt_len Y HMY.out)
  have HNX := Aside0.mk (codeL_len X)
  have HNY := Aside0.mk (codeL_len Y)
  obtain ⟨sx, hsx⟩ : ∃ x, x = bB (txt X) := ⟨_, rfl⟩
  obtain ⟨sy, hsy⟩ : ∃ x, x = bB (txt Y) := ⟨_, rfl⟩
  have hx9 : sx.size ≤ 1604000 := by rw [hsx, bB_size]; have h1 := HZX.out; have h2 := HX.out; omega
  have hy9 : sy.size ≤ 1604000 := by rw [hsy, bB_size]; have h1 := HZY.out; have h2 := HY.out; omega
  rw [txt_append, codeL_append, ← bB_append, ← hsx, ← hsy] at CZ
  rw [← bB_append, ← bB_append, ← hsx, ← hsy, show bB (badL ++ [10]) = (⟨#[97, 100, 100, 105, 32, 120, 49, 44, 120, 50, 44, 51, 10]⟩ : ByteArray) from rfl] at CB
  rw [← hsx] at CX ⊢
  rw [← hsy] at CY ⊢
  obtain ⟨cx, hcx⟩ : ∃ x, x = codeL X := ⟨_, rfl⟩
  obtain ⟨cy, hcy⟩ : ∃ x, x = codeL Y := ⟨_, rfl⟩
  have HLX : Aside0 (cx.length ≤ 16000) := ⟨by rw [hcx, HNX.out]; have := HX.out; omega⟩
  have HLY : Aside0 (cy.length ≤ 16000) := ⟨by rw [hcy, HNY.out]; have := HY.out; omega⟩
  rw [← hcx] at CX CZ
  rw [← hcy] at CY CZ
  obtain ⟨cz, hcz⟩ : ∃ x, x = cx ++ cy := ⟨_, rfl⟩
  have HLZ : Aside0 (cz.length ≤ 32000) := ⟨by rw [hcz, List.length_append]; have h1 := HLX.out; have h2 := HLY.out; omega⟩
  rw [← hcz] at CZ
  have HCZ := Aside0.mk hcz
  clear hcz
  obtain ⟨nx, hnx⟩ : ∃ n, n = X.length := ⟨_, rfl⟩
  have hnx4 : (nx : Int) ≤ 4000 := by have := HX.out; omega
  rw [← hnx] at CB ⊢
  have CB := Aside0.mk CB
  have AW := awake_calls
  have hs1 : ¬ 9223372036854775807 < sx.size + sy.size := by omega
  clear hsx hsy hcx hcy hnx HZX HZY HNX HNY HX HY HMX HMY
  go_wp2_with fail
  refine (CX _ HG.out).mono ?_
  rintro e w6 ⟨A6, c6, rfl, hc6, hC6, hb⟩
  have HB6 := Aside0.mk (below_step HB.out hb)
  have HC6 := Aside0.mk hC6
  have Hc6 := Aside0.mk hc6
  have HG6 := Aside0.mk (HG.out.below hb)
  clear hb hC6 hc6 CX HB HG
  go_wp2_with fail
  refine (CY _ HG6.out).mono ?_
  rintro e w7 ⟨A7, c7, rfl, hc7, hC7, hb⟩
  have HB7 := Aside0.mk (below_step HB6.out hb)
  have HC67 := Aside0.mk (Kd.C_below HC6.out hb)
  have HC7 := Aside0.mk hC7
  have Hc7 := Aside0.mk hc7
  have HG7 := Aside0.mk (HG6.out.below hb)
  clear hb hC7 hc7 CY HB6 HG6 HC6
  go_wp2_with fail
  refine (CZ _ HG7.out).mono ?_
  rintro e w8 ⟨A8, c8, rfl, hc8, hC8, hb⟩
  have HB8 := Aside0.mk (below_step HB7.out hb)
  have HC68 := Aside0.mk (Kd.C_below HC67.out hb)
  have HC78 := Aside0.mk (Kd.C_below HC7.out hb)
  have HC8 := Aside0.mk hC8
  have Hc8 := Aside0.mk hc8
  have HG8 := Aside0.mk (HG7.out.below hb)
  clear hb hC8 hc8 CZ HB7 HG7 HC67 HC7
  obtain ⟨n6, hn6⟩ : ∃ n, n = cx.length := ⟨_, rfl⟩
  obtain ⟨n7, hn7⟩ : ∃ n, n = cy.length := ⟨_, rfl⟩
  obtain ⟨n8, hn8⟩ : ∃ n, n = cz.length := ⟨_, rfl⟩
  rw [← hn6, ← hn7, ← hn8]
  have HN6 := Aside0.mk hn6
  have HN7 := Aside0.mk hn7
  have HN8 := Aside0.mk hn8
  have HR6 : Aside0 (Kd.C (Kd.int .u8) w8 A6 n6 cx) := ⟨by rw [hn6]; exact HC68.out⟩
  have HR7 : Aside0 (Kd.C (Kd.int .u8) w8 A7 n7 cy) := ⟨by rw [hn7]; exact HC78.out⟩
  have HQ : Aside0 (n6 ≤ 16000 ∧ n7 ≤ 16000) := ⟨by rw [hn6, hn7]; exact ⟨HLX.out, HLY.out⟩⟩
  clear hn6 hn7 hn8 HC68 HC78
  go_upto_region 20 with fail
  go_wp2_with (first | ((with_reducible refine gate_dst (N := 102) rfl ?_); go_loud (refine guard_strip (by rfl) ?_; at_builtin; refine Kd.R_append_rows (Kd.int .u8) (w0 := w8) w8.heap.size rfl (.const (.slice none 0 0)) (.tmp 101) 38 5 (.int .u8 0) 1 rfl Tryz.underlying38 info5' rfl (by decide) (by decide) (.slice none 0 0) ([] : List Int) cx A6 n6 c6 (fun _ => True) (fun _ => False) rfl rfl ?aO ?aR (fun _ _ h => h) (fun _ h => h.elim) (fun _ _ => trivial) ?aB ?aS ?aL ?_; (case aO => exact Kd.R_nil _ _ _ _ _); (case aR => exact HR6.out); (case aB => exact Below.refl _ _); (case aS => exact Nat.le_refl _); (case aL => have h1 := HQ.out; rw [List.length_nil]; omega); intro v9 w9 ho hb9 hg9 hat9; rw [List.nil_append] at ho; obtain ⟨A9, q9, e9⟩ := Kd.R_slice ho; subst e9; have HO9 := Aside0.mk ho; have HB9 := Aside0.mk hb9; clear ho hb9 hg9 hat9)) | ((with_reducible refine gate_dst (N := 104) rfl ?_); go_loud (refine guard_strip (by rfl) ?_; at_builtin; refine Kd.R_append_rows (Kd.int .u8) (w0 := w8) w8.heap.size rfl (.tmp 102) (.tmp 103) 38 5 (.int .u8 0) 1 rfl Tryz.underlying38 info5' rfl (by decide) (by decide) (.slice A9 cx.length q9) (cx) cy A7 n7 c7 (fun _ => True) (fun _ => False) rfl rfl ?aO ?aR (fun _ _ h => h) (fun _ h => h.elim) (fun _ _ => trivial) ?aB ?aS ?aL ?_; (case aO => exact HO9.out); (case aR => exact Kd.C_below HR7.out HB9.out); (case aB => exact HB9.out); (case aS => exact HB9.out.size); (case aL => have h1 := HQ.out; have h2 := HLX.out; omega); intro v10 w10 ho hb10 hg10 hat10; rw [← HCZ.out] at ho; obtain ⟨A10, q10, e10⟩ := Kd.R_slice ho; subst e10; have HO10 := Aside0.mk ho; have HB10 := Aside0.mk hb10; clear ho hb10 hg10 hat10)) | ((with_reducible refine gate_dst (N := 105) rfl ?_); refine guard_strip (by rfl) ?_) | fail)
  rw [HN8.out]
  refine (citadellaw00_SameBytes.calls (cz.length + 1) A8 c8 cz A10 q10 cz true _ (Kd.C_below HC8.out HB10.out) Hc8.out (Kd.R_reads' HO10.out).2.2 (Kd.R_reads' HO10.out).2.1 (same_f _ (by have := HLZ.out; omega))).mono ?_
  rintro e w11 ⟨rfl, hdr⟩
  obtain ⟨nd, rfl⟩ := hdr.out
  have HB11 : Aside0 (Below W.heap.size W (w10.drewN nd)) := ⟨below_step HB8.out (pw_below_drewN HB10.out nd)⟩
  have HG11 := Aside0.mk (HG8.out.below (pw_below_drewN HB10.out nd))
  cases wrong with
  | true =>
    have hs2 : ¬ 9223372036854775807 < sx.size + 13 := by omega
    have hs3 : ¬ 9223372036854775807 < sx.size + 13 + sy.size := by omega
    have hs4 : ¬ 9223372036854775807 < (sx ++ (⟨#[97, 100, 100, 105, 32, 120, 49, 44, 120, 50, 44, 51, 10]⟩ : ByteArray)).size + sy.size := by rw [ByteArray.size_append]; exact hs3
    go_wp2_with fail
    refine (CB.out _ HG11.out).mono ?_
    rintro e w12 ⟨A12, c12, rfl, hb⟩
    have HB12 := Aside0.mk (below_step HB11.out hb)
    have HG12 := Aside0.mk (HG11.out.below hb)
    clear hb
    go_wp2_with fail
    refine (AW _ HG12.out).mono ?_
    rintro e w13 ⟨rfl, hb⟩
    have HB13 := Aside0.mk (below_step HB12.out hb)
    clear hb
    go_wp2
    go_ret
    exact ⟨rfl, HB13.out⟩
  | false =>
    go_wp2_with fail
    refine (AW _ HG11.out).mono ?_
    rintro e w13 ⟨rfl, hb⟩
    have HB13 := Aside0.mk (below_step HB11.out hb)
    clear hb
    go_wp2
    go_ret
    exact ⟨rfl, HB13.out⟩

end Go.Proofs.YtjapahcbhjjeiaaGreatDoor.AS
