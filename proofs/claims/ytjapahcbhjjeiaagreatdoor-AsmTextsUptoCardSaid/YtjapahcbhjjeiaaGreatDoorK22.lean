/- Several texts in one. -/
import Derived.Test.YtjapahcbhjjeiaaGreatDoorK2
import Derived.BigGuard
import Derived.Test.YtjapahcbhjjeiaaGreatDoorK16
import Derived.Test.YtjapahcbhjjeiaaGreatDoorK17
import Derived.Laws.BitsLemmas
import Derived.Deep.QuietTactic
import Derived.BigQuiet
/- strconv.FormatUint at base 10, by its contract. -/
namespace Go.Proofs.YtjapahcbhjjeiaaGreatDoor.AS
open Go.RowKit Go.Sort Go.Lib Go.Proofs.YtjapahcbhjjeiaaGreatDoorW.PrintWords Go.Proofs.YtjapahcbhjjeiaaGreatDoorW.PrintLast Go.Proofs.YtjapahcbhjjeiaaGreatDoorW.PrintMore Go.Proofs.YtjapahcbhjjeiaaGreatDoor.PA
set_option linter.unusedVariables false
set_option linter.unusedSimpArgs false
set_option maxRecDepth 100000

theorem holds_zero0 (w : World) (T : TypeId) (nd : Nat) (hs : nd ≤ 24) : Holds (fun (b : UInt8) => Value.int .u8 (b.toNat : Int)) (w.alloc (.cells Lib.zeros24 T)) w.heap.size 0 (Array.replicate nd (0 : UInt8)) := fun j hj => by
  rw [Array.size_replicate] at hj
  refine ⟨?_, World.frozen?_alloc_new _ _ _ _⟩
  rw [World.cell?_alloc_new, Lib.zeros24_at _ (by omega), getElem!_pos _ j (by rw [Array.size_replicate]; exact hj)]
  simp
theorem fin_pos0 (w : World) (o : Obj) (dk : Array UInt8) (k : Nat) : Below w.heap.size w ((putRow (fun (b : UInt8) => Value.int .u8 (b.toNat : Int)) (w.alloc o) w.heap.size 0 dk).drewN k) := by
  rw [alloc_eq_grow]
  obtain ⟨os', _, e⟩ := putRow_grow_new (fun (b : UInt8) => Value.int .u8 (b.toNat : Int)) w #[o] w.heap.size 0 dk (Nat.le_refl _)
  rw [e]
  exact ⟨rfl, rfl, rfl, (by show w.heap.size ≤ (w.heap ++ os').size; rw [Array.size_append]; omega), fun i hi => (by show (w.heap ++ os')[i]? = w.heap[i]?; exact Array.getElem?_append_left hi)⟩

set_option maxHeartbeats 6400000 in
theorem FormatUint_in (u : Nat) (hu64 : u < 18446744073709551616) (w : World) (hg : GW w) : Calls Tryz.prog 87 #[.int .u64 u, .int .i64 10] w fun e w' => e = .returned (.string (bB (Lib.decDigits u))) ∧ Below w.heap.size w w' := by
  by_cases hs : u < 100
  · have e118 : ∀ args w, (callFunc 118 args).run Tryz.prog w = .ok (.enter 118 args) w := en Tryz.func118 (by kernel_rfl) rfl
    have hw : IntKind.i64.wrap (u : Int) = (u : Int) := by rw [IntKind.wrap_i64]; omega
    have hlt : (u : Int) < 100 := by omega
    clear hg
    go_enter Tryz.func87, Tryz.ntmps87
    go_wp2_with (go_at_fn 118; refine (Tryz.internal_strconv_small u hs _).mono ?_; rintro e w' ⟨rfl, rfl⟩)
    go_ret
    exact ⟨rfl, Below.refl _ _⟩
  · have hu1 : 1 ≤ u := by omega
    have htab := hg.tab
    have hnd20 : Lib.nDigits u ≤ 20 := by have := Lib.numDigits_eq u hu1 hu64; split at this <;> omega
    have hal : Tryz.prog.arrayLen 127 = 24 := by simp [Program.arrayLen, Tryz.underlying127]
    have e119 : ∀ args w, (callFunc 119 args).run Tryz.prog w = .ok (.enter 119 args) w := en Tryz.func119 (by kernel_rfl) rfl
    have e120 : ∀ args w, (callFunc 120 args).run Tryz.prog w = .ok (.enter 120 args) w := en Tryz.func120 (by kernel_rfl) rfl
    have hsl1 : ∀ W, (Instr.sliceAt 127 (.pointer (some ⟨w.heap.size, 0, none⟩)) none (some (.int .i64 (Lib.nDigits u : Int))) none).run Tryz.prog W = .ok (.slice (some ⟨w.heap.size, 0, none⟩) (Lib.nDigits u) 24) W := fun W => by
      rw [run_sliceAt_array_h W 127 ⟨w.heap.size, 0, none⟩ (by simp [Program.arrayLen, Program.elem, Tryz.underlying127]) .i64 (Lib.nDigits u : Int) (by omega) (by rw [hal]; omega)]
      go_simp
    have hH0 := holds_zero0 w 127 (Lib.nDigits u) (by omega)
    have hfmt := Tryz.internal_strconv_formatBase10 w.heap.size 0 24 u (Array.replicate (Lib.nDigits u) 0) (w.alloc (.cells Lib.zeros24 127)) hH0 (by rw [Array.size_replicate]; exact Lib.lt_pow_nDigits u) hu64 (by rw [Array.size_replicate]; omega)
    rw [Array.size_replicate] at hfmt
    have HH0 := Lib.hid hH0
    have hge : ¬ (u : Int) < 100 := by omega
    have HG := Aside0.mk hg
    clear hH0 hal hg
    go_enter Tryz.func87, Tryz.ntmps87
    go_wp2_with (first
      | (go_at_fn 119; refine (Tryz.internal_strconv_numDigits u hu1 hu64 _ (Lib.tabIs_alloc htab _)).mono ?_; rintro e w' ⟨rfl, rfl⟩))
    go_at_fn 120
    refine hfmt.mono ?_
    rintro e w' ⟨rfl, k, v', dk, rfl, hF⟩
    have hcv : (convert 38 9 (.slice (some ⟨w.heap.size, 0, none⟩) (Lib.nDigits u) 24)).run Tryz.prog ((putRow (fun (b : UInt8) => Value.int .u8 (b.toNat : Int)) (w.alloc (.cells Lib.zeros24 127)) w.heap.size 0 dk).drewN k) = .ok (.string ⟨(Lib.decDigits u).toArray⟩) ((putRow (fun (b : UInt8) => Value.int .u8 (b.toNat : Int)) (w.alloc (.cells Lib.zeros24 127)) w.heap.size 0 dk).drewN k) := by
      have h := run_convert_bytes_back (P := Tryz.prog) ((putRow (fun (b : UInt8) => Value.int .u8 (b.toNat : Int)) (w.alloc (.cells Lib.zeros24 127)) w.heap.size 0 dk).drewN k) 38 9 5 ⟨w.heap.size, 0, none⟩ 24 (Lib.decDigits u) Tryz.underlying38 Tryz.underlying5 Tryz.underlying9 (fun j hj => by
        rw [Lib.row_is_numeral hF j hj, Lib.add_plain, World.cell?_drewN]
        exact cell?_putRow (fun (b : UInt8) => Value.int .u8 (b.toNat : Int)) _ w.heap.size 0 _ dk HH0.out (by rw [hF.size, Array.size_replicate]) j (by rw [hF.size]; rw [Lib.decDigits_length] at hj; exact hj))
      rw [Lib.decDigits_length] at h
      exact h
    go_wp2
    go_ret
    exact ⟨rfl, fin_pos0 w (.cells Lib.zeros24 127) dk k⟩

theorem FormatUint_calls (u : Nat) (hu64 : u < 18446744073709551616) (w : World) (hg : GW w) : Calls Tryz.prog 54 #[.int .u64 u, .int .i64 10] w fun e w' => e = .returned (.string (bB (Lib.decDigits u))) ∧ Below w.heap.size w w' := by
  have F := FormatUint_in u hu64 w hg
  clear hg
  go_enter Tryz.func54, Tryz.ntmps54
  go_wp2_with fail
  refine F.mono ?_
  rintro e w' ⟨rfl, hb⟩
  have HB := Aside0.mk hb
  clear hb F
  go_wp2
  go_ret
  exact ⟨rfl, HB.out⟩

end Go.Proofs.YtjapahcbhjjeiaaGreatDoor.AS

/- asm.word at a line '.word N'. -/
namespace Go.Proofs.YtjapahcbhjjeiaaGreatDoor.AS
open Go.RowKit Go.MapKept Go.Proofs.YtjapahcbhjjeiaaGreatDoorW.PrintWords Go.Proofs.YtjapahcbhjjeiaaGreatDoorW.PrintLast Go.Proofs.YtjapahcbhjjeiaaGreatDoorW.PrintMore Go.Proofs.YtjapahcbhjjeiaaGreatDoor.PA
set_option linter.unusedVariables false
set_option linter.unusedSimpArgs false
set_option maxRecDepth 100000

def dotL (n : Nat) : List UInt8 := dotW ++ Lib.decDigits n

theorem dot_len (n : Nat) (hn : n < 4294967296) : (dotL n).length ≤ 20 := by
  have := dec_short 9 n (by omega)
  show (dotW ++ Lib.decDigits n).length ≤ 20
  rw [List.length_append, show dotW.length = 6 from rfl]
  omega

end Go.Proofs.YtjapahcbhjjeiaaGreatDoor.AS

/- The plain model of asm.Text: four bytes a line. -/
namespace Go.Proofs.YtjapahcbhjjeiaaGreatDoor.AS
open Go.RowKit Go.MapKept Go.Proofs.YtjapahcbhjjeiaaGreatDoorW.PrintWords Go.Proofs.YtjapahcbhjjeiaaGreatDoorW.PrintLast Go.Proofs.YtjapahcbhjjeiaaGreatDoorW.PrintMore Go.Proofs.YtjapahcbhjjeiaaGreatDoor.PA
set_option linter.unusedVariables false
set_option maxRecDepth 100000

def w4 (b0 b1 b2 b3 : Int) : Int := b0 + b1 * 256 + b2 * 65536 + b3 * 16777216
def insW (w : Int) : Ins := (decodeL w).getD zeroI
def lineW (w : Int) : List UInt8 := if mayL (insW w) = true ∧ encL (insW w) = w then lineI (insW w) else dotL w.toNat
def textL : List Int → List UInt8
  | b0 :: b1 :: b2 :: b3 :: r => lineW (w4 b0 b1 b2 b3) ++ 10 :: textL r
  | _ => []
def Byte (b : Int) : Prop := 0 ≤ b ∧ b < 256

theorem w4_b {b0 b1 b2 b3 : Int} (h0 : Byte b0) (h1 : Byte b1) (h2 : Byte b2) (h3 : Byte b3) : 0 ≤ w4 b0 b1 b2 b3 ∧ w4 b0 b1 b2 b3 < 4294967296 := by
  unfold w4 Byte at *
  omega
theorem lineW_len {w : Int} (h0 : 0 ≤ w) (h1 : w < 4294967296) : (lineW w).length ≤ 400 := by
  unfold lineW
  split
  · rename_i h
    exact line_short _ (mayL_fit _ h.1)
  · have := dot_len w.toNat (by omega); omega
theorem textL_short {l : List Int} (h : l.length < 4) : textL l = [] := by
  match l, h with
  | [], _ => rfl
  | [_], _ => rfl
  | [_, _], _ => rfl
  | [_, _, _], _ => rfl

theorem wraps_u32 (n : Int) (h₀ : 0 ≤ n) (h₁ : n < 2 ^ 32) : IntKind.u32.wrap n = n := by rw [IntKind.wrap_u32]; omega
theorem or_lo {x y : Int} (i : Nat) (hi : i ≤ 32) (hx : 0 ≤ x) (hx1 : x < 2 ^ i) (hy : 0 ≤ y) (hy1 : y < 4294967296) (hm : y % 2 ^ i = 0) : Go.bits .or .u32 x y = x + y := by
  obtain ⟨a, rfl⟩ := Int.eq_ofNat_of_zero_le hx
  obtain ⟨b, rfl⟩ := Int.eq_ofNat_of_zero_le hy
  have h32 : (2 : Int) ^ i ≤ 2 ^ 32 := by exact_mod_cast Nat.pow_le_pow_right (by decide) hi
  have ha : a < 2 ^ 32 := by have : (a : Int) < 2 ^ 32 := by omega
                             exact_mod_cast this
  have hb : b < 2 ^ 32 := by omega
  rw [(bits_nat .u32 32 (by decide) wraps_u32 a b ha hb).2, Nat.or_comm, ← (bits_nat .u32 32 (by decide) wraps_u32 b a hb ha).2]
  rw [bits_join .u32 32 (by decide) wraps_u32 i b a (by omega) hm (by omega) (by omega) hx1 (by omega)]
  omega
theorem w4_or {b0 b1 b2 b3 : Int} (h0 : Byte b0) (h1 : Byte b1) (h2 : Byte b2) (h3 : Byte b3) :
    Go.bits .or .u32 (Go.bits .or .u32 (Go.bits .or .u32 b0 (b1 * 256)) (b2 * 65536)) (b3 * 16777216) = w4 b0 b1 b2 b3 := by
  unfold Byte at *
  rw [or_lo (x := b0) (y := b1 * 256) 8 (by decide) (by omega) (by omega) (by omega) (by omega) (by omega)]
  rw [or_lo (x := b0 + b1 * 256) (y := b2 * 65536) 16 (by decide) (by omega) (by omega) (by omega) (by omega) (by omega)]
  rw [or_lo (x := b0 + b1 * 256 + b2 * 65536) (y := b3 * 16777216) 24 (by decide) (by omega) (by omega) (by omega) (by omega) (by omega)]
  rfl

end Go.Proofs.YtjapahcbhjjeiaaGreatDoor.AS

/- asm.Text by its contract. -/
namespace Go.Proofs.YtjapahcbhjjeiaaGreatDoor.AS
open Go.RowKit Go.MapKept Go.Proofs.YtjapahcbhjjeiaaGreatDoorW.PrintWords Go.Proofs.YtjapahcbhjjeiaaGreatDoorW.PrintLast Go.Proofs.YtjapahcbhjjeiaaGreatDoorW.PrintMore Go.Proofs.YtjapahcbhjjeiaaGreatDoor.PA
set_option linter.unusedVariables false
set_option linter.unusedSimpArgs false
set_option maxRecDepth 100000

def Tx (W : World) (b : Nat) (acc : List UInt8) (w : World) : Prop := Lib.IsBuilderF 55 5 b b (Lib.byteCells acc) w ∧ b < w.heap.size ∧ Below W.heap.size W w
theorem Tx.below {W w w' : World} {b : Nat} {acc : List UInt8} (h : Tx W b acc w) (hb : Below w.heap.size w w') : Tx W b acc w' :=
  ⟨IB_below h.1 hb, Nat.lt_of_lt_of_le h.2.1 hb.size, below_step h.2.2 hb⟩
theorem Tx.write {W w w' : World} {b : Nat} {acc s : List UInt8} (h : Tx W b acc w) (hL : W.heap.size ≤ b) (hI : Lib.BuilderAtF 55 5 b b (.pointer (some ⟨b, 0, none⟩)) (Lib.byteCells acc ++ Lib.strCells (bB s)) w') (hb : Below b w w') : Tx W b (acc ++ s) w' :=
  ⟨.inr (by rw [bcells_append, ← strCells_bB s]; exact hI), Lib.BuilderAtF.lt hI, h.2.2.trans (hb.mono hL)⟩
def lenV : Value → Nat
  | .slice _ n _ => n
  | _ => 0
theorem four {l : List Int} (h : 4 ≤ l.length) : ∃ b0 b1 b2 b3 r, l = b0 :: b1 :: b2 :: b3 :: r := by
  match l, h with
  | b0 :: b1 :: b2 :: b3 :: r, _ => exact ⟨b0, b1, b2, b3, r, rfl⟩

theorem textL_len : ∀ (n : Nat) (l : List Int), l.length ≤ n → (∀ b ∈ l, Byte b) → (textL l).length ≤ 401 * l.length
  | 0, l, h, _ => by rw [textL_short (by omega)]; simp
  | n + 1, l, h, hb => by
    rcases Nat.lt_or_ge l.length 4 with h4 | h4
    · rw [textL_short h4]; simp
    · obtain ⟨b0, b1, b2, b3, r, rfl⟩ := four h4
      have ih := textL_len n r (by simp at h; omega) (fun b hbr => hb b (by simp [hbr]))
      have hw := w4_b (hb b0 (by simp)) (hb b1 (by simp)) (hb b2 (by simp)) (hb b3 (by simp))
      have hl := lineW_len hw.1 hw.2
      rw [textL, List.length_append, List.length_cons]
      simp only [List.length_cons]
      omega

theorem bytes4 {w : World} {A : Option Addr} {b0 b1 b2 b3 : Int} {r : List Int} (hC : Kd.C (Kd.int .u8) w A (b0 :: b1 :: b2 :: b3 :: r).length (b0 :: b1 :: b2 :: b3 :: r)) :
    ∃ ad, A = some ad ∧ w.cell? ad = some (.int .u8 b0) ∧ w.cell? { block := ad.block, off := ad.off + 1 } = some (.int .u8 b1) ∧ w.cell? { block := ad.block, off := ad.off + 2 } = some (.int .u8 b2) ∧ w.cell? { block := ad.block, off := ad.off + 3 } = some (.int .u8 b3) := by
  obtain ⟨ad, rfl, h0⟩ := Kd.at_int hC 0 (by decide) (by simp; omega)
  obtain ⟨ad1, e1, h1⟩ := Kd.at_int hC 1 (by decide) (by simp; omega)
  obtain ⟨ad2, e2, h2⟩ := Kd.at_int hC 2 (by decide) (by simp; omega)
  obtain ⟨ad3, e3, h3⟩ := Kd.at_int hC 3 (by decide) (by simp; omega)
  injection e1 with e1; injection e2 with e2; injection e3 with e3
  subst e1 e2 e3
  refine ⟨ad, rfl, ?_, h1, h2, h3⟩
  have : w.cell? (ad.add 0) = some (.int .u8 b0) := h0
  rwa [show ad.add 0 = ad by simp [Addr.add]] at this

set_option maxHeartbeats 8000000 in
theorem text_calls (l : List Int) (hby : ∀ b ∈ l, Byte b) (hlen : l.length ≤ 16777216) (A : Option Addr) (c : Nat) (W : World) (hgw : GW W) (hC : Kd.C (Kd.int .u8) W A l.length l) (hc : l.length ≤ c) :
    Calls Tryz.prog 22 #[.slice A l.length c] W fun e w' => e = .returned (.string (bB (textL l))) ∧ Below W.heap.size W w' := by
  have HB := Aside0.mk (Below.refl W.heap.size W)
  have HG := Aside0.mk hgw
  have hu23 := Tryz.underlying23
  obtain ⟨i0, hi0, _, hsz, _⟩ := info_parts info5'
  have HI0 := Aside0.mk hi0
  have HSZ := Aside0.mk hsz
  obtain ⟨tot, htot⟩ : ∃ x, x = textL l := ⟨_, rfl⟩
  have HTL : Aside0 (tot.length ≤ 100000000000) := ⟨by rw [htot]; have := textL_len l.length l (Nat.le_refl _) hby; omega⟩
  have HT := Aside0.mk htot.symm
  have HBY := Aside0.mk hby
  have HC := Aside0.mk hC
  have hll : (l.length : Int) ≤ 16777216 := by omega
  rw [← htot]
  clear hgw hC hby htot hi0 hsz hlen
  go_enter Tryz.func22, Tryz.ntmps22
  go_wp2_with (first | ((with_reducible refine gate_dst (N := 3) rfl ?_); refine box_event (by rfl) (N := 3) (by rfl) (cs := #[.pointer none, .slice none 0 0]) (t := 55) (by first | (go_simp; done) | (go_simp; rfl)) ?_; intro b hg w2 hbox hb; have HLb := Aside0.mk (show W.heap.size ≤ b by omega); have HX2 := Aside0.mk (show Tx W b [] w2 from ⟨new_builder hbox, blk_lt hbox, below_step HB.out hb⟩); clear hbox hb hg HB) | fail)
  simp only [Act.put, putS]
  go_loopw [0] (fun v0 wr => ∃ (acc : List UInt8) (r : List Int) (A' : Option Addr) (c' : Nat), v0 = .slice A' r.length c' ∧ r.length ≤ c' ∧ Kd.C (Kd.int .u8) W A' r.length r ∧ (∀ x ∈ r, Byte x) ∧ (r.length : Int) ≤ 16777216 ∧ Tx W b acc wr ∧ acc ++ textL r = tot) (fun v0 _ => lenV v0)
  case atStart => exact ⟨[], l, A, c, rfl, hc, HC.out, HBY.out, hll, HX2.out, by simpa using HT.out⟩
  case round =>
    obtain ⟨acc, r, A', c', rfl, hc', hC, hby, hrl, hX, hacc⟩ := hrel
    have HXr := Aside0.mk hX
    have HCr := Aside0.mk hC
    have Hc' := Aside0.mk hc'
    have HBy := Aside0.mk hby
    have HAcc := Aside0.mk hacc
    clear hX hC hc' hby hacc HX2
    by_cases h4 : 4 ≤ r.length
    · obtain ⟨b0, b1, b2, b3, r', rfl⟩ := four h4
      obtain ⟨ad, rfl, y0, y1, y2, y3⟩ := bytes4 (Kd.C_below HCr.out HXr.out.2.2)
      obtain ⟨A2, hcut, hA2, hC2⟩ := print_drop_of (P := Tryz.prog) (Value.int .u8) 0 38 5 .i64 Tryz.underlying38 HI0.out HSZ.out (some ad) c' (b0 :: b1 :: b2 :: b3 :: r') 4 (by decide) (by simp; omega) Hc'.out
      have HC2 : Aside0 (Kd.C (Kd.int .u8) W A2 r'.length r') := ⟨Kd.C_of_reads (h1 := fun _ => rfl) (hA2 W (Kd.reads_of_C (d := 0) (h1 := fun _ => rfl) HCr.out))⟩
      have Hc2 : Aside0 (r'.length ≤ c' - 4) := ⟨hC2⟩
      have hcut1 : ∀ W, (Instr.slice 38 (.slice (some ad) (b0 :: b1 :: b2 :: b3 :: r').length c') (some (.int .i64 4)) none none).run Tryz.prog W = .ok (.slice A2 r'.length (c' - 4)) W := fun W => hcut W
      have B0 := HBy.out b0 (by simp)
      have B1 := HBy.out b1 (by simp)
      have B2 := HBy.out b2 (by simp)
      have B3 := HBy.out b3 (by simp)
      have HW := Aside0.mk (w4_or B0 B1 B2 B3)
      have HWb := Aside0.mk (w4_b B0 B1 B2 B3)
      have HBy' : Aside0 (∀ x ∈ r', Byte x) := ⟨fun x hx => HBy.out x (by simp [hx])⟩
      have HAcc' : Aside0 (acc ++ (lineW (w4 b0 b1 b2 b3) ++ 10 :: textL r') = tot) := ⟨HAcc.out⟩
      have HLL : Aside0 (r'.length + 4 = (b0 :: b1 :: b2 :: b3 :: r').length) := ⟨rfl⟩
      obtain ⟨m, hm⟩ : ∃ m, m = (b0 :: b1 :: b2 :: b3 :: r').length := ⟨_, rfl⟩
      rw [← hm] at hcut1 hrl h4 HLL ⊢
      have hm4 : (4 : Int) ≤ (m : Int) := by omega
      have hm0 : (0 : Int) < (m : Int) := by omega
      have hn0 : 0 < m := by omega
      have hm1 : (1 : Int) < (m : Int) := by omega
      have hn1 : 1 < m := by omega
      have hm2 : (2 : Int) < (m : Int) := by omega
      have hn2 : 2 < m := by omega
      have hm3 : (3 : Int) < (m : Int) := by omega
      have hn3 : 3 < m := by omega
      have hn4 : 4 ≤ m := by omega
      unfold Byte at B0 B1 B2 B3
      have hw0 : IntKind.u32.wrap b0 = b0 := wraps_u32 _ (by omega) (by omega)
      have hw1 : IntKind.u32.wrap b1 = b1 := wraps_u32 _ (by omega) (by omega)
      have hw2 : IntKind.u32.wrap b2 = b2 := wraps_u32 _ (by omega) (by omega)
      have hw3 : IntKind.u32.wrap b3 = b3 := wraps_u32 _ (by omega) (by omega)
      have hv1 : IntKind.u32.wrap (b1 * 256) = b1 * 256 := wraps_u32 _ (by omega) (by omega)
      have hv2 : IntKind.u32.wrap (b2 * 65536) = b2 * 65536 := wraps_u32 _ (by omega) (by omega)
      have hv3 : IntKind.u32.wrap (b3 * 16777216) = b3 * 16777216 := wraps_u32 _ (by omega) (by omega)
      clear hcut hA2 hC2 B0 B1 B2 B3 hm HCr h4 HBy HAcc
      go_upto_region 4 with fail
      go_quiet (fail)
      rw [HW.out]
      have HX3 := Aside0.mk (HXr.out.below (pw_below_drewN (Below.refl _ _) nq))
      obtain ⟨w3, hw3'⟩ : ∃ x, x = wr.drewN nq := ⟨_, rfl⟩
      rw [← hw3'] at HX3 ⊢
      obtain ⟨wv, hwv⟩ : ∃ x, x = w4 b0 b1 b2 b3 := ⟨_, rfl⟩
      rw [← hwv] at HWb HAcc' ⊢
      clear HW hw0 hw1 hw2 hw3 hv1 hv2 hv3 y0 y1 y2 y3 hwv hw3' HXr hm0 hm1 hm2 hm3 hn0 hn1 hn2 hn3
      have DC := Decode_calls (w := wv) (w0 := HWb.out.1) (w1 := HWb.out.2)
      have HJ := Aside0.mk (show insW wv = (decodeL wv).getD zeroI from rfl)
      obtain ⟨j, hj⟩ : ∃ x, x = insW wv := ⟨_, rfl⟩
      have DC' : ∀ W, Calls Tryz.prog 44 #[.int .u32 wv] W fun e w' => e = .returned (.tuple #[insV j, .bool (decodeL wv).isSome]) ∧ Below W.heap.size W w' := fun W => by rw [hj]; exact DC W
      obtain ⟨dk, hdk⟩ : ∃ x, x = (decodeL wv).isSome := ⟨_, rfl⟩
      rw [← hdk] at DC'
      have E := Encode_calls j
      have LY := Line_yes j
      have HJW := Aside0.mk hj
      obtain ⟨kd, fn, rv, r1, r2, imm, sz, sg⟩ := j
      unfold insV at DC' E
      dsimp only at DC' E LY
      clear DC hj hdk HJ
      have hwu : IntKind.u64.wrap wv = wv := by rw [IntKind.wrap_u64]; have := HWb.out; omega
      have FU : ∀ W, GW W → Calls Tryz.prog 54 #[.int .u64 wv, .int .i64 10] W fun e w' => e = .returned (.string (bB (Lib.decDigits wv.toNat))) ∧ Below W.heap.size W w' := fun W hg => by
        have := FormatUint_calls wv.toNat (by have := HWb.out; omega) W hg
        rwa [show ((wv.toNat : Nat) : Int) = wv by have := HWb.out; omega] at this
      have HDD : Aside0 ((Lib.decDigits wv.toNat).length ≤ 10) := ⟨dec_short 9 _ (by have := HWb.out; omega)⟩
      by_cases hyes : mayL ⟨kd, fn, rv, r1, r2, imm, sz, sg⟩ = true ∧ encL ⟨kd, fn, rv, r1, r2, imm, sz, sg⟩ = wv
      · rw [hyes.1, if_pos rfl, hyes.2] at E
        have LY' := LY hyes.1
        have HSH := Aside0.mk (line_short _ (mayL_fit _ hyes.1))
        have HLW : Aside0 (lineW wv = lineI ⟨kd, fn, rv, r1, r2, imm, sz, sg⟩) := ⟨by unfold lineW; rw [← HJW.out, if_pos hyes]⟩
        obtain ⟨ln, hln⟩ : ∃ x, x = bB (lineI ⟨kd, fn, rv, r1, r2, imm, sz, sg⟩) := ⟨_, rfl⟩
        have hls : ln.size ≤ 400 := by rw [hln, bB_size]; exact HSH.out
        rw [← hln] at LY'
        have HLN := Aside0.mk hln
        clear hyes LY FU hln
        go_wp2_with fail
        refine (DC' _).mono ?_
        rintro e w5 ⟨rfl, hb⟩
        have HX5 := Aside0.mk (HX3.out.below hb)
        clear hb DC' HX3
        go_wp2_with (first | ((with_reducible refine gate_dst (N := 5) rfl ?_); refine box_event (by rfl) (N := 5) (by rfl) (cs := #[.int .i64 0, .int .i64 0, .int .i64 0, .int .i64 0, .int .i64 0, .int .i64 0, .int .i64 0, .bool false]) (t := 23) (by first | (go_simp; done) | (go_simp; rfl)) ?_; intro g12 hg w6 hbox hb; have HX12 := Aside0.mk hbox; have HD6 := Aside0.mk (show Below w5.heap.size w5 w6 from hb); have HL12 := Aside0.mk (show w5.heap.size ≤ g12 by omega); clear hbox hb hg) | ((with_reducible refine gate_store (t := 23) rfl ?_); refine store_event rfl 23 (.tmp 5) (.tmp 41) rfl (g := g12) #[.int .i64 kd, .int .i64 fn, .int .i64 rv, .int .i64 r1, .int .i64 r2, .int .i64 imm, .int .i64 sz, .bool sg] HX12.out rfl rfl (by kernel_rfl) rfl rfl ?_; intro w7 hbox hfar hbel; have H12 := Aside0.mk hbox; have HX7 := Aside0.mk (HX5.out.below (hbel _ _ HD6.out HL12.out)); clear hbox hfar hbel HX12 HD6 HX5; obtain ⟨y0, y1, y2, y3, y4, y5, y6, y7, yf0, yf1, yf2, yf3, yf4, yf5, yf6, yf7⟩ := cells8 H12.out) | fail)
        refine (E _).mono ?_
        rintro e w8 ⟨rfl, hb⟩
        have HX8 := Aside0.mk (HX7.out.below hb)
        have H8 := Aside0.mk (blk_below H12.out hb)
        clear hb E HX7 H12 y0 y1 y2 y3 y4 y5 y6 y7 yf0 yf1 yf2 yf3 yf4 yf5 yf6 yf7
        obtain ⟨y0, y1, y2, y3, y4, y5, y6, y7, yf0, yf1, yf2, yf3, yf4, yf5, yf6, yf7⟩ := cells8 H8.out
        have hbe : (wv == wv) = true := by simp
        go_wp2_with fail
        refine (LY' _ (HG.out.below HX8.out.2.2)).mono ?_
        rintro e w9 ⟨rfl, hb⟩
        have HX9 := Aside0.mk (HX8.out.below hb)
        have hs1 : ¬ 9223372036854775807 < ln.size + 1 := by omega
        clear hb LY' HX8 H8 y0 y1 y2 y3 y4 y5 y6 y7 yf0 yf1 yf2 yf3 yf4 yf5 yf6 yf7
        go_wp2_with fail
        have hs : ln ++ (⟨#[10]⟩ : ByteArray) = bB (lineW wv ++ [10]) := by rw [HLN.out, HLW.out]; exact bB_append _ _
        have HAL : Aside0 (acc.length ≤ 100000000000) := ⟨by have h1 := HTL.out; rw [← HAcc'.out, List.length_append] at h1; omega⟩
        rw [hs]
        refine (WriteString_k b b (Lib.byteCells acc) (bB (lineW wv ++ [10])) _ HX9.out.1 (by rw [Lib.byteCells_length, bB_size, List.length_append, HLW.out]; have h1 := HAL.out; have h2 := HSH.out; simp only [List.length_singleton]; omega) (Nat.le_of_lt HX9.out.2.1)).mono ?_
        rintro e w10 ⟨rfl, hI, hb, hk⟩
        have HX10 := Aside0.mk (HX9.out.write HLb.out hI hb)
        clear hI hb hk HX9 hs hs1
        go_wp2
        go_roundw
        case rel => exact ⟨acc ++ (lineW wv ++ [10]), r', A2, c' - 4, rfl, Hc2.out, HC2.out, HBy'.out, by have := HLL.out; omega, HX10.out, by rw [← HAcc'.out]; simp⟩
        case measure => have := HLL.out; simp only [lenV]; simp [lenV]; omega
      · obtain ⟨bk, hbk⟩ : ∃ x, x = (if mayL ⟨kd, fn, rv, r1, r2, imm, sz, sg⟩ = true then encL ⟨kd, fn, rv, r1, r2, imm, sz, sg⟩ else 0) := ⟨_, rfl⟩
        obtain ⟨ok, hok⟩ : ∃ x, x = mayL ⟨kd, fn, rv, r1, r2, imm, sz, sg⟩ := ⟨_, rfl⟩
        have HNO : Aside0 (ok = true → (bk == wv) = false) := ⟨by
          intro h
          rw [hok] at h
          rw [hbk, if_pos h]
          have : ¬ encL ⟨kd, fn, rv, r1, r2, imm, sz, sg⟩ = wv := fun e => hyes ⟨h, e⟩
          simpa using this⟩
        have HLW : Aside0 (lineW wv = dotL wv.toNat) := ⟨by unfold lineW; rw [← HJW.out, if_neg hyes]⟩
        rw [← hbk, ← hok] at E
        obtain ⟨dd, hdd⟩ : ∃ x, x = bB (Lib.decDigits wv.toNat) := ⟨_, rfl⟩
        have hds : dd.size ≤ 10 := by rw [hdd, bB_size]; exact HDD.out
        rw [← hdd] at FU
        have HDN := Aside0.mk hdd
        clear hyes hbk hok LY hdd
        go_wp2_with fail
        refine (DC' _).mono ?_
        rintro e w5 ⟨rfl, hb⟩
        have HX5 := Aside0.mk (HX3.out.below hb)
        clear hb DC' HX3
        go_wp2_with (first | ((with_reducible refine gate_dst (N := 5) rfl ?_); refine box_event (by rfl) (N := 5) (by rfl) (cs := #[.int .i64 0, .int .i64 0, .int .i64 0, .int .i64 0, .int .i64 0, .int .i64 0, .int .i64 0, .bool false]) (t := 23) (by first | (go_simp; done) | (go_simp; rfl)) ?_; intro g12 hg w6 hbox hb; have HX12 := Aside0.mk hbox; have HD6 := Aside0.mk (show Below w5.heap.size w5 w6 from hb); have HL12 := Aside0.mk (show w5.heap.size ≤ g12 by omega); clear hbox hb hg) | ((with_reducible refine gate_store (t := 23) rfl ?_); refine store_event rfl 23 (.tmp 5) (.tmp 41) rfl (g := g12) #[.int .i64 kd, .int .i64 fn, .int .i64 rv, .int .i64 r1, .int .i64 r2, .int .i64 imm, .int .i64 sz, .bool sg] HX12.out rfl rfl (by kernel_rfl) rfl rfl ?_; intro w7 hbox hfar hbel; have H12 := Aside0.mk hbox; have HX7 := Aside0.mk (HX5.out.below (hbel _ _ HD6.out HL12.out)); clear hbox hfar hbel HX12 HD6 HX5; obtain ⟨y0, y1, y2, y3, y4, y5, y6, y7, yf0, yf1, yf2, yf3, yf4, yf5, yf6, yf7⟩ := cells8 H12.out) | fail)
        refine (E _).mono ?_
        rintro e w8 ⟨rfl, hb⟩
        have HX8 := Aside0.mk (HX7.out.below hb)
        clear hb E HX7 H12 y0 y1 y2 y3 y4 y5 y6 y7 yf0 yf1 yf2 yf3 yf4 yf5 yf6 yf7
        go_upto_region 7 with fail
        go_cut [53] (fun v wx => v = .bool false ∧ w8 = wx)
        case first =>
          cases ok with
          | false => go_wp2; go_meet; exact ⟨rfl, rfl⟩
          | true =>
            have hne := HNO.out rfl
            go_wp2
            go_meet
            exact ⟨rfl, rfl⟩
        obtain ⟨rfl, hwx⟩ := hcut
        subst hwx
        go_wp2_with fail
        refine (FU _ (HG.out.below HX8.out.2.2)).mono ?_
        rintro e w9 ⟨rfl, hb⟩
        have HX9 := Aside0.mk (HX8.out.below hb)
        have hs1 : ¬ 9223372036854775807 < 6 + dd.size := by omega
        have hs2 : ¬ 9223372036854775807 < 6 + dd.size + 1 := by omega
        clear hb FU HX8
        go_wp2_with fail
        have hs : (⟨#[46, 119, 111, 114, 100, 32]⟩ : ByteArray) ++ dd ++ (⟨#[10]⟩ : ByteArray) = bB (lineW wv ++ [10]) := by
          rw [HDN.out, HLW.out, ← bB_append]
          exact congrArg (· ++ _) (bB_append dotW _)
        have HAL : Aside0 (acc.length ≤ 100000000000) := ⟨by have h1 := HTL.out; rw [← HAcc'.out, List.length_append] at h1; omega⟩
        rw [hs]
        refine (WriteString_k b b (Lib.byteCells acc) (bB (lineW wv ++ [10])) _ HX9.out.1 (by rw [Lib.byteCells_length, bB_size, List.length_append]; have h1 := HAL.out; have h2 := lineW_len HWb.out.1 HWb.out.2; simp only [List.length_singleton]; omega) (Nat.le_of_lt HX9.out.2.1)).mono ?_
        rintro e w10 ⟨rfl, hI, hb, hk⟩
        have HX10 := Aside0.mk (HX9.out.write HLb.out hI hb)
        clear hI hb hk HX9 hs hs1 hs2
        go_wp2
        go_roundw
        case rel => exact ⟨acc ++ (lineW wv ++ [10]), r', A2, c' - 4, rfl, Hc2.out, HC2.out, HBy'.out, by have := HLL.out; omega, HX10.out, by rw [← HAcc'.out]; simp⟩
        case measure => have := HLL.out; simp only [lenV]; simp [lenV]; omega
    · have HAE : Aside0 (acc = tot) := ⟨by have h1 := HAcc.out; rw [textL_short (by omega), List.append_nil] at h1; exact h1⟩
      obtain ⟨m, hm⟩ : ∃ m, m = r.length := ⟨_, rfl⟩
      rw [← hm] at h4 ⊢
      have hm4 : (m : Int) < 4 := by omega
      clear h4 hm hrl
      go_wp2_with fail
      refine (Tryz.Builder_String_any_k b b acc _ HXr.out.1 (Nat.le_of_lt HXr.out.2.1)).mono ?_
      rintro e w14 ⟨rfl, _, hb, _⟩
      have B14 := Aside0.mk (HXr.out.2.2.trans (hb.mono HLb.out))
      clear hb
      go_wp2
      go_ret
      exact ⟨by rw [HAE.out]; rfl, B14.out⟩

end Go.Proofs.YtjapahcbhjjeiaaGreatDoor.AS
