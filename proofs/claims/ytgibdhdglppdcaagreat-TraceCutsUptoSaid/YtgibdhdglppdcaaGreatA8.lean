import Derived.Test.YtgibdhdglppdcaaGreatA7
import Derived.Deep.RegionHeld3
namespace Go.Proofs.YtgibdhdglppdcaaGreat.PU
set_option maxRecDepth 100000
open Go.RowKit Go.Proofs.YtgibdhdglppdcaaGreatW.PrintWords Go.Proofs.YtgibdhdglppdcaaGreatW.PrintLast Go.Proofs.YtgibdhdglppdcaaGreatW.PrintMore
set_option linter.unusedVariables false
set_option linter.unusedSimpArgs false

theorem RS.set {w0 W : World} {g gc i : Nat} {l : List Int} {u : Value} (h : RS w0 W g l) (hc : w0.heap.size ≤ gc) (hne : g ≠ gc) : RS w0 (W.setCell ⟨gc, i, none⟩ u) g l := by
  obtain ⟨h1, h2, A, c, h3, h4, h5⟩ := h
  exact ⟨h1, h2.setCell hc _, A, c, blk_far h3 hne _, h4, h5⟩


theorem RS.block {w0 W : World} {g : Nat} {l : List Int} (h : RS w0 W g l) : ∃ A c, W.heap[g]? = some (.cells #[.slice A l.length c] 49 (0, 0)) := by
  obtain ⟨_, _, A, c, h3, _⟩ := h
  exact ⟨A, c, h3⟩
theorem RS.grown {w0 W W' : World} {g : Nat} {l : List Int} {row : Option Nat} (h : RS w0 W g l) (hg : W.grownBy W' row) (hb : Below w0.heap.size w0 W') (hne : some g ≠ row) : RS w0 W' g l := by
  obtain ⟨h1, h2, A, c, h3, h4, h5⟩ := h
  exact ⟨h1, hb, A, c, blk_grown h3 hg hne, h4, h5⟩
section
variable {P : Program} {ops : Array Oper} {Q : Exit → Act → World → Prop}
/-- A call that returns or panics, in a region that draws. -/
theorem goesX_ {oi : Oper} {N : Option Tmp} {a : Act} {w : World} {K : Act → World → Prop} {f : FuncId} {fn : Func} {aops : Array Operand} {ts : Array TypeId} (hf : P.funcs[f]? = some fn) (hname : (fn.name == "runtime.NumGoroutine") = false) (hb : fn.body.isSome = true) (args : Array Value)
    (hw : Region.wanted oi (yielded ops a.tmps) = true) (hN : oi.dst = N) (hop : oi.op = .call { callee := .value (.func f), args := aops, argTypes := ts }) (hargs : aops.map a.eval = args)
    (h : Calls P f args w fun e w' => (∃ v, e = .returned v ∧ K (a.put N v) w') ∨ (∃ c, e = .panicked c ∧ Q (.panic c) a w')) : if Region.wanted oi (yielded ops a.tmps) = true then Oper.wp P oi a w K Q else K (a.put N undef) w := by
  have he := enters_ hf hname hb args w
  have hrun : (execOp a.eval oi).run P w = .ok (.enter f args) w := by
    unfold execOp
    simp [hop, resolve, Deferred.ofValue, invoke, Act.eval, hargs, he]
  rw [if_pos hw]
  subst hN
  unfold Oper.wp
  rw [hrun, Oper.upon_enter]
  refine h.mono fun e w'' hh => ?_
  rcases hh with ⟨v, rfl, hk⟩ | ⟨c, rfl, hq⟩
  · exact hk
  · exact hq
end

def rdDevs : Nat → List Int → List Int → Option (List Int × List Int)
  | 0, acc, l => some (acc, l)
  | n + 1, acc, l => (rdN l 0 0).bind fun q => rdDevs n (acc ++ [q.1]) q.2
def rdLabs : Nat → List S56 → List Int → Option (List S56 × List Int)
  | 0, acc, l => some (acc, l)
  | n + 1, acc, l => match l with
    | [] => none
    | k :: r => (rdN r 0 0).bind fun q => (rdB q.2).bind fun p => rdLabs n (acc ++ [⟨k, q.1, p.1⟩]) p.2
abbrev ConfT := Int × Int × Int × List Int × List Int × List Int × Bool
def rd6 (c : ConfT) (r : List Int) : Option (ConfT × List S56 × List Int) := (rdN r 0 0).bind fun q => (rdLabs q.1.toNat [] q.2).bind fun p => some (c, p.1, p.2)
def rd5 (a0 a1 a2 : Int) (g : Bool) (l3 r : List Int) : Option (ConfT × List S56 × List Int) := (rdB r).bind fun q => (rdB q.2).bind fun p => rd6 (a0, a1, a2, l3, q.1, p.1, g) p.2
def rd4 (a0 a1 a2 : Int) (g : Bool) (r : List Int) : Option (ConfT × List S56 × List Int) := (rdN r 0 0).bind fun q => (rdDevs q.1.toNat [] q.2).bind fun p => rd5 a0 a1 a2 g p.1 p.2
def rd3 (a0 a1 a2 : Int) : List Int → Option (ConfT × List S56 × List Int)
  | [] => none
  | b :: r => if 1 < b then none else rd4 a0 a1 a2 (b == 1) r
def rd2 (r : List Int) : Option (ConfT × List S56 × List Int) := (rdN r 0 0).bind fun q0 => (rdN q0.2 0 0).bind fun q1 => (rdN q1.2 0 0).bind fun q2 => rd3 q0.1 q1.1 q2.1 q2.2
/-- A life read. -/
def rdLife (l : List Int) : Option (ConfT × List S56 × List Int) := if l.length < 4 then none else if l.take 4 = [76, 73, 70, 69] then rd2 (l.drop 4) else none

def LifeOk (w0 : World) (g : Nat) (c : ConfT) (ls : List S56) (r : List Int) (e : Ending) (w' : World) : Prop :=
  ∃ v3 v4 v5 vl, e = .returned (.tuple #[.agg #[.int .i64 c.1, .int .i64 c.2.1, .int .i64 c.2.2.1, v3, v4, v5, .bool c.2.2.2.2.2.2], vl]) ∧ Kd.R (Kd.int .i64) 3 w' w0.heap.size (fun _ => True) v3 c.2.2.2.1 ∧ Kd.R (Kd.int .u8) 5 w' w0.heap.size (fun _ => True) v4 c.2.2.2.2.1 ∧ Kd.R (Kd.int .u8) 5 w' w0.heap.size (fun _ => True) v5 c.2.2.2.2.2.1 ∧ Kd.R k56 45 w' w0.heap.size (fun k => k ≠ g) vl ls ∧ RS w0 w' g r
def LifePost (w0 : World) (g : Nat) (l : List Int) (e : Ending) (w' : World) : Prop := match rdLife l with
  | none => e = .panicked cutChain ∧ Below w0.heap.size w0 w'
  | some x => LifeOk w0 g x.1 x.2.1 x.2.2 e w'
theorem life_none {w0 : World} {g : Nat} {l : List Int} {w' : World} (h : rdLife l = none) (hb : Below w0.heap.size w0 w') : LifePost w0 g l (.panicked cutChain) w' := by
  unfold LifePost; rw [h]; exact ⟨rfl, hb⟩

theorem u8_inj (x c : Int) (h0 : 0 ≤ x) (h1 : x < 256) (hc : 0 ≤ c) (hc1 : c < 256) (h : UInt8.ofNat x.toNat = UInt8.ofNat c.toNat) : x = c := by
  have := congrArg UInt8.toNat h
  simp at this; omega
theorem ba_list4 (a b c d : UInt8) : (ByteArray.mk #[a, b, c, d]).toList = [a, b, c, d] := by
  simp [ByteArray.toList, ByteArray.toList.loop, ByteArray.size, ByteArray.get!]
theorem str_neq (xs : List Int) (hl : xs.length = 4) (hb : ∀ x ∈ xs, 0 ≤ x ∧ x < 256) (h : xs ≠ [76, 73, 70, 69]) : (strOfNums xs).toList ≠ [76, 73, 70, 69] := by
  match xs, hl with
  | [a, b, c, d], _ =>
    intro he
    have e2 : (strOfNums [a, b, c, d]).toList = [UInt8.ofNat a.toNat, UInt8.ofNat b.toNat, UInt8.ofNat c.toNat, UInt8.ofNat d.toNat] := ba_list4 _ _ _ _
    rw [e2] at he
    injection he with h1 he; injection he with h2 he; injection he with h3 he; injection he with h4 he
    have ha := hb a (by simp); have hbb := hb b (by simp); have hcc := hb c (by simp); have hd := hb d (by simp)
    apply h
    rw [u8_inj a 76 ha.1 ha.2 (by decide) (by decide) h1, u8_inj b 73 hbb.1 hbb.2 (by decide) (by decide) h2, u8_inj c 70 hcc.1 hcc.2 (by decide) (by decide) h3, u8_inj d 69 hd.1 hd.2 (by decide) (by decide) h4]

set_option maxRecDepth 100000 in
set_option maxHeartbeats 4000000 in
theorem life_calls (w0 W : World) (g : Nat) (l : List Int) (h : RS w0 W g l) (hg : g < W.heap.size) (hb : ∀ x ∈ l, 0 ≤ x ∧ x < 256) (hl : l.length ≤ 8589934592) :
    Calls Tryz.prog 17 #[.pointer (some ⟨g, 0, none⟩)] W (LifePost w0 g l) := by
  have hu25 := Tryz.underlying25
  have hu56 := Tryz.underlying45
  have HRS := Aside0.mk h
  have HBY := Aside0.mk hb
  have HLL := Aside0.mk hl
  have HG := Aside0.mk hg
  clear h hb hl hg
  go_enter Tryz.func17, Tryz.ntmps17
  go_wp2_with (first | ((with_reducible refine gate_dst (N := 2) rfl ?_); refine box_event ?hg (N := 2) ?hd (cs := #[.int .i64 0, .int .i64 0, .int .i64 0, .slice none 0 0, .slice none 0 0, .slice none 0 0, .bool false]) (t := 25) ?hr ?_; (case hd => rfl); (case hg => rfl); (case hr => first | (go_simp; done) | (go_simp; rfl)); intro gc hg w1 hbox hb; have HBK := Aside0.mk hbox; have HB1 := Aside0.mk hb; have HNE := Aside0.mk (show g ≠ gc by have := HG.out; omega); have HGC := Aside0.mk (show w0.heap.size ≤ gc by have := HRS.out.2.1.size; omega); clear hg hbox hb) | fail)
  have HRS1 := Aside0.mk (HRS.out.below HB1.out)
  clear HB1 HRS HG
  by_cases h4 : l.length < 4
  · refine (take_no w0 _ g l 4 HRS1.out (by omega)).mono ?_
    rintro e w2 ⟨rfl, hb2⟩
    exact ⟨rfl, life_none (by unfold rdLife; rw [if_pos h4]) (HRS1.out.2.1.trans (hb2.mono HRS1.out.2.1.size))⟩
  · refine (take_ok w0 _ g l 4 HRS1.out (by omega) (by omega)).mono ?_
    rintro e w2 ⟨A, c, rfl, hc, hC, hrs, hk⟩
    have HRS2 := Aside0.mk hrs
    have HBK2 := Aside0.mk (blk_kept HBK.out hk (fun e => HNE.out e.symm))
    have hstr := Kd.C_string (P := Tryz.prog) (src := 23) (dst := 9) (e := 5) (c := c) Tryz.underlying23 Tryz.underlying5 Tryz.underlying9 (Kd.C_below hC hrs.2.1)
    have ht : (l.take (4 : Int).toNat) = l.take 4 := rfl
    rw [ht] at hstr
    have hl4 : (l.take 4).length = 4 := by simp; omega
    rw [hl4] at hstr
    clear hc hC hrs hk HRS1 HBK
    have HBY2 := Aside0.mk (fun x (hx : x ∈ l.drop 4) => HBY.out x (List.mem_of_mem_drop hx))
    by_cases hm : l.take 4 = [76, 73, 70, 69]
    · have hq : strOfNums (l.take 4) = ⟨#[76, 73, 70, 69]⟩ := by rw [hm]; rfl
      rw [hq] at hstr
      have HE := Aside0.mk (show rdLife l = rd2 (l.drop 4) by unfold rdLife; rw [if_neg h4, if_pos hm])
      have HL2 := Aside0.mk (show (l.drop 4).length ≤ 8589934592 by have := HLL.out; simp; omega)
      clear ht hq hm h4 HBY HLL
      go_wp2_with fail
      clear hstr hl4
      refine (number_calls w0 _ g (l.drop 4) HRS2.out HBY2.out).mono ?_
      rintro e w3 (⟨a0, r0, hN0, rfl, hrs, hk⟩ | ⟨hN0, rfl, hk, hb3⟩)
      rotate_left
      · exact ⟨rfl, life_none (HE.out.trans (by unfold rd2; rw [hN0]; rfl)) hb3⟩
      have HE3 := Aside0.mk (show rdLife l = ((rdN r0 0 0).bind fun q1 => (rdN q1.2 0 0).bind fun q2 => rd3 a0 q1.1 q2.1 q2.2) from HE.out.trans (by unfold rd2; rw [hN0]; rfl))
      have HRS3 := Aside0.mk hrs
      have HBK3 := Aside0.mk (blk_kept HBK2.out hk (fun e => HNE.out e.symm))
      have HBY3 := Aside0.mk (fun x (hx : x ∈ r0) => HBY2.out x (rdN_mem _ _ _ hN0 x hx))
      have HL3 := Aside0.mk (show r0.length ≤ 8589934592 by have := rdN_shrinks _ _ _ hN0; have := HL2.out; omega)
      have HA0 := Aside0.mk (rdN_nonneg _ _ _ (Int.le_refl 0) hN0)
      clear hN0 hrs hk HE HRS2 HBK2 HBY2 HL2
      go_wp2_with fail
      refine (number_calls w0 _ g r0 HRS3.out HBY3.out).mono ?_
      rintro e w4 (⟨a1, r1, hN0, rfl, hrs, hk⟩ | ⟨hN0, rfl, hk, hb3⟩)
      rotate_left
      · exact ⟨rfl, life_none (HE3.out.trans (by rw [hN0]; rfl)) hb3⟩
      have HE4 := Aside0.mk (show rdLife l = ((rdN r1 0 0).bind fun q2 => rd3 a0 a1 q2.1 q2.2) from HE3.out.trans (by rw [hN0]; rfl))
      have HRS4 := Aside0.mk hrs
      have HBK4 := Aside0.mk (blk_kept HBK3.out hk (fun e => HNE.out e.symm))
      have HBY4 := Aside0.mk (fun x (hx : x ∈ r1) => HBY3.out x (rdN_mem _ _ _ hN0 x hx))
      have HL4 := Aside0.mk (show r1.length ≤ 8589934592 by have := rdN_shrinks _ _ _ hN0; have := HL3.out; omega)
      clear hN0 hrs hk HE3 HRS3 HBK3 HBY3 HL3
      go_wp2_with fail
      refine (number_calls w0 _ g r1 HRS4.out HBY4.out).mono ?_
      rintro e w5 (⟨a2, r2, hN0, rfl, hrs, hk⟩ | ⟨hN0, rfl, hk, hb3⟩)
      rotate_left
      · exact ⟨rfl, life_none (HE4.out.trans (by rw [hN0]; rfl)) hb3⟩
      have HE5 := Aside0.mk (show rdLife l = rd3 a0 a1 a2 r2 from HE4.out.trans (by rw [hN0]; rfl))
      have HRS5 := Aside0.mk hrs
      have HBK5 := Aside0.mk (blk_kept HBK4.out hk (fun e => HNE.out e.symm))
      have HBY5 := Aside0.mk (fun x (hx : x ∈ r2) => HBY4.out x (rdN_mem _ _ _ hN0 x hx))
      have HL5 := Aside0.mk (show r2.length ≤ 8589934592 by have := rdN_shrinks _ _ _ hN0; have := HL4.out; omega)
      clear hN0 hrs hk HE4 HRS4 HBK4 HBY4 HL4
      have c0 := (blk_cell HBK5.out 0).trans rfl
      have c1 := (blk_cell HBK5.out 1).trans rfl
      have c2 := (blk_cell HBK5.out 2).trans rfl
      have f0 := blk_frozen HBK5.out 0
      have f1 := blk_frozen HBK5.out 1
      have f2 := blk_frozen HBK5.out 2
      go_wp2_with fail
      have HRS6 := Aside0.mk (((HRS5.out.set (i := 0) (u := .int .i64 a0) HGC.out HNE.out).set (i := 1) (u := .int .i64 a1) HGC.out HNE.out).set (i := 2) (u := .int .i64 a2) HGC.out HNE.out)
      have HBK6 := Aside0.mk (blk_set (blk_set (blk_set HBK5.out 0 (.int .i64 a0)) 1 (.int .i64 a1)) 2 (.int .i64 a2))
      clear c0 c1 c2 f0 f1 f2 HRS5 HBK5
      cases r2 with
      | nil =>
        refine (take_no w0 _ g [] 1 HRS6.out (by simp)).mono ?_
        rintro e w6 ⟨rfl, hb2⟩
        exact ⟨rfl, life_none (HE5.out.trans rfl) (HRS6.out.2.1.trans (hb2.mono HRS6.out.2.1.size))⟩
      | cons b r3 =>
        have hb0 := (HBY5.out b List.mem_cons_self).1
        have hb1 := (HBY5.out b List.mem_cons_self).2
        refine (take_ok w0 _ g (b :: r3) 1 HRS6.out (by omega) (by simp; omega)).mono ?_
        rintro e w6 ⟨A, c, rfl, hl, hC, hrs, hk⟩
        have hC1 := Kd.C_below hC hrs.2.1
        obtain ⟨ad, e, hc⟩ := Kd.at_int hC1 0 (by omega) (by simp)
        cases e
        have hcv : w6.cell? ad = some (.int .u8 b) := hc
        have HRS7 := Aside0.mk (show RS w0 w6 g r3 from hrs)
        have HBK7 := Aside0.mk (blk_kept HBK6.out hk (fun e => HNE.out e.symm))
        have HBY7 := Aside0.mk (fun x (hx : x ∈ r3) => HBY5.out x (List.mem_cons_of_mem _ hx))
        have HL7 := Aside0.mk (show r3.length ≤ 8589934592 by have := HL5.out; simp at this; omega)
        clear hc hl hC hrs hk hC1 HRS6 HBK6 HBY5 HL5
        have c6 := (blk_cell HBK7.out 6).trans rfl
        have f6 := blk_frozen HBK7.out 6
        by_cases hb2 : 1 < b
        · have HE7 := Aside0.mk (show rdLife l = none from HE5.out.trans (by simp only [rd3]; rw [if_pos hb2]))
          go_wp2_with fail
          exact ⟨rfl, life_none HE7.out HRS7.out.2.1⟩
        · have HE7 := Aside0.mk (show rdLife l = rd4 a0 a1 a2 (b == 1) r3 from HE5.out.trans (by simp only [rd3]; rw [if_neg hb2]))
          have hd : decide (1 < b) = false := by simpa using hb2
          clear hb2
          go_wp2_with fail
          have HRS8 := Aside0.mk (HRS7.out.set (i := 6) (u := .bool (b == 1)) HGC.out HNE.out)
          have HBK8 := Aside0.mk (blk_set HBK7.out 6 (.bool (b == 1)))
          clear c6 f6 HRS7 HBK7 hcv hd hb0 hb1
          refine (number_calls w0 _ g r3 HRS8.out HBY7.out).mono ?_
          rintro e w8 (⟨nd, r4, hN0, rfl, hrs, hk⟩ | ⟨hN0, rfl, hk, hb3⟩)
          rotate_left
          · exact ⟨rfl, life_none (HE7.out.trans (by unfold rd4; rw [hN0]; rfl)) hb3⟩
          have hnd := rdN_nonneg _ _ _ (Int.le_refl 0) hN0
          obtain ⟨kd, rfl⟩ := Int.eq_ofNat_of_zero_le hnd.1
          have HE9 := Aside0.mk (show rdLife l = ((rdDevs kd [] r4).bind fun p => rd5 a0 a1 a2 (b == 1) p.1 p.2) from HE7.out.trans (by unfold rd4; rw [hN0]; rfl))
          have HKD := Aside0.mk (show (kd : Int) ≤ 1099511627776 from hnd.2)
          have HRS9 := Aside0.mk hrs
          have HBK9 := Aside0.mk (blk_kept HBK8.out hk (fun e => HNE.out e.symm))
          have HBY9 := Aside0.mk (fun x (hx : x ∈ r4) => HBY7.out x (rdN_mem _ _ _ hN0 x hx))
          have HL9 := Aside0.mk (show r4.length ≤ 8589934592 by have := rdN_shrinks _ _ _ hN0; have := HL7.out; omega)
          clear hN0 hrs hk HE7 HRS8 HBK8 HBY7 HL7 hnd
          go_wp2_with fail
          go_loopw [5] (fun v5 w' => ∃ (k1 : Nat) (acc l1 : List Int) (v3 : Value), v5 = .int .i64 (k1 : Int) ∧ Aside0 ((k1 : Int) ≤ 1099511627776) ∧ Aside0 (rdLife l = ((rdDevs k1 acc l1).bind fun p => rd5 a0 a1 a2 (b == 1) p.1 p.2)) ∧ Aside0 (RS w0 w' g l1) ∧ Aside0 (w'.heap[gc]? = some (.cells #[.int .i64 a0, .int .i64 a1, .int .i64 a2, v3, .slice none 0 0, .slice none 0 0, .bool (b == 1)] 25 (0, 0))) ∧ Aside0 (∀ x ∈ l1, 0 ≤ x ∧ x < 256) ∧ Aside0 (acc.length + l1.length ≤ 8589934592) ∧ Aside0 (Kd.R (Kd.int .i64) 3 w' w0.heap.size (fun _ => True) v3 acc)) (fun v5 _ => (intOf v5).toNat)
          case atStart => exact ⟨kd, [], r4, .slice none 0 0, rfl, HKD, HE9, HRS9, HBK9, HBY9, ⟨by have := HL9.out; simp; omega⟩, ⟨Kd.R_nil _ _ _ _ _⟩⟩
          case round =>
            obtain ⟨k1, acc, l1, v3, rfl, HKd, HEd, HRSd, HBKd, HBYd, HLd, HOd⟩ := hrel
            clear HKD HE9 HRS9 HBK9 HBY9 HL9
            cases k1 with
            | zero =>
              have HEx := Aside0.mk (show rdLife l = rd5 a0 a1 a2 (b == 1) acc l1 from HEd.out)
              obtain ⟨Ag, cg, hgx⟩ := HRSd.out.block
              have HGX := Aside0.mk hgx
              clear hgx HEd
              go_wp2_with fail
              cases hB : rdB l1 with
              | none =>
                refine (bytes_no HRSd.out HBYd.out hB).mono ?_
                rintro e w8 ⟨rfl, hk, hb⟩
                exact ⟨rfl, life_none (HEx.out.trans (by unfold rd5; rw [hB]; rfl)) hb⟩
              | some q =>
                obtain ⟨x4, r5⟩ := q
                refine (bytes_ok HRSd.out (blk_lt HGX.out) HBYd.out (by have := HLd.out; omega) hB).mono ?_
                rintro e w8 ⟨v4, rfl, hR4, hrs, hk⟩
                have HEy := Aside0.mk (show rdLife l = (rdB r5).bind fun p => rd6 (a0, a1, a2, acc, x4, p.1, b == 1) p.2 from HEx.out.trans (by unfold rd5; rw [hB]; rfl))
                have HRSe := Aside0.mk hrs
                have HBKe := Aside0.mk (blk_kept HBKd.out hk (fun e => HNE.out e.symm))
                have HBYe := Aside0.mk (fun x (hx : x ∈ r5) => HBYd.out x ((rdB_mem hB).1 x hx))
                have HLe := Aside0.mk (show r5.length ≤ 8589934592 by have := rdB_shrinks hB; have := HLd.out; omega)
                have HO3 := Aside0.mk (Kd.R_mono (ok' := fun _ => True) (Kd.R_kept (Kd.R_types HOd.out HGX.out (by decide)) hk (fun k hk h => hk.2 h)) (fun _ _ => trivial))
                obtain ⟨A4, q4, e4⟩ := Kd.R_slice hR4
                subst e4
                have HO4 := Aside0.mk (Kd.R_mono (ok' := fun k => k ≠ g) hR4 (fun k hk => by have := blk_lt HGX.out; omega))
                clear hB hrs hk hR4 HGX HRSd HBKd HBYd HLd HOd HEx
                obtain ⟨Ag, cg, hgx⟩ := HRSe.out.block
                have HGX := Aside0.mk hgx
                clear hgx
                go_wp2_with fail
                cases hB : rdB r5 with
                | none =>
                  refine (bytes_no HRSe.out HBYe.out hB).mono ?_
                  rintro e w8 ⟨rfl, hk, hb⟩
                  exact ⟨rfl, life_none (HEy.out.trans (by rw [hB]; rfl)) hb⟩
                | some q =>
                  obtain ⟨x5, r6⟩ := q
                  refine (bytes_ok HRSe.out (blk_lt HGX.out) HBYe.out (by have := HLe.out; omega) hB).mono ?_
                  rintro e w9 ⟨v5, rfl, hR5, hrs, hk⟩
                  have HEz := Aside0.mk (show rdLife l = rd6 (a0, a1, a2, acc, x4, x5, b == 1) r6 from HEy.out.trans (by rw [hB]; rfl))
                  have HRSf := Aside0.mk hrs
                  have HBKf := Aside0.mk (blk_kept HBKe.out hk (fun e => HNE.out e.symm))
                  have HBYf := Aside0.mk (fun x (hx : x ∈ r6) => HBYe.out x ((rdB_mem hB).1 x hx))
                  have HLf := Aside0.mk (show r6.length ≤ 8589934592 by have := rdB_shrinks hB; have := HLe.out; omega)
                  have HO3f := Aside0.mk (Kd.R_mono (ok' := fun _ => True) (Kd.R_kept (Kd.R_types HO3.out HGX.out (by decide)) hk (fun k hk h => hk.2 h)) (fun _ _ => trivial))
                  have HO4f := Aside0.mk (Kd.R_kept HO4.out hk (fun k hk h => hk h))
                  obtain ⟨A5, q5, e5⟩ := Kd.R_slice hR5
                  subst e5
                  have HO5f := Aside0.mk (Kd.R_mono (ok' := fun k => k ≠ g) hR5 (fun k hk => by have := blk_lt HGX.out; omega))
                  clear hB hrs hk hR5 HGX HRSe HBKe HBYe HLe HO3 HO4 HEy
                  have c4 := (blk_cell HBKf.out 4).trans rfl
                  have c5 := (blk_cell HBKf.out 5).trans rfl
                  have f4 := blk_frozen HBKf.out 4
                  have f5 := blk_frozen HBKf.out 5
                  go_wp2_with fail
                  have HRSg := Aside0.mk ((HRSf.out.set (i := 4) (u := .slice A4 x4.length q4) HGC.out HNE.out).set (i := 5) (u := .slice A5 x5.length q5) HGC.out HNE.out)
                  have HBKg := Aside0.mk (blk_set (blk_set HBKf.out 4 (.slice A4 x4.length q4)) 5 (.slice A5 x5.length q5))
                  have HO3g := Aside0.mk (Kd.R_set (Kd.R_set HO3f.out HBKf.out (by decide) 4 (.slice A4 x4.length q4)) (blk_set HBKf.out 4 (.slice A4 x4.length q4)) (by decide) 5 (.slice A5 x5.length q5))
                  have HO4g := Aside0.mk (Kd.R_set (Kd.R_set HO4f.out HBKf.out (by decide) 4 (.slice A4 x4.length q4)) (blk_set HBKf.out 4 (.slice A4 x4.length q4)) (by decide) 5 (.slice A5 x5.length q5))
                  have HO5g := Aside0.mk (Kd.R_set (Kd.R_set HO5f.out HBKf.out (by decide) 4 (.slice A4 x4.length q4)) (blk_set HBKf.out 4 (.slice A4 x4.length q4)) (by decide) 5 (.slice A5 x5.length q5))
                  clear HRSf HBKf HO3f HO4f HO5f c4 c5 f4 f5
                  obtain ⟨Ag, cg, hgx⟩ := HRSg.out.block
                  have HGX := Aside0.mk hgx
                  clear hgx
                  refine (number_calls w0 _ g r6 HRSg.out HBYf.out).mono ?_
                  rintro e w10 (⟨nl, r7, hN0, rfl, hrs, hk⟩ | ⟨hN0, rfl, hk, hb3⟩)
                  rotate_left
                  · exact ⟨rfl, life_none (HEz.out.trans (by unfold rd6; rw [hN0]; rfl)) hb3⟩
                  have hnd := rdN_nonneg _ _ _ (Int.le_refl 0) hN0
                  obtain ⟨kl, rfl⟩ := Int.eq_ofNat_of_zero_le hnd.1
                  have HEl := Aside0.mk (show rdLife l = (rdLabs kl [] r7).bind fun p => some ((a0, a1, a2, acc, x4, x5, b == 1), p.1, p.2) from HEz.out.trans (by unfold rd6; rw [hN0]; rfl))
                  have HKL := Aside0.mk (show (kl : Int) ≤ 1099511627776 from hnd.2)
                  have HRSh := Aside0.mk hrs
                  have HBKh := Aside0.mk (blk_kept HBKg.out hk (fun e => HNE.out e.symm))
                  have HBYh := Aside0.mk (fun x (hx : x ∈ r7) => HBYf.out x (rdN_mem _ _ _ hN0 x hx))
                  have HLh := Aside0.mk (show r7.length ≤ 8589934592 by have := rdN_shrinks _ _ _ hN0; have := HLf.out; omega)
                  have HO3h := Aside0.mk (Kd.R_mono (ok' := fun k => k ≠ g) (Kd.R_kept (Kd.R_types HO3g.out HGX.out (by decide)) hk (fun k hk h => hk.2 h)) (fun k hk => hk.2))
                  have HO4h := Aside0.mk (Kd.R_kept HO4g.out hk (fun k hk h => hk h))
                  have HO5h := Aside0.mk (Kd.R_kept HO5g.out hk (fun k hk h => hk h))
                  clear hN0 hrs hk HEz HRSg HBKg HBYf HLf HO3g HO4g HO5g HGX hnd
                  go_wp2_with fail
                  go_loopw [6, 3] (fun v6 vl w' => ∃ (k1 : Nat) (ls : List S56) (l1 : List Int), v6 = .int .i64 (k1 : Int) ∧ Aside0 ((k1 : Int) ≤ 1099511627776) ∧ Aside0 (rdLife l = (rdLabs k1 ls l1).bind fun p => some ((a0, a1, a2, acc, x4, x5, b == 1), p.1, p.2)) ∧ Aside0 (RS w0 w' g l1) ∧ Aside0 (w'.heap[gc]? = some (.cells #[.int .i64 a0, .int .i64 a1, .int .i64 a2, v3, .slice A4 x4.length q4, .slice A5 x5.length q5, .bool (b == 1)] 25 (0, 0))) ∧ Aside0 (∀ x ∈ l1, 0 ≤ x ∧ x < 256) ∧ Aside0 (ls.length + l1.length ≤ 8589934592) ∧ Aside0 (Kd.R (Kd.int .i64) 3 w' w0.heap.size (fun k => k ≠ g) v3 acc) ∧ Aside0 (Kd.R (Kd.int .u8) 5 w' w0.heap.size (fun k => k ≠ g) (.slice A4 x4.length q4) x4) ∧ Aside0 (Kd.R (Kd.int .u8) 5 w' w0.heap.size (fun k => k ≠ g) (.slice A5 x5.length q5) x5) ∧ Aside0 (Kd.R k56 45 w' w0.heap.size (fun k => k ≠ g) vl ls)) (fun v6 _ _ => (intOf v6).toNat)
                  case atStart => exact ⟨kl, [], r7, rfl, HKL, HEl, HRSh, HBKh, HBYh, ⟨by have := HLh.out; simp; omega⟩, HO3h, HO4h, HO5h, ⟨Kd.R_nil _ _ _ _ _⟩⟩
                  case round =>
                    obtain ⟨k1, ls, l1, rfl, HKd, HEd, HRSd, HBKd, HBYd, HLd, HO3, HO4, HO5, HOd⟩ := hrel
                    clear HKL HEl HRSh HBKh HBYh HLh HO3h HO4h HO5h
                    cases k1 with
                    | zero =>
                      obtain ⟨A3, q3, e3⟩ := Kd.R_slice HO3.out
                      subst e3
                      have HEe := Aside0.mk (show rdLife l = some ((a0, a1, a2, acc, x4, x5, b == 1), ls, l1) from HEd.out)
                      have c0 : wr.cell? ⟨gc, 0, none⟩ = some (.int .i64 a0) := (blk_cell HBKd.out 0).trans rfl
                      have c1 : wr.cell? ⟨gc, 1, none⟩ = some (.int .i64 a1) := (blk_cell HBKd.out 1).trans rfl
                      have c2 : wr.cell? ⟨gc, 2, none⟩ = some (.int .i64 a2) := (blk_cell HBKd.out 2).trans rfl
                      have c3 : wr.cell? ⟨gc, 3, none⟩ = some (.slice A3 acc.length q3) := (blk_cell HBKd.out 3).trans rfl
                      have c4 : wr.cell? ⟨gc, 4, none⟩ = some (.slice A4 x4.length q4) := (blk_cell HBKd.out 4).trans rfl
                      have c5 : wr.cell? ⟨gc, 5, none⟩ = some (.slice A5 x5.length q5) := (blk_cell HBKd.out 5).trans rfl
                      have c6 : wr.cell? ⟨gc, 6, none⟩ = some (.bool (b == 1)) := (blk_cell HBKd.out 6).trans rfl
                      have f0 := blk_frozen HBKd.out 0
                      have f1 := blk_frozen HBKd.out 1
                      have f2 := blk_frozen HBKd.out 2
                      have f3 := blk_frozen HBKd.out 3
                      have f4 := blk_frozen HBKd.out 4
                      have f5 := blk_frozen HBKd.out 5
                      have f6 := blk_frozen HBKd.out 6
                      go_wp2_with fail
                      have s1 := Aside0.mk (blk_set HBKd.out 0 (.int .i64 a0))
                      have s2 := Aside0.mk (blk_set s1.out 1 (.int .i64 a1))
                      have s3 := Aside0.mk (blk_set s2.out 2 (.int .i64 a2))
                      have s4 := Aside0.mk (blk_set s3.out 3 (.slice A3 acc.length q3))
                      have s5 := Aside0.mk (blk_set s4.out 4 (.slice A4 x4.length q4))
                      have s6 := Aside0.mk (blk_set s5.out 5 (.slice A5 x5.length q5))
                      have s7 := Aside0.mk (blk_set s6.out 6 (.bool (b == 1)))
                      have hi25 : (Tryz.prog.info? 25).map (·.size) = some 7 := by kernel_rfl
                      refine bodyPost_ret (results_list (rs := [.cell 2 25, .tmp 3]) rfl (by simp) (.cell gc 25 #[.int .i64 a0, .int .i64 a1, .int .i64 a2, .slice A3 acc.length q3, .slice A4 x4.length q4, .slice A5 x5.length q5, .bool (b == 1)] (0, 0) _ rfl s7.out hu25 rfl hi25 (.tmp .nil))) rfl ?_
                      unfold LifePost
                      rw [HEe.out]
                      refine ⟨_, _, _, _, rfl, ?_, ?_, ?_, ?_, ?_⟩
                      · exact Kd.R_mono (Kd.R_set (Kd.R_set (Kd.R_set (Kd.R_set (Kd.R_set (Kd.R_set (Kd.R_set HO3.out HBKd.out (by decide) 0 _) s1.out (by decide) 1 _) s2.out (by decide) 2 _) s3.out (by decide) 3 _) s4.out (by decide) 4 _) s5.out (by decide) 5 _) s6.out (by decide) 6 _) (fun _ _ => trivial)
                      · exact Kd.R_mono (Kd.R_set (Kd.R_set (Kd.R_set (Kd.R_set (Kd.R_set (Kd.R_set (Kd.R_set HO4.out HBKd.out (by decide) 0 _) s1.out (by decide) 1 _) s2.out (by decide) 2 _) s3.out (by decide) 3 _) s4.out (by decide) 4 _) s5.out (by decide) 5 _) s6.out (by decide) 6 _) (fun _ _ => trivial)
                      · exact Kd.R_mono (Kd.R_set (Kd.R_set (Kd.R_set (Kd.R_set (Kd.R_set (Kd.R_set (Kd.R_set HO5.out HBKd.out (by decide) 0 _) s1.out (by decide) 1 _) s2.out (by decide) 2 _) s3.out (by decide) 3 _) s4.out (by decide) 4 _) s5.out (by decide) 5 _) s6.out (by decide) 6 _) (fun _ _ => trivial)
                      · exact Kd.R_set (Kd.R_set (Kd.R_set (Kd.R_set (Kd.R_set (Kd.R_set (Kd.R_set HOd.out HBKd.out (by decide) 0 _) s1.out (by decide) 1 _) s2.out (by decide) 2 _) s3.out (by decide) 3 _) s4.out (by decide) 4 _) s5.out (by decide) 5 _) s6.out (by decide) 6 _
                      · exact ((((((HRSd.out.set HGC.out HNE.out).set HGC.out HNE.out).set HGC.out HNE.out).set HGC.out HNE.out).set HGC.out HNE.out).set HGC.out HNE.out).set HGC.out HNE.out
                    | succ k1 =>
                      have hpos : decide ((0 : Int) < ((k1 + 1 : Nat) : Int)) = true := by simp; try omega
                      have hsub : wrap64 (k1 : Int) = (k1 : Int) := by have := HKd.out; unfold wrap64; omega
                      obtain ⟨Ag, cg, hgx⟩ := HRSd.out.block
                      have HGX := Aside0.mk hgx
                      clear hgx
                      go_wp2_with fail
                      cases l1 with
                      | nil =>
                        refine (take_no w0 _ g [] 1 HRSd.out (by simp)).mono ?_
                        rintro e w6 ⟨rfl, hb2⟩
                        exact ⟨rfl, life_none (HEd.out.trans rfl) (HRSd.out.2.1.trans (hb2.mono HRSd.out.2.1.size))⟩
                      | cons kd l2 =>
                        have hb0 := (HBYd.out kd List.mem_cons_self).1
                        have hb1 := (HBYd.out kd List.mem_cons_self).2
                        refine (take_ok w0 _ g (kd :: l2) 1 HRSd.out (by omega) (by simp; omega)).mono ?_
                        rintro e w11 ⟨A, c, rfl, hl, hC, hrs, hk⟩
                        have hC1 := Kd.C_below hC hrs.2.1
                        obtain ⟨ad, e, hc⟩ := Kd.at_int hC1 0 (by omega) (by simp)
                        cases e
                        have hcv : w11.cell? ad = some (.int .u8 kd) := hc
                        have HRS7 := Aside0.mk (show RS w0 w11 g l2 from hrs)
                        have HBK7 := Aside0.mk (blk_kept HBKd.out hk (fun e => HNE.out e.symm))
                        have HBY7 := Aside0.mk (fun x (hx : x ∈ l2) => HBYd.out x (List.mem_cons_of_mem _ hx))
                        have HL7 := Aside0.mk (show ls.length + 1 + l2.length ≤ 8589934592 by have := HLd.out; simp at this; omega)
                        have HO37 := Aside0.mk (Kd.R_kept HO3.out hk (fun k hk h => hk h))
                        have HO47 := Aside0.mk (Kd.R_kept HO4.out hk (fun k hk h => hk h))
                        have HO57 := Aside0.mk (Kd.R_kept HO5.out hk (fun k hk h => hk h))
                        have HOd7 := Aside0.mk (Kd.R_kept HOd.out hk (fun k hk h => hk h))
                        have HE7 := Aside0.mk (show rdLife l = ((rdN l2 0 0).bind fun q => (rdB q.2).bind fun p => rdLabs k1 (ls ++ [⟨kd, q.1, p.1⟩]) p.2).bind fun p => some ((a0, a1, a2, acc, x4, x5, b == 1), p.1, p.2) from HEd.out)
                        clear hc hl hC hrs hk hC1 HRSd HBKd HBYd HLd HO3 HO4 HO5 HOd HGX HEd
                        go_wp2_with fail
                        refine (number_calls w0 _ g l2 HRS7.out HBY7.out).mono ?_
                        rintro e w12 (⟨n8, l3, hN0, rfl, hrs, hk⟩ | ⟨hN0, rfl, hk, hb3⟩)
                        rotate_left
                        · exact ⟨rfl, life_none (HE7.out.trans (by rw [hN0]; rfl)) hb3⟩
                        have HRS8 := Aside0.mk hrs
                        have HBK8 := Aside0.mk (blk_kept HBK7.out hk (fun e => HNE.out e.symm))
                        have HBY8 := Aside0.mk (fun x (hx : x ∈ l3) => HBY7.out x (rdN_mem _ _ _ hN0 x hx))
                        have HL8 := Aside0.mk (show ls.length + 1 + l3.length ≤ 8589934592 by have := rdN_shrinks _ _ _ hN0; have := HL7.out; omega)
                        have HO38 := Aside0.mk (Kd.R_kept HO37.out hk (fun k hk h => hk h))
                        have HO48 := Aside0.mk (Kd.R_kept HO47.out hk (fun k hk h => hk h))
                        have HO58 := Aside0.mk (Kd.R_kept HO57.out hk (fun k hk h => hk h))
                        have HOd8 := Aside0.mk (Kd.R_kept HOd7.out hk (fun k hk h => hk h))
                        have HE8 := Aside0.mk (show rdLife l = ((rdB l3).bind fun p => rdLabs k1 (ls ++ [⟨kd, n8, p.1⟩]) p.2).bind fun p => some ((a0, a1, a2, acc, x4, x5, b == 1), p.1, p.2) from HE7.out.trans (by rw [hN0]; rfl))
                        clear hN0 hrs hk HRS7 HBK7 HBY7 HL7 HO37 HO47 HO57 HOd7 HE7
                        obtain ⟨Ag, cg, hgx⟩ := HRS8.out.block
                        have HGX := Aside0.mk hgx
                        clear hgx
                        go_wp2_with fail
                        cases hB : rdB l3 with
                        | none =>
                          refine (bytes_no HRS8.out HBY8.out hB).mono ?_
                          rintro e w8 ⟨rfl, hk, hb⟩
                          exact ⟨rfl, life_none (HE8.out.trans (by rw [hB]; rfl)) hb⟩
                        | some q =>
                          obtain ⟨xb, l4⟩ := q
                          refine (bytes_ok HRS8.out (blk_lt HGX.out) HBY8.out (by have := HL8.out; omega) hB).mono ?_
                          rintro e w13 ⟨vb, rfl, hRb, hrs, hk⟩
                          have HRS9 := Aside0.mk hrs
                          have HBK9 := Aside0.mk (blk_kept HBK8.out hk (fun e => HNE.out e.symm))
                          have HBY9 := Aside0.mk (fun x (hx : x ∈ l4) => HBY8.out x ((rdB_mem hB).1 x hx))
                          have HL9 := Aside0.mk (show ls.length + 1 + l4.length ≤ 8589934592 by have := rdB_shrinks hB; have := HL8.out; omega)
                          have HO39 := Aside0.mk (Kd.R_kept HO38.out hk (fun k hk h => hk h))
                          have HO49 := Aside0.mk (Kd.R_kept HO48.out hk (fun k hk h => hk h))
                          have HO59 := Aside0.mk (Kd.R_kept HO58.out hk (fun k hk h => hk h))
                          have HOd9 := Aside0.mk (Kd.R_kept HOd8.out hk (fun k hk h => hk h))
                          have HLT := Aside0.mk (fun k (hk : w12.heap.size ≤ k) => (⟨by have := blk_lt HGX.out; omega, by rintro e; have := Kd.R_lt HOd8.out k e.symm; omega⟩ : k ≠ g ∧ some k ≠ (u3 : Value).ownBlock))
                          have HGS := Aside0.mk (show g < w13.heap.size by have := blk_lt HGX.out; have := hk.1; omega)
                          have HE9 := Aside0.mk (show rdLife l = (rdLabs k1 (ls ++ [⟨kd, n8, xb⟩]) l4).bind fun p => some ((a0, a1, a2, acc, x4, x5, b == 1), p.1, p.2) from HE8.out.trans (by rw [hB]; rfl))
                          obtain ⟨Ab, qb, eb⟩ := Kd.R_slice hRb
                          subst eb
                          have HOb := Aside0.mk hRb
                          clear hB hrs hk hRb HRS8 HBK8 HBY8 HL8 HO38 HO48 HO58 HOd8 HE8 HGX
                          go_wp2_with (first | ((with_reducible refine gate_builtin (b := .append) (xs := #[.tmp 64, .tmp 71]) rfl ?_); at_builtin; refine Kd.R_append k56 (w0 := w0) w0.heap.size rfl (.tmp 64) (.tmp 71) 26 45 (.agg #[(.int .i64 0), (.int .i64 0), (.slice none 0 0)]) 40 rfl Tryz.underlying26 info56 rfl (by decide) (by omega) u3 ls (⟨kd, n8, xb⟩ : S56) [.int .i64 kd, .int .i64 n8, .slice Ab xb.length qb] (fun k => k ≠ g) (fun k => w12.heap.size ≤ k) rfl rfl ?aP ?aQ ?aF ?aO ?aB ?aS ?aL ?_; (case aP => exact k56_mkM _ _ _ (⟨kd, n8, xb⟩ : S56) HOb.out); (case aQ => exact HLT.out); (case aF => exact (fun k hk => by have := HGS.out; omega)); (case aO => exact HOd9.out); (case aB => exact HRS9.out.2.1); (case aS => exact HRS9.out.2.1.size); (case aL => have := HL9.out; omega); intro v14 w14 ho hb9 hg9 hat9; have HO14 := Aside0.mk ho; have HBK14 := Aside0.mk (blk_grown HBK9.out hg9 (Kd.R_ne HOd9.out HBK9.out (by decide))); have HRS14 := Aside0.mk (HRS9.out.grown hg9 hb9 (Kd.R_away HOd9.out (fun _ hk => hk))); have HO314 := Aside0.mk (Kd.R_over HO39.out HOd9.out (by decide) hg9); have HO414 := Aside0.mk (Kd.R_over HO49.out HOd9.out (by decide) hg9); have HO514 := Aside0.mk (Kd.R_over HO59.out HOd9.out (by decide) hg9); clear ho hb9 hg9 hat9) | fail)
                          go_roundw
                          case rel => exact ⟨k1, _, l4, by rw [hsub], ⟨by have := HKd.out; omega⟩, HE9, HRS14, HBK14, HBY9, ⟨by have := HL9.out; simp; omega⟩, HO314, HO414, HO514, HO14⟩
                          case measure => rw [hsub]; simp [intOf]
            | succ k1 =>
              have hpos : decide ((0 : Int) < ((k1 + 1 : Nat) : Int)) = true := by simp; try omega
              have hsub : wrap64 (k1 : Int) = (k1 : Int) := by have := HKd.out; unfold wrap64; omega
              obtain ⟨Ag, cg, hgx⟩ := HRSd.out.block
              have HGX := Aside0.mk hgx
              clear hgx
              go_wp2_with fail
              skip
              refine start_ (n := 8) (S := fun w' => w'.cell? ⟨gc, 3, none⟩ = some v3) (ds := [7]) #[false, false, false, false, false, false, false, false] (by kernel_rfl) rfl rfl ((blk_cell HBKd.out 3).trans rfl) (fun hHeld => ?_)
              refine pure_ (i := 0) (N := some 40) (v := ?_) (a' := ?_) #[true, false, false, false, false, false, false, false] rfl rfl (by kernel_rfl) (fun _ _ _ h => h) (Or.inl ⟨by rfl, ?_⟩) ?_ ?_
              rotate_left
              · intro w'
                go_simp
                with_reducible rfl
              rotate_left
              · simp only [Act.put, List.setIfInBounds_toArray, List.set_cons_zero, List.set_cons_succ, i64_w, i32_w]
                rfl
              refine pure_ (i := 2) (N := some 42) (v := ?_) (a' := ?_) #[true, false, true, false, false, false, false, false] rfl rfl (by kernel_rfl) (fun _ _ _ h => h) (Or.inl ⟨by rfl, ?_⟩) ?_ ?_
              rotate_left
              · intro w'
                go_simp
                with_reducible rfl
              rotate_left
              · simp only [Act.put, List.setIfInBounds_toArray, List.set_cons_zero, List.set_cons_succ, i64_w, i32_w]
                rfl
              refine take_ (i := 1) (N := some 41) (v := ?_) (a' := ?_) #[true, true, true, false, false, false, false, false] rfl rfl (by kernel_rfl) (fun _ _ _ h => h) (Or.inl ⟨by rfl, ?_⟩) hHeld ?_ ?_
              rotate_left
              · intro w' s0
                go_simp
                with_reducible rfl
              rotate_left
              · simp only [Act.put, List.setIfInBounds_toArray, List.set_cons_zero, List.set_cons_succ, i64_w, i32_w]
                rfl
              refine one_ (i := 3) (N := some 43) #[true, true, true, true, false, false, false, false] rfl rfl (by kernel_rfl) (by decide) (fun K hK => ?_)
              refine goesX_ Tryz.func25 (by kernel_rfl) rfl #[.pointer (some ⟨g, 0, none⟩)] (by rfl) rfl rfl (by simp only [List.map_toArray, List.map_cons, List.map_nil]; rfl) ?_
              refine (number_calls w0 _ g l1 (HRSd.out.below (below_drew (Below.refl _ _))) HBYd.out).mono ?_
              rintro e w8 (⟨n8, r8, hN0, rfl, hrs, hk⟩ | ⟨hN0, rfl, hk, hb3⟩)
              rotate_left
              · exact .inr ⟨_, rfl, ⟨rfl, life_none (HEd.out.trans (by rw [rdDevs, hN0]; rfl)) hb3⟩⟩
              refine .inl ⟨_, rfl, ?_⟩
              have HE8 := Aside0.mk (show rdLife l = ((rdDevs k1 (acc ++ [n8]) r8).bind fun p => rd5 a0 a1 a2 (b == 1) p.1 p.2) from HEd.out.trans (by rw [rdDevs, hN0]; rfl))
              have HRS8 := Aside0.mk hrs
              have HBK8 := Aside0.mk (blk_kept HBKd.out hk (fun e => HNE.out e.symm))
              have HBY8 := Aside0.mk (fun x (hx : x ∈ r8) => HBYd.out x (rdN_mem _ _ _ hN0 x hx))
              have HL8 := Aside0.mk (show (acc ++ [n8]).length + r8.length ≤ 8589934592 by have := rdN_shrinks _ _ _ hN0; have := HLd.out; simp; omega)
              have HO8 := Aside0.mk (Kd.R_kept (Kd.R_types HOd.out HGX.out (by decide)) hk (fun k hk h => hk.2 h))
              clear hN0 hrs hk
              refine hK.out _ _ ((blk_cell HBK8.out 3).trans rfl) (fun hHeld => ?_)
              clear hK K
              refine norm_ (a' := ?_) ?_ ?_
              rotate_left
              · show Act.put _ (some 43) _ = _
                simp only [Act.put, List.setIfInBounds_toArray, List.set_cons_zero, List.set_cons_succ, i64_w, i32_w]
                rfl
              refine one_ (i := 4) (N := some 44) #[true, true, true, true, true, false, false, false] rfl rfl (by kernel_rfl) (by decide) (fun K hK => ?_)
              refine value_ (w1 := ?_) (v := ?_) (by rfl) rfl ?_ ?_
              rotate_left 2
              · go_simp
                constructor
                · rfl
                · rfl
              refine hK.out _ _ ((blk_cell (blk_alloc HBK8.out _) 3).trans rfl) (fun hHeld => ?_)
              clear hK K
              refine norm_ (a' := ?_) ?_ ?_
              rotate_left
              · show Act.put _ (some 44) _ = _
                simp only [Act.put, List.setIfInBounds_toArray, List.set_cons_zero, List.set_cons_succ, i64_w, i32_w]
                rfl
              refine one_ (i := 5) (N := some 45) #[true, true, true, true, true, true, false, false] rfl rfl (by kernel_rfl) (by decide) (fun K hK => ?_)
              refine Kd.R_append_step (Kd.int .i64) (w0 := w0) w0.heap.size (by rfl) (.tmp 41) (.tmp 44) 22 3 (.int .i64 0) 8 rfl Tryz.underlying22 info3 rfl (by decide) (by omega) v3 acc n8 [.int .i64 n8] (fun _ => True) (fun _ => False) rfl rfl ?aP (fun _ hk => hk.elim) ?aF ?aO ?aB ?aS ?aL ?_
              (case aP => exact rfl)
              (case aF => exact (fun _ _ => trivial))
              (case aB => exact HRS8.out.2.1)
              (case aO => exact Kd.R_mono HO8.out (fun _ _ => trivial))
              (case aS => exact HRS8.out.2.1.size)
              (case aL => have := HL8.out; simp at this; omega)
              intro v9 w9 ho hb9 hg9 hat9
              obtain ⟨A9, q9, e9⟩ := Kd.R_slice ho
              subst e9
              have HO9 := Aside0.mk ho
              have HBK9 := Aside0.mk (blk_grown HBK8.out hg9 (Kd.R_ne HO8.out HBK8.out (by decide)))
              have HRS9 := Aside0.mk (HRS8.out.grown hg9 hb9 (Kd.R_away HO8.out (fun _ hk => hk.2)))
              have c9 : w9.cell? ⟨gc, 3, none⟩ = some v3 := (blk_cell HBK9.out 3).trans rfl
              have f9 := blk_frozen HBK9.out 3
              clear ho hb9 hg9 hat9
              refine hK.out _ _ (c9) (fun hHeld => ?_)
              clear hK K
              refine norm_ (a' := ?_) ?_ ?_
              rotate_left
              · show Act.put _ (some 45) _ = _
                simp only [Act.put, List.setIfInBounds_toArray, List.set_cons_zero, List.set_cons_succ, i64_w, i32_w]
                rfl
              refine pure_ (i := 6) (N := some 46) (v := ?_) (a' := ?_) #[true, true, true, true, true, true, true, false] rfl rfl (by kernel_rfl) (fun _ _ _ h => h) (Or.inl ⟨by rfl, ?_⟩) ?_ ?_
              rotate_left
              · intro w'
                go_simp
                with_reducible rfl
              rotate_left
              · simp only [Act.put, List.setIfInBounds_toArray, List.set_cons_zero, List.set_cons_succ, i64_w, i32_w]
                rfl
              refine last_ (i := 7) (N := none) #[true, true, true, true, true, true, true, true] rfl rfl (by kernel_rfl) (by decide) (fun K hK => ?_)
              refine skip_ (w1 := ?_) (by rfl) rfl ?_ ?_
              rotate_left
              · go_simp
                rfl
              refine hK.out _ _ ?_
              clear hK K
              refine done_ (by kernel_rfl) ?_
              rw [show (acc ++ [n8]).length = acc.length + 1 from by simp] at HO9
              have HRSe := Aside0.mk (HRS9.out.set (i := 3) (u := .slice A9 (acc.length + 1) q9) HGC.out HNE.out)
              have HBKe := Aside0.mk (blk_set HBK9.out 3 (.slice A9 (acc.length + 1) q9))
              have HOe := Aside0.mk (Kd.R_set HO9.out HBK9.out (by decide) 3 (.slice A9 (acc.length + 1) q9))
              clear HO9 HBK9 HRS9 HO8 HBK8 HRS8 HBKd HRSd HOd HEd HBYd HLd
              go_wp2_with fail
              go_roundw
              case rel => exact ⟨k1, acc ++ [n8], r8, _, by rw [hsub], ⟨by have := HKd.out; omega⟩, HE8, HRSe, HBKe, HBY8, HL8, HOe⟩
              case measure => rw [hsub]; simp [intOf]
    · have hq : (!(strOfNums (l.take 4)).toList == [76, 73, 70, 69]) = true := by
        simpa using str_neq _ hl4 (fun x hx => HBY.out x (List.mem_of_mem_take hx)) hm
      have HE := Aside0.mk (show rdLife l = none by unfold rdLife; rw [if_neg h4, if_neg hm])
      clear ht hm
      go_wp2_with fail
      exact ⟨rfl, life_none HE.out HRS2.out.2.1⟩
end Go.Proofs.YtgibdhdglppdcaaGreat.PU
