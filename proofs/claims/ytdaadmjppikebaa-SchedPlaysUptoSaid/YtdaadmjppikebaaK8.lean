import Derived.Test.YtdaadmjppikebaaK7
import Derived.Test.YtdaadmjppikebaaK3
import Derived.Test.YtdaadmjppikebaaPVx0
/- Parts of the walk of package sched, merged. -/
/- A scheduler that is being made. -/
namespace Go.Proofs.Ytdaadmjppikebaa.SC
open Go.RowKit Go.Proofs.YtdaadmjppikebaaW.PrintWords Go.Proofs.YtdaadmjppikebaaW.PrintLast
open Go.Proofs.Ytdaadmjppikebaa.PV (S94 k94)
set_option linter.unusedVariables false
set_option linter.unusedSimpArgs false

section
variable {α : Type} {f : α → List Value} {n : Nat} {hn : ∀ a, (f a).length = n} {h1 : ∀ a, ∀ u ∈ f a, u.oneCell' = true}
theorem row_ok {e b : Nat} {ok ok' : Nat → Prop} {W : World} {v : Value} {xs : List α} (h : (rowKd f n hn h1).R e W b ok v xs) (hok : ∀ k, v.ownBlock = some k → ok' k) : (rowKd f n hn h1).R e W b ok' v xs := by
  obtain ⟨_, inner, ho, hr⟩ := h
  exact ⟨hok, inner, ho, hr⟩
theorem row_mut {e b : Nat} {ok S : Nat → Prop} {W W' : World} {v : Value} {xs : List α} (h : (rowKd f n hn h1).R e W b ok v xs) (hm : Mut S W W') (hne : ∀ k, v.ownBlock = some k → ¬ S k) : (rowKd f n hn h1).R e W' b ok v xs :=
  row_ok (Kd.R_kept (row_ok h (ok' := fun k => v.ownBlock = some k) (fun k hk => hk)) hm.kept hne) h.1
end
structure NC where
  b : Nat
  bt : Nat
  bc : Nat
  m : Nat
  S : Int
  P : Int
  cr : Bool
  n : Nat
def scC (c : NC) (gv ev : Value) : List Value := [.int .i64 (c.m : Int), .int .i64 c.S, .int .i64 c.P, .bool c.cr, gv, ev, .slice (some ⟨c.bt, 0, none⟩) c.m c.m, .int .u64 0, .int .u64 0, .slice (some ⟨c.bc, 0, none⟩) c.n c.n, .nilFunc, .int .u32 0, .int .i32 0, .int .u32 0, .slice none 0 0]
def trn0 : Value × ST := (.slice none 0 0, t0)
structure NW (n0 : Nat) (W0 W : World) (c : NC) (gv ev : Value) (gs : List SG) (es : List SE) : Prop where
  S : Blk W c.b 91 (scC c gv ev)
  T : Blk W c.bt 99 ((List.replicate c.m trn0).flatMap trnC)
  C : Blk W c.bc 79 (List.replicate c.n (.int .u64 0))
  G : Kd.R kG 94 W n0 (fun _ => True) gv gs
  E : Kd.R kE 96 W n0 (fun _ => True) ev es
  B : Below n0 W0 W
  ge : n0 ≤ c.b ∧ n0 ≤ c.bt ∧ n0 ≤ c.bc
section
variable {n0 : Nat} {W0 W W1 : World} {c : NC} {gv ev v1 : Value} {gs gs1 : List SG} {es es1 : List SE}
theorem NW.below (h : NW n0 W0 W c gv ev gs es) (hz : n0 ≤ W.heap.size) (hb : Below W.heap.size W W1) : NW n0 W0 W1 c gv ev gs es :=
  ⟨h.S.below hb, h.T.below hb, h.C.below hb, Kd.R_below h.G hb, Kd.R_below h.E hb, h.B.trans (hb.mono hz), h.ge⟩
theorem blk_own {α : Type} {d : Kd α} {e t b g : Nat} {ok : Nat → Prop} {v : Value} {xs : List α} {cs : List Value} (h : d.R e W b ok v xs) (hb : Blk W g t cs) (ht : e ≠ t) : ∀ k, v.ownBlock = some k → k ≠ g := by
  rintro k hk rfl
  obtain ⟨cells, hc, _⟩ := hb
  exact Kd.R_ne h hc ht hk.symm
theorem own_own {α β : Type} {d : Kd α} {d' : Kd β} {e e' b b' : Nat} {ok ok' : Nat → Prop} {v v' : Value} {xs : List α} {ys : List β} (h : d.R e W b ok v xs) (h' : d'.R e' W b' ok' v' ys) (ht : e ≠ e') : ∀ k, v.ownBlock = some k → v'.ownBlock ≠ some k := by
  intro k hk hk'
  obtain ⟨_, inner, ⟨_, hc⟩, _⟩ := h'
  rcases hc with ⟨rfl, _⟩ | ⟨g, cap, cur, rfl, _, hh, _⟩
  · cases hk'
  · simp only [Value.ownBlock, Option.some.injEq] at hk'
    subst hk'
    exact Kd.R_ne h hh ht hk.symm
theorem NW.growG (h : NW n0 W0 W c gv ev gs es) (hg : W.grownBy W1 gv.ownBlock) (ho : Kd.R kG 94 W1 n0 (fun _ => True) v1 gs1) (hb : Below n0 W0 W1) : NW n0 W0 (W1.setCell ⟨c.b, 4, none⟩ v1) c v1 ev gs1 es := by
  have hm := below_mut0 hg
  have hS1 : Blk W1 c.b 91 (scC c gv ev) := h.S.mut hm (fun e => blk_own h.G h.S (by decide) _ e rfl)
  have hs := set_mut W1 ⟨c.b, 4, none⟩ v1
  have hT1 : Blk W1 c.bt 99 _ := h.T.mut hm (fun e => blk_own h.G h.T (by decide) _ e rfl)
  have hC1 : Blk W1 c.bc 79 _ := h.C.mut hm (fun e => blk_own h.G h.C (by decide) _ e rfl)
  have hE1 : Kd.R kE 96 W1 n0 (fun _ => True) ev es := row_mut h.E hm (fun k hk e => own_own h.G h.E (by decide) k e hk)
  exact { S := hS1.set 4 v1, T := hT1.mut hs (fun e => hS1.ne hT1 (by decide) e.symm), C := hC1.mut hs (fun e => hS1.ne hC1 (by decide) e.symm), G := row_mut ho hs (fun k hk e => blk_own ho hS1 (by decide) k hk e), E := row_mut hE1 hs (fun k hk e => blk_own hE1 hS1 (by decide) k hk e), B := hb.setCell h.ge.1 _, ge := h.ge }
theorem NW.growE (h : NW n0 W0 W c gv ev gs es) (hg : W.grownBy W1 ev.ownBlock) (ho : Kd.R kE 96 W1 n0 (fun _ => True) v1 es1) (hb : Below n0 W0 W1) : NW n0 W0 (W1.setCell ⟨c.b, 5, none⟩ v1) c gv v1 gs es1 := by
  have hm := below_mut0 hg
  have hS1 : Blk W1 c.b 91 (scC c gv ev) := h.S.mut hm (fun e => blk_own h.E h.S (by decide) _ e rfl)
  have hs := set_mut W1 ⟨c.b, 5, none⟩ v1
  have hT1 : Blk W1 c.bt 99 _ := h.T.mut hm (fun e => blk_own h.E h.T (by decide) _ e rfl)
  have hC1 : Blk W1 c.bc 79 _ := h.C.mut hm (fun e => blk_own h.E h.C (by decide) _ e rfl)
  have hG1 : Kd.R kG 94 W1 n0 (fun _ => True) gv gs := row_mut h.G hm (fun k hk e => own_own h.E h.G (by decide) k e hk)
  exact { S := hS1.set 5 v1, T := hT1.mut hs (fun e => hS1.ne hT1 (by decide) e.symm), C := hC1.mut hs (fun e => hS1.ne hC1 (by decide) e.symm), G := row_mut hG1 hs (fun k hk e => blk_own hG1 hS1 (by decide) k hk e), E := row_mut ho hs (fun k hk e => blk_own ho hS1 (by decide) k hk e), B := hb.setCell h.ge.1 _, ge := h.ge }
end
theorem make_blk (W : World) (z : Array Value) (e k : Nat) (cs : List Value) (hz : z.toList = cs) (h0 : 0 < cs.length) : Blk (W.alloc (.cells (madeCells z (k * cs.length)) e)) W.heap.size e (List.replicate k cs).flatten := by
  refine ⟨_, blk_new _ _, fun i v hv => ?_⟩
  subst hz
  have hl : (List.replicate k z.toList).flatten.length = k * z.toList.length := by simp
  have hi : i < k * z.toList.length := by rw [← hl]; exact (List.getElem?_eq_some_iff.1 hv).1
  have hz' : z.size = z.toList.length := by simp
  have hm : i % z.size < z.size := Nat.mod_lt _ (by omega)
  have hg : (List.replicate k z.toList).flatten[i]? = some z[i % z.size] := by
    have hfl : (List.replicate k z.toList).flatten = (List.replicate k ()).flatMap (fun _ => z.toList) := by simp [List.flatMap, List.map_replicate]
    have hie : i / z.size * z.size + i % z.size = i := by rw [Nat.mul_comm]; exact Nat.div_add_mod i z.size
    have := flat_get (fun _ : Unit => z.toList) z.size (fun _ => by simp) (List.replicate k ()) (i / z.size) (i % z.size) hm () (by rw [List.getElem?_replicate]; exact if_pos (Nat.div_lt_of_lt_mul (by rw [Nat.mul_comm, hz']; exact hi)))
    rw [hie] at this
    rw [hfl, this]
    simp [hm]
  rw [hg] at hv
  rw [← hv]
  simp only [madeCells]
  rw [Array.getElem?_map, Array.getElem?_range]
  rw [if_pos hi]
  simp [getElem!_pos z (i % z.size) hm]
/-- The guests, and their entities. -/
def guestsL (gl : List S94) : List SG := gl.map fun x => ⟨x.f0, x.f2, x.f6⟩
def entsTo (i : Nat) (x : S94) (k : Nat) : List SE := (List.range k).map fun j : Nat => ⟨(i : Int), (j : Int), x.f2, 0, 0, 0, false⟩
def entsL : Nat → List S94 → List SE
  | _, [] => []
  | i, x :: r => entsTo i x x.f0.toNat ++ entsL (i + 1) r
theorem entsTo_succ (i : Nat) (x : S94) (k : Nat) : entsTo i x (k + 1) = entsTo i x k ++ [⟨(i : Int), (k : Int), x.f2, 0, 0, 0, false⟩] := by unfold entsTo; rw [List.range_succ, List.map_append]; rfl
theorem entsTo_len (i : Nat) (x : S94) (k : Nat) : (entsTo i x k).length = k := by simp [entsTo]
theorem entsL_take (gl : List S94) : ∀ (i k : Nat) (x : S94), gl[k]? = some x → entsL i (gl.take (k + 1)) = entsL i (gl.take k) ++ entsTo (i + k) x x.f0.toNat := by
  induction gl with
  | nil => intro i k x h; simp at h
  | cons y r ih =>
    intro i k x h
    cases k with
    | zero => simp at h; subst h; simp [entsL]
    | succ k =>
      rw [List.getElem?_cons_succ] at h
      rw [List.take_succ_cons, List.take_succ_cons, entsL, entsL, ih (i + 1) k x h, List.append_assoc]
      congr 3
      omega
theorem guestsL_take (gl : List S94) (k : Nat) (x : S94) (h : gl[k]? = some x) : guestsL (gl.take (k + 1)) = guestsL (gl.take k) ++ [⟨x.f0, x.f2, x.f6⟩] := by
  unfold guestsL
  rw [List.take_add_one, h, List.map_append]; rfl
theorem info94 : (Try.prog.info? 94).map (fun i => (i.zero, i.size, i.bytes)) = some (some (.agg #[(.int .i64 0), (.int .i64 0), (.int .i64 0), (.slice none 0 0), (.slice none 0 0), (.slice none 0 0), (.bool false)]), 7, 104) := by kernel_rfl
theorem info96 : (Try.prog.info? 96).map (fun i => (i.zero, i.size, i.bytes)) = some (some (.agg #[(.int .i64 0), (.int .i64 0), (.int .i64 0), (.int .i64 0), (.int .i64 0), (.int .u64 0), (.bool false)]), 7, 56) := by kernel_rfl
theorem info99 : (Try.prog.info? 99).map (fun i => (i.zero, i.size, i.bytes)) = some (some (.agg #[(.slice none 0 0), (.int .i64 0), (.int .i64 0)]), 3, 40) := by kernel_rfl
theorem info79 : (Try.prog.info? 79).map (fun i => (i.zero, i.size, i.bytes)) = some (some (.agg #[(.int .u64 0)]), 1, 8) := by kernel_rfl
theorem make_run (t e : TypeId) (z : Value) (size bytes : Nat) (ht : Try.prog.underlying t = some (.slice e)) (hinfo : (Try.prog.info? e).map (fun i => (i.zero, i.size, i.bytes)) = some (some z, size, bytes)) (hb0 : 0 < bytes)
    (m : Nat) (hn : m * bytes ≤ 281474976710656) :
    ∀ W : World, (Instr.makeSlice t (.int .i64 (m : Int)) (.int .i64 (m : Int))).run Try.prog W = .ok (.slice (some ⟨W.heap.size, 0, none⟩) m m) (W.alloc (.cells (madeCells z.cells (m * size)) e)) := by
  intro W
  obtain ⟨i0, hi, hzz⟩ := Option.map_eq_some_iff.1 hinfo
  simp only [Prod.mk.injEq] at hzz
  obtain ⟨hz0, hz1, hz2⟩ := hzz
  have hm : m ≤ 281474976710656 := Nat.le_trans (Nat.le_mul_of_pos_right _ hb0) hn
  have hr := run_make (P := Try.prog) W t e i0 z ht hi hz0 .i64 .i64 (m : Int) (m : Int) (by omega) (by omega)
    (by
      have h3 : ((i0.bytes * m : Nat) : Int) ≤ 281474976710656 := by rw [hz2, Nat.mul_comm]; omega
      rwa [Int.natCast_mul] at h3) (by omega)
  simp only [Int.toNat_natCast] at hr
  rw [hz1] at hr
  exact hr
end Go.Proofs.Ytdaadmjppikebaa.SC

/- What New makes, as plain numbers; the turns. -/
namespace Go.Proofs.Ytdaadmjppikebaa.SC
open Go.RowKit Go.Proofs.YtdaadmjppikebaaW.PrintWords Go.Proofs.YtdaadmjppikebaaW.PrintLast
open Go.Proofs.Ytdaadmjppikebaa.PV (S94 k94)
set_option linter.unusedVariables false
set_option linter.unusedSimpArgs false

/-- What a conf that may be is, as plain bounds. -/
structure NOk (m : Nat) (S P : Int) (gl : List S94) : Prop where
  m1 : 1 ≤ m
  m8 : m ≤ 8
  S1 : 1 ≤ S
  S2 : S ≤ 1000
  P1 : 1 ≤ P
  P2 : P ≤ 10000
  g1 : 1 ≤ gl.length
  g8 : gl.length ≤ 8
  x : ∀ x ∈ gl, 1 ≤ x.f0 ∧ x.f0 ≤ 64 ∧ 1 ≤ x.f2 ∧ x.f2 ≤ 1000 ∧ (x.f6 = true → x.f0 ≤ m)
  e : (entsL 0 gl).length ≤ 64
  t : 1 ≤ ticksGo (guestsL gl) P
def newS0 (m : Nat) (S P : Int) (cr : Bool) (gl : List S94) : SS := { H := m, S := S, P := P, cr := cr, gs := guestsL gl, es := entsL 0 gl, ts := List.replicate m t0, now := 0, sh := 0, ch := List.replicate gl.length 0 }
def turnsTo (s : SS) (m h : Nat) : List ST := ((List.range h).map fun i : Nat => (⟨plainL s i, -1, 0⟩ : ST)) ++ List.replicate (m - h) t0
def sT (m : Nat) (S P : Int) (cr : Bool) (gl : List S94) (h : Nat) : SS := { newS0 m S P cr gl with ts := turnsTo (newS0 m S P cr gl) m h }
def newS1 (m : Nat) (S P : Int) (cr : Bool) (gl : List S94) : SS := { newS0 m S P cr gl with ts := (List.range m).map fun h : Nat => ⟨plainL (newS0 m S P cr gl) h, -1, 0⟩ }
def newF (m : Nat) (S P : Int) (cr : Bool) (gl : List S94) : SS := if cr = true then giveF (newS1 m S P cr gl) else newS1 m S P cr gl
theorem sT_last (m : Nat) (S P : Int) (cr : Bool) (gl : List S94) : sT m S P cr gl m = newS1 m S P cr gl := by simp [sT, newS1, turnsTo]
theorem sT_first (m : Nat) (S P : Int) (cr : Bool) (gl : List S94) : sT m S P cr gl 0 = newS0 m S P cr gl := by simp [sT, turnsTo, newS0]
theorem turns_len (s : SS) (m h : Nat) (hh : h ≤ m) : (turnsTo s m h).length = m := by simp [turnsTo]; omega
theorem sT_succ (m : Nat) (S P : Int) (cr : Bool) (gl : List S94) (h : Nat) (hh : h < m) : (sT m S P cr gl h).modT h (fun _ => ⟨plainL (sT m S P cr gl h) h, -1, 0⟩) = sT m S P cr gl (h + 1) := by
  unfold sT SS.modT
  congr 1
  show (turnsTo (newS0 m S P cr gl) m h).modify h (fun _ => ⟨plainL (newS0 m S P cr gl) h, -1, 0⟩) = turnsTo (newS0 m S P cr gl) m (h + 1)
  unfold turnsTo
  have hl : ((List.range h).map fun i : Nat => (⟨plainL (newS0 m S P cr gl) i, -1, 0⟩ : ST)).length = h := by simp
  apply List.ext_getElem?
  intro j
  rw [List.getElem?_modify]
  by_cases e : h = j
  · subst e
    simp only [eq_self, if_true]
    rw [List.getElem?_append_right (by omega), hl, Nat.sub_self, List.getElem?_replicate, if_pos (by omega)]
    rw [List.getElem?_append_left (by simp)]
    simp
  · simp only [e, if_false]
    rcases Nat.lt_or_ge j h with q | q
    · rw [List.getElem?_append_left (by omega), List.getElem?_append_left (by simp; omega)]
      simp [q, show j < h + 1 by omega]
    · rw [List.getElem?_append_right (by omega), List.getElem?_append_right (by simp; omega)]
      simp only [List.length_map, List.length_range, List.getElem?_replicate]
      by_cases hj : j < m
      · rw [if_pos (by omega), if_pos (by omega)]; rfl
      · rw [if_neg (by omega), if_neg (by omega)]; rfl
theorem ent_mem {l : List S94} : ∀ {i : Nat} {e : SE}, e ∈ entsL i l → ∃ (j : Nat) (x : S94) (k : Nat), l[j]? = some x ∧ k < x.f0.toNat ∧ e = ⟨((i + j : Nat) : Int), (k : Int), x.f2, 0, 0, 0, false⟩ := by
  induction l with
  | nil => intro i e h; simp [entsL] at h
  | cons y r ih =>
    intro i e h
    rw [entsL, List.mem_append] at h
    rcases h with h | h
    · unfold entsTo at h
      obtain ⟨k, hk, rfl⟩ := List.mem_map.1 h
      exact ⟨0, y, k, rfl, by simpa using hk, rfl⟩
    · obtain ⟨j, x, k, h1, h2, rfl⟩ := ih h
      exact ⟨j + 1, x, k, by simpa using h1, h2, by rw [show i + 1 + j = i + (j + 1) by omega]⟩
theorem new_ent {m : Nat} {S P : Int} {cr : Bool} {gl : List S94} {i : Nat} (hi : i < (entsL 0 gl).length) : ∃ (j : Nat) (x : S94) (k : Nat), gl[j]? = some x ∧ k < x.f0.toNat ∧ (newS0 m S P cr gl).ent i = ⟨(j : Int), (k : Int), x.f2, 0, 0, 0, false⟩ := by
  have he : (newS0 m S P cr gl).ent i ∈ entsL 0 gl := by
    unfold SS.ent newS0
    simp only [List.getD_eq_getElem?_getD, List.getElem?_eq_getElem hi, Option.getD_some]
    exact List.getElem_mem hi
  obtain ⟨j, x, k, h1, h2, h3⟩ := ent_mem he
  exact ⟨j, x, k, h1, h2, by rw [h3, Nat.zero_add]⟩
theorem new_gst {m : Nat} {S P : Int} {cr : Bool} {gl : List S94} {j : Nat} {x : S94} (h : gl[j]? = some x) : (newS0 m S P cr gl).gst j = ⟨x.f0, x.f2, x.f6⟩ := by
  unfold SS.gst newS0 guestsL
  simp [List.getD_eq_getElem?_getD, h]
theorem guestsL_len (gl : List S94) : (guestsL gl).length = gl.length := by simp [guestsL]
theorem newS1_wf {m : Nat} {S P : Int} {cr : Bool} {gl : List S94} (hok : NOk m S P gl) : Wf (newS1 m S P cr gl) := by
  have hE : ∀ i, i < (newS1 m S P cr gl).es.length → ∃ (j : Nat) (x : S94) (k : Nat), gl[j]? = some x ∧ k < x.f0.toNat ∧ (newS1 m S P cr gl).ent i = ⟨(j : Int), (k : Int), x.f2, 0, 0, 0, false⟩ := fun i hi => new_ent (m := m) (S := S) (P := P) (cr := cr) hi
  have hG : ∀ (j : Nat) (x : S94), gl[j]? = some x → (newS1 m S P cr gl).gst j = ⟨x.f0, x.f2, x.f6⟩ := fun j x h => new_gst (m := m) (S := S) (P := P) (cr := cr) h
  have hT : ∀ i, i < (newS1 m S P cr gl).ts.length → (newS1 m S P cr gl).trn i = ⟨plainL (newS0 m S P cr gl) i, -1, 0⟩ := by
    intro i hi
    have hi' : i < m := by simpa [newS1] using hi
    unfold SS.trn newS1
    simp [List.getD_eq_getElem?_getD, hi']
  have e1 : 1 ≤ (entsL 0 gl).length := by
    obtain ⟨x, r, e⟩ : ∃ x r, gl = x :: r := by
      cases hg : gl with
      | nil => have := hok.g1; rw [hg] at this; simp at this
      | cons x r => exact ⟨x, r, rfl⟩
    have hx := hok.x x (by rw [e]; exact List.mem_cons_self)
    rw [e, entsL, List.length_append, entsTo_len]
    omega
  have hpl : ∀ i, (∀ e ∈ plainL (newS0 m S P cr gl) i, 0 ≤ e ∧ e < ((entsL 0 gl).length : Int)) ∧ (plainL (newS0 m S P cr gl) i).length ≤ 64 ∧ (plainL (newS0 m S P cr gl) i).Nodup := by
    intro i
    refine ⟨fun e he => ?_, ?_, ?_⟩
    · obtain ⟨j, rfl, hj, _⟩ := plainTo_mem he
      have : j < (entsL 0 gl).length := hj
      omega
    · exact Nat.le_trans (plainTo_len _ _ _) hok.e
    · unfold plainL plainTo
      unfold List.Nodup
      rw [List.pairwise_map]
      exact List.Pairwise.imp (fun h e => h (by omega)) (List.Pairwise.filter _ List.nodup_range)
  exact
    { H1 := by have := hok.m1; show (1 : Int) ≤ (m : Int); omega, H8 := by have := hok.m8; show (m : Int) ≤ 8; omega, S1 := hok.S1, S2 := hok.S2, P1 := hok.P1, P2 := hok.P2
      gn := by show 1 ≤ (guestsL gl).length; rw [guestsL_len]; exact hok.g1
      gm := by show (guestsL gl).length ≤ 8; rw [guestsL_len]; exact hok.g8
      en := e1, em := hok.e
      tn := by simp [newS1, newS0]
      cn := by simp [newS1, newS0, guestsL_len]
      eg := fun i hi => by
        obtain ⟨j, x, k, h1, h2, h3⟩ := hE i hi
        rw [h3]
        have hj := (List.getElem?_eq_some_iff.1 h1).1
        have hx := hok.x x (List.mem_of_getElem? h1)
        have hl : (newS1 m S P cr gl).gs.length = gl.length := guestsL_len gl
        simp only
        omega
      ew := fun i hi => by
        obtain ⟨j, x, k, h1, h2, h3⟩ := hE i hi
        rw [h3]
        have hx := hok.x x (List.mem_of_getElem? h1)
        simp only
        omega
      ec := fun i hi => by
        obtain ⟨j, x, k, h1, h2, h3⟩ := hE i hi
        rw [h3]
        simp only
        omega
      eh := fun i hi hg => by
        obtain ⟨j, x, k, h1, h2, h3⟩ := hE i hi
        have hx := hok.x x (List.mem_of_getElem? h1)
        unfold SS.gng at hg
        rw [h3] at hg
        simp only [Int.toNat_natCast] at hg
        rw [hG j x h1] at hg
        rw [h3]
        have := hx.2.2.2.2 hg
        show (k : Int) < (m : Int)
        omega
      gw := fun i hi => by
        have hi' : i < gl.length := by have h := hi; rw [show (newS1 m S P cr gl).gs.length = gl.length from guestsL_len gl] at h; exact h
        have h1 := List.getElem?_eq_getElem hi'
        rw [hG i _ h1]
        have hx := hok.x _ (List.mem_of_getElem? h1)
        simp only
        omega
      tk := hok.t
      tq := fun i hi => by
        rw [hT i hi]
        obtain ⟨p1, p2, p3⟩ := hpl i
        refine ⟨p1, p2, p3, by show (-1 : Int) ≤ -1; decide, ?_, by show (0 : Int) ≤ 0; decide, by have := hok.S1; show (0 : Int) ≤ S; omega, fun h => by simp at h⟩
        show (-1 : Int) < ((entsL 0 gl).length : Int)
        omega
      nw := by simp [newS1, newS0]
      sw := by simp [newS1, newS0] }
/-- Homes have been asked for, or not yet. -/
def PH (W : World) (own : Nat → Prop) (L : Lay) (s : SS) (h : Nat) : Prop := (SR0 W own L s ∧ h = 0) ∨ SR W own L s
theorem SR.own_bh {W : World} {own : Nat → Prop} {L : Lay} {s : SS} (h : SR W own L s) : SR W (fun k => own k ∨ k = L.bh) L s := by
  have e : (fun k => own k ∨ k = L.bh) = own := by
    funext k
    apply propext
    exact ⟨fun hk => hk.elim id (fun hk => by rw [hk]; exact h.ob.2.2.2.2.2), .inl⟩
  rw [e]; exact h
theorem homes_any {W : World} {own : Nat → Prop} {L : Lay} {s : SS} {h : Nat} (hp : PH W own L s h) :
    Calls Try.prog 48 #[.pointer (some ⟨L.b, 0, none⟩)] W fun e w1 => ∃ g cap, e = .returned (.slice (some ⟨g, 0, none⟩) s.es.length cap) ∧ SR w1 (fun k => own k ∨ k = g) { L with bh := g, ch := cap } s ∧ (Mut (fun k => k = L.b) W w1 ∧ (own g ∨ W.heap.size ≤ g)) := by
  rcases hp with ⟨hp, _⟩ | hp
  · refine (homes_first hp).mono ?_
    rintro e w1 ⟨g, cap, h1, h2, h3, h4⟩
    exact ⟨g, cap, h1, h3, h4, .inr h2⟩
  · refine (homes_calls hp).mono ?_
    rintro e w1 ⟨h1, h2⟩
    exact ⟨L.bh, L.ch, h1, (hp.below h2).own_bh, Mut.of_below h2 _, .inl hp.ob.2.2.2.2.2⟩
theorem SR0.below {W W' : World} {own : Nat → Prop} {L : Lay} {s : SS} (h : SR0 W own L s) (hb : Below W.heap.size W W') : SR0 W' own L s :=
  { S := h.S.below hb, G := h.G.below hb, E := h.E.below hb, T := h.T.below hb, C := h.C.below hb, ql := h.ql, Q := h.Q, ob := h.ob, cap := h.cap, lt := fun k hk => Nat.lt_of_lt_of_le (h.lt k hk) hb.size, H := h.H, eg := h.eg }
theorem PH.below {W W' : World} {own : Nat → Prop} {L : Lay} {s : SS} {n : Nat} (h : PH W own L s n) (hb : Below W.heap.size W W') : PH W' own L s n := h.elim (fun h => .inl ⟨h.1.below hb, h.2⟩) (fun h => .inr (h.below hb))
theorem ph_fld6 {W : World} {own : Nat → Prop} {L : Lay} {s : SS} {n m : Nat} (h : PH W own L s n) (hm : s.ts.length = m) : W.cell? ⟨L.b, 6, none⟩ = some (.slice (some ⟨L.bt, 0, none⟩) m m) := by
  subst hm
  rcases h with ⟨h, _⟩ | h
  · exact h.S.cell rfl
  · exact h.S.cell rfl
/-- The pick is set. -/
theorem SR.putP {W : World} {own : Nat → Prop} {L : Lay} {s : SS} (h : SR W own L s) (v : Value) : SR (W.setCell ⟨L.b, 10, none⟩ v) own { L with pv := v } s := by
  have hm := set_mut W ⟨L.b, 10, none⟩ v
  obtain ⟨d1, d2, d3, d4, d5, d6, d7, d8, d9, d10, d11, d12, d13, d14, d15⟩ := h.dist
  exact { S := h.S.set 10 _, G := h.G.mut hm (by simpa using d1.symm), E := h.E.mut hm (by simpa using d2.symm), T := h.T.mut hm (by simpa using d3.symm), C := h.C.mut hm (by simpa using d4.symm), Hm := h.Hm.mut hm (by simpa using d5.symm), ql := h.ql, Q := fun k r hr => h.q_far hm (fun k hk => by simp at hk; simp [hk]) k r hr, qd := h.qd, ob := h.ob, cap := h.cap, lt := fun k hk => Nat.lt_of_lt_of_le (h.lt k hk) hm.size }
/-- From what was appended: the scheduler before homes are asked for. -/
theorem nw_sr0 {W W' : World} {b bt bc m : Nat} {S P : Int} {cr : Bool} {gl : List S94} {gv ev : Value} (h : NW W.heap.size W W' ⟨b, bt, bc, m, S, P, cr, gl.length⟩ gv ev (guestsL gl) (entsL 0 gl)) (hok : NOk m S P gl) :
    ∃ bg be cg ce, SR0 W' (fun k => k = b ∨ k = bg ∨ k = be ∨ k = bt ∨ k = bc) ⟨b, bg, be, bt, bc, 0, cg, ce, 0, List.replicate m (.slice none 0 0), .nilFunc⟩ (newS0 m S P cr gl) ∧ (∀ k, (k = b ∨ k = bg ∨ k = be ∨ k = bt ∨ k = bc) → W.heap.size ≤ k) := by
  have hwf := newS1_wf (cr := cr) hok
  obtain ⟨bg, cg, rfl, hg1, hg2, _, hg4⟩ := blk_of_row h.G (by rw [guestsL_len]; exact hok.g1) (by decide)
  obtain ⟨be, ce, rfl, he1, he2, _, he4⟩ := blk_of_row h.E hwf.en (by decide)
  obtain ⟨q1, q2, q3⟩ := h.ge
  have hS := h.S
  have hT := h.T
  have hC := h.C
  simp only at hT hC q1 q2 q3
  refine ⟨bg, be, cg, ce, ?_, ?_⟩
  · exact
      { S := by
          have e : scC ⟨b, bt, bc, m, S, P, cr, gl.length⟩ (.slice (some ⟨bg, 0, none⟩) (guestsL gl).length cg) (.slice (some ⟨be, 0, none⟩) (entsL 0 gl).length ce) = schP ⟨b, bg, be, bt, bc, 0, cg, ce, 0, List.replicate m (.slice none 0 0), .nilFunc⟩ (newS0 m S P cr gl) .nilFunc 0 0 (.slice none 0 0) := by simp [scC, schP, newS0]
          rw [e] at hS; exact hS
        G := hg4, E := he4
        T := by
          have e : ((List.replicate m (Value.slice none 0 0)).zip (List.replicate m t0)) = List.replicate m trn0 := by simp [List.zip_replicate, trn0]
          show Blk W' bt 99 (((List.replicate m (Value.slice none 0 0)).zip (List.replicate m t0)).flatMap trnC)
          rw [e]; exact hT
        C := by
          show Blk W' bc 79 ((List.replicate gl.length (0 : Int)).map (Value.int .u64))
          rw [List.map_replicate]; exact hC
        ql := by simp [newS0]
        Q := fun i q hq => by
          have hq' : (List.replicate m (Value.slice none 0 0))[i]? = some q := hq
          rw [List.getElem?_replicate] at hq'
          split at hq'
          · rename_i hi
            refine ⟨(Option.some.inj hq').symm, ?_⟩
            unfold SS.trn newS0
            simp [List.getD_eq_getElem?_getD, hi, t0]
          · cases hq'
        ob := ⟨.inl rfl, .inr (.inl rfl), .inr (.inr (.inl rfl)), .inr (.inr (.inr (.inl rfl))), .inr (.inr (.inr (.inr rfl)))⟩
        cap := ⟨hg1, he1⟩
        lt := fun k hk => hk.elim (fun e => e ▸ hS.lt) (fun hk => hk.elim (fun e => e ▸ hg4.lt) (fun hk => hk.elim (fun e => e ▸ he4.lt) (fun hk => hk.elim (fun e => e ▸ hT.lt) (fun e => e ▸ hC.lt))))
        H := ⟨hwf.H1, hwf.H8, hwf.gm, hwf.em, hwf.en⟩
        eg := fun i hi => ⟨(hwf.eg i hi).1, (hwf.eg i hi).2.1⟩ }
  · intro k hk
    rcases hk with rfl | rfl | rfl | rfl | rfl <;> assumption
end Go.Proofs.Ytdaadmjppikebaa.SC

/- What confs may be: the walks of both Rights. -/
namespace Go.Proofs.Ytdaadmjppikebaa.SC
open Go.RowKit Go.Proofs.YtdaadmjppikebaaW.PrintWords Go.Proofs.YtdaadmjppikebaaW.PrintLast
open Go.Proofs.Ytdaadmjppikebaa.PV (S94 k94 S29 k29 rd_T94 rd_T29)
set_option linter.unusedVariables false
set_option linter.unusedSimpArgs false

def rGo (H P : Int) : List S94 → Int → Int → Bool
  | [], v, g => if v ≤ 64 then decide (g < P) else false
  | x :: r, v, g => if (1 ≤ x.f0 ∧ x.f0 ≤ 64) ∧ (1 ≤ x.f2 ∧ x.f2 ≤ 1000) ∧ ¬ (x.f6 = true ∧ x.f0 > H) then rGo H P r (v + x.f0) (if x.f6 = true then g + x.f2 else g) else false
/-- May a conf be? -/
def rB (H S P : Int) (gl : List S94) : Bool := if (1 ≤ H ∧ H ≤ 8) ∧ (1 ≤ S ∧ S ≤ 1000) ∧ (1 ≤ P ∧ P ≤ 10000) ∧ 1 ≤ (gl.length : Int) ∧ (gl.length : Int) ≤ 8 then rGo H P gl 0 0 else false
theorem wi41 (a b c : Int) (W : World) : Calls Try.prog 41 #[.int .i64 a, .int .i64 b, .int .i64 c] W fun e w' => e = .returned (.bool (decide (b ≤ a ∧ a ≤ c))) ∧ W = w' := by
  have h := within_calls a b c W
  unfold withinB at h
  rwa [← Bool.decide_and] at h
theorem wi68 (x l h : Int) (W : World) : Calls Try.prog 68 #[.int .i64 x, .int .i64 l, .int .i64 h] W fun e w' => e = .returned (.bool (decide (l ≤ x ∧ x ≤ h))) ∧ W = w' := by
  rw [Bool.decide_and]
  by_cases h1 : l ≤ x
  · have d1 : decide (l ≤ x) = true := decide_eq_true h1
    clear h1
    go_enter Try.func68, Try.ntmps68
    go_wp2
    go_ret
    exact ⟨ret_bool (by rw [d1]; simp), rfl⟩
  · have d1 : decide (l ≤ x) = false := decide_eq_false h1
    clear h1
    go_enter Try.func68, Try.ntmps68
    go_wp2
    go_ret
    exact ⟨ret_bool (by rw [d1]; simp), rfl⟩
theorem blkbox0 {W : World} {k t : Nat} {cs : Array Value} (h : W.heap[k]? = some (.cells cs t (0, 0))) : Blk W k t cs.toList := ⟨cs, h, fun i v hv => by simpa using hv⟩
theorem set7 {w5 : World} {gb t : Nat} {z : Array Value} (hz : z.size = 7) (h : w5.heap[gb]? = some (.cells z t (0, 0))) (v0 v1 v2 v3 v4 v5 v6 : Value) :
    Blk (((((((w5.setCell ⟨gb, 0, none⟩ v0).setCell ⟨gb, 1, none⟩ v1).setCell ⟨gb, 2, none⟩ v2).setCell ⟨gb, 3, none⟩ v3).setCell ⟨gb, 4, none⟩ v4).setCell ⟨gb, 5, none⟩ v5).setCell ⟨gb, 6, none⟩ v6) gb t [v0, v1, v2, v3, v4, v5, v6] ∧
    Mut (fun k => k = gb) w5 (((((((w5.setCell ⟨gb, 0, none⟩ v0).setCell ⟨gb, 1, none⟩ v1).setCell ⟨gb, 2, none⟩ v2).setCell ⟨gb, 3, none⟩ v3).setCell ⟨gb, 4, none⟩ v4).setCell ⟨gb, 5, none⟩ v5).setCell ⟨gb, 6, none⟩ v6) := by
  have hB : Blk w5 gb t z.toList := ⟨z, h, fun i v hv => by simpa using hv⟩
  obtain ⟨a0, a1, a2, a3, a4, a5, a6, e⟩ : ∃ a0 a1 a2 a3 a4 a5 a6, z.toList = [a0, a1, a2, a3, a4, a5, a6] := by
    have hl : z.toList.length = 7 := by simpa using hz
    match z.toList, hl with
    | [a0, a1, a2, a3, a4, a5, a6], _ => exact ⟨a0, a1, a2, a3, a4, a5, a6, rfl⟩
  rw [e] at hB
  exact ⟨((((((hB.set 0 v0).set 1 v1).set 2 v2).set 3 v3).set 4 v4).set 5 v5).set 6 v6, ((((((((Mut.refl _ w5).set1 0 v0).set1 1 v1).set1 2 v2).set1 3 v3).set1 4 v4).set1 5 v5).set1 6 v6)⟩
set_option maxRecDepth 100000 in
set_option maxHeartbeats 3200000 in
theorem right32 {W : World} {H S P : Int} {cr : Bool} {gl : List S94} {A : Option Addr} {cp : Nat} (hC : Kd.C k94 W A gl.length gl) (hc : gl.length ≤ cp) :
    Calls Try.prog 32 #[.agg #[.int .i64 H, .int .i64 S, .int .i64 P, .bool cr, .slice A gl.length cp]] W fun x w' => x = .returned (.bool (rB H S P gl)) ∧ Below W.heap.size W w' := by
  have HC := Aside0.mk hC
  have HRB := Aside0.mk (show rB H S P gl = if (1 ≤ H ∧ H ≤ 8) ∧ (1 ≤ S ∧ S ≤ 1000) ∧ (1 ≤ P ∧ P ≤ 10000) ∧ 1 ≤ (gl.length : Int) ∧ (gl.length : Int) ≤ 8 then rGo H P gl 0 0 else false from rfl)
  obtain ⟨R, hR⟩ : ∃ R, R = rB H S P gl := ⟨_, rfl⟩
  rw [← hR] at HRB ⊢
  clear hR hC
  go_enter Try.func32, Try.ntmps32
  go_upto_region 1 with (fail)
  have HK := Aside0.mk (Blk.new W 36 [.int .i64 H, .int .i64 S, .int .i64 P, .bool cr, .slice A gl.length cp])
  have HB := Aside0.mk (below_alloc (Below.refl W.heap.size W) (.cells [.int .i64 H, .int .i64 S, .int .i64 P, .bool cr, .slice A gl.length cp].toArray 36 (0, 0)))
  obtain ⟨w1, hw1⟩ : ∃ w1, w1 = W.alloc (.cells #[.int .i64 H, .int .i64 S, .int .i64 P, .bool cr, .slice A gl.length cp] 36) := ⟨_, rfl⟩
  obtain ⟨b, hb⟩ : ∃ b, b = W.heap.size := ⟨_, rfl⟩
  replace HK : Aside0 (Blk w1 b 36 [.int .i64 H, .int .i64 S, .int .i64 P, .bool cr, .slice A gl.length cp]) := by rw [hw1, hb]; exact HK
  replace HB : Aside0 (Below W.heap.size W w1) := by rw [hw1]; exact HB
  rw [← hw1, ← hb]
  clear hw1 hb
  have c0 : w1.cell? ⟨b, 0, none⟩ = some (.int .i64 H) := HK.out.cell rfl
  have c1 : w1.cell? ⟨b, 1, none⟩ = some (.int .i64 S) := HK.out.cell rfl
  have c2 : w1.cell? ⟨b, 2, none⟩ = some (.int .i64 P) := HK.out.cell rfl
  have c4 : w1.cell? ⟨b, 4, none⟩ = some (.slice A gl.length cp) := HK.out.cell rfl
  by_cases h1 : 1 ≤ H ∧ H ≤ 8
  · have d1 : decide (1 ≤ H ∧ H ≤ 8) = true := decide_eq_true h1
    by_cases h2 : 1 ≤ S ∧ S ≤ 1000
    · have d2 : decide (1 ≤ S ∧ S ≤ 1000) = true := decide_eq_true h2
      by_cases h3 : 1 ≤ P ∧ P ≤ 10000
      · have d3 : decide (1 ≤ P ∧ P ≤ 10000) = true := decide_eq_true h3
        by_cases h4 : 1 ≤ (gl.length : Int) ∧ (gl.length : Int) ≤ 8
        · have d4 : decide (1 ≤ (gl.length : Int) ∧ (gl.length : Int) ≤ 8) = true := decide_eq_true h4
          have HR := Aside0.mk (show rGo H P gl 0 0 = R by rw [HRB.out, if_pos ⟨h1, h2, h3, h4⟩])
          have hl8 : gl.length ≤ 8 := by omega
          clear h1 h2 h3 h4
          go_wp2_with ((go_at_call 41; refine (wi41 _ _ _ _).mono ?_; rintro e w9 ⟨rfl, rfl⟩))
          clear d1 d2 d3 d4
          go_loopw [3, 4, 33] (fun v3 v4 v5 w' => ∃ (j : Nat) (v g : Int), v5 = .int .i64 (j : Int) ∧ v3 = .int .i64 v ∧ v4 = .int .i64 g ∧ j ≤ gl.length ∧ Aside0 (rGo H P (gl.drop j) v g = R) ∧ Aside0 (0 ≤ v ∧ v ≤ 64 * (j : Int) ∧ 0 ≤ g ∧ g ≤ 1000 * (j : Int)) ∧ Aside0 (Blk w' b 36 [.int .i64 H, .int .i64 S, .int .i64 P, .bool cr, .slice A gl.length cp]) ∧ Aside0 (Below W.heap.size W w')) (fun _ _ v5 _ => gl.length - (intOf v5).toNat)
          case atStart => exact ⟨0, 0, 0, rfl, rfl, rfl, Nat.zero_le _, ⟨by rw [List.drop_zero]; exact HR.out⟩, ⟨by omega⟩, HK, HB⟩
          case round =>
            obtain ⟨j, v, g, rfl, rfl, rfl, hj, HR, HV, HK, HB⟩ := hrel
            clear c0 c1 c2 c4 HRB
            have c0 : wr.cell? ⟨b, 0, none⟩ = some (.int .i64 H) := HK.out.cell rfl
            have c2 : wr.cell? ⟨b, 2, none⟩ = some (.int .i64 P) := HK.out.cell rfl
            have c4 : wr.cell? ⟨b, 4, none⟩ = some (.slice A gl.length cp) := HK.out.cell rfl
            have hv1 := HV.out.1
            have hv2 := HV.out.2.1
            have hg1 := HV.out.2.2.1
            have hg2 := HV.out.2.2.2
            clear HV
            by_cases hlt : j < gl.length
            · obtain ⟨ad, A3, c3, A4, c4', A5, c5, e0, x0, x1, x2, x3, x4, x5, x6, _⟩ := PV.at_T94 (Kd.C_below HC.out HB.out) (j : Int) (by omega) (by omega)
              subst e0
              have hd : gl.drop j = rd_T94 gl (j : Int) :: gl.drop (j + 1) := by
                rw [List.drop_eq_getElem_cons hlt]
                unfold rd_T94
                rw [Int.toNat_natCast, List.getD_eq_getElem?_getD, List.getElem?_eq_getElem hlt]; rfl
              obtain ⟨x, hx⟩ : ∃ x, x = rd_T94 gl (j : Int) := ⟨_, rfl⟩
              rw [← hx] at x0 x1 x2 x3 x4 x5 x6 hd
              rw [Int.toNat_natCast] at x0 x1 x2 x3 x4 x5 x6
              have HRX := Aside0.mk (show (if (1 ≤ x.f0 ∧ x.f0 ≤ 64) ∧ (1 ≤ x.f2 ∧ x.f2 ≤ 1000) ∧ ¬ (x.f6 = true ∧ x.f0 > H) then rGo H P (gl.drop (j + 1)) (v + x.f0) (if x.f6 = true then g + x.f2 else g) else false) = R by have := HR.out; rw [hd] at this; exact this)
              clear hx hd HR
              go_upto_region 7 with ((with_reducible refine gate_dst (N := 6) rfl ?_); (try (refine gate_guard (by rfl) ?_; dsimp only)); refine box_event ?hg (N := 6) ?hd (cs := #[.int .i64 0, .int .i64 0, .int .i64 0, .slice none 0 0, .slice none 0 0, .slice none 0 0, .bool false]) (t := 94) ?hr ?_; (case hd => rfl); (case hg => rfl); (case hr => first | (go_simp; done) | (go_simp; rfl)); intro gb hg w5 hbox hb; have HBX := Aside0.mk hbox; have HZ := Aside0.mk (blkbox0 hbox); have HGB := Aside0.mk hg; have HB5 := Aside0.mk hb; have z0 := HZ.out.cell (i := 0) rfl; have zf0 := blk_frozen hbox 0; have z1 := HZ.out.cell (i := 1) rfl; have zf1 := blk_frozen hbox 1; have z2 := HZ.out.cell (i := 2) rfl; have zf2 := blk_frozen hbox 2; have z3 := HZ.out.cell (i := 3) rfl; have zf3 := blk_frozen hbox 3; have z4 := HZ.out.cell (i := 4) rfl; have zf4 := blk_frozen hbox 4; have z5 := HZ.out.cell (i := 5) rfl; have zf5 := blk_frozen hbox 5; have z6 := HZ.out.cell (i := 6) rfl; have zf6 := blk_frozen hbox 6; clear hg hbox hb)
              have HS7 := Aside0.mk (set7 rfl HBX.out (.int .i64 x.f0) (.int .i64 x.f1) (.int .i64 x.f2) (.slice A3 x.f3.length c3) (.slice A4 x.f4.length c4') (.slice A5 x.f5.length c5) (.bool x.f6))
              obtain ⟨w7, hw7⟩ : ∃ w7, w7 = (((((((w5.setCell ⟨gb, 0, none⟩ (.int .i64 x.f0)).setCell ⟨gb, 1, none⟩ (.int .i64 x.f1)).setCell ⟨gb, 2, none⟩ (.int .i64 x.f2)).setCell ⟨gb, 3, none⟩ (.slice A3 x.f3.length c3)).setCell ⟨gb, 4, none⟩ (.slice A4 x.f4.length c4')).setCell ⟨gb, 5, none⟩ (.slice A5 x.f5.length c5)).setCell ⟨gb, 6, none⟩ (.bool x.f6)) := ⟨_, rfl⟩
              rw [← hw7] at HS7 ⊢
              have HBw := Aside0.mk (show Below wr.heap.size wr w7 from HB5.out.trans (HS7.out.2.to_below HB5.out.size (fun k hk => by rw [hk, HGB.out]; exact Nat.le_refl _)))
              have HB7 := Aside0.mk (below_step HB.out HBw.out)
              have HK7 := Aside0.mk (HK.out.below HBw.out)
              have g0 : w7.cell? ⟨gb, 0, none⟩ = some (.int .i64 x.f0) := HS7.out.1.cell rfl
              have g2 : w7.cell? ⟨gb, 2, none⟩ = some (.int .i64 x.f2) := HS7.out.1.cell rfl
              have g6 : w7.cell? ⟨gb, 6, none⟩ = some (.bool x.f6) := HS7.out.1.cell rfl
              have k0 : w7.cell? ⟨b, 0, none⟩ = some (.int .i64 H) := HK7.out.cell rfl
              clear hw7 HS7 HBX HZ HGB HB5 HBw HK HB c0 c2 c4 x0 x1 x2 x3 x4 x5 x6 z0 zf0 z1 zf1 z2 zf2 z3 zf3 z4 zf4 z5 zf5 z6 zf6
              by_cases h1 : 1 ≤ x.f0 ∧ x.f0 ≤ 64
              · have d1 : decide (1 ≤ x.f0 ∧ x.f0 ≤ 64) = true := decide_eq_true h1
                by_cases h2 : 1 ≤ x.f2 ∧ x.f2 ≤ 1000
                · have d2 : decide (1 ≤ x.f2 ∧ x.f2 ≤ 1000) = true := decide_eq_true h2
                  obtain ⟨f6, hf⟩ : ∃ f6, f6 = x.f6 := ⟨_, rfl⟩
                  rw [← hf] at g6 HRX
                  clear hf
                  cases f6 with
                  | true =>
                    by_cases h3 : x.f0 > H
                    · have d3 : decide (H < x.f0) = true := decide_eq_true h3
                      have d3' : decide (x.f0 > H) = true := decide_eq_true h3
                      have HE := Aside0.mk (show false = R by rw [← HRX.out, if_neg (fun h => h.2.2 ⟨rfl, h3⟩)])
                      clear h3
                      go_wp2_with ((go_at_call 41; refine (wi41 _ _ _ _).mono ?_; rintro e w9 ⟨rfl, rfl⟩))
                      go_ret
                      exact ⟨ret_bool HE.out, HB7.out⟩
                    · have d3 : decide (H < x.f0) = false := decide_eq_false h3
                      have d3' : decide (x.f0 > H) = false := decide_eq_false h3
                      have HR2 := Aside0.mk (show rGo H P (gl.drop (j + 1)) (v + x.f0) (g + x.f2) = R by rw [← HRX.out, if_pos ⟨h1, h2, fun h => h3 h.2⟩, if_pos rfl])
                      clear h3
                      go_wp2_with ((go_at_call 41; refine (wi41 _ _ _ _).mono ?_; rintro e w9 ⟨rfl, rfl⟩))
                      go_roundw
                      case rel => exact ⟨j + 1, v + x.f0, g + x.f2, by go_num, rfl, rfl, by omega, HR2, ⟨by push_cast; omega⟩, HK7, HB7⟩
                      case measure => (simp [intOf] <;> omega)
                  | false =>
                    have HR2 := Aside0.mk (show rGo H P (gl.drop (j + 1)) (v + x.f0) g = R by rw [← HRX.out, if_pos ⟨h1, h2, fun h => absurd h.1 (by decide)⟩, if_neg (by decide)])
                    go_wp2_with ((go_at_call 41; refine (wi41 _ _ _ _).mono ?_; rintro e w9 ⟨rfl, rfl⟩))
                    go_roundw
                    case rel => exact ⟨j + 1, v + x.f0, g, by go_num, rfl, rfl, by omega, HR2, ⟨by push_cast; omega⟩, HK7, HB7⟩
                    case measure => (simp [intOf] <;> omega)
                · have d2 : decide (1 ≤ x.f2 ∧ x.f2 ≤ 1000) = false := decide_eq_false h2
                  have HE := Aside0.mk (show false = R by rw [← HRX.out, if_neg (fun h => h2 h.2.1)])
                  clear h2
                  go_wp2_with ((go_at_call 41; refine (wi41 _ _ _ _).mono ?_; rintro e w9 ⟨rfl, rfl⟩))
                  go_ret
                  exact ⟨ret_bool HE.out, HB7.out⟩
              · have d1 : decide (1 ≤ x.f0 ∧ x.f0 ≤ 64) = false := decide_eq_false h1
                have HE := Aside0.mk (show false = R by rw [← HRX.out, if_neg (fun h => h1 h.1)])
                clear h1
                go_wp2_with ((go_at_call 41; refine (wi41 _ _ _ _).mono ?_; rintro e w9 ⟨rfl, rfl⟩))
                go_ret
                exact ⟨ret_bool HE.out, HB7.out⟩
            · have HE := Aside0.mk (show (if v ≤ 64 then decide (g < P) else false) = R by have := HR.out; rw [List.drop_of_length_le (by omega)] at this; exact this)
              by_cases h1 : v ≤ 64
              · have d1 : decide (v ≤ 64) = true := decide_eq_true h1
                rw [if_pos h1] at HE
                clear h1
                go_wp2
                go_ret
                exact ⟨ret_bool HE.out, HB.out⟩
              · have d1 : decide (v ≤ 64) = false := decide_eq_false h1
                rw [if_neg h1] at HE
                clear h1
                go_wp2
                go_ret
                exact ⟨ret_bool HE.out, HB.out⟩
        · have d4 : decide (1 ≤ (gl.length : Int) ∧ (gl.length : Int) ≤ 8) = false := decide_eq_false h4
          have HE := Aside0.mk (show false = R by rw [HRB.out, if_neg (fun h => h4 h.2.2.2)])
          clear h4
          go_wp2_with ((go_at_call 41; refine (wi41 _ _ _ _).mono ?_; rintro e w9 ⟨rfl, rfl⟩))
          go_ret
          exact ⟨ret_bool HE.out, HB.out⟩
      · have d3 : decide (1 ≤ P ∧ P ≤ 10000) = false := decide_eq_false h3
        have HE := Aside0.mk (show false = R by rw [HRB.out, if_neg (fun h => h3 h.2.2.1)])
        clear h3
        go_wp2_with ((go_at_call 41; refine (wi41 _ _ _ _).mono ?_; rintro e w9 ⟨rfl, rfl⟩))
        go_ret
        exact ⟨ret_bool HE.out, HB.out⟩
    · have d2 : decide (1 ≤ S ∧ S ≤ 1000) = false := decide_eq_false h2
      have HE := Aside0.mk (show false = R by rw [HRB.out, if_neg (fun h => h2 h.2.1)])
      clear h2
      go_wp2_with ((go_at_call 41; refine (wi41 _ _ _ _).mono ?_; rintro e w9 ⟨rfl, rfl⟩))
      go_ret
      exact ⟨ret_bool HE.out, HB.out⟩
  · have d1 : decide (1 ≤ H ∧ H ≤ 8) = false := decide_eq_false h1
    have HE := Aside0.mk (show false = R by rw [HRB.out, if_neg (fun h => h1 h.1)])
    clear h1
    go_wp2_with ((go_at_call 41; refine (wi41 _ _ _ _).mono ?_; rintro e w9 ⟨rfl, rfl⟩))
    go_ret
    exact ⟨ret_bool HE.out, HB.out⟩
set_option maxRecDepth 100000 in
set_option maxHeartbeats 3200000 in
theorem right50 {W : World} {H S P : Int} {cr : Bool} {gl : List S94} {A : Option Addr} {cp : Nat} (hC : Kd.C k94 W A gl.length gl) (hc : gl.length ≤ cp) :
    Calls Try.prog 50 #[.agg #[.int .i64 H, .int .i64 S, .int .i64 P, .bool cr, .slice A gl.length cp]] W fun x w' => x = .returned (.bool (rB H S P gl)) ∧ Below W.heap.size W w' := by
  have HC := Aside0.mk hC
  have HRB := Aside0.mk (show rB H S P gl = if (1 ≤ H ∧ H ≤ 8) ∧ (1 ≤ S ∧ S ≤ 1000) ∧ (1 ≤ P ∧ P ≤ 10000) ∧ 1 ≤ (gl.length : Int) ∧ (gl.length : Int) ≤ 8 then rGo H P gl 0 0 else false from rfl)
  obtain ⟨R, hR⟩ : ∃ R, R = rB H S P gl := ⟨_, rfl⟩
  rw [← hR] at HRB ⊢
  clear hR hC
  go_enter Try.func50, Try.ntmps50
  go_upto_region 1 with (fail)
  have HK := Aside0.mk (Blk.new W 36 [.int .i64 H, .int .i64 S, .int .i64 P, .bool cr, .slice A gl.length cp])
  have HB := Aside0.mk (below_alloc (Below.refl W.heap.size W) (.cells [.int .i64 H, .int .i64 S, .int .i64 P, .bool cr, .slice A gl.length cp].toArray 36 (0, 0)))
  obtain ⟨w1, hw1⟩ : ∃ w1, w1 = W.alloc (.cells #[.int .i64 H, .int .i64 S, .int .i64 P, .bool cr, .slice A gl.length cp] 36) := ⟨_, rfl⟩
  obtain ⟨b, hb⟩ : ∃ b, b = W.heap.size := ⟨_, rfl⟩
  replace HK : Aside0 (Blk w1 b 36 [.int .i64 H, .int .i64 S, .int .i64 P, .bool cr, .slice A gl.length cp]) := by rw [hw1, hb]; exact HK
  replace HB : Aside0 (Below W.heap.size W w1) := by rw [hw1]; exact HB
  rw [← hw1, ← hb]
  clear hw1 hb
  have c0 : w1.cell? ⟨b, 0, none⟩ = some (.int .i64 H) := HK.out.cell rfl
  have c1 : w1.cell? ⟨b, 1, none⟩ = some (.int .i64 S) := HK.out.cell rfl
  have c2 : w1.cell? ⟨b, 2, none⟩ = some (.int .i64 P) := HK.out.cell rfl
  have c4 : w1.cell? ⟨b, 4, none⟩ = some (.slice A gl.length cp) := HK.out.cell rfl
  by_cases h1 : 1 ≤ H ∧ H ≤ 8
  · have d1 : decide (1 ≤ H ∧ H ≤ 8) = true := decide_eq_true h1
    by_cases h2 : 1 ≤ S ∧ S ≤ 1000
    · have d2 : decide (1 ≤ S ∧ S ≤ 1000) = true := decide_eq_true h2
      by_cases h3 : 1 ≤ P ∧ P ≤ 10000
      · have d3 : decide (1 ≤ P ∧ P ≤ 10000) = true := decide_eq_true h3
        by_cases h4 : 1 ≤ (gl.length : Int) ∧ (gl.length : Int) ≤ 8
        · have d4 : decide (1 ≤ (gl.length : Int) ∧ (gl.length : Int) ≤ 8) = true := decide_eq_true h4
          have HR := Aside0.mk (show rGo H P gl 0 0 = R by rw [HRB.out, if_pos ⟨h1, h2, h3, h4⟩])
          have hl8 : gl.length ≤ 8 := by omega
          clear h1 h2 h3 h4
          go_wp2_with ((go_at_call 68; refine (wi68 _ _ _ _).mono ?_; rintro e w9 ⟨rfl, rfl⟩))
          clear d1 d2 d3 d4
          go_loopw [3, 4, 5] (fun v3 v4 v5 w' => ∃ (j : Nat) (v g : Int), v5 = .int .i64 (j : Int) ∧ v3 = .int .i64 v ∧ v4 = .int .i64 g ∧ j ≤ gl.length ∧ Aside0 (rGo H P (gl.drop j) v g = R) ∧ Aside0 (0 ≤ v ∧ v ≤ 64 * (j : Int) ∧ 0 ≤ g ∧ g ≤ 1000 * (j : Int)) ∧ Aside0 (Blk w' b 36 [.int .i64 H, .int .i64 S, .int .i64 P, .bool cr, .slice A gl.length cp]) ∧ Aside0 (Below W.heap.size W w')) (fun _ _ v5 _ => gl.length - (intOf v5).toNat)
          case atStart => exact ⟨0, 0, 0, rfl, rfl, rfl, Nat.zero_le _, ⟨by rw [List.drop_zero]; exact HR.out⟩, ⟨by omega⟩, HK, HB⟩
          case round =>
            obtain ⟨j, v, g, rfl, rfl, rfl, hj, HR, HV, HK, HB⟩ := hrel
            clear c0 c1 c2 c4 HRB
            have c0 : wr.cell? ⟨b, 0, none⟩ = some (.int .i64 H) := HK.out.cell rfl
            have c2 : wr.cell? ⟨b, 2, none⟩ = some (.int .i64 P) := HK.out.cell rfl
            have c4 : wr.cell? ⟨b, 4, none⟩ = some (.slice A gl.length cp) := HK.out.cell rfl
            have hv1 := HV.out.1
            have hv2 := HV.out.2.1
            have hg1 := HV.out.2.2.1
            have hg2 := HV.out.2.2.2
            clear HV
            by_cases hlt : j < gl.length
            · obtain ⟨ad, A3, c3, A4, c4', A5, c5, e0, x0, x1, x2, x3, x4, x5, x6, _⟩ := PV.at_T94 (Kd.C_below HC.out HB.out) (j : Int) (by omega) (by omega)
              subst e0
              have hd : gl.drop j = rd_T94 gl (j : Int) :: gl.drop (j + 1) := by
                rw [List.drop_eq_getElem_cons hlt]
                unfold rd_T94
                rw [Int.toNat_natCast, List.getD_eq_getElem?_getD, List.getElem?_eq_getElem hlt]; rfl
              obtain ⟨x, hx⟩ : ∃ x, x = rd_T94 gl (j : Int) := ⟨_, rfl⟩
              rw [← hx] at x0 x1 x2 x3 x4 x5 x6 hd
              rw [Int.toNat_natCast] at x0 x1 x2 x3 x4 x5 x6
              have HRX := Aside0.mk (show (if (1 ≤ x.f0 ∧ x.f0 ≤ 64) ∧ (1 ≤ x.f2 ∧ x.f2 ≤ 1000) ∧ ¬ (x.f6 = true ∧ x.f0 > H) then rGo H P (gl.drop (j + 1)) (v + x.f0) (if x.f6 = true then g + x.f2 else g) else false) = R by have := HR.out; rw [hd] at this; exact this)
              clear hx hd HR
              go_upto_region 9 with ((with_reducible refine gate_dst (N := 6) rfl ?_); (try (refine gate_guard (by rfl) ?_; dsimp only)); refine box_event ?hg (N := 6) ?hd (cs := #[.int .i64 0, .int .i64 0, .int .i64 0, .slice none 0 0, .slice none 0 0, .slice none 0 0, .bool false]) (t := 94) ?hr ?_; (case hd => rfl); (case hg => rfl); (case hr => first | (go_simp; done) | (go_simp; rfl)); intro gb hg w5 hbox hb; have HBX := Aside0.mk hbox; have HZ := Aside0.mk (blkbox0 hbox); have HGB := Aside0.mk hg; have HB5 := Aside0.mk hb; have z0 := HZ.out.cell (i := 0) rfl; have zf0 := blk_frozen hbox 0; have z1 := HZ.out.cell (i := 1) rfl; have zf1 := blk_frozen hbox 1; have z2 := HZ.out.cell (i := 2) rfl; have zf2 := blk_frozen hbox 2; have z3 := HZ.out.cell (i := 3) rfl; have zf3 := blk_frozen hbox 3; have z4 := HZ.out.cell (i := 4) rfl; have zf4 := blk_frozen hbox 4; have z5 := HZ.out.cell (i := 5) rfl; have zf5 := blk_frozen hbox 5; have z6 := HZ.out.cell (i := 6) rfl; have zf6 := blk_frozen hbox 6; clear hg hbox hb)
              have HS7 := Aside0.mk (set7 rfl HBX.out (.int .i64 x.f0) (.int .i64 x.f1) (.int .i64 x.f2) (.slice A3 x.f3.length c3) (.slice A4 x.f4.length c4') (.slice A5 x.f5.length c5) (.bool x.f6))
              obtain ⟨w7, hw7⟩ : ∃ w7, w7 = (((((((w5.setCell ⟨gb, 0, none⟩ (.int .i64 x.f0)).setCell ⟨gb, 1, none⟩ (.int .i64 x.f1)).setCell ⟨gb, 2, none⟩ (.int .i64 x.f2)).setCell ⟨gb, 3, none⟩ (.slice A3 x.f3.length c3)).setCell ⟨gb, 4, none⟩ (.slice A4 x.f4.length c4')).setCell ⟨gb, 5, none⟩ (.slice A5 x.f5.length c5)).setCell ⟨gb, 6, none⟩ (.bool x.f6)) := ⟨_, rfl⟩
              rw [← hw7] at HS7 ⊢
              have HBw := Aside0.mk (show Below wr.heap.size wr w7 from HB5.out.trans (HS7.out.2.to_below HB5.out.size (fun k hk => by rw [hk, HGB.out]; exact Nat.le_refl _)))
              have HB7 := Aside0.mk (below_step HB.out HBw.out)
              have HK7 := Aside0.mk (HK.out.below HBw.out)
              have g0 : w7.cell? ⟨gb, 0, none⟩ = some (.int .i64 x.f0) := HS7.out.1.cell rfl
              have g2 : w7.cell? ⟨gb, 2, none⟩ = some (.int .i64 x.f2) := HS7.out.1.cell rfl
              have g6 : w7.cell? ⟨gb, 6, none⟩ = some (.bool x.f6) := HS7.out.1.cell rfl
              have k0 : w7.cell? ⟨b, 0, none⟩ = some (.int .i64 H) := HK7.out.cell rfl
              clear hw7 HS7 HBX HZ HGB HB5 HBw HK HB c0 c2 c4 x0 x1 x2 x3 x4 x5 x6 z0 zf0 z1 zf1 z2 zf2 z3 zf3 z4 zf4 z5 zf5 z6 zf6
              by_cases h1 : 1 ≤ x.f0 ∧ x.f0 ≤ 64
              · have d1 : decide (1 ≤ x.f0 ∧ x.f0 ≤ 64) = true := decide_eq_true h1
                by_cases h2 : 1 ≤ x.f2 ∧ x.f2 ≤ 1000
                · have d2 : decide (1 ≤ x.f2 ∧ x.f2 ≤ 1000) = true := decide_eq_true h2
                  obtain ⟨f6, hf⟩ : ∃ f6, f6 = x.f6 := ⟨_, rfl⟩
                  rw [← hf] at g6 HRX
                  clear hf
                  cases f6 with
                  | true =>
                    by_cases h3 : x.f0 > H
                    · have d3 : decide (H < x.f0) = true := decide_eq_true h3
                      have d3' : decide (x.f0 > H) = true := decide_eq_true h3
                      have HE := Aside0.mk (show false = R by rw [← HRX.out, if_neg (fun h => h.2.2 ⟨rfl, h3⟩)])
                      clear h3
                      go_wp2_with ((go_at_call 68; refine (wi68 _ _ _ _).mono ?_; rintro e w9 ⟨rfl, rfl⟩))
                      go_ret
                      exact ⟨ret_bool HE.out, HB7.out⟩
                    · have d3 : decide (H < x.f0) = false := decide_eq_false h3
                      have d3' : decide (x.f0 > H) = false := decide_eq_false h3
                      have HR2 := Aside0.mk (show rGo H P (gl.drop (j + 1)) (v + x.f0) (g + x.f2) = R by rw [← HRX.out, if_pos ⟨h1, h2, fun h => h3 h.2⟩, if_pos rfl])
                      clear h3
                      go_wp2_with ((go_at_call 68; refine (wi68 _ _ _ _).mono ?_; rintro e w9 ⟨rfl, rfl⟩))
                      go_roundw
                      case rel => exact ⟨j + 1, v + x.f0, g + x.f2, by go_num, rfl, rfl, by omega, HR2, ⟨by push_cast; omega⟩, HK7, HB7⟩
                      case measure => (simp [intOf] <;> omega)
                  | false =>
                    have HR2 := Aside0.mk (show rGo H P (gl.drop (j + 1)) (v + x.f0) g = R by rw [← HRX.out, if_pos ⟨h1, h2, fun h => absurd h.1 (by decide)⟩, if_neg (by decide)])
                    go_wp2_with ((go_at_call 68; refine (wi68 _ _ _ _).mono ?_; rintro e w9 ⟨rfl, rfl⟩))
                    go_roundw
                    case rel => exact ⟨j + 1, v + x.f0, g, by go_num, rfl, rfl, by omega, HR2, ⟨by push_cast; omega⟩, HK7, HB7⟩
                    case measure => (simp [intOf] <;> omega)
                · have d2 : decide (1 ≤ x.f2 ∧ x.f2 ≤ 1000) = false := decide_eq_false h2
                  have HE := Aside0.mk (show false = R by rw [← HRX.out, if_neg (fun h => h2 h.2.1)])
                  clear h2
                  go_wp2_with ((go_at_call 68; refine (wi68 _ _ _ _).mono ?_; rintro e w9 ⟨rfl, rfl⟩))
                  go_ret
                  exact ⟨ret_bool HE.out, HB7.out⟩
              · have d1 : decide (1 ≤ x.f0 ∧ x.f0 ≤ 64) = false := decide_eq_false h1
                have HE := Aside0.mk (show false = R by rw [← HRX.out, if_neg (fun h => h1 h.1)])
                clear h1
                go_wp2_with ((go_at_call 68; refine (wi68 _ _ _ _).mono ?_; rintro e w9 ⟨rfl, rfl⟩))
                go_ret
                exact ⟨ret_bool HE.out, HB7.out⟩
            · have HE := Aside0.mk (show (if v ≤ 64 then decide (g < P) else false) = R by have := HR.out; rw [List.drop_of_length_le (by omega)] at this; exact this)
              by_cases h1 : v ≤ 64
              · have d1 : decide (v ≤ 64) = true := decide_eq_true h1
                rw [if_pos h1] at HE
                clear h1
                go_wp2
                go_ret
                exact ⟨ret_bool HE.out, HB.out⟩
              · have d1 : decide (v ≤ 64) = false := decide_eq_false h1
                rw [if_neg h1] at HE
                clear h1
                go_wp2
                go_ret
                exact ⟨ret_bool HE.out, HB.out⟩
        · have d4 : decide (1 ≤ (gl.length : Int) ∧ (gl.length : Int) ≤ 8) = false := decide_eq_false h4
          have HE := Aside0.mk (show false = R by rw [HRB.out, if_neg (fun h => h4 h.2.2.2)])
          clear h4
          go_wp2_with ((go_at_call 68; refine (wi68 _ _ _ _).mono ?_; rintro e w9 ⟨rfl, rfl⟩))
          go_ret
          exact ⟨ret_bool HE.out, HB.out⟩
      · have d3 : decide (1 ≤ P ∧ P ≤ 10000) = false := decide_eq_false h3
        have HE := Aside0.mk (show false = R by rw [HRB.out, if_neg (fun h => h3 h.2.2.1)])
        clear h3
        go_wp2_with ((go_at_call 68; refine (wi68 _ _ _ _).mono ?_; rintro e w9 ⟨rfl, rfl⟩))
        go_ret
        exact ⟨ret_bool HE.out, HB.out⟩
    · have d2 : decide (1 ≤ S ∧ S ≤ 1000) = false := decide_eq_false h2
      have HE := Aside0.mk (show false = R by rw [HRB.out, if_neg (fun h => h2 h.2.1)])
      clear h2
      go_wp2_with ((go_at_call 68; refine (wi68 _ _ _ _).mono ?_; rintro e w9 ⟨rfl, rfl⟩))
      go_ret
      exact ⟨ret_bool HE.out, HB.out⟩
  · have d1 : decide (1 ≤ H ∧ H ≤ 8) = false := decide_eq_false h1
    have HE := Aside0.mk (show false = R by rw [HRB.out, if_neg (fun h => h1 h.1)])
    clear h1
    go_wp2_with ((go_at_call 68; refine (wi68 _ _ _ _).mono ?_; rintro e w9 ⟨rfl, rfl⟩))
    go_ret
    exact ⟨ret_bool HE.out, HB.out⟩
end Go.Proofs.Ytdaadmjppikebaa.SC
namespace Go.Proofs.Ytdaadmjppikebaa.PV
open Go.RowKit Go.Proofs.YtdaadmjppikebaaW.PrintWords Go.Proofs.YtdaadmjppikebaaW.PrintLast
def sched_Right.f (k : Nat) (H S P : Int) (cr : Bool) (gl : List S94) : Option Bool := some (SC.rB H S P gl)
def citadelref18_Right.f (k : Nat) (H S P : Int) (cr : Bool) (gl : List S94) : Option Bool := some (SC.rB H S P gl)
theorem sched_Right.calls (k : Nat) (H S P : Int) (cr : Bool) (A : Option Addr) (cp : Nat) (gl : List S94) (r : Bool) (W : World) (hC : Kd.C k94 W A gl.length gl) (hc : gl.length ≤ cp) (h : sched_Right.f k H S P cr gl = some r) :
    Calls Try.prog 32 #[.agg #[.int .i64 H, .int .i64 S, .int .i64 P, .bool cr, .slice A gl.length cp]] W fun x w' => x = .returned (.bool r) ∧ Below W.heap.size W w' := by
  obtain rfl := Option.some.inj h
  exact SC.right32 hC hc
theorem citadelref18_Right.calls (k : Nat) (H S P : Int) (cr : Bool) (A : Option Addr) (cp : Nat) (gl : List S94) (r : Bool) (W : World) (hC : Kd.C k94 W A gl.length gl) (hc : gl.length ≤ cp) (h : citadelref18_Right.f k H S P cr gl = some r) :
    Calls Try.prog 50 #[.agg #[.int .i64 H, .int .i64 S, .int .i64 P, .bool cr, .slice A gl.length cp]] W fun x w' => x = .returned (.bool r) ∧ Below W.heap.size W w' := by
  obtain rfl := Option.some.inj h
  exact SC.right50 hC hc
end Go.Proofs.Ytdaadmjppikebaa.PV

/- New. -/
namespace Go.Proofs.Ytdaadmjppikebaa.SC
open Go.RowKit Go.Proofs.YtdaadmjppikebaaW.PrintWords Go.Proofs.YtdaadmjppikebaaW.PrintLast
open Go.Proofs.Ytdaadmjppikebaa.PV (S94 k94)
set_option linter.unusedVariables false
set_option linter.unusedSimpArgs false

theorem two_below (W : World) (o o' : Obj) : Below W.heap.size W ((W.alloc o).alloc o') := below_step (below_alloc (Below.refl _ _) _) (below_alloc (Below.refl _ _) _)
theorem mk72 (W : World) (m : Nat) : Blk (W.alloc (.cells (madeCells #[.slice none 0 0, .int .i64 0, .int .i64 0] (m * 3)) 99)) W.heap.size 99 ((List.replicate m trn0).flatMap trnC) := by
  have h := make_blk W (Value.agg #[.slice none 0 0, .int .i64 0, .int .i64 0]).cells 99 m [.slice none 0 0, .int .i64 0, .int .i64 0] rfl (by decide)
  have e : (List.replicate m trn0).flatMap trnC = (List.replicate m [Value.slice none 0 0, .int .i64 0, .int .i64 0]).flatten := by simp [List.flatMap, List.map_replicate]; rfl
  rw [e]; exact h
theorem mk73 (W : World) (n : Nat) : Blk (W.alloc (.cells (madeCells #[.int .u64 0] n) 79)) W.heap.size 79 (List.replicate n (.int .u64 0)) := by
  have h := make_blk W (Value.agg #[.int .u64 0]).cells 79 n [.int .u64 0] rfl (by decide)
  have e : (List.replicate n [Value.int .u64 0]).flatten = List.replicate n (.int .u64 0) := by simp
  rw [e, show n * [Value.int .u64 0].length = n by simp] at h; exact h
theorem entsL_len (gl : List S94) : ∀ (i k : Nat), (entsL i (gl.take k)).length ≤ (entsL i gl).length := by
  induction gl with
  | nil => intro i k; simp
  | cons x r ih =>
    intro i k
    cases k with
    | zero => simp [entsL]
    | succ k => rw [List.take_succ_cons, entsL, entsL, List.length_append, List.length_append]; have := ih (i + 1) k; omega
theorem alloc_size1 (W : World) (o : Obj) : (W.drew.alloc o).heap.size = W.heap.size + 1 := by rw [World.size_alloc]; rfl
theorem mk72' (W : World) (o : Obj) (m : Nat) : Blk ((W.drew.alloc o).alloc (.cells (madeCells #[.slice none 0 0, .int .i64 0, .int .i64 0] (m * 3)) 99)) (W.heap.size + 1) 99 ((List.replicate m trn0).flatMap trnC) := by
  have h := mk72 (W.drew.alloc o) m
  rwa [alloc_size1] at h
theorem mk73' (W : World) (o : Obj) (n : Nat) : Blk ((W.drew.alloc o).alloc (.cells (madeCells #[.int .u64 0] n) 79)) (W.heap.size + 1) 79 (List.replicate n (.int .u64 0)) := by
  have h := mk73 (W.drew.alloc o) n
  rwa [alloc_size1] at h
theorem nw_start {W w1 w2 : World} {o : Obj} {c : NC} (h1 : Below (W.alloc o).heap.size (W.alloc o) w1) (hT : Blk w2 c.bt 99 ((List.replicate c.m trn0).flatMap trnC)) (hC : Blk w2 c.bc 79 (List.replicate c.n (.int .u64 0))) (hB : Below w1.drew.heap.size w1.drew w2) (hg : w1.drew.heap.size ≤ c.bt ∧ w1.drew.heap.size ≤ c.bc) (hb : c.b = w2.heap.size) :
    NW W.heap.size W (w2.alloc (.cells (scC c (.slice none 0 0) (.slice none 0 0)).toArray 91)) c (.slice none 0 0) (.slice none 0 0) [] [] := by
  have b1 : Below W.heap.size W w1 := below_step (below_alloc (Below.refl _ _) o) h1
  have b2 : Below W.heap.size W w2 := b1.drew.trans (hB.mono b1.size)
  have hz := b1.size
  exact { S := by rw [hb]; exact Blk.new w2 91 _, T := hT.below (below_alloc (Below.refl _ _) _), C := hC.below (below_alloc (Below.refl _ _) _), G := Kd.R_nil _ _ _ _ _, E := Kd.R_nil _ _ _ _ _, B := b2.alloc b2.size _, ge := ⟨by rw [hb]; exact b2.size, Nat.le_trans hz hg.1, Nat.le_trans hz hg.2⟩ }
@[local go_sem] theorem run_store_func (w : World) (a : Addr) (fn : Fn) (f c : Array Value) (m : Mode) : (store a (.func fn f c) m).run Try.prog w = stored Try.prog w a (.func fn f c) m := run_store Try.prog w a _ m rfl
theorem new_pick {b bg be bt bc bh cg ce ch m : Nat} {qs : List Value} {S P : Int} {gl : List S94} (hok : NOk m S P gl) : Value.func (.func 39) #[.pointer (some ⟨b, 0, none⟩)] #[] = pickV ⟨b, bg, be, bt, bc, bh, cg, ce, ch, qs, .func (.func 39) #[.pointer (some ⟨b, 0, none⟩)] #[]⟩ (newF m S P true gl) := by
  unfold pickV newF
  rw [if_pos rfl, (giveF_gk (newS1_wf hok)).st.cr, show (newS1 m S P true gl).cr = true from rfl]
  rfl
theorem turn_put {w1 w4 : World} {own : Nat → Prop} {m : Nat} {S P : Int} {cr : Bool} {gl : List S94} {h : Nat} {L : Lay} {v : Value} (hs : SR w1 own L (sT m S P cr gl h)) (hh : h < m) (hq : L.qs[h]? = some (.slice none 0 0)) (hr : Kd.R (Kd.int .i64) 3 w4 w1.heap.size (fun _ => True) v (plainL (sT m S P cr gl h) h)) (hb : Below w1.heap.size w1 w4) :
    SR (((w4.setCell ⟨L.bt, h * 3, none⟩ v).setCell ⟨L.bt, h * 3 + 1, none⟩ (.int .i64 (-1))).setCell ⟨L.bt, h * 3 + 2, none⟩ (.int .i64 0)) (fun k => own k ∨ v.ownBlock = some k) { L with qs := L.qs.set h v } (sT m S P cr gl (h + 1)) := by
  have hl : h < (sT m S P cr gl h).ts.length := by show h < (turnsTo (newS0 m S P cr gl) m h).length; rw [turns_len _ _ _ (by omega)]; exact hh
  have h1 := hs.putQ h hl _ v hq (W1 := w4) (Mut.of_below hb _) (plainL (sT m S P cr gl h) h) (fun t => { t with q := plainL (sT m S P cr gl h) h }) rfl (Kd.R_lower hr (Nat.zero_le _)) (fun k hk => .inr (Kd.R_base hr k hk))
  have hl1 : h < ((sT m S P cr gl h).modT h fun t => { t with q := plainL (sT m S P cr gl h) h }).ts.length := by simpa [SS.modT] using hl
  have h2 := h1.putT h 1 hl1 (by decide) (.int .i64 (-1)) (fun t => { t with cu := -1 }) (fun q => rfl) rfl
  have hl2 : h < (((sT m S P cr gl h).modT h fun t => { t with q := plainL (sT m S P cr gl h) h }).modT h fun t => { t with cu := -1 }).ts.length := by simpa [SS.modT] using hl
  have h3 := h2.putT h 2 hl2 (by decide) (.int .i64 0) (fun t => { t with us := 0 }) (fun q => rfl) rfl
  rw [modT_modT, modT_modT] at h3
  have e := sT_succ m S P cr gl h hh
  rw [← e]
  exact h3
set_option maxRecDepth 100000 in
set_option maxHeartbeats 3200000 in
theorem new_calls {W : World} {m : Nat} {S P : Int} {cr : Bool} {gl : List S94} {A : Option Addr} {cp k : Nat} (hR : PV.sched_Right.f k (m : Int) S P cr gl = some true) (hC : Kd.C k94 W A gl.length gl) (hc : gl.length ≤ cp) (hok : NOk m S P gl) :
    Calls Try.prog 13 #[.agg #[.int .i64 (m : Int), .int .i64 S, .int .i64 P, .bool cr, .slice A gl.length cp]] W fun x w' => ∃ L own, x = .returned (.tuple #[.pointer (some ⟨L.b, 0, none⟩), .int .i64 0]) ∧ SR w' own L (newF m S P cr gl) ∧ L.pv = pickV L (newF m S P cr gl) ∧ (∀ k, own k → W.heap.size ≤ k) ∧ Below W.heap.size W w' := by
  have hmf := hmf
  have HR := Aside0.mk hR
  have HC := Aside0.mk hC
  have HK := Aside0.mk hok
  have h72 := make_run 72 99 _ 3 40 Try.underlying72 info99 (by decide) m (by have := hok.m8; omega)
  have h73 := make_run 73 79 _ 1 8 Try.underlying73 info79 (by decide) gl.length (by have := hok.g8; omega)
  have hg8 := hok.g8
  clear hR hC hok
  go_enter Try.func13, Try.ntmps13
  go_upto_region 3 with (go_at_call 32; refine (PV.sched_Right.calls k _ _ _ _ _ _ gl true _ (Kd.C_alloc HC.out _) hc HR.out).mono ?_; rintro e w1 ⟨rfl, hb⟩; have HB1 := Aside0.mk hb; have HK1 := Aside0.mk (Blk.below (Blk.new W 36 [.int .i64 (m : Int), .int .i64 S, .int .i64 P, .bool cr, .slice A gl.length cp]) hb); clear hb)
  have HKd := Aside0.mk (Blk.below HK1.out (below_drew (Below.refl _ _)))
  refine start_ (n := 18) (S := fun w' => w'.cell? ⟨W.heap.size, 0, none⟩ = some (.int .i64 (m : Int)) ∧ w'.cell? ⟨W.heap.size, 1, none⟩ = some (.int .i64 S) ∧ w'.cell? ⟨W.heap.size, 2, none⟩ = some (.int .i64 P) ∧ w'.cell? ⟨W.heap.size, 3, none⟩ = some (.bool cr) ∧ w'.cell? ⟨W.heap.size, 4, none⟩ = some (.slice A gl.length cp)) (ds := []) (bl 18 0) (by kernel_rfl) rfl rfl ⟨HKd.out.cell rfl, HKd.out.cell rfl, HKd.out.cell rfl, HKd.out.cell rfl, HKd.out.cell rfl⟩ (fun hHeld => ?_)
  refine pure_ (i := 0) (N := some 12) (v := ?_) (a' := ?_) (bl 18 1) rfl rfl (by kernel_rfl) (fun _ _ _ h => h) (Or.inl ⟨by rfl, ?_⟩) ?_ ?_
  rotate_left
  · intro w'
    go_simp
    with_reducible rfl
  rotate_left
  · simp only [Act.put, lsa, lsz, lsc, i64_w, i32_w]
    rfl
  refine pure_ (i := 2) (N := some 14) (v := ?_) (a' := ?_) (bl 18 5) rfl rfl (by kernel_rfl) (fun _ _ _ h => h) (Or.inl ⟨by rfl, ?_⟩) ?_ ?_
  rotate_left
  · intro w'
    go_simp
    with_reducible rfl
  rotate_left
  · simp only [Act.put, lsa, lsz, lsc, i64_w, i32_w]
    rfl
  refine pure_ (i := 4) (N := some 16) (v := ?_) (a' := ?_) (bl 18 21) rfl rfl (by kernel_rfl) (fun _ _ _ h => h) (Or.inl ⟨by rfl, ?_⟩) ?_ ?_
  rotate_left
  · intro w'
    go_simp
    with_reducible rfl
  rotate_left
  · simp only [Act.put, lsa, lsz, lsc, i64_w, i32_w]
    rfl
  refine pure_ (i := 6) (N := some 18) (v := ?_) (a' := ?_) (bl 18 85) rfl rfl (by kernel_rfl) (fun _ _ _ h => h) (Or.inl ⟨by rfl, ?_⟩) ?_ ?_
  rotate_left
  · intro w'
    go_simp
    with_reducible rfl
  rotate_left
  · simp only [Act.put, lsa, lsz, lsc, i64_w, i32_w]
    rfl
  refine pure_ (i := 8) (N := some 20) (v := ?_) (a' := ?_) (bl 18 341) rfl rfl (by kernel_rfl) (fun _ _ _ h => h) (Or.inl ⟨by rfl, ?_⟩) ?_ ?_
  rotate_left
  · intro w'
    go_simp
    with_reducible rfl
  rotate_left
  · simp only [Act.put, lsa, lsz, lsc, i64_w, i32_w]
    rfl
  refine pure_ (i := 11) (N := some 23) (v := ?_) (a' := ?_) (bl 18 2389) rfl rfl (by kernel_rfl) (fun _ _ _ h => h) (Or.inl ⟨by rfl, ?_⟩) ?_ ?_
  rotate_left
  · intro w'
    go_simp
    with_reducible rfl
  rotate_left
  · simp only [Act.put, lsa, lsz, lsc, i64_w, i32_w]
    rfl
  refine take_ (i := 1) (N := some 13) (v := ?_) (a' := ?_) (bl 18 2391) rfl rfl (by kernel_rfl) (fun _ _ _ h => h) (Or.inl ⟨by rfl, ?_⟩) hHeld ?_ ?_
  rotate_left
  · rintro w' ⟨s0, s1, s2, s3, s4⟩
    go_simp
    with_reducible rfl
  rotate_left
  · simp only [Act.put, lsa, lsz, lsc, i64_w, i32_w]
    rfl
  refine take_ (i := 3) (N := some 15) (v := ?_) (a' := ?_) (bl 18 2399) rfl rfl (by kernel_rfl) (fun _ _ _ h => h) (Or.inl ⟨by rfl, ?_⟩) hHeld ?_ ?_
  rotate_left
  · rintro w' ⟨s0, s1, s2, s3, s4⟩
    go_simp
    with_reducible rfl
  rotate_left
  · simp only [Act.put, lsa, lsz, lsc, i64_w, i32_w]
    rfl
  refine take_ (i := 5) (N := some 17) (v := ?_) (a' := ?_) (bl 18 2431) rfl rfl (by kernel_rfl) (fun _ _ _ h => h) (Or.inl ⟨by rfl, ?_⟩) hHeld ?_ ?_
  rotate_left
  · rintro w' ⟨s0, s1, s2, s3, s4⟩
    go_simp
    with_reducible rfl
  rotate_left
  · simp only [Act.put, lsa, lsz, lsc, i64_w, i32_w]
    rfl
  refine take_ (i := 7) (N := some 19) (v := ?_) (a' := ?_) (bl 18 2559) rfl rfl (by kernel_rfl) (fun _ _ _ h => h) (Or.inl ⟨by rfl, ?_⟩) hHeld ?_ ?_
  rotate_left
  · rintro w' ⟨s0, s1, s2, s3, s4⟩
    go_simp
    with_reducible rfl
  rotate_left
  · simp only [Act.put, lsa, lsz, lsc, i64_w, i32_w]
    rfl
  refine take_ (i := 9) (N := some 21) (v := ?_) (a' := ?_) (bl 18 3071) rfl rfl (by kernel_rfl) (fun _ _ _ h => h) (Or.inl ⟨by rfl, ?_⟩) hHeld ?_ ?_
  rotate_left
  · rintro w' ⟨s0, s1, s2, s3, s4⟩
    go_simp
    with_reducible rfl
  rotate_left
  · simp only [Act.put, lsa, lsz, lsc, i64_w, i32_w]
    rfl
  refine take_ (i := 12) (N := some 24) (v := ?_) (a' := ?_) (bl 18 7167) rfl rfl (by kernel_rfl) (fun _ _ _ h => h) (Or.inl ⟨by rfl, ?_⟩) hHeld ?_ ?_
  rotate_left
  · rintro w' ⟨s0, s1, s2, s3, s4⟩
    go_simp
    with_reducible rfl
  rotate_left
  · simp only [Act.put, lsa, lsz, lsc, i64_w, i32_w]
    rfl
  refine pure_ (i := 13) (N := some 25) (v := ?_) (a' := ?_) (bl 18 15359) rfl rfl (by kernel_rfl) (fun _ _ _ h => h) (Or.inl ⟨by rfl, ?_⟩) ?_ ?_
  rotate_left
  · intro w'
    go_simp
    with_reducible rfl
  rotate_left
  · simp only [Act.put, lsa, lsz, lsc, i64_w, i32_w]
    rfl
  refine join_ (σ := Nat × Nat) 3 (bl 18 32767) (fun s => [(22, .slice (some ⟨s.1, 0, none⟩) m m), (26, .slice (some ⟨s.2, 0, none⟩) gl.length gl.length)]) (fun s w' => Aside0 (Blk w' s.1 99 ((List.replicate m trn0).flatMap trnC)) ∧ Aside0 (Blk w' s.2 79 (List.replicate gl.length (.int .u64 0))) ∧ Aside0 (Blk w' W.heap.size 36 [.int .i64 (m : Int), .int .i64 S, .int .i64 P, .bool cr, .slice A gl.length cp]) ∧ Aside0 (Below w1.drew.heap.size w1.drew w') ∧ Aside0 (w1.drew.heap.size ≤ s.1 ∧ w1.drew.heap.size ≤ s.2)) ?_ ?_
  rotate_left
  · intro hCont
    refine two_ (i := 10) (j := 14) (Ni := some 22) (Nj := some 26) (bl 18 16383) (bl 18 31743) rfl rfl rfl rfl (by kernel_rfl) (by decide) (by decide) (fun K hK => ?_) (fun K hK => ?_)
    · skip
      refine value_ (w1 := ?_) (v := ?_) (by rfl) rfl ?_ ?_
      rotate_left 2
      · go_simp
        constructor
        · rfl
        · rfl
      refine hK.out _ _ ⟨(HKd.out.below (below_alloc (Below.refl _ _) _)).cell rfl, (HKd.out.below (below_alloc (Below.refl _ _) _)).cell rfl, (HKd.out.below (below_alloc (Below.refl _ _) _)).cell rfl, (HKd.out.below (below_alloc (Below.refl _ _) _)).cell rfl, (HKd.out.below (below_alloc (Below.refl _ _) _)).cell rfl⟩ (fun hHeld => ?_)
      clear hK K
      refine norm_ (a' := ?_) ?_ ?_
      rotate_left
      · show Act.put _ (some 22) _ = _
        simp only [Act.put, lsa, lsz, lsc, i64_w, i32_w]
        rfl
      refine one_ (i := 14) (N := some 26) (bl 18 32767) rfl rfl (by kernel_rfl) (by decide) (fun K hK => ?_)
      refine value_ (w1 := ?_) (v := ?_) (by rfl) rfl ?_ ?_
      rotate_left 2
      · go_simp
        constructor
        · rfl
        · rfl
      refine hK.out _ _ ⟨((HKd.out.below (below_alloc (Below.refl _ _) _)).below (below_alloc (Below.refl _ _) _)).cell rfl, ((HKd.out.below (below_alloc (Below.refl _ _) _)).below (below_alloc (Below.refl _ _) _)).cell rfl, ((HKd.out.below (below_alloc (Below.refl _ _) _)).below (below_alloc (Below.refl _ _) _)).cell rfl, ((HKd.out.below (below_alloc (Below.refl _ _) _)).below (below_alloc (Below.refl _ _) _)).cell rfl, ((HKd.out.below (below_alloc (Below.refl _ _) _)).below (below_alloc (Below.refl _ _) _)).cell rfl⟩ (fun hHeld => ?_)
      clear hK K
      refine norm_ (a' := ?_) ?_ ?_
      rotate_left
      · show Act.put _ (some 26) _ = _
        simp only [Act.put, lsa, lsz, lsc, i64_w, i32_w]
        rfl
      exact norm_ (by simp only [putAll, Act.put, List.setIfInBounds_toArray, List.set_cons_zero, List.set_cons_succ]) (hCont (w1.heap.size, w1.heap.size + 1) _ ⟨⟨(mk72 w1.drew m).below (below_alloc (Below.refl _ _) _)⟩, ⟨mk73' w1 _ gl.length⟩, ⟨(HKd.out.below (below_alloc (Below.refl _ _) _)).below (below_alloc (Below.refl _ _) _)⟩, ⟨two_below w1.drew _ _⟩, ⟨Nat.le_refl _, Nat.le_succ _⟩⟩)
    · skip
      refine value_ (w1 := ?_) (v := ?_) (by rfl) rfl ?_ ?_
      rotate_left 2
      · go_simp
        constructor
        · rfl
        · rfl
      refine hK.out _ _ ⟨(HKd.out.below (below_alloc (Below.refl _ _) _)).cell rfl, (HKd.out.below (below_alloc (Below.refl _ _) _)).cell rfl, (HKd.out.below (below_alloc (Below.refl _ _) _)).cell rfl, (HKd.out.below (below_alloc (Below.refl _ _) _)).cell rfl, (HKd.out.below (below_alloc (Below.refl _ _) _)).cell rfl⟩ (fun hHeld => ?_)
      clear hK K
      refine norm_ (a' := ?_) ?_ ?_
      rotate_left
      · show Act.put _ (some 26) _ = _
        simp only [Act.put, lsa, lsz, lsc, i64_w, i32_w]
        rfl
      refine one_ (i := 10) (N := some 22) (bl 18 32767) rfl rfl (by kernel_rfl) (by decide) (fun K hK => ?_)
      refine value_ (w1 := ?_) (v := ?_) (by rfl) rfl ?_ ?_
      rotate_left 2
      · go_simp
        constructor
        · rfl
        · rfl
      refine hK.out _ _ ⟨((HKd.out.below (below_alloc (Below.refl _ _) _)).below (below_alloc (Below.refl _ _) _)).cell rfl, ((HKd.out.below (below_alloc (Below.refl _ _) _)).below (below_alloc (Below.refl _ _) _)).cell rfl, ((HKd.out.below (below_alloc (Below.refl _ _) _)).below (below_alloc (Below.refl _ _) _)).cell rfl, ((HKd.out.below (below_alloc (Below.refl _ _) _)).below (below_alloc (Below.refl _ _) _)).cell rfl, ((HKd.out.below (below_alloc (Below.refl _ _) _)).below (below_alloc (Below.refl _ _) _)).cell rfl⟩ (fun hHeld => ?_)
      clear hK K
      refine norm_ (a' := ?_) ?_ ?_
      rotate_left
      · show Act.put _ (some 22) _ = _
        simp only [Act.put, lsa, lsz, lsc, i64_w, i32_w]
        rfl
      exact norm_ (by simp only [putAll, Act.put, List.setIfInBounds_toArray, List.set_cons_zero, List.set_cons_succ]) (hCont (w1.heap.size + 1, w1.heap.size) _ ⟨⟨mk72' w1 _ m⟩, ⟨(mk73 w1.drew gl.length).below (below_alloc (Below.refl _ _) _)⟩, ⟨(HKd.out.below (below_alloc (Below.refl _ _) _)).below (below_alloc (Below.refl _ _) _)⟩, ⟨two_below w1.drew _ _⟩, ⟨Nat.le_succ _, Nat.le_refl _⟩⟩)
  rintro ⟨bt, bc⟩ w2 ⟨BT, BC, BK, BB, BG⟩
  replace BT : Aside0 (Blk w2 bt 99 ((List.replicate m trn0).flatMap trnC)) := BT
  replace BC : Aside0 (Blk w2 bc 79 (List.replicate gl.length (.int .u64 0))) := BC
  replace BG : Aside0 (w1.drew.heap.size ≤ bt ∧ w1.drew.heap.size ≤ bc) := BG
  have hHeld : w2.cell? ⟨W.heap.size, 0, none⟩ = some (.int .i64 (m : Int)) ∧ w2.cell? ⟨W.heap.size, 1, none⟩ = some (.int .i64 S) ∧ w2.cell? ⟨W.heap.size, 2, none⟩ = some (.int .i64 P) ∧ w2.cell? ⟨W.heap.size, 3, none⟩ = some (.bool cr) ∧ w2.cell? ⟨W.heap.size, 4, none⟩ = some (.slice A gl.length cp) := ⟨BK.out.cell rfl, BK.out.cell rfl, BK.out.cell rfl, BK.out.cell rfl, BK.out.cell rfl⟩
  refine norm_ (a' := ?_) ?_ ?_
  rotate_left
  · simp only [putAll, Act.put, List.setIfInBounds_toArray, List.set_cons_zero, List.set_cons_succ]
    rfl
  refine pure_ (i := 15) (N := some 27) (v := ?_) (a' := ?_) (bl 18 65535) rfl rfl (by kernel_rfl) (fun _ _ _ h => h) (Or.inl ⟨by rfl, ?_⟩) ?_ ?_
  rotate_left
  · intro w'
    go_simp
    with_reducible rfl
  rotate_left
  · simp only [Act.put, lsa, lsz, lsc, i64_w, i32_w]
    rfl
  refine one_ (i := 16) (N := some 28) (bl 18 131071) rfl rfl (by kernel_rfl) (by decide) (fun K hK => ?_)
  refine value_ (w1 := ?_) (v := ?_) (by rfl) rfl ?_ ?_
  rotate_left 2
  · go_simp
    constructor
    · rfl
    · rfl
  refine hK.out _ _ ⟨(BK.out.below (below_alloc (Below.refl _ _) _)).cell rfl, (BK.out.below (below_alloc (Below.refl _ _) _)).cell rfl, (BK.out.below (below_alloc (Below.refl _ _) _)).cell rfl, (BK.out.below (below_alloc (Below.refl _ _) _)).cell rfl, (BK.out.below (below_alloc (Below.refl _ _) _)).cell rfl⟩ (fun hHeld => ?_)
  clear hK K
  refine norm_ (a' := ?_) ?_ ?_
  rotate_left
  · show Act.put _ (some 28) _ = _
    simp only [Act.put, lsa, lsz, lsc, i64_w, i32_w]
    rfl
  refine pure_ (i := 17) (N := some 4) (v := ?_) (a' := ?_) (bl 18 262143) rfl rfl (by kernel_rfl) (fun _ _ _ h => h) (Or.inl ⟨by rfl, ?_⟩) ?_ ?_
  rotate_left
  · intro w'
    go_simp
    with_reducible rfl
  rotate_left
  · simp only [Act.put, lsa, lsz, lsc, i64_w, i32_w]
    rfl
  refine done_ (by kernel_rfl) ?_
  have HN0 := Aside0.mk (nw_start (W := W) (c := ⟨w2.heap.size, bt, bc, m, S, P, cr, gl.length⟩) HB1.out BT.out BC.out BB.out BG.out rfl)
  have HKc := Aside0.mk (BK.out.below (below_alloc (Below.refl _ _) (.cells (scC ⟨w2.heap.size, bt, bc, m, S, P, cr, gl.length⟩ (.slice none 0 0) (.slice none 0 0)).toArray 91)))
  obtain ⟨w3, hw3⟩ : ∃ w3, w3 = w2.alloc (.cells #[.int .i64 (m : Int), .int .i64 S, .int .i64 P, .bool cr, .slice none 0 0, .slice none 0 0, .slice (some ⟨bt, 0, none⟩) m m, .int .u64 0, .int .u64 0, .slice (some ⟨bc, 0, none⟩) gl.length gl.length, .nilFunc, .int .u32 0, .int .i32 0, .int .u32 0, .slice none 0 0] 91) := ⟨_, rfl⟩
  obtain ⟨b, hb⟩ : ∃ b, b = w2.heap.size := ⟨_, rfl⟩
  rw [← hb]
  replace HN0 : Aside0 (NW W.heap.size W w3 ⟨b, bt, bc, m, S, P, cr, gl.length⟩ (.slice none 0 0) (.slice none 0 0) [] []) := by rw [hb, hw3]; exact HN0
  replace HKc : Aside0 (Blk w3 W.heap.size 36 [.int .i64 (m : Int), .int .i64 S, .int .i64 P, .bool cr, .slice A gl.length cp]) := by rw [hw3]; exact HKc
  rw [← hw3]
  have hq4 : w3.cell? ⟨W.heap.size, 4, none⟩ = some (.slice A gl.length cp) := HKc.out.cell rfl
  clear hHeld HK1 HB1 HKd BT BC BK BB BG hw3 hb HKc
  go_wp2
  go_loopw [32] (fun v32 w' => ∃ (i : Nat) (gv ev : Value), v32 = .int .i64 (i : Int) ∧ i ≤ gl.length ∧ Aside0 (NW W.heap.size W w' ⟨b, bt, bc, m, S, P, cr, gl.length⟩ gv ev (guestsL (gl.take i)) (entsL 0 (gl.take i)))) (fun v32 _ => gl.length - (intOf v32).toNat)
  case atStart => exact ⟨0, _, _, rfl, by omega, HN0⟩
  case round =>
    obtain ⟨i, gv, ev, rfl, hi, HN⟩ := hrel
    clear HN0 hq4
    by_cases hlt : i < gl.length
    · obtain ⟨ad, A3, c3, A4, c4, A5, c5, e0, x0, x1, x2, x3, x4, x5, x6, _⟩ := PV.at_T94 (Kd.C_below HC.out HN.out.B) (i : Int) (by omega) (by omega)
      subst e0
      obtain ⟨x, hx⟩ : ∃ x, x = PV.rd_T94 gl (i : Int) := ⟨_, rfl⟩
      have HX := Aside0.mk (show gl[i]? = some x by rw [hx]; unfold PV.rd_T94; simp [hlt])
      rw [← hx] at x0 x1 x2 x3 x4 x5 x6
      have hxk : x ∈ gl := List.mem_of_getElem? HX.out
      obtain ⟨fv, hfv⟩ := Int.eq_ofNat_of_zero_le (show 0 ≤ x.f0 by have := (HK.out.x x hxk).1; omega)
      have HFV := Aside0.mk hfv
      rw [hfv] at x0
      clear hx hxk hfv
      simp only [Int.toNat_natCast] at x0 x1 x2 x3 x4 x5 x6
      go_upto_region 7 with (((with_reducible refine gate_dst (N := 6) rfl ?_); (try (refine gate_guard (by rfl) ?_; dsimp only)); refine box_event ?hg (N := 6) ?hd (cs := #[.int .i64 0, .int .i64 0, .int .i64 0, .slice none 0 0, .slice none 0 0, .slice none 0 0, .bool false]) (t := 94) ?hr ?_; (case hd => rfl); (case hg => rfl); (case hr => first | (go_simp; done) | (go_simp; rfl)); intro gb hg w5 hbox hb; have z0 : w5.cell? ⟨gb, 0, none⟩ = some (.int .i64 0) := (blk_cell hbox 0).trans rfl; have zf0 := blk_frozen hbox 0; have z1 : w5.cell? ⟨gb, 1, none⟩ = some (.int .i64 0) := (blk_cell hbox 1).trans rfl; have zf1 := blk_frozen hbox 1; have z2 : w5.cell? ⟨gb, 2, none⟩ = some (.int .i64 0) := (blk_cell hbox 2).trans rfl; have zf2 := blk_frozen hbox 2; have z3 : w5.cell? ⟨gb, 3, none⟩ = some (.slice none 0 0) := (blk_cell hbox 3).trans rfl; have zf3 := blk_frozen hbox 3; have z4 : w5.cell? ⟨gb, 4, none⟩ = some (.slice none 0 0) := (blk_cell hbox 4).trans rfl; have zf4 := blk_frozen hbox 4; have z5 : w5.cell? ⟨gb, 5, none⟩ = some (.slice none 0 0) := (blk_cell hbox 5).trans rfl; have zf5 := blk_frozen hbox 5; have z6 : w5.cell? ⟨gb, 6, none⟩ = some (.bool false) := (blk_cell hbox 6).trans rfl; have zf6 := blk_frozen hbox 6; have HBX := Aside0.mk hbox; have HGB := Aside0.mk hg; have HB5 := Aside0.mk hb; clear hg hbox hb))
      have HS7 := Aside0.mk (set7 rfl HBX.out (.int .i64 (fv : Int)) (.int .i64 x.f1) (.int .i64 x.f2) (.slice A3 x.f3.length c3) (.slice A4 x.f4.length c4) (.slice A5 x.f5.length c5) (.bool x.f6))
      obtain ⟨w6, hw6⟩ : ∃ w6, w6 = (((((((w5.setCell ⟨gb, 0, none⟩ (.int .i64 (fv : Int))).setCell ⟨gb, 1, none⟩ (.int .i64 x.f1)).setCell ⟨gb, 2, none⟩ (.int .i64 x.f2)).setCell ⟨gb, 3, none⟩ (.slice A3 x.f3.length c3)).setCell ⟨gb, 4, none⟩ (.slice A4 x.f4.length c4)).setCell ⟨gb, 5, none⟩ (.slice A5 x.f5.length c5)).setCell ⟨gb, 6, none⟩ (.bool x.f6)) := ⟨_, rfl⟩
      rw [← hw6] at HS7 ⊢
      have HB6 := Aside0.mk (show Below wr.heap.size wr w6 from HB5.out.trans (HS7.out.2.to_below (HB5.out.size) (fun k hk => by rw [hk, HGB.out]; exact Nat.le_refl _)))
      have BG6 := Aside0.mk HS7.out.1
      have HNw := Aside0.mk (HN.out.below HN.out.B.size HB6.out)
      have HGF := Aside0.mk (show ∀ k, gv.ownBlock = some k → k ≠ gb from fun k hk e => by have := Kd.R_lt HN.out.G k hk; have h2 := HGB.out; omega)
      have HLn := Aside0.mk (show (guestsL (gl.take i)).length ≤ 8 by simp [guestsL]; omega)
      have ze0 : w6.drew.cell? ⟨b, 4, none⟩ = some gv := (HNw.out.S.below (below_drew (Below.refl _ _))).cell rfl
      have ze1 : w6.drew.cell? ⟨gb, 0, none⟩ = some (.int .i64 (fv : Int)) := (BG6.out.below (below_drew (Below.refl _ _))).cell rfl
      have ze2 : w6.drew.cell? ⟨gb, 2, none⟩ = some (.int .i64 x.f2) := (BG6.out.below (below_drew (Below.refl _ _))).cell rfl
      have ze3 : w6.drew.cell? ⟨gb, 6, none⟩ = some (.bool x.f6) := (BG6.out.below (below_drew (Below.refl _ _))).cell rfl
      clear hw6 x0 x1 x2 x3 x4 x5 x6 z0 z1 z2 z3 z4 z5 z6 zf0 zf1 zf2 zf3 zf4 zf5 zf6 HS7 HBX HB5 HN
      refine start_ (n := 17) (S := fun w' => w'.cell? ⟨b, 4, none⟩ = some gv ∧ w'.cell? ⟨gb, 0, none⟩ = some (.int .i64 (fv : Int)) ∧ w'.cell? ⟨gb, 2, none⟩ = some (.int .i64 x.f2) ∧ w'.cell? ⟨gb, 6, none⟩ = some (.bool x.f6)) (ds := [16]) (bl 17 0) (by kernel_rfl) rfl rfl ⟨ze0, ze1, ze2, ze3⟩ (fun hHeld => ?_)
      refine pure_ (i := 0) (N := some 37) (v := ?_) (a' := ?_) (bl 17 1) rfl rfl (by kernel_rfl) (fun _ _ _ h => h) (Or.inl ⟨by rfl, ?_⟩) ?_ ?_
      rotate_left
      · intro w'
        go_simp
        with_reducible rfl
      rotate_left
      · simp only [Act.put, lsa, lsz, lsc, i64_w, i32_w]
        rfl
      refine pure_ (i := 1) (N := some 38) (v := ?_) (a' := ?_) (bl 17 3) rfl rfl (by kernel_rfl) (fun _ _ _ h => h) (Or.inl ⟨by rfl, ?_⟩) ?_ ?_
      rotate_left
      · intro w'
        go_simp
        with_reducible rfl
      rotate_left
      · simp only [Act.put, lsa, lsz, lsc, i64_w, i32_w]
        rfl
      refine pure_ (i := 2) (N := some 39) (v := ?_) (a' := ?_) (bl 17 7) rfl rfl (by kernel_rfl) (fun _ _ _ h => h) (Or.inl ⟨by rfl, ?_⟩) ?_ ?_
      rotate_left
      · intro w'
        go_simp
        with_reducible rfl
      rotate_left
      · simp only [Act.put, lsa, lsz, lsc, i64_w, i32_w]
        rfl
      refine pure_ (i := 3) (N := some 40) (v := ?_) (a' := ?_) (bl 17 15) rfl rfl (by kernel_rfl) (fun _ _ _ h => h) (Or.inl ⟨by rfl, ?_⟩) ?_ ?_
      rotate_left
      · intro w'
        go_simp
        with_reducible rfl
      rotate_left
      · simp only [Act.put, lsa, lsz, lsc, i64_w, i32_w]
        rfl
      refine pure_ (i := 5) (N := some 42) (v := ?_) (a' := ?_) (bl 17 47) rfl rfl (by kernel_rfl) (fun _ _ _ h => h) (Or.inl ⟨by rfl, ?_⟩) ?_ ?_
      rotate_left
      · intro w'
        go_simp
        with_reducible rfl
      rotate_left
      · simp only [Act.put, lsa, lsz, lsc, i64_w, i32_w]
        rfl
      refine pure_ (i := 7) (N := some 44) (v := ?_) (a' := ?_) (bl 17 175) rfl rfl (by kernel_rfl) (fun _ _ _ h => h) (Or.inl ⟨by rfl, ?_⟩) ?_ ?_
      rotate_left
      · intro w'
        go_simp
        with_reducible rfl
      rotate_left
      · simp only [Act.put, lsa, lsz, lsc, i64_w, i32_w]
        rfl
      refine pure_ (i := 9) (N := some 46) (v := ?_) (a' := ?_) (bl 17 687) rfl rfl (by kernel_rfl) (fun _ _ _ h => h) (Or.inl ⟨by rfl, ?_⟩) ?_ ?_
      rotate_left
      · intro w'
        go_simp
        with_reducible rfl
      rotate_left
      · simp only [Act.put, lsa, lsz, lsc, i64_w, i32_w]
        rfl
      refine take_ (i := 4) (N := some 41) (v := ?_) (a' := ?_) (bl 17 703) rfl rfl (by kernel_rfl) (fun _ _ _ h => h) (Or.inl ⟨by rfl, ?_⟩) hHeld ?_ ?_
      rotate_left
      · rintro w' ⟨s0, s1, s2, s3⟩
        go_simp
        with_reducible rfl
      rotate_left
      · simp only [Act.put, lsa, lsz, lsc, i64_w, i32_w]
        rfl
      refine take_ (i := 6) (N := some 43) (v := ?_) (a' := ?_) (bl 17 767) rfl rfl (by kernel_rfl) (fun _ _ _ h => h) (Or.inl ⟨by rfl, ?_⟩) hHeld ?_ ?_
      rotate_left
      · rintro w' ⟨s0, s1, s2, s3⟩
        go_simp
        with_reducible rfl
      rotate_left
      · simp only [Act.put, lsa, lsz, lsc, i64_w, i32_w]
        rfl
      refine take_ (i := 8) (N := some 45) (v := ?_) (a' := ?_) (bl 17 1023) rfl rfl (by kernel_rfl) (fun _ _ _ h => h) (Or.inl ⟨by rfl, ?_⟩) hHeld ?_ ?_
      rotate_left
      · rintro w' ⟨s0, s1, s2, s3⟩
        go_simp
        with_reducible rfl
      rotate_left
      · simp only [Act.put, lsa, lsz, lsc, i64_w, i32_w]
        rfl
      refine take_ (i := 10) (N := some 47) (v := ?_) (a' := ?_) (bl 17 2047) rfl rfl (by kernel_rfl) (fun _ _ _ h => h) (Or.inl ⟨by rfl, ?_⟩) hHeld ?_ ?_
      rotate_left
      · rintro w' ⟨s0, s1, s2, s3⟩
        go_simp
        with_reducible rfl
      rotate_left
      · simp only [Act.put, lsa, lsz, lsc, i64_w, i32_w]
        rfl
      refine pure_ (i := 11) (N := some 48) (v := ?_) (a' := ?_) (bl 17 4095) rfl rfl (by kernel_rfl) (fun _ _ _ h => h) (Or.inl ⟨by rfl, ?_⟩) ?_ ?_
      rotate_left
      · intro w'
        go_simp
        with_reducible rfl
      rotate_left
      · simp only [Act.put, lsa, lsz, lsc, i64_w, i32_w]
        rfl
      refine one_ (i := 12) (N := some 49) (bl 17 8191) rfl rfl (by kernel_rfl) (by decide) (fun K hK => ?_)
      refine value_ (w1 := ?_) (v := ?_) (by rfl) rfl ?_ ?_
      rotate_left 2
      · go_simp
        constructor
        · rfl
        · rfl
      refine hK.out _ _ ⟨pw_cell_below (below_alloc (Below.refl _ _) _) ze0, pw_cell_below (below_alloc (Below.refl _ _) _) ze1, pw_cell_below (below_alloc (Below.refl _ _) _) ze2, pw_cell_below (below_alloc (Below.refl _ _) _) ze3⟩ (fun hHeld => ?_)
      clear hK K
      refine norm_ (a' := ?_) ?_ ?_
      rotate_left
      · show Act.put _ (some 49) _ = _
        simp only [Act.put, lsa, lsz, lsc, i64_w, i32_w]
        rfl
      refine one_ (i := 13) (N := some 50) (bl 17 16383) rfl rfl (by kernel_rfl) (by decide) (fun K hK => ?_)
      rw [show (w6.alloc (.cells #[.int .i64 (fv : Int), .int .i64 0, .int .i64 x.f2, .slice none 0 0, .slice none 0 0, .slice none 0 0, .bool x.f6] 94)).drew = w6.drew.alloc (.cells #[.int .i64 (fv : Int), .int .i64 0, .int .i64 x.f2, .slice none 0 0, .slice none 0 0, .slice none 0 0, .bool x.f6] 94) from rfl]
      refine Kd.R_append_step kG (w0 := W) W.heap.size (by rfl) (.tmp 41) (.tmp 49) 34 94 (.agg #[(.int .i64 0), (.int .i64 0), (.int .i64 0), (.slice none 0 0), (.slice none 0 0), (.slice none 0 0), (.bool false)]) 104 rfl Try.underlying34 info94 rfl (by decide) (by omega) gv (guestsL (gl.take i)) (⟨(fv : Int), x.f2, x.f6⟩) [.int .i64 (fv : Int), .int .i64 0, .int .i64 x.f2, .slice none 0 0, .slice none 0 0, .slice none 0 0, .bool x.f6] (fun _ => True) (fun _ => False) rfl rfl ?aP (fun _ hk => hk.elim) ?aF ?aO ?aB ?aS ?aL ?_
      (case aP => exact rfl)
      (case aF => exact (fun _ _ => trivial))
      (case aO => exact Kd.R_drew HNw.out.G)
      (case aB => exact HNw.out.B.drew)
      (case aS => exact HNw.out.B.size)
      (case aL => have := HLn.out; omega)
      intro v9 w9 ho hb9 hg9 hat9
      obtain ⟨A9, n9, q9, e9⟩ : ∃ (A9 : Option Addr) (n9 q9 : Nat), v9 = .slice A9 n9 q9 := (by obtain ⟨A, c, e⟩ := Kd.R_slice ho; exact ⟨_, _, _, e⟩)
      subst e9
      have HNd := Aside0.mk (HNw.out.below HNw.out.B.size (below_drew (Below.refl _ _)))
      have HBd := Aside0.mk (BG6.out.below (below_drew (Below.refl _ _)))
      have BG9 := Aside0.mk (HBd.out.mut (below_mut0 hg9) (fun e => HGF.out _ e rfl))
      have HN9 := Aside0.mk (HNd.out.growG hg9 ho hb9)
      have HS9 := Aside0.mk (HNd.out.S.mut (below_mut0 hg9) (fun e => blk_own HNd.out.G HNd.out.S (by decide) _ e rfl))
      have zb9 : w9.cell? ⟨b, 4, none⟩ = some gv := HS9.out.cell rfl
      have zf9 : w9.frozen? ⟨b, 4, none⟩ = false := HS9.out.frozen _
      have zg0 : w9.cell? ⟨gb, 0, none⟩ = some (.int .i64 (fv : Int)) := BG9.out.cell rfl
      have zg2 : w9.cell? ⟨gb, 2, none⟩ = some (.int .i64 x.f2) := BG9.out.cell rfl
      have zg6 : w9.cell? ⟨gb, 6, none⟩ = some (.bool x.f6) := BG9.out.cell rfl
      clear ho hb9 hg9 hat9
      refine hK.out _ _ ⟨zb9, zg0, zg2, zg6⟩ (fun hHeld => ?_)
      clear hK K
      refine norm_ (a' := ?_) ?_ ?_
      rotate_left
      · show Act.put _ (some 50) _ = _
        simp only [Act.put, lsa, lsz, lsc, i64_w, i32_w]
        rfl
      refine pure_ (i := 14) (N := some 51) (v := ?_) (a' := ?_) (bl 17 32767) rfl rfl (by kernel_rfl) (fun _ _ _ h => h) (Or.inl ⟨by rfl, ?_⟩) ?_ ?_
      rotate_left
      · intro w'
        go_simp
        with_reducible rfl
      rotate_left
      · simp only [Act.put, lsa, lsz, lsc, i64_w, i32_w]
        rfl
      refine pure_ (i := 15) (N := some 52) (v := ?_) (a' := ?_) (bl 17 65535) rfl rfl (by kernel_rfl) (fun _ _ _ h => h) (Or.inl ⟨by rfl, ?_⟩) ?_ ?_
      rotate_left
      · intro w'
        go_simp
        with_reducible rfl
      rotate_left
      · simp only [Act.put, lsa, lsz, lsc, i64_w, i32_w]
        rfl
      refine last_ (i := 16) (N := none) (bl 17 131071) rfl rfl (by kernel_rfl) (by decide) (fun K hK => ?_)
      refine skip_ (w1 := ?_) (by rfl) rfl ?_ ?_
      rotate_left
      · go_simp
        rfl
      refine hK.out _ _ ?_
      clear hK K
      refine done_ (by kernel_rfl) ?_
      have HNg := Aside0.mk (show NW W.heap.size W (w9.setCell ⟨b, 4, none⟩ (.slice A9 n9 q9)) ⟨b, bt, bc, m, S, P, cr, gl.length⟩ (.slice A9 n9 q9) ev (guestsL (gl.take (i + 1))) (entsL 0 (gl.take i)) by
        rw [guestsL_take gl i x HX.out, HFV.out]; exact HN9.out)
      have HGg := Aside0.mk (show Blk (w9.setCell ⟨b, 4, none⟩ (.slice A9 n9 q9)) gb 94 [.int .i64 (fv : Int), .int .i64 x.f1, .int .i64 x.f2, .slice A3 x.f3.length c3, .slice A4 x.f4.length c4, .slice A5 x.f5.length c5, .bool x.f6] from BG9.out.mut (set_mut _ _ _) (fun e => BG9.out.ne HS9.out (by decide) e))
      obtain ⟨w10, hw10⟩ : ∃ w10, w10 = w9.setCell ⟨b, 4, none⟩ (.slice A9 n9 q9) := ⟨_, rfl⟩
      rw [← hw10] at HNg HGg ⊢
      have hg0 : w10.cell? ⟨gb, 0, none⟩ = some (.int .i64 (fv : Int)) := HGg.out.cell rfl
      have HF64 := Aside0.mk (show fv ≤ 64 by have := (HK.out.x x (List.mem_of_getElem? HX.out)).2.1; have := HFV.out; omega)
      have HL1 := Aside0.mk (Nat.le_trans (entsL_len gl 0 i) HK.out.e)
      have hf64 := HF64.out
      clear hw10 zb9 zf9 zg0 zg2 zg6 ze0 ze1 ze2 ze3 HN9 HS9 BG9 HBd HNd HNw HB6 BG6 HGF HLn HGB
      clear hHeld
      go_wp2
      go_loopw [55] (fun v55 w' => ∃ (k2 : Nat) (ev2 : Value), v55 = .int .i64 (k2 : Int) ∧ k2 ≤ fv ∧ Aside0 (NW W.heap.size W w' ⟨b, bt, bc, m, S, P, cr, gl.length⟩ (.slice A9 n9 q9) ev2 (guestsL (gl.take (i + 1))) (entsL 0 (gl.take i) ++ entsTo i x k2)) ∧ Aside0 (Blk w' gb 94 [.int .i64 (fv : Int), .int .i64 x.f1, .int .i64 x.f2, .slice A3 x.f3.length c3, .slice A4 x.f4.length c4, .slice A5 x.f5.length c5, .bool x.f6])) (fun v55 _ => fv - (intOf v55).toNat)
      case atStart => exact ⟨0, _, rfl, by omega, ⟨by rw [show entsTo i x 0 = [] from rfl, List.append_nil]; exact HNg.out⟩, HGg⟩
      case round =>
        obtain ⟨k2, ev2, rfl, hk2, HNw, BG7⟩ := hrel
        clear HNg HGg hg0
        by_cases hlt2 : k2 < fv
        · obtain ⟨w7, hw7⟩ : ∃ w7, w7 = wr := ⟨_, rfl⟩
          rw [← hw7] at HNw BG7 ⊢
          have HLn := Aside0.mk (show (entsL 0 (gl.take i) ++ entsTo i x k2).length ≤ 128 by rw [List.length_append, entsTo_len]; have := HL1.out; omega)
          have ze0 : w7.drew.cell? ⟨b, 5, none⟩ = some ev2 := (HNw.out.S.below (below_drew (Below.refl _ _))).cell rfl
          have ze1 : w7.drew.cell? ⟨gb, 2, none⟩ = some (.int .i64 x.f2) := (BG7.out.below (below_drew (Below.refl _ _))).cell rfl
          clear hw7
          go_upto_region 11 with (fail)
          refine start_ (n := 15) (S := fun w' => w'.cell? ⟨b, 5, none⟩ = some ev2 ∧ w'.cell? ⟨gb, 2, none⟩ = some (.int .i64 x.f2)) (ds := [14]) (bl 15 0) (by kernel_rfl) rfl rfl ⟨ze0, ze1⟩ (fun hHeld => ?_)
          refine pure_ (i := 0) (N := some 58) (v := ?_) (a' := ?_) (bl 15 1) rfl rfl (by kernel_rfl) (fun _ _ _ h => h) (Or.inl ⟨by rfl, ?_⟩) ?_ ?_
          rotate_left
          · intro w'
            go_simp
            with_reducible rfl
          rotate_left
          · simp only [Act.put, lsa, lsz, lsc, i64_w, i32_w]
            rfl
          refine pure_ (i := 1) (N := some 59) (v := ?_) (a' := ?_) (bl 15 3) rfl rfl (by kernel_rfl) (fun _ _ _ h => h) (Or.inl ⟨by rfl, ?_⟩) ?_ ?_
          rotate_left
          · intro w'
            go_simp
            with_reducible rfl
          rotate_left
          · simp only [Act.put, lsa, lsz, lsc, i64_w, i32_w]
            rfl
          refine pure_ (i := 2) (N := some 60) (v := ?_) (a' := ?_) (bl 15 7) rfl rfl (by kernel_rfl) (fun _ _ _ h => h) (Or.inl ⟨by rfl, ?_⟩) ?_ ?_
          rotate_left
          · intro w'
            go_simp
            with_reducible rfl
          rotate_left
          · simp only [Act.put, lsa, lsz, lsc, i64_w, i32_w]
            rfl
          refine pure_ (i := 3) (N := some 61) (v := ?_) (a' := ?_) (bl 15 15) rfl rfl (by kernel_rfl) (fun _ _ _ h => h) (Or.inl ⟨by rfl, ?_⟩) ?_ ?_
          rotate_left
          · intro w'
            go_simp
            with_reducible rfl
          rotate_left
          · simp only [Act.put, lsa, lsz, lsc, i64_w, i32_w]
            rfl
          refine pure_ (i := 5) (N := some 63) (v := ?_) (a' := ?_) (bl 15 47) rfl rfl (by kernel_rfl) (fun _ _ _ h => h) (Or.inl ⟨by rfl, ?_⟩) ?_ ?_
          rotate_left
          · intro w'
            go_simp
            with_reducible rfl
          rotate_left
          · simp only [Act.put, lsa, lsz, lsc, i64_w, i32_w]
            rfl
          refine pure_ (i := 6) (N := some 64) (v := ?_) (a' := ?_) (bl 15 111) rfl rfl (by kernel_rfl) (fun _ _ _ h => h) (Or.inl ⟨by rfl, ?_⟩) ?_ ?_
          rotate_left
          · intro w'
            go_simp
            with_reducible rfl
          rotate_left
          · simp only [Act.put, lsa, lsz, lsc, i64_w, i32_w]
            rfl
          refine pure_ (i := 7) (N := some 65) (v := ?_) (a' := ?_) (bl 15 239) rfl rfl (by kernel_rfl) (fun _ _ _ h => h) (Or.inl ⟨by rfl, ?_⟩) ?_ ?_
          rotate_left
          · intro w'
            go_simp
            with_reducible rfl
          rotate_left
          · simp only [Act.put, lsa, lsz, lsc, i64_w, i32_w]
            rfl
          refine take_ (i := 4) (N := some 62) (v := ?_) (a' := ?_) (bl 15 255) rfl rfl (by kernel_rfl) (fun _ _ _ h => h) (Or.inl ⟨by rfl, ?_⟩) hHeld ?_ ?_
          rotate_left
          · rintro w' ⟨s0, s1⟩
            go_simp
            with_reducible rfl
          rotate_left
          · simp only [Act.put, lsa, lsz, lsc, i64_w, i32_w]
            rfl
          refine take_ (i := 8) (N := some 66) (v := ?_) (a' := ?_) (bl 15 511) rfl rfl (by kernel_rfl) (fun _ _ _ h => h) (Or.inl ⟨by rfl, ?_⟩) hHeld ?_ ?_
          rotate_left
          · rintro w' ⟨s0, s1⟩
            go_simp
            with_reducible rfl
          rotate_left
          · simp only [Act.put, lsa, lsz, lsc, i64_w, i32_w]
            rfl
          refine pure_ (i := 9) (N := some 67) (v := ?_) (a' := ?_) (bl 15 1023) rfl rfl (by kernel_rfl) (fun _ _ _ h => h) (Or.inl ⟨by rfl, ?_⟩) ?_ ?_
          rotate_left
          · intro w'
            go_simp
            with_reducible rfl
          rotate_left
          · simp only [Act.put, lsa, lsz, lsc, i64_w, i32_w]
            rfl
          refine one_ (i := 10) (N := some 68) (bl 15 2047) rfl rfl (by kernel_rfl) (by decide) (fun K hK => ?_)
          refine value_ (w1 := ?_) (v := ?_) (by rfl) rfl ?_ ?_
          rotate_left 2
          · go_simp
            constructor
            · rfl
            · rfl
          refine hK.out _ _ ⟨pw_cell_below (below_alloc (Below.refl _ _) _) ze0, pw_cell_below (below_alloc (Below.refl _ _) _) ze1⟩ (fun hHeld => ?_)
          clear hK K
          refine norm_ (a' := ?_) ?_ ?_
          rotate_left
          · show Act.put _ (some 68) _ = _
            simp only [Act.put, lsa, lsz, lsc, i64_w, i32_w]
            rfl
          refine one_ (i := 11) (N := some 69) (bl 15 4095) rfl rfl (by kernel_rfl) (by decide) (fun K hK => ?_)
          rw [show (w7.alloc (.cells #[.int .i64 (i : Int), .int .i64 (k2 : Int), .int .i64 x.f2, .int .i64 0, .int .i64 0, .int .u64 0, .bool false] 96)).drew = w7.drew.alloc (.cells #[.int .i64 (i : Int), .int .i64 (k2 : Int), .int .i64 x.f2, .int .i64 0, .int .i64 0, .int .u64 0, .bool false] 96) from rfl]
          refine Kd.R_append_step kE (w0 := W) W.heap.size (by rfl) (.tmp 62) (.tmp 68) 74 96 (.agg #[(.int .i64 0), (.int .i64 0), (.int .i64 0), (.int .i64 0), (.int .i64 0), (.int .u64 0), (.bool false)]) 56 rfl Try.underlying74 info96 rfl (by decide) (by omega) ev2 (entsL 0 (gl.take i) ++ entsTo i x k2) (⟨(i : Int), (k2 : Int), x.f2, 0, 0, 0, false⟩) [.int .i64 (i : Int), .int .i64 (k2 : Int), .int .i64 x.f2, .int .i64 0, .int .i64 0, .int .u64 0, .bool false] (fun _ => True) (fun _ => False) rfl rfl ?bP (fun _ hk => hk.elim) ?bF ?bO ?bB ?bS ?bL ?_
          (case bP => exact rfl)
          (case bF => exact (fun _ _ => trivial))
          (case bO => exact Kd.R_drew HNw.out.E)
          (case bB => exact HNw.out.B.drew)
          (case bS => exact HNw.out.B.size)
          (case bL => have := HLn.out; omega)
          intro v9 w9 ho hb9 hg9 hat9
          obtain ⟨A9_1, n9_1, q9_1, e9_1⟩ : ∃ (A9_1 : Option Addr) (n9_1 q9_1 : Nat), v9 = .slice A9_1 n9_1 q9_1 := (by obtain ⟨A, c, e⟩ := Kd.R_slice ho; exact ⟨_, _, _, e⟩)
          subst e9_1
          have HNd := Aside0.mk (HNw.out.below HNw.out.B.size (below_drew (Below.refl _ _)))
          have HBd := Aside0.mk (BG7.out.below (below_drew (Below.refl _ _)))
          have BG9 := Aside0.mk (HBd.out.mut (below_mut0 hg9) (fun e => blk_own HNd.out.E HBd.out (by decide) _ e rfl))
          have HN9 := Aside0.mk (HNd.out.growE hg9 ho hb9)
          have HS9 := Aside0.mk (HNd.out.S.mut (below_mut0 hg9) (fun e => blk_own HNd.out.E HNd.out.S (by decide) _ e rfl))
          have zb9 : w9.cell? ⟨b, 5, none⟩ = some ev2 := HS9.out.cell rfl
          have zf9 : w9.frozen? ⟨b, 5, none⟩ = false := HS9.out.frozen _
          have zg2 : w9.cell? ⟨gb, 2, none⟩ = some (.int .i64 x.f2) := BG9.out.cell rfl
          clear ho hb9 hg9 hat9
          refine hK.out _ _ ⟨zb9, zg2⟩ (fun hHeld => ?_)
          clear hK K
          refine norm_ (a' := ?_) ?_ ?_
          rotate_left
          · show Act.put _ (some 69) _ = _
            simp only [Act.put, lsa, lsz, lsc, i64_w, i32_w]
            rfl
          refine pure_ (i := 12) (N := some 70) (v := ?_) (a' := ?_) (bl 15 8191) rfl rfl (by kernel_rfl) (fun _ _ _ h => h) (Or.inl ⟨by rfl, ?_⟩) ?_ ?_
          rotate_left
          · intro w'
            go_simp
            with_reducible rfl
          rotate_left
          · simp only [Act.put, lsa, lsz, lsc, i64_w, i32_w]
            rfl
          refine pure_ (i := 13) (N := some 71) (v := ?_) (a' := ?_) (bl 15 16383) rfl rfl (by kernel_rfl) (fun _ _ _ h => h) (Or.inl ⟨by rfl, ?_⟩) ?_ ?_
          rotate_left
          · intro w'
            go_simp
            with_reducible rfl
          rotate_left
          · simp only [Act.put, lsa, lsz, lsc, i64_w, i32_w]
            rfl
          refine last_ (i := 14) (N := none) (bl 15 32767) rfl rfl (by kernel_rfl) (by decide) (fun K hK => ?_)
          refine skip_ (w1 := ?_) (by rfl) rfl ?_ ?_
          rotate_left
          · go_simp
            rfl
          refine hK.out _ _ ?_
          clear hK K
          refine done_ (by kernel_rfl) ?_
          have HNe := Aside0.mk (show NW W.heap.size W (w9.setCell ⟨b, 5, none⟩ (.slice A9_1 n9_1 q9_1)) ⟨b, bt, bc, m, S, P, cr, gl.length⟩ (.slice A9 n9 q9) (.slice A9_1 n9_1 q9_1) (guestsL (gl.take (i + 1))) (entsL 0 (gl.take i) ++ entsTo i x (k2 + 1)) by
            rw [entsTo_succ, ← List.append_assoc]; exact HN9.out)
          have HGe := Aside0.mk (show Blk (w9.setCell ⟨b, 5, none⟩ (.slice A9_1 n9_1 q9_1)) gb 94 [.int .i64 (fv : Int), .int .i64 x.f1, .int .i64 x.f2, .slice A3 x.f3.length c3, .slice A4 x.f4.length c4, .slice A5 x.f5.length c5, .bool x.f6] from BG9.out.mut (set_mut _ _ _) (fun e => BG9.out.ne HS9.out (by decide) e))
          clear hHeld HN9 BG9 HS9 zb9 zf9 zg2 ze0 ze1 HBd HNd HNw BG7
          go_wp2
          go_roundw
          case rel => exact ⟨k2 + 1, .slice A9_1 n9_1 q9_1, by go_num, by omega, HNe, HGe⟩
          case measure => simp [intOf]; omega
        · obtain rfl : k2 = fv := by omega
          have HNe := Aside0.mk (show NW W.heap.size W wr ⟨b, bt, bc, m, S, P, cr, gl.length⟩ (.slice A9 n9 q9) ev2 (guestsL (gl.take (i + 1))) (entsL 0 (gl.take (i + 1))) by
            rw [entsL_take gl 0 i x HX.out, Nat.zero_add, HFV.out]; exact HNw.out)
          clear HNw BG7
          go_wp2
          go_roundw
          case rel => exact ⟨i + 1, .slice A9 n9 q9, ev2, by go_num, by omega, HNe⟩
          case measure => simp [intOf]; omega
    · obtain rfl : i = gl.length := by omega
      have HNN := Aside0.mk (show NW W.heap.size W wr ⟨b, bt, bc, m, S, P, cr, gl.length⟩ gv ev (guestsL gl) (entsL 0 gl) by have := HN.out; rwa [List.take_length] at this)
      obtain ⟨bg, be, cg, ce, hs0, hown0⟩ := nw_sr0 HNN.out HK.out
      have c6 : wr.cell? ⟨b, 6, none⟩ = some (.slice (some ⟨bt, 0, none⟩) m m) := HNN.out.S.cell rfl
      have HP0 := Aside0.mk (show PH wr (fun k => k = b ∨ k = bg ∨ k = be ∨ k = bt ∨ k = bc) ⟨b, bg, be, bt, bc, 0, cg, ce, 0, List.replicate m (.slice none 0 0), .nilFunc⟩ (sT m S P cr gl 0) 0 from .inl ⟨by rw [sT_first]; exact hs0, rfl⟩)
      have HO0 := Aside0.mk hown0
      have HB0 := Aside0.mk HNN.out.B
      have HQ0 := Aside0.mk (show ∀ i, 0 ≤ i → i < m → (List.replicate m (Value.slice none 0 0))[i]? = some (.slice none 0 0) from fun i _ hi => by rw [List.getElem?_replicate, if_pos hi])
      have hm1 := HK.out.m1
      have HGE := Aside0.mk (show W.heap.size ≤ b ∧ W.heap.size ≤ bt from ⟨HNN.out.ge.1, HNN.out.ge.2.1⟩)
      have hm8 := HK.out.m8
      clear HN HNN hs0 hown0
      go_upto_region 15 with (fail)
      clear c6
      go_loopw [79] (fun v79 w' => ∃ (h bh ch : Nat) (qs : List Value) (own : Nat → Prop), v79 = .int .i64 (h : Int) ∧ h ≤ m ∧ Aside0 (PH w' own ⟨b, bg, be, bt, bc, bh, cg, ce, ch, qs, .nilFunc⟩ (sT m S P cr gl h) h) ∧ Aside0 (∀ i, h ≤ i → i < m → qs[i]? = some (.slice none 0 0)) ∧ Aside0 (∀ k, own k → W.heap.size ≤ k) ∧ Aside0 (Below W.heap.size W w')) (fun v79 _ => m - (intOf v79).toNat)
      case atStart => exact ⟨0, 0, 0, _, _, rfl, by omega, HP0, HQ0, HO0, HB0⟩
      case round =>
        obtain ⟨h, bh, ch, qs, own, rfl, hh, HP, HQ, HO, HB⟩ := hrel
        clear HP0 HQ0 HO0 HB0
        by_cases hlt : h < m
        · have HPd := Aside0.mk (HP.out.below (below_drew (Below.refl _ _)))
          have ze0 : wr.drew.cell? ⟨b, 6, none⟩ = some (.slice (some ⟨bt, 0, none⟩) m m) := ph_fld6 HPd.out (by rw [show (sT m S P cr gl h).ts.length = m from turns_len _ _ _ hh])
          go_upto_region 17 with (fail)
          have HN64 := Aside0.mk (show (sT m S P cr gl h).es.length ≤ 64 from HK.out.e)
          have HG8 := Aside0.mk (show (sT m S P cr gl h).gs.length ≤ 8 by show (guestsL gl).length ≤ 8; rw [guestsL_len]; exact HK.out.g8)
          have HEG := Aside0.mk (show ∀ i, i < (sT m S P cr gl h).es.length → 0 ≤ ((sT m S P cr gl h).ent i).gu ∧ ((sT m S P cr gl h).ent i).gu < (sT m S P cr gl h).gs.length from fun i hi => ⟨((newS1_wf (cr := cr) HK.out).eg i hi).1, ((newS1_wf (cr := cr) HK.out).eg i hi).2.1⟩)
          have HTL := Aside0.mk (show (sT m S P cr gl h).ts.length = m from turns_len _ _ _ hh)
          have HQh := Aside0.mk (HQ.out h (Nat.le_refl _) hlt)
          refine start_ (n := 11) (S := fun w' => w'.cell? ⟨b, 6, none⟩ = some (.slice (some ⟨bt, 0, none⟩) m m)) (ds := [10]) (bl 11 0) (by kernel_rfl) rfl rfl (ze0) (fun hHeld => ?_)
          refine pure_ (i := 0) (N := some 82) (v := ?_) (a' := ?_) (bl 11 1) rfl rfl (by kernel_rfl) (fun _ _ _ h => h) (Or.inl ⟨by rfl, ?_⟩) ?_ ?_
          rotate_left
          · intro w'
            go_simp
            with_reducible rfl
          rotate_left
          · simp only [Act.put, lsa, lsz, lsc, i64_w, i32_w]
            rfl
          refine pure_ (i := 1) (N := some 83) (v := ?_) (a' := ?_) (bl 11 3) rfl rfl (by kernel_rfl) (fun _ _ _ h => h) (Or.inl ⟨by rfl, ?_⟩) ?_ ?_
          rotate_left
          · intro w'
            go_simp
            with_reducible rfl
          rotate_left
          · simp only [Act.put, lsa, lsz, lsc, i64_w, i32_w]
            rfl
          refine pure_ (i := 2) (N := some 84) (v := ?_) (a' := ?_) (bl 11 7) rfl rfl (by kernel_rfl) (fun _ _ _ h => h) (Or.inl ⟨by rfl, ?_⟩) ?_ ?_
          rotate_left
          · intro w'
            go_simp
            with_reducible rfl
          rotate_left
          · simp only [Act.put, lsa, lsz, lsc, i64_w, i32_w]
            rfl
          refine pure_ (i := 4) (N := some 86) (v := ?_) (a' := ?_) (bl 11 23) rfl rfl (by kernel_rfl) (fun _ _ _ h => h) (Or.inl ⟨by rfl, ?_⟩) ?_ ?_
          rotate_left
          · intro w'
            go_simp
            with_reducible rfl
          rotate_left
          · simp only [Act.put, lsa, lsz, lsc, i64_w, i32_w]
            rfl
          refine pure_ (i := 5) (N := some 87) (v := ?_) (a' := ?_) (bl 11 55) rfl rfl (by kernel_rfl) (fun _ _ _ h => h) (Or.inl ⟨by rfl, ?_⟩) ?_ ?_
          rotate_left
          · intro w'
            go_simp
            with_reducible rfl
          rotate_left
          · simp only [Act.put, lsa, lsz, lsc, i64_w, i32_w]
            rfl
          refine pure_ (i := 6) (N := some 88) (v := ?_) (a' := ?_) (bl 11 119) rfl rfl (by kernel_rfl) (fun _ _ _ h => h) (Or.inl ⟨by rfl, ?_⟩) ?_ ?_
          rotate_left
          · intro w'
            go_simp
            with_reducible rfl
          rotate_left
          · simp only [Act.put, lsa, lsz, lsc, i64_w, i32_w]
            rfl
          refine take_ (i := 3) (N := some 85) (v := ?_) (a' := ?_) (bl 11 127) rfl rfl (by kernel_rfl) (fun _ _ _ h => h) (Or.inl ⟨by rfl, ?_⟩) hHeld ?_ ?_
          rotate_left
          · intro w' s0
            go_simp
            with_reducible rfl
          rotate_left
          · simp only [Act.put, lsa, lsz, lsc, i64_w, i32_w]
            rfl
          refine one_ (i := 7) (N := some 89) (bl 11 255) rfl rfl (by kernel_rfl) (by decide) (fun K hK => ?_)
          refine goes_ Try.func37 (by kernel_rfl) rfl #[.pointer (some ⟨b, 0, none⟩), .int .i64 (h : Int)] (by rfl) rfl rfl (by simp only [List.map_toArray, List.map_cons, List.map_nil]; rfl) ?_
          refine (plain_of (homes_any HPd.out) HN64.out HG8.out HEG.out (h : Int)).mono ?_
          rintro e w4 ⟨v, g, cap, w1x, rfl, hs, ⟨hm, hg⟩, hr, hbl⟩
          refine ⟨_, rfl, ?_⟩
          obtain ⟨Av, cv, ev⟩ := Kd.R_slice hr
          subst ev
          have HS1 := Aside0.mk hs
          have HM1 := Aside0.mk hm
          have HG1 := Aside0.mk hg
          have HR1 := Aside0.mk hr
          have HL1 := Aside0.mk hbl
          clear hs hm hg hr hbl
          have z6 : w4.cell? ⟨b, 6, none⟩ = some (.slice (some ⟨bt, 0, none⟩) m m) := ph_fld6 (.inr (HS1.out.below HL1.out) : PH w4 _ _ _ 0) HTL.out
          have zt0 : w4.cell? ⟨bt, h * 3, none⟩ = some (.slice none 0 0) := (HS1.out.below HL1.out).trn h 0 (by rw [HTL.out]; exact hlt) (by decide) HQh.out rfl
          have zt1 : w4.cell? ⟨bt, h * 3 + 1, none⟩ = some (.int .i64 ((sT m S P cr gl h).trn h).cu) := (HS1.out.below HL1.out).trn h 1 (by rw [HTL.out]; exact hlt) (by decide) HQh.out rfl
          have zt2 : w4.cell? ⟨bt, h * 3 + 2, none⟩ = some (.int .i64 ((sT m S P cr gl h).trn h).us) := (HS1.out.below HL1.out).trn h 2 (by rw [HTL.out]; exact hlt) (by decide) HQh.out rfl
          have zf0 : w4.frozen? ⟨bt, h * 3, none⟩ = false := (HS1.out.below HL1.out).T.frozen _
          have zf1 : w4.frozen? ⟨bt, h * 3 + 1, none⟩ = false := (HS1.out.below HL1.out).T.frozen _
          have zf2 : w4.frozen? ⟨bt, h * 3 + 2, none⟩ = false := (HS1.out.below HL1.out).T.frozen _
          refine hK.out _ _ (z6) (fun hHeld => ?_)
          clear hK K
          refine norm_ (a' := ?_) ?_ ?_
          rotate_left
          · show Act.put _ (some 89) _ = _
            simp only [Act.put, lsa, lsz, lsc, i64_w, i32_w]
            rfl
          refine pure_ (i := 8) (N := some 90) (v := ?_) (a' := ?_) (bl 11 511) rfl rfl (by kernel_rfl) (fun _ _ _ h => h) (Or.inl ⟨by rfl, ?_⟩) ?_ ?_
          rotate_left
          · intro w'
            go_simp
            with_reducible rfl
          rotate_left
          · simp only [Act.put, lsa, lsz, lsc, i64_w, i32_w]
            rfl
          refine pure_ (i := 9) (N := some 91) (v := ?_) (a' := ?_) (bl 11 1023) rfl rfl (by kernel_rfl) (fun _ _ _ h => h) (Or.inl ⟨by rfl, ?_⟩) ?_ ?_
          rotate_left
          · intro w'
            go_simp
            with_reducible rfl
          rotate_left
          · simp only [Act.put, lsa, lsz, lsc, i64_w, i32_w]
            rfl
          refine last_ (i := 10) (N := none) (bl 11 2047) rfl rfl (by kernel_rfl) (by decide) (fun K hK => ?_)
          refine skip_ (w1 := ?_) (by rfl) rfl ?_ ?_
          rotate_left
          · go_simp
            rfl
          refine hK.out _ _ ?_
          clear hK K
          refine done_ (by kernel_rfl) ?_
          have HSf := Aside0.mk (turn_put HS1.out hlt HQh.out HR1.out HL1.out)
          have HOf := Aside0.mk (show ∀ k, ((own k ∨ k = g) ∨ (Value.slice Av (plainL (sT m S P cr gl h) h).length cv).ownBlock = some k) → W.heap.size ≤ k from fun k hk => by
            have h1 := HB.out.size
            have h2 : wr.heap.size ≤ w1x.heap.size := HM1.out.size
            rcases hk with (hk | rfl) | hk
            · exact HO.out k hk
            · rcases HG1.out with h | h
              · exact HO.out _ h
              · exact Nat.le_trans h1 h
            · exact Nat.le_trans h1 (Nat.le_trans h2 (Kd.R_base HR1.out k hk)))
          have HBf := Aside0.mk ((((HB.out.drew.trans (HM1.out.to_below HB.out.size (fun k hk => by rw [hk]; exact HGE.out.1))).trans (HL1.out.mono (Nat.le_trans HB.out.size HM1.out.size))).setCell (p := ⟨bt, h * 3, none⟩) HGE.out.2 (.slice Av (plainL (sT m S P cr gl h) h).length cv)).setCell (p := ⟨bt, h * 3 + 1, none⟩) HGE.out.2 (.int .i64 (-1)) |>.setCell (p := ⟨bt, h * 3 + 2, none⟩) HGE.out.2 (.int .i64 0))
          have HQf := Aside0.mk (show ∀ i, h + 1 ≤ i → i < m → (qs.set h (.slice Av (plainL (sT m S P cr gl h) h).length cv))[i]? = some (.slice none 0 0) from fun i h1 h2 => by rw [List.getElem?_set_ne (by omega)]; exact HQ.out i (by omega) h2)
          clear ze0 z6 zt0 zt1 zt2 zf0 zf1 zf2 hHeld HS1 HM1 HG1 HR1 HL1 HP HPd HQ HO HB HQh HN64 HG8 HEG HTL
          go_wp2
          go_roundw
          case rel => exact ⟨h + 1, g, cap, qs.set h (.slice Av (plainL (sT m S P cr gl h) h).length cv), _, by go_num, by omega, ⟨.inr HSf.out⟩, HQf, HOf, HBf⟩
          case measure => simp [intOf]; omega
        · obtain rfl : h = m := by omega
          have HS := Aside0.mk (show SR wr own ⟨b, bg, be, bt, bc, bh, cg, ce, ch, qs, .nilFunc⟩ (newS1 h S P cr gl) by
            rcases HP.out with ⟨_, h0⟩ | h1
            · omega
            · rwa [sT_last] at h1)
          have c10 : wr.cell? ⟨b, 10, none⟩ = some .nilFunc := HS.out.fld 10 rfl
          have f10 : wr.frozen? ⟨b, 10, none⟩ = false := HS.out.S.frozen _
          have c3 : wr.cell? ⟨b, 3, none⟩ = some (.bool cr) := HS.out.fld 3 rfl
          clear HP HQ
          cases cr with
          | false =>
            go_wp2
            go_ret2
            exact ⟨_, own, rfl, HS.out.putP _, rfl, HO.out, HB.out.setCell HGE.out.1 _⟩
          | true =>
            go_wp2_with (go_at_call 40; refine (give_calls ((HS.out.putP _).putP _) (newS1_wf HK.out)).mono ?_; rintro e w9 ⟨rfl, hs9, hm9⟩; have HS9 := Aside0.mk hs9; have HM9 := Aside0.mk hm9; clear hs9 hm9)
            go_ret2
            exact ⟨_, own, rfl, HS9.out, new_pick HK.out, HO.out, ((HB.out.setCell (p := ⟨b, 10, none⟩) HGE.out.1 _).setCell (p := ⟨b, 10, none⟩) HGE.out.1 _).trans (HM9.out.to_below (by simp [World.setCell]; exact HB.out.size) (fun k hk => HO.out k hk))⟩

end Go.Proofs.Ytdaadmjppikebaa.SC
