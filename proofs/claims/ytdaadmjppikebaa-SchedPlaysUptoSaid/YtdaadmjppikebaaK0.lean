/- Parts of the walk of package sched, merged. -/
/- Sched as plain numbers and lists: what each function answers and makes of the state. -/
import Derived.Test.YtdaadmjppikebaaProg
import Derived.Below
import Derived.Deep.Draws
import Derived.Deep.AppendLies
import Derived.Maps.AppendAt
import Derived.OwnWalk
import Derived.Laws.BytesArg
import Derived.Laws.MakeOwn
import Derived.Laws.OwnMore
import Derived.Deep.OwnRows
import Derived.Tactics
import Derived.Laws.Slices
import Derived.WalkKit
import Derived.KernelRfl
import Derived.RowKit3
import Derived.Deep.LoopGhost
import Derived.Deep.QuietTactic
import Derived.BigQuiet
import Derived.WideLaws
import Derived.Deep.DeepCutAuto
import Derived.Deep.CutBlock
import Derived.Deep.RegionHeld3
import Derived.Laws.Rows
import Derived.ArgAppend
import Derived.OrdersHeld
import Derived.RowKit
import Derived.Test.YtdaadmjppikebaaWMore
namespace Go.Proofs.Ytdaadmjppikebaa.SC
structure SG where
  v : Int
  w : Int
  g : Bool
structure SE where
  gu : Int
  ix : Int
  wt : Int
  cd : Int
  pt : Int
  rn : Int
  gn : Bool
structure ST where
  q : List Int
  cu : Int
  us : Int
structure SS where
  H : Int
  S : Int
  P : Int
  cr : Bool
  gs : List SG
  es : List SE
  ts : List ST
  now : Int
  sh : Int
  ch : List Int
def g0 : SG := ⟨0, 0, false⟩
def e0 : SE := ⟨0, 0, 0, 0, 0, 0, false⟩
def t0 : ST := ⟨[], 0, 0⟩
def SS.ent (s : SS) (i : Nat) : SE := s.es.getD i e0
def SS.gst (s : SS) (i : Nat) : SG := s.gs.getD i g0
def SS.trn (s : SS) (i : Nat) : ST := s.ts.getD i t0
/-- Is the entity one of a gang? -/
def SS.gng (s : SS) (i : Nat) : Bool := (s.gst (s.ent i).gu.toNat).g
def homeOf (s : SS) (i : Nat) : Int := if s.gng i = true then (s.ent i).ix else (i : Int) % s.H
def homesL (s : SS) : List Int := (List.range s.es.length).map (homeOf s)
def plainP (s : SS) (h : Int) (i : Nat) : Bool := homeOf s i == h && !s.gng i
def plainTo (s : SS) (h : Int) (k : Nat) : List Int := ((List.range k).filter (plainP s h)).map (fun i : Nat => (i : Int))
def plainL (s : SS) (h : Int) : List Int := plainTo s h s.es.length
/-- From the guests that are left: whose slot it is, `at` ticks from here. -/
def gangGo : List SG → Nat → Int → Int
  | [], _, _ => -1
  | g :: r, i, at_ => if g.g = true then (if at_ < g.w then (i : Int) else gangGo r (i + 1) (at_ - g.w)) else gangGo r (i + 1) at_
def gangF (s : SS) : Int := gangGo s.gs 0 (s.now % s.P)
def ticksGo : List SG → Int → Int
  | [], n => n
  | g :: r, n => ticksGo r (if g.g = true then n - g.w else n)
def ticksF (s : SS) : Int := ticksGo s.gs s.P
def limitF (s : SS) : Int := ticksF s + 128
def readyF (s : SS) (rd : List Bool) (e : Int) : Bool := decide (e < rd.length) && rd.getD e.toNat false && !(s.ent e.toNat).gn
def firstGo (p : Nat → Bool) : Nat → Nat → Int
  | 0, _ => -1
  | f + 1, k => if p k = true then (k : Int) else firstGo p f (k + 1)
def ofGangP (s : SS) (g h : Int) (rd : List Bool) (k : Nat) : Bool := (s.ent k).gu == g && (s.ent k).ix == h && readyF s rd k
def ofGangF (s : SS) (g h : Int) (rd : List Bool) : Int := firstGo (ofGangP s g h rd) s.es.length 0
def whoseF (s : SS) (h : Int) : Int := if (plainL s h).length = 0 then -1 else (plainL s h).getD (s.sh / s.S % (plainL s h).length).toNat 0
def byTurnF (s : SS) (h : Int) (rd : List Bool) : Int := if 0 ≤ whoseF s h ∧ readyF s rd (whoseF s h) = true then whoseF s h else -1
def SS.modE (s : SS) (i : Nat) (f : SE → SE) : SS := { s with es := s.es.modify i f }
def SS.modT (s : SS) (i : Nat) (f : ST → ST) : SS := { s with ts := s.ts.modify i f }
def SS.modC (s : SS) (i : Nat) (f : Int → Int) : SS := { s with ch := s.ch.modify i f }
def richF (s : SS) (rd : List Bool) (e : Int) : Bool := readyF s rd e && decide (0 < (s.ent e.toNat).cd)
/-- From a queue: the first that may run. -/
def findQ (s : SS) (rd : List Bool) (some_ : Bool) : List Int → Int
  | [] => -1
  | e :: r => if (richF s rd e || (!some_ && readyF s rd e)) = true then e else findQ s rd some_ r
def someF (s : SS) (h : Nat) (rd : List Bool) : Bool := (s.trn h).q.any (richF s rd)
/-- Does the current one go on? -/
def goesOn (s : SS) (h : Nat) (rd : List Bool) : Bool := readyF s rd (s.trn h).cu && decide ((s.trn h).us < s.S) && (richF s rd (s.trn h).cu || !someF s h rd)
def backF (t : ST) : ST := { t with q := (t.q.filter fun x => x != t.cu) ++ [t.cu], cu := -1 }
def creditF2 (s : SS) (h : Nat) (rd : List Bool) (sm : Bool) : Int × SS :=
  if findQ s rd sm (s.trn h).q = -1 then (-1, s) else (findQ s rd sm (s.trn h).q, s.modT h fun t => { t with cu := findQ s rd sm (s.trn h).q, us := 0 })
def byCreditF (s : SS) (h : Nat) (rd : List Bool) : Int × SS :=
  if 0 ≤ (s.trn h).cu then
    if goesOn s h rd = true then ((s.trn h).cu, s) else creditF2 (s.modT h backF) h rd (someF s h rd)
  else creditF2 s h rd (someF s h rd)
def pickF (s : SS) (h : Int) (rd : List Bool) : Int × SS :=
  if h < 0 ∨ s.H ≤ h then (-1, s)
  else if 0 ≤ gangF s then (ofGangF s (gangF s) h rd, s)
  else if s.cr = true then byCreditF s h.toNat rd else (byTurnF s h rd, s)
def giveUp (T lim sum : Int) (x : SE) : SE := { x with cd := min (x.cd + (x.pt + T * x.wt) / sum) lim, pt := (x.pt + T * x.wt) % sum }
def sumGo (s : SS) : List Int → Int → Int
  | [], n => n
  | e :: r, n => sumGo s r (if (s.ent e.toNat).gn = true then n else n + (s.ent e.toNat).wt)
def giveGo (sum : Int) : List Int → SS → SS
  | [], s => s
  | e :: r, s => giveGo sum r (if (s.ent e.toNat).gn = true then s else s.modE e.toNat (giveUp (ticksF s) (limitF s) sum))
def giveH (s : SS) (h : Int) : SS := giveGo (sumGo s (plainL s h) 0) (plainL s h) s
/-- The harts from h on, f of them. -/
def giveFrom : Nat → Nat → SS → SS
  | 0, _, s => s
  | f + 1, h, s => giveFrom f (h + 1) (giveH s (h : Int))
def giveF (s : SS) : SS := giveFrom s.H.toNat 0 s
/-- One hart's tick: what was picked is charged and has run. -/
def chargeF (s : SS) (g : Int) (h : Nat) (e : Int) : SS :=
  if 0 ≤ g then s.modC g.toNat (· + 1)
  else if 0 ≤ e then s.modC (s.ent e.toNat).gu.toNat (· + 1)
  else if s.cr = false ∧ 0 ≤ whoseF s h then s.modC (s.ent (whoseF s h).toNat).gu.toNat (· + 1)
  else s
def ranF (s : SS) (g : Int) (h : Nat) (e : Int) : SS :=
  if e < 0 then s
  else if s.cr = true ∧ g < 0 then ((s.modE e.toNat fun x => { x with rn := x.rn + 1, cd := max (x.cd - 1) (-limitF s) }).modT h fun t => { t with us := t.us + 1 })
  else s.modE e.toNat fun x => { x with rn := x.rn + 1 }
def tickH (s : SS) (g : Int) (h : Nat) (rd : List Bool) : SS :=
  ranF (chargeF (pickF s h rd).2 g h (pickF s h rd).1) g h (pickF s h rd).1
def tickFrom (g : Int) (rd : List Bool) : Nat → Nat → SS → SS
  | 0, _, s => s
  | f + 1, h, s => tickFrom g rd f (h + 1) (tickH s g h rd)
def tickE (s : SS) (g : Int) : SS := { s with sh := if g < 0 then s.sh + 1 else s.sh, now := s.now + 1 }
def tickF (s : SS) (rd : List Bool) : SS :=
  let u := tickE (tickFrom (gangF s) rd s.H.toNat 0 s) (gangF s)
  if u.now % u.P = 0 ∧ u.cr = true then giveF u else u
end Go.Proofs.Ytdaadmjppikebaa.SC

/- The scheduler in memory: blocks by what their first cells are; what a call may turn. -/
namespace Go.Proofs.Ytdaadmjppikebaa.SC
open Go.RowKit Go.Proofs.YtdaadmjppikebaaW.PrintWords
set_option linter.unusedVariables false

/-- Block g is of the type t; its first cells are cs. -/
def Blk (W : World) (g t : Nat) (cs : List Value) : Prop := ∃ cells : Array Value, W.heap[g]? = some (.cells cells t (0, 0)) ∧ ∀ (i : Nat) (v : Value), cs[i]? = some v → cells[i]? = some v
section
variable {W W' : World} {g t : Nat} {cs : List Value}
theorem Blk.lt (h : Blk W g t cs) : g < W.heap.size := by obtain ⟨c, h1, _⟩ := h; exact blk_lt h1
theorem Blk.cell (h : Blk W g t cs) {i : Nat} {v : Value} (hi : cs[i]? = some v) : W.cell? ⟨g, i, none⟩ = some v := by
  obtain ⟨c, h1, h2⟩ := h; exact (blk_cell h1 i).trans (h2 i v hi)
theorem Blk.frozen (h : Blk W g t cs) (i : Nat) : W.frozen? ⟨g, i, none⟩ = false := by obtain ⟨c, h1, _⟩ := h; exact blk_frozen h1 i
theorem Blk.of_heap (h : Blk W g t cs) (e : W'.heap[g]? = W.heap[g]?) : Blk W' g t cs := by obtain ⟨c, h1, h2⟩ := h; exact ⟨c, e.trans h1, h2⟩
theorem Blk.below (h : Blk W g t cs) (hb : Below W.heap.size W W') : Blk W' g t cs := h.of_heap (hb.block g h.lt)
theorem Blk.set (h : Blk W g t cs) (i : Nat) (u : Value) : Blk (W.setCell ⟨g, i, none⟩ u) g t (cs.set i u) := by
  obtain ⟨c, h1, h2⟩ := h
  refine ⟨_, blk_set h1 i u, fun j v hj => ?_⟩
  by_cases e : i = j
  · subst e
    have hl : i < cs.length := by
      rcases Nat.lt_or_ge i cs.length with q | q
      · exact q
      · rw [List.getElem?_eq_none (by simpa using q)] at hj; cases hj
    rw [List.getElem?_set_self hl] at hj
    have hc := h2 i _ (List.getElem?_eq_getElem hl)
    have hlt : i < c.size := (Array.getElem?_eq_some_iff.1 hc).1
    rw [Array.getElem?_setIfInBounds_self_of_lt hlt]
    exact hj
  · rw [List.getElem?_set_ne e] at hj
    rw [Array.getElem?_setIfInBounds_ne e]
    exact h2 j v hj
theorem Blk.ne {g' t' : Nat} {cs' : List Value} (h : Blk W g t cs) (h' : Blk W g' t' cs') (ht : t ≠ t') : g ≠ g' := by
  rintro rfl
  obtain ⟨c, h1, _⟩ := h
  obtain ⟨c', h1', _⟩ := h'
  rw [h1] at h1'
  injection h1' with e
  injection e with e1 e2 e3
  exact ht e2
theorem Blk.imp (h : Blk W g t cs) {cs' : List Value} (hi : ∀ (i : Nat) (v : Value), cs'[i]? = some v → cs[i]? = some v) : Blk W g t cs' := by
  obtain ⟨c, h1, h2⟩ := h; exact ⟨c, h1, fun i v hv => h2 i v (hi i v hv)⟩
theorem Blk.new (W : World) (t : Nat) (cs : List Value) : Blk (W.alloc (.cells cs.toArray t (0, 0))) W.heap.size t cs := ⟨cs.toArray, blk_new _ _, fun i v h => by simpa using h⟩
end

/-- A row of bools, by its bits. -/
def blGo : Nat → Nat → List Bool
  | 0, _ => []
  | n + 1, m => (m % 2 == 1) :: blGo n (m / 2)
def bl (n m : Nat) : Array Bool := (blGo n m).toArray
theorem lsa {α : Type _} (l : List α) (i : Nat) (a : α) : l.toArray.setIfInBounds i a = (l.set i a).toArray := List.setIfInBounds_toArray ..
theorem lsz {α : Type _} (a b : α) (l : List α) : (a :: l).set 0 b = b :: l := rfl
theorem lsc {α : Type _} (a b : α) (l : List α) (n : Nat) : (a :: l).set (n + 1) b = a :: l.set n b := rfl
/-- What a call turns of what there was: blocks of S alone. -/
structure Mut (S : Nat → Prop) (W W' : World) : Prop where
  os : W'.os = W.os
  tape : W'.tape = W.tape
  output : W'.output = W.output
  size : W.heap.size ≤ W'.heap.size
  block : ∀ i, i < W.heap.size → ¬ S i → W'.heap[i]? = W.heap[i]?
section
variable {W W1 W2 : World} {S S2 : Nat → Prop}
theorem Mut.refl (S : Nat → Prop) (W : World) : Mut S W W := ⟨rfl, rfl, rfl, Nat.le_refl _, fun _ _ _ => rfl⟩
theorem Mut.of_below (h : Below W.heap.size W W1) (S : Nat → Prop) : Mut S W W1 := ⟨h.os, h.tape, h.output, h.size, fun i hi _ => h.block i hi⟩
theorem Mut.mono (h : Mut S W W1) (hs : ∀ k, S k → S2 k) : Mut S2 W W1 := ⟨h.os, h.tape, h.output, h.size, fun i hi hn => h.block i hi (fun hk => hn (hs i hk))⟩
theorem Mut.trans (h : Mut S W W1) (k : Mut S2 W1 W2) (hs : ∀ k, S2 k → S k ∨ W.heap.size ≤ k) : Mut S W W2 :=
  ⟨k.os.trans h.os, k.tape.trans h.tape, k.output.trans h.output, Nat.le_trans h.size k.size, fun i hi hn => (k.block i (Nat.lt_of_lt_of_le hi h.size) (fun h2 => (hs i h2).elim hn (fun h3 => by omega))).trans (h.block i hi hn)⟩
theorem Mut.below (h : Mut S W W1) (hb : Below W1.heap.size W1 W2) : Mut S W W2 := h.trans (Mut.of_below hb (fun _ => False)) (fun _ hk => hk.elim)
theorem Mut.setCell (h : Mut S W W1) {p : Addr} (hp : S p.block ∨ W.heap.size ≤ p.block) (u : Value) : Mut S W (W1.setCell p u) :=
  h.trans (S2 := fun k => k = p.block) ⟨rfl, rfl, rfl, by simp [World.setCell], fun i _ hn => Below.heap_setCell W1 p u i hn⟩ (fun k hk => by rw [hk]; exact hp)
theorem Mut.grown {row : Option Nat} (h : Mut S W W1) (hg : W1.grownBy W2 row) (hr : ∀ k, row = some k → S k ∨ W.heap.size ≤ k) : Mut S W W2 :=
  h.trans (S2 := fun k => row = some k) ⟨hg.os, hg.tape, hg.output, hg.size, fun i hi hn => hg.block i hi (fun he => hn he.symm)⟩ hr
/-- As seen from an elder world. -/
theorem Mut.to_below {B : Nat} (h : Mut S W W1) (hB : B ≤ W.heap.size) (hs : ∀ k, S k → B ≤ k) : Below B W W1 := ⟨h.os, h.tape, h.output, h.size, fun i hi => h.block i (by omega) (fun hk => by have := hs i hk; omega)⟩
theorem Mut.kept (h : Mut S W W1) : Kept W W1 S := ⟨h.size, h.block⟩
end
theorem Blk.mut {W W' : World} {g t : Nat} {cs : List Value} {S : Nat → Prop} (h : Blk W g t cs) (hm : Mut S W W') (hn : ¬ S g) : Blk W' g t cs := h.of_heap (hm.block g h.lt hn)

def entC (x : SE) : List Value := [.int .i64 x.gu, .int .i64 x.ix, .int .i64 x.wt, .int .i64 x.cd, .int .i64 x.pt, .int .u64 x.rn, .bool x.gn]
def gstC (g : SG) : List Value := [.int .i64 g.v, .int .i64 0, .int .i64 g.w, .slice none 0 0, .slice none 0 0, .slice none 0 0, .bool g.g]
def trnC (x : Value × ST) : List Value := [x.1, .int .i64 x.2.cu, .int .i64 x.2.us]
structure Lay where
  b : Nat
  bg : Nat
  be : Nat
  bt : Nat
  bc : Nat
  bh : Nat
  cg : Nat
  ce : Nat
  ch : Nat
  qs : List Value
  pv : Value
def pickV (L : Lay) (s : SS) : Value := .func (.func (cond s.cr 39 38)) #[.pointer (some ⟨L.b, 0, none⟩)] #[]
def schC (L : Lay) (s : SS) : List Value := [.int .i64 s.H, .int .i64 s.S, .int .i64 s.P, .bool s.cr, .slice (some ⟨L.bg, 0, none⟩) s.gs.length L.cg, .slice (some ⟨L.be, 0, none⟩) s.es.length L.ce, .slice (some ⟨L.bt, 0, none⟩) s.ts.length s.ts.length, .int .u64 s.now, .int .u64 s.sh, .slice (some ⟨L.bc, 0, none⟩) s.ch.length s.ch.length, L.pv, .int .u32 1, .int .i32 0, .int .u32 0, .slice (some ⟨L.bh, 0, none⟩) s.es.length L.ch]
/-- What is fixed of a scheduler's state, and bounds that hold of any. -/
structure Wf (s : SS) : Prop where
  H1 : 1 ≤ s.H
  H8 : s.H ≤ 8
  S1 : 1 ≤ s.S
  S2 : s.S ≤ 1000
  P1 : 1 ≤ s.P
  P2 : s.P ≤ 10000
  gn : 1 ≤ s.gs.length
  gm : s.gs.length ≤ 8
  en : 1 ≤ s.es.length
  em : s.es.length ≤ 64
  tn : (s.ts.length : Int) = s.H
  cn : s.ch.length = s.gs.length
  eg : ∀ i, i < s.es.length → 0 ≤ (s.ent i).gu ∧ (s.ent i).gu < s.gs.length ∧ 0 ≤ (s.ent i).ix ∧ (s.ent i).ix < 64
  ew : ∀ i, i < s.es.length → 1 ≤ (s.ent i).wt ∧ (s.ent i).wt ≤ 1000
  ec : ∀ i, i < s.es.length → -10128 ≤ (s.ent i).cd ∧ (s.ent i).cd ≤ 10128 ∧ 0 ≤ (s.ent i).pt ∧ (s.ent i).pt ≤ 64000
  eh : ∀ i, i < s.es.length → s.gng i = true → (s.ent i).ix < s.H
  gw : ∀ i, i < s.gs.length → 1 ≤ (s.gst i).w ∧ (s.gst i).w ≤ 1000
  tk : 1 ≤ ticksF s
  tq : ∀ i, i < s.ts.length → (∀ e ∈ (s.trn i).q, 0 ≤ e ∧ e < s.es.length) ∧ (s.trn i).q.length ≤ 64 ∧ (s.trn i).q.Nodup ∧ -1 ≤ (s.trn i).cu ∧ (s.trn i).cu < s.es.length ∧ 0 ≤ (s.trn i).us ∧ (s.trn i).us ≤ s.S ∧ (0 ≤ (s.trn i).cu → (s.trn i).cu ∈ (s.trn i).q)
  nw : 0 ≤ s.now ∧ s.now ≤ 4611686018427387904
  sw : 0 ≤ s.sh ∧ s.sh ≤ s.now
structure SR (W : World) (own : Nat → Prop) (L : Lay) (s : SS) : Prop where
  S : Blk W L.b 91 (schC L s)
  G : Blk W L.bg 94 (s.gs.flatMap gstC)
  E : Blk W L.be 96 (s.es.flatMap entC)
  T : Blk W L.bt 99 ((L.qs.zip s.ts).flatMap trnC)
  C : Blk W L.bc 79 (s.ch.map (Value.int .u64))
  Hm : Blk W L.bh 3 ((homesL s).map (Value.int .i64))
  ql : L.qs.length = s.ts.length
  Q : ∀ (i : Nat) (q : Value), L.qs[i]? = some q → Kd.R (Kd.int .i64) 3 W 0 (fun k => own k ∧ k ≠ L.bh) q (s.trn i).q
  qd : ∀ (i j : Nat) (q r : Value) (k : Nat), i ≠ j → L.qs[i]? = some q → L.qs[j]? = some r → q.ownBlock = some k → r.ownBlock ≠ some k
  ob : own L.b ∧ own L.bg ∧ own L.be ∧ own L.bt ∧ own L.bc ∧ own L.bh
  cap : s.gs.length ≤ L.cg ∧ s.es.length ≤ L.ce ∧ s.es.length ≤ L.ch
  lt : ∀ k, own k → k < W.heap.size
section
variable {W W' : World} {own S : Nat → Prop} {L : Lay} {s : SS}
theorem SR.below (h : SR W own L s) (hb : Below W.heap.size W W') : SR W' own L s :=
  { S := h.S.below hb, G := h.G.below hb, E := h.E.below hb, T := h.T.below hb, C := h.C.below hb, Hm := h.Hm.below hb, ql := h.ql, Q := fun i q hq => Kd.R_below (h.Q i q hq) hb, qd := h.qd, ob := h.ob, cap := h.cap, lt := fun k hk => Nat.lt_of_lt_of_le (h.lt k hk) hb.size }
theorem SR.mut (h : SR W own L s) (hm : Mut S W W') (hn : ∀ k, own k → ¬ S k) : SR W' own L s :=
  { S := h.S.mut hm (hn _ h.ob.1), G := h.G.mut hm (hn _ h.ob.2.1), E := h.E.mut hm (hn _ h.ob.2.2.1), T := h.T.mut hm (hn _ h.ob.2.2.2.1), C := h.C.mut hm (hn _ h.ob.2.2.2.2.1), Hm := h.Hm.mut hm (hn _ h.ob.2.2.2.2.2), ql := h.ql, Q := fun i q hq => Kd.R_kept (h.Q i q hq) hm.kept (fun k hk => hn k hk.1), qd := h.qd, ob := h.ob, cap := h.cap, lt := fun k hk => Nat.lt_of_lt_of_le (h.lt k hk) hm.size }
theorem flat_get {α : Type} (f : α → List Value) (n : Nat) (hn : ∀ a, (f a).length = n) (l : List α) (i j : Nat) (hj : j < n) (a : α) (ha : l[i]? = some a) : (l.flatMap f)[i * n + j]? = (f a)[j]? := by
  induction l generalizing i with
  | nil => simp at ha
  | cons x r ih =>
    rw [List.flatMap_cons]
    cases i with
    | zero =>
      simp at ha; subst ha
      rw [Nat.zero_mul, Nat.zero_add, List.getElem?_append_left (by rw [hn]; exact hj)]
    | succ i =>
      rw [List.getElem?_append_right (by rw [hn, Nat.succ_mul]; omega), hn, Nat.succ_mul, show i * n + n + j - n = i * n + j by omega]
      exact ih i (by simpa using ha)
theorem ent_some {i : Nat} (hi : i < s.es.length) : s.es[i]? = some (s.ent i) := by unfold SS.ent; rw [List.getD_eq_getElem?_getD, List.getElem?_eq_getElem hi]; rfl
theorem gst_some {i : Nat} (hi : i < s.gs.length) : s.gs[i]? = some (s.gst i) := by unfold SS.gst; rw [List.getD_eq_getElem?_getD, List.getElem?_eq_getElem hi]; rfl
theorem trn_some {i : Nat} (hi : i < s.ts.length) : s.ts[i]? = some (s.trn i) := by unfold SS.trn; rw [List.getD_eq_getElem?_getD, List.getElem?_eq_getElem hi]; rfl
theorem SR.ent (h : SR W own L s) (i j : Nat) (hi : i < s.es.length) (hj : j < 7) {v : Value} (hv : (entC (s.ent i))[j]? = some v) : W.cell? ⟨L.be, i * 7 + j, none⟩ = some v :=
  h.E.cell ((flat_get entC 7 (fun _ => rfl) s.es i j hj _ (ent_some hi)).trans hv)
theorem SR.gst (h : SR W own L s) (i j : Nat) (hi : i < s.gs.length) (hj : j < 7) {v : Value} (hv : (gstC (s.gst i))[j]? = some v) : W.cell? ⟨L.bg, i * 7 + j, none⟩ = some v :=
  h.G.cell ((flat_get gstC 7 (fun _ => rfl) s.gs i j hj _ (gst_some hi)).trans hv)
theorem SR.trn (h : SR W own L s) (i j : Nat) (hi : i < s.ts.length) (hj : j < 3) {q v : Value} (hq : L.qs[i]? = some q) (hv : (trnC (q, s.trn i))[j]? = some v) : W.cell? ⟨L.bt, i * 3 + j, none⟩ = some v :=
  h.T.cell ((flat_get trnC 3 (fun _ => rfl) (L.qs.zip s.ts) i j hj (q, s.trn i) (by rw [List.getElem?_zip_eq_some]; exact ⟨hq, trn_some hi⟩)).trans hv)
theorem SR.chg (h : SR W own L s) (i : Nat) (hi : i < s.ch.length) : W.cell? ⟨L.bc, i, none⟩ = some (.int .u64 (s.ch.getD i 0)) :=
  h.C.cell (by rw [List.getElem?_map, List.getD_eq_getElem?_getD, List.getElem?_eq_getElem hi]; rfl)
theorem homesL_len (s : SS) : (homesL s).length = s.es.length := by simp [homesL]
theorem SR.hom (h : SR W own L s) (i : Nat) (hi : i < s.es.length) : W.cell? ⟨L.bh, i, none⟩ = some (.int .i64 (homeOf s i)) :=
  h.Hm.cell (by simp [homesL, hi])
theorem SR.fld (h : SR W own L s) (j : Nat) {v : Value} (hv : (schC L s)[j]? = some v) : W.cell? ⟨L.b, j, none⟩ = some v := h.S.cell hv
theorem SR.qs (h : SR W own L s) (i : Nat) (hi : i < s.ts.length) : ∃ q, L.qs[i]? = some q := ⟨_, List.getElem?_eq_getElem (by rw [h.ql]; exact hi)⟩
end
end Go.Proofs.Ytdaadmjppikebaa.SC

/- Small functions of the scheduler. -/
namespace Go.Proofs.Ytdaadmjppikebaa.SC
open Go.RowKit Go.Proofs.YtdaadmjppikebaaW.PrintWords
set_option linter.unusedVariables false
set_option linter.unusedSimpArgs false

theorem ret_int {k : IntKind} {a b : Int} (h : a = b) : Ending.returned (.int k a) = .returned (.int k b) := by rw [h]
theorem ret_bool {a b : Bool} (h : a = b) : Ending.returned (.bool a) = .returned (.bool b) := by rw [h]
def withinB (x l h : Int) : Bool := decide (l ≤ x) && decide (x ≤ h)
theorem within_calls (x l h : Int) (W : World) : Calls Try.prog 41 #[.int .i64 x, .int .i64 l, .int .i64 h] W fun e w' => e = .returned (.bool (withinB x l h)) ∧ W = w' := by
  by_cases h1 : l ≤ x
  · have d1 : decide (l ≤ x) = true := decide_eq_true h1
    clear h1
    go_enter Try.func41, Try.ntmps41
    go_wp2
    go_ret
    exact ⟨ret_bool (by unfold withinB; rw [d1]; simp), rfl⟩
  · have d1 : decide (l ≤ x) = false := decide_eq_false h1
    clear h1
    go_enter Try.func41, Try.ntmps41
    go_wp2
    go_ret
    exact ⟨ret_bool (by unfold withinB; rw [d1]; simp), rfl⟩
theorem load_calls {W : World} {a : Addr} {n : Int} (h : W.cell? a = some (.int .u64 n)) : Calls Try.prog 47 #[.pointer (some a)] W fun e w' => e = .returned (.int .u64 n) ∧ W = w' := by
  have hl := run_call_load (P := Try.prog) Try.func63 (by kernel_rfl) (by kernel_rfl) (by kernel_rfl) .u64 (by kernel_rfl) h
  go_enter Try.func47, Try.ntmps47
  go_wp2
  go_ret
  exact ⟨rfl, rfl⟩
theorem now_calls {W : World} {own : Nat → Prop} {L : Lay} {s : SS} (h : SR W own L s) : Calls Try.prog 27 #[.pointer (some ⟨L.b, 0, none⟩)] W fun e w' => e = .returned (.int .u64 s.now) ∧ W = w' := by
  have c7 := h.fld 7 rfl
  clear h
  go_enter Try.func27, Try.ntmps27
  go_wp2_with (go_at_call 47; refine (load_calls c7).mono ?_; rintro e w' ⟨rfl, rfl⟩)
  go_ret
  exact ⟨rfl, rfl⟩
theorem entities_calls {W : World} {own : Nat → Prop} {L : Lay} {s : SS} (h : SR W own L s) : Calls Try.prog 15 #[.pointer (some ⟨L.b, 0, none⟩)] W fun e w' => e = .returned (.int .i64 (s.es.length : Int)) ∧ W = w' := by
  have c5 := h.fld 5 rfl
  clear h
  go_enter Try.func15, Try.ntmps15
  go_wp2
  go_ret
  exact ⟨rfl, rfl⟩
def thereB (s : SS) (e : Int) : Bool := decide (0 ≤ e) && decide (e < (s.es.length : Int))
theorem there_calls {W : World} {own : Nat → Prop} {L : Lay} {s : SS} (h : SR W own L s) (e : Int) : Calls Try.prog 46 #[.pointer (some ⟨L.b, 0, none⟩), .int .i64 e] W fun x w' => x = .returned (.bool (thereB s e)) ∧ W = w' := by
  have c5 := h.fld 5 rfl
  clear h
  by_cases h1 : 0 ≤ e
  · have d1 : decide (0 ≤ e) = true := decide_eq_true h1
    go_enter Try.func46, Try.ntmps46
    go_wp2
    go_ret
    exact ⟨ret_bool (by unfold thereB; rw [d1]; simp), rfl⟩
  · have d1 : decide (0 ≤ e) = false := decide_eq_false h1
    clear h1
    go_enter Try.func46, Try.ntmps46
    go_wp2
    go_ret
    exact ⟨ret_bool (by unfold thereB; rw [d1]; simp), rfl⟩
/-- Who can run, as a list that came in. -/
structure RD (W : World) (rd : List Bool) (A : Option Addr) (c : Nat) : Prop where
  r : Kd.C Kd.bool W A rd.length rd
  c : rd.length ≤ c
theorem RD.below {W W' : World} {rd : List Bool} {A : Option Addr} {c : Nat} (h : RD W rd A c) (hb : Below W.heap.size W W') : RD W' rd A c := ⟨Kd.C_below h.r hb, h.c⟩
theorem ready_calls {W : World} {own : Nat → Prop} {L : Lay} {s : SS} {rd : List Bool} {A : Option Addr} {c : Nat} (h : SR W own L s) (hr : RD W rd A c) (k : Nat) (hk : k < s.es.length) :
    Calls Try.prog 58 #[.pointer (some ⟨L.b, 0, none⟩), .int .i64 (k : Int), .slice A rd.length c] W fun x w' => x = .returned (.bool (readyF s rd k)) ∧ W = w' := by
  have c5 := h.fld 5 rfl
  have cg := h.ent k 6 hk (by decide) rfl
  have hcap := h.cap.2.1
  have hn := hr.r.2.1
  have hf : readyF s rd k = (decide (k < rd.length) && rd.getD k false && !(s.ent k).gn) := by unfold readyF; simp
  have HF := Aside0.mk hf
  clear hf h
  by_cases h1 : k < rd.length
  · have d1 : decide (k < rd.length) = true := decide_eq_true h1
    obtain ⟨ad, rfl, hc⟩ := Kd.at_bool hr.r (k : Int) (by omega) (by omega)
    have hv : rdOf false rd (k : Int) = rd.getD k false := by unfold rdOf; simp
    rw [hv, Int.toNat_natCast] at hc
    have HD := Aside0.mk d1
    clear hv hr
    cases hb : rd.getD k false with
    | true =>
      rw [hb] at hc
      have HB := Aside0.mk hb
      clear hb
      go_enter Try.func58, Try.ntmps58
      go_wp2
      go_ret
      exact ⟨ret_bool (by rw [HF.out, HD.out, HB.out]; simp), rfl⟩
    | false =>
      rw [hb] at hc
      have HB := Aside0.mk hb
      clear hb
      go_enter Try.func58, Try.ntmps58
      go_wp2
      go_ret
      exact ⟨ret_bool (by rw [HF.out, HD.out, HB.out]; simp), rfl⟩
  · have d1 : decide (k < rd.length) = false := decide_eq_false h1
    have HD := Aside0.mk d1
    clear h1 hr
    go_enter Try.func58, Try.ntmps58
    go_wp2
    go_ret
    exact ⟨ret_bool (by rw [HF.out, HD.out]; simp), rfl⟩
theorem ran_calls {W : World} {own : Nat → Prop} {L : Lay} {s : SS} (h : SR W own L s) (e : Int) : Calls Try.prog 26 #[.pointer (some ⟨L.b, 0, none⟩), .int .i64 e] W fun x w' => x = .returned (.int .u64 (if thereB s e = true then (s.ent e.toNat).rn else 0)) ∧ W = w' := by
  have ht := Aside0.mk (there_calls h e)
  cases hb : thereB s e with
  | false =>
    rw [hb] at ht
    clear hb h
    go_enter Try.func26, Try.ntmps26
    go_wp2_with (go_at_call 46; refine ht.out.mono ?_; rintro e w' ⟨rfl, rfl⟩)
    go_ret
    exact ⟨rfl, rfl⟩
  | true =>
    have hr : 0 ≤ e ∧ e < s.es.length := by simpa [thereB] using hb
    obtain ⟨k, rfl⟩ := Int.eq_ofNat_of_zero_le hr.1
    have hk : k < s.es.length := by omega
    have c5 := h.fld 5 rfl
    have cg := h.ent k 5 hk (by decide) rfl
    have hcap := h.cap.2.1
    rw [hb] at ht
    clear hb h hr
    go_enter Try.func26, Try.ntmps26
    go_wp2_with (go_at_call 46; refine ht.out.mono ?_; rintro e w' ⟨rfl, rfl⟩)
    go_ret
    exact ⟨by simp, rfl⟩
theorem credit_calls {W : World} {own : Nat → Prop} {L : Lay} {s : SS} (h : SR W own L s) (e : Int) : Calls Try.prog 29 #[.pointer (some ⟨L.b, 0, none⟩), .int .i64 e] W fun x w' => x = .returned (.int .i64 (if thereB s e = true then (s.ent e.toNat).cd else 0)) ∧ W = w' := by
  have ht := Aside0.mk (there_calls h e)
  cases hb : thereB s e with
  | false =>
    rw [hb] at ht
    clear hb h
    go_enter Try.func29, Try.ntmps29
    go_wp2_with (go_at_call 46; refine ht.out.mono ?_; rintro e w' ⟨rfl, rfl⟩)
    go_ret
    exact ⟨rfl, rfl⟩
  | true =>
    have hr : 0 ≤ e ∧ e < s.es.length := by simpa [thereB] using hb
    obtain ⟨k, rfl⟩ := Int.eq_ofNat_of_zero_le hr.1
    have hk : k < s.es.length := by omega
    have c5 := h.fld 5 rfl
    have cg := h.ent k 3 hk (by decide) rfl
    have hcap := h.cap.2.1
    rw [hb] at ht
    clear hb h hr
    go_enter Try.func29, Try.ntmps29
    go_wp2_with (go_at_call 46; refine ht.out.mono ?_; rintro e w' ⟨rfl, rfl⟩)
    go_ret
    exact ⟨by simp, rfl⟩
theorem charged_calls {W : World} {own : Nat → Prop} {L : Lay} {s : SS} (h : SR W own L s) (hl : s.ch.length ≤ 8) (g : Int) : Calls Try.prog 23 #[.pointer (some ⟨L.b, 0, none⟩), .int .i64 g] W fun x w' => x = .returned (.int .u64 (if withinB g 0 ((s.ch.length : Int) - 1) = true then s.ch.getD g.toNat 0 else 0)) ∧ W = w' := by
  have ht := Aside0.mk (within_calls g 0 ((s.ch.length : Int) - 1) W)
  have c9 := h.fld 9 rfl
  cases hb : withinB g 0 ((s.ch.length : Int) - 1) with
  | false =>
    rw [hb] at ht
    clear hb h
    go_enter Try.func23, Try.ntmps23
    go_wp2_with (go_at_call 41; refine ht.out.mono ?_; rintro e w' ⟨rfl, rfl⟩)
    go_ret
    exact ⟨rfl, rfl⟩
  | true =>
    have hr : 0 ≤ g ∧ g ≤ (s.ch.length : Int) - 1 := by simpa [withinB] using hb
    obtain ⟨k, rfl⟩ := Int.eq_ofNat_of_zero_le hr.1
    have hk : k < s.ch.length := by omega
    have cg := h.chg k hk
    rw [hb] at ht
    clear hb h hr
    go_enter Try.func23, Try.ntmps23
    go_wp2_with (first | (go_at_call 41; refine ht.out.mono ?_; rintro e w' ⟨rfl, rfl⟩) | (go_at_call 47; refine (load_calls cg).mono ?_; rintro e w' ⟨rfl, rfl⟩))
    go_ret
    exact ⟨by simp, rfl⟩
end Go.Proofs.Ytdaadmjppikebaa.SC

/- Functions of the scheduler that go round. -/
namespace Go.Proofs.Ytdaadmjppikebaa.SC
open Go.RowKit Go.Proofs.YtdaadmjppikebaaW.PrintWords
set_option linter.unusedVariables false
set_option linter.unusedSimpArgs false

/-- What ticks and limit ask. -/
structure WfS (s : SS) : Prop where
  P1 : 1 ≤ s.P
  P2 : s.P ≤ 10000
  gm : s.gs.length ≤ 8
  gw : ∀ i, i < s.gs.length → 1 ≤ (s.gst i).w ∧ (s.gst i).w ≤ 1000
  tk : 1 ≤ ticksF s
theorem Wf.toS {s : SS} (hw : Wf s) : WfS s := ⟨hw.P1, hw.P2, hw.gm, hw.gw, hw.tk⟩
theorem drop_gst {s : SS} {k : Nat} (hk : k < s.gs.length) : s.gs.drop k = s.gst k :: s.gs.drop (k + 1) := by
  rw [List.drop_eq_getElem_cons hk]; congr 1
  have := gst_some hk; rw [List.getElem?_eq_getElem hk] at this; exact Option.some.inj this
theorem drop_end {α : Type} {l : List α} {k : Nat} (hk : ¬ k < l.length) : l.drop k = [] := List.drop_eq_nil_of_le (by omega)
theorem ticksGo_range : ∀ (l : List SG) (n : Int), (∀ g ∈ l, 0 ≤ g.w ∧ g.w ≤ 1000) → n - 1000 * l.length ≤ ticksGo l n ∧ ticksGo l n ≤ n := by
  intro l
  induction l with
  | nil => intro n _; simp [ticksGo]
  | cons g r ih =>
    intro n h
    have hg := h g (List.mem_cons_self)
    have h1 := ih (if g.g = true then n - g.w else n) (fun x hx => h x (List.mem_cons_of_mem _ hx))
    simp only [ticksGo, List.length_cons]
    split at h1 <;> split <;> first | (simp_all; done) | (push_cast; constructor <;> omega) | omega
set_option maxRecDepth 100000 in
theorem ticks_calls {W : World} {own : Nat → Prop} {L : Lay} {s : SS} (h : SR W own L s) (hw : WfS s) : Calls Try.prog 61 #[.pointer (some ⟨L.b, 0, none⟩)] W fun x w' => x = .returned (.int .i64 (ticksF s)) ∧ Below W.heap.size W w' := by
  have HW := Aside0.mk hw
  have HR := Aside0.mk h
  have c2 := h.fld 2 rfl
  have c4 := h.fld 4 rfl
  have hcap := h.cap.1
  have hn := hw.gm
  have hP1 := hw.P1
  have hP2 := hw.P2
  clear h hw
  go_enter Try.func61, Try.ntmps61
  go_wp2
  go_loopw [3, 15] (fun v3 v15 w' => ∃ (k : Nat) (n : Int), v15 = .int .i64 (k : Int) ∧ v3 = .int .i64 n ∧ k ≤ s.gs.length ∧ Aside0 (ticksGo (s.gs.drop k) n = ticksF s) ∧ Aside0 (-1000 * (k : Int) ≤ n ∧ n ≤ 10000) ∧ Aside0 (Below W.heap.size W w')) (fun _ v15 _ => s.gs.length - (intOf v15).toNat)
  case atStart => exact ⟨0, s.P, rfl, rfl, by omega, ⟨rfl⟩, ⟨by omega⟩, ⟨Below.refl _ _⟩⟩
  case round =>
    obtain ⟨k, n, rfl, rfl, hk, HT, HN, HB⟩ := hrel
    by_cases hlt : k < s.gs.length
    · have HRr := Aside0.mk (HR.out.below HB.out)
      have hg := HW.out.gw k hlt
      have hg1 : 1 ≤ (s.gst k).w := hg.1
      have hg2 : (s.gst k).w ≤ 1000 := hg.2
      have hn1 : -8000 ≤ n := by have := HN.out.1; omega
      have hn2 := HN.out.2
      have HS := Aside0.mk (show ticksGo (s.gs.drop (k + 1)) (if (s.gst k).g = true then n - (s.gst k).w else n) = ticksF s by have := HT.out; rw [drop_gst hlt] at this; exact this)
      clear hg
      have x0 : wr.cell? ⟨L.bg, k * 7, none⟩ = some (.int .i64 (s.gst k).v) := HRr.out.gst k 0 hlt (by decide) rfl
      have x1 : wr.cell? ⟨L.bg, k * 7 + 1, none⟩ = some (.int .i64 0) := HRr.out.gst k 1 hlt (by decide) rfl
      have x2 : wr.cell? ⟨L.bg, k * 7 + 2, none⟩ = some (.int .i64 (s.gst k).w) := HRr.out.gst k 2 hlt (by decide) rfl
      have x3 : wr.cell? ⟨L.bg, k * 7 + 3, none⟩ = some (.slice none 0 0) := HRr.out.gst k 3 hlt (by decide) rfl
      have x4 : wr.cell? ⟨L.bg, k * 7 + 4, none⟩ = some (.slice none 0 0) := HRr.out.gst k 4 hlt (by decide) rfl
      have x5 : wr.cell? ⟨L.bg, k * 7 + 5, none⟩ = some (.slice none 0 0) := HRr.out.gst k 5 hlt (by decide) rfl
      have x6 : wr.cell? ⟨L.bg, k * 7 + 6, none⟩ = some (.bool (s.gst k).g) := HRr.out.gst k 6 hlt (by decide) rfl
      cases hb : (s.gst k).g with
      | true =>
        rw [hb] at HS x6
        clear hb HT
        go_wp2
        go_roundw
        case rel => exact ⟨k + 1, n - (s.gst k).w, by go_num, rfl, by omega, ⟨by have := HS.out; simpa using this⟩, ⟨by have := HN.out; push_cast; omega⟩, ⟨below_alloc HB.out _⟩⟩
        case measure => simp [intOf]; omega
      | false =>
        rw [hb] at HS x6
        clear hb HT
        go_wp2
        go_roundw
        case rel => exact ⟨k + 1, n, by go_num, rfl, by omega, ⟨by have := HS.out; simpa using this⟩, ⟨by have := HN.out; push_cast; omega⟩, ⟨below_alloc HB.out _⟩⟩
        case measure => simp [intOf]; omega
    · have HE := Aside0.mk (show n = ticksF s by have := HT.out; rw [drop_end hlt] at this; exact this)
      clear HT
      go_wp2
      go_ret
      exact ⟨ret_int HE.out, HB.out⟩
end Go.Proofs.Ytdaadmjppikebaa.SC

/- Whose slot; homes; an entity's guest. -/
namespace Go.Proofs.Ytdaadmjppikebaa.SC
open Go.RowKit Go.Proofs.YtdaadmjppikebaaW.PrintWords
set_option linter.unusedVariables false
set_option linter.unusedSimpArgs false

theorem ticksF_range {s : SS} (hw : WfS s) : 1 ≤ ticksF s ∧ ticksF s ≤ 10000 := by
  have h := ticksGo_range s.gs s.P (fun g hg => by
    obtain ⟨i, hi, rfl⟩ := List.getElem_of_mem hg
    have := hw.gw i hi
    have e := gst_some hi; rw [List.getElem?_eq_getElem hi] at e; rw [Option.some.inj e]; omega)
  have := hw.P2
  exact ⟨hw.tk, by unfold ticksF; omega⟩
theorem limit_calls {W : World} {own : Nat → Prop} {L : Lay} {s : SS} (h : SR W own L s) (hw : WfS s) : Calls Try.prog 45 #[.pointer (some ⟨L.b, 0, none⟩)] W fun x w' => x = .returned (.int .i64 (limitF s)) ∧ Below W.heap.size W w' := by
  have HT := Aside0.mk (ticks_calls h hw)
  have ht := ticksF_range hw
  have ht1 : 1 ≤ ticksF s := ht.1
  have ht2 := ht.2
  clear h hw ht
  go_enter Try.func45, Try.ntmps45
  go_wp2_with (go_at_call 61; refine HT.out.mono ?_; rintro e w1 ⟨rfl, hb⟩)
  have HB := Aside0.mk hb
  clear hb
  go_wp2
  go_ret
  exact ⟨rfl, HB.out⟩
theorem same_of {P : Program} {f : FuncId} {args : Array Value} {W : World} {v : Value} (h : Calls P f args W fun e w' => e = .returned v ∧ W = w') : Calls P f args W fun e w' => e = .returned v ∧ w' = W := h.mono fun _ _ ⟨a, b⟩ => ⟨a, b.symm⟩
theorem SR.drewN {W : World} {own : Nat → Prop} {L : Lay} {s : SS} (h : SR W own L s) (n : Nat) : SR (W.drewN n) own L s := h.below (pw_below_drewN (Below.refl _ _) n)
set_option maxRecDepth 100000 in
theorem gang_calls {W : World} {own : Nat → Prop} {L : Lay} {s : SS} (h : SR W own L s) (hw : Wf s) : Calls Try.prog 21 #[.pointer (some ⟨L.b, 0, none⟩)] W fun x w' => x = .returned (.int .i64 (gangF s)) ∧ Below W.heap.size W w' := by
  have HW := Aside0.mk hw
  have HR := Aside0.mk h
  have c2 := h.fld 2 rfl
  have c4 := h.fld 4 rfl
  have hcap := h.cap.1
  have hn := hw.gm
  have hP1 := hw.P1
  have hP2 := hw.P2
  have hn1 := hw.nw.1
  have hn2 := hw.nw.2
  obtain ⟨at_, hat⟩ : ∃ a, a = s.now % s.P := ⟨_, rfl⟩
  have hr1 : 0 ≤ at_ := by rw [hat]; exact Int.emod_nonneg _ (by omega)
  have hr2 : at_ < 10000 := by have := Int.emod_lt_of_pos s.now (show 0 < s.P by omega); omega
  have HAT := Aside0.mk hat
  clear h hw hat
  go_enter Try.func21, Try.ntmps21
  go_wp2
  go_quiet ((go_at_call 27; exact Calls.quiet_of_same (same_of (now_calls (HR.out.drewN _)))))
  have HB0 := Aside0.mk (pw_below_drewN (Below.refl W.heap.size W) nq)
  have hwr : wrap64 (s.now % s.P) = at_ := by rw [← HAT.out]; unfold wrap64; omega
  rw [hwr]
  clear hwr
  obtain ⟨w1, hw1⟩ : ∃ w1, w1 = W.drewN nq := ⟨_, rfl⟩
  rw [← hw1] at HB0 ⊢
  clear hw1 c2 c4
  have c4 := (HR.out.below HB0.out).fld 4 rfl
  go_wp2
  go_loopw [3, 20] (fun v3 v20 w' => ∃ (k : Nat) (n : Int), v20 = .int .i64 (k : Int) ∧ v3 = .int .i64 n ∧ k ≤ s.gs.length ∧ Aside0 (gangGo (s.gs.drop k) k n = gangF s) ∧ Aside0 (-1000 * (k : Int) ≤ n ∧ n ≤ 10000) ∧ Aside0 (Below W.heap.size W w')) (fun _ v20 _ => s.gs.length - (intOf v20).toNat)
  case atStart => exact ⟨0, at_, rfl, rfl, by omega, ⟨by rw [HAT.out]; rfl⟩, ⟨by omega⟩, HB0⟩
  case round =>
    obtain ⟨k, n, rfl, rfl, hk, HT, HN, HB⟩ := hrel
    by_cases hlt : k < s.gs.length
    · have HRr := Aside0.mk (HR.out.below HB.out)
      have hg := HW.out.gw k hlt
      have hg1 : 1 ≤ (s.gst k).w := hg.1
      have hg2 : (s.gst k).w ≤ 1000 := hg.2
      have hn1 : -8000 ≤ n := by have := HN.out.1; omega
      have hn2 := HN.out.2
      have HS := Aside0.mk (show (if (s.gst k).g = true then (if n < (s.gst k).w then (k : Int) else gangGo (s.gs.drop (k + 1)) (k + 1) (n - (s.gst k).w)) else gangGo (s.gs.drop (k + 1)) (k + 1) n) = gangF s by have := HT.out; rw [drop_gst hlt] at this; exact this)
      clear hg HAT HB0 c4
      have x0 : wr.cell? ⟨L.bg, k * 7, none⟩ = some (.int .i64 (s.gst k).v) := HRr.out.gst k 0 hlt (by decide) rfl
      have x1 : wr.cell? ⟨L.bg, k * 7 + 1, none⟩ = some (.int .i64 0) := HRr.out.gst k 1 hlt (by decide) rfl
      have x2 : wr.cell? ⟨L.bg, k * 7 + 2, none⟩ = some (.int .i64 (s.gst k).w) := HRr.out.gst k 2 hlt (by decide) rfl
      have x3 : wr.cell? ⟨L.bg, k * 7 + 3, none⟩ = some (.slice none 0 0) := HRr.out.gst k 3 hlt (by decide) rfl
      have x4 : wr.cell? ⟨L.bg, k * 7 + 4, none⟩ = some (.slice none 0 0) := HRr.out.gst k 4 hlt (by decide) rfl
      have x5 : wr.cell? ⟨L.bg, k * 7 + 5, none⟩ = some (.slice none 0 0) := HRr.out.gst k 5 hlt (by decide) rfl
      have x6 : wr.cell? ⟨L.bg, k * 7 + 6, none⟩ = some (.bool (s.gst k).g) := HRr.out.gst k 6 hlt (by decide) rfl
      cases hb : (s.gst k).g with
      | true =>
        rw [hb] at HS x6
        clear hb HT
        by_cases hq : n < (s.gst k).w
        · have d1 : decide (n < (s.gst k).w) = true := decide_eq_true hq
          have HQ := Aside0.mk (show (k : Int) = gangF s by have := HS.out; rw [if_pos rfl, if_pos hq] at this; exact this)
          clear HS hq
          go_wp2
          go_ret
          exact ⟨ret_int HQ.out, below_alloc HB.out _⟩
        · have d1 : decide (n < (s.gst k).w) = false := decide_eq_false hq
          have HQ := Aside0.mk (show gangGo (s.gs.drop (k + 1)) (k + 1) (n - (s.gst k).w) = gangF s by have := HS.out; rw [if_pos rfl, if_neg hq] at this; exact this)
          clear HS
          go_wp2
          go_roundw
          case rel => exact ⟨k + 1, n - (s.gst k).w, by go_num, rfl, by omega, HQ, ⟨by have := HN.out; push_cast; omega⟩, ⟨below_alloc HB.out _⟩⟩
          case measure => simp [intOf]; omega
      | false =>
        rw [hb] at HS x6
        clear hb HT
        have HQ := Aside0.mk (show gangGo (s.gs.drop (k + 1)) (k + 1) n = gangF s by have := HS.out; simpa using this)
        clear HS
        go_wp2
        go_roundw
        case rel => exact ⟨k + 1, n, by go_num, rfl, by omega, HQ, ⟨by have := HN.out; push_cast; omega⟩, ⟨below_alloc HB.out _⟩⟩
        case measure => simp [intOf]; omega
    · have HE := Aside0.mk (show -1 = gangF s by have := HT.out; rw [drop_end hlt] at this; exact this)
      clear HT
      go_wp2
      go_ret
      exact ⟨ret_int HE.out, HB.out⟩
theorem once_calls {W : World} {a : Addr} {fv : Value} (h : W.cell? a = some (.int .u32 1)) : Calls Try.prog 64 #[.pointer (some a), fv] W fun e w' => e = .returned (.tuple #[]) ∧ W = w' := by
  have hl := run_call_load (P := Try.prog) Try.func73 (by kernel_rfl) (by kernel_rfl) (by kernel_rfl) .u32 (by kernel_rfl) h
  have hnot : ∀ (x : Bool) (w : World), (Op.unary .not (.bool x)).run Try.prog w = .ok (.bool (!x)) w := fun _ _ => rfl
  go_enter Try.func64, Try.ntmps64
  go_wp2
  go_end0
  exact ⟨rfl, rfl⟩
theorem hmf : ∀ (fn : Fn) (first cap : Array Value) (w : World), (Instr.makeFunc fn first cap).run Try.prog w = .ok (.func fn first cap) w := fun _ _ _ _ => rfl
theorem homes_calls {W : World} {own : Nat → Prop} {L : Lay} {s : SS} (h : SR W own L s) : Calls Try.prog 48 #[.pointer (some ⟨L.b, 0, none⟩)] W fun e w' => e = .returned (.slice (some ⟨L.bh, 0, none⟩) s.es.length L.ch) ∧ Below W.heap.size W w' := by
  have hmf := hmf
  have HR := Aside0.mk h
  have HA := Aside0.mk (h.below (below_alloc (Below.refl _ _) (.cells #[.pointer (some ⟨L.b, 0, none⟩)] 30)))
  have c11 := HA.out.fld 11 rfl
  have c14 := HA.out.fld 14 rfl
  have HO := Aside0.mk (once_calls (fv := .func (.func 65) #[] #[.pointer (some ⟨W.heap.size, 0, none⟩)]) c11)
  clear h c11
  go_enter Try.func48, Try.ntmps48
  go_wp2_with (go_at_call 64; refine HO.out.mono ?_; rintro e w' ⟨rfl, rfl⟩)
  go_ret
  exact ⟨rfl, below_alloc (Below.refl _ _) _⟩
theorem home_calls {W : World} {own : Nat → Prop} {L : Lay} {s : SS} (h : SR W own L s) (e : Int) : Calls Try.prog 24 #[.pointer (some ⟨L.b, 0, none⟩), .int .i64 e] W fun x w' => x = .returned (.int .i64 (if thereB s e = true then homeOf s e.toNat else -1)) ∧ Below W.heap.size W w' := by
  have ht := Aside0.mk (there_calls h e)
  cases hb : thereB s e with
  | false =>
    rw [hb] at ht
    clear hb h
    go_enter Try.func24, Try.ntmps24
    go_wp2_with (go_at_call 46; refine ht.out.mono ?_; rintro e w' ⟨rfl, rfl⟩)
    go_ret
    exact ⟨rfl, Below.refl _ _⟩
  | true =>
    have hr : 0 ≤ e ∧ e < s.es.length := by simpa [thereB] using hb
    obtain ⟨k, rfl⟩ := Int.eq_ofNat_of_zero_le hr.1
    have hk : k < s.es.length := by omega
    have hcap := h.cap.2.2
    have HM := Aside0.mk (homes_calls h)
    have HR := Aside0.mk h
    rw [hb] at ht
    clear hb h hr
    go_enter Try.func24, Try.ntmps24
    go_wp2_with (first | (go_at_call 46; refine ht.out.mono ?_; rintro e w' ⟨rfl, rfl⟩) | (go_at_call 48; refine HM.out.mono ?_; rintro e w1 ⟨rfl, hb⟩; have HB := Aside0.mk hb; have ch := (HR.out.below hb).hom k hk; clear hb))
    go_ret
    exact ⟨by simp, HB.out⟩
theorem guest_calls {W : World} {own : Nat → Prop} {L : Lay} {s : SS} (h : SR W own L s) (e : Int) : Calls Try.prog 22 #[.pointer (some ⟨L.b, 0, none⟩), .int .i64 e] W fun x w' => x = .returned (.tuple (if thereB s e = true then #[.int .i64 (s.ent e.toNat).gu, .int .i64 (s.ent e.toNat).ix] else #[.int .i64 (-1), .int .i64 (-1)])) ∧ Below W.heap.size W w' := by
  have ht := Aside0.mk (there_calls h e)
  cases hb : thereB s e with
  | false =>
    rw [hb] at ht
    clear hb h
    go_enter Try.func22, Try.ntmps22
    go_wp2_with (go_at_call 46; refine ht.out.mono ?_; rintro e w' ⟨rfl, rfl⟩)
    go_ret2
    exact ⟨rfl, Below.refl _ _⟩
  | true =>
    have hr : 0 ≤ e ∧ e < s.es.length := by simpa [thereB] using hb
    obtain ⟨k, rfl⟩ := Int.eq_ofNat_of_zero_le hr.1
    have hk : k < s.es.length := by omega
    have c5 := h.fld 5 rfl
    have y0 : W.cell? ⟨L.be, k * 7, none⟩ = some (.int .i64 (s.ent k).gu) := h.ent k 0 hk (by decide) rfl
    have y1 : W.cell? ⟨L.be, k * 7 + 1, none⟩ = some (.int .i64 (s.ent k).ix) := h.ent k 1 hk (by decide) rfl
    have hcap := h.cap.2.1
    rw [hb] at ht
    clear hb h hr
    go_enter Try.func22, Try.ntmps22
    go_wp2_with (go_at_call 46; refine ht.out.mono ?_; rintro e w' ⟨rfl, rfl⟩)
    go_quiet (fail)
    go_wp2
    go_ret2
    exact ⟨by simp, pw_below_drewN (Below.refl _ _) _⟩
end Go.Proofs.Ytdaadmjppikebaa.SC

/- A gang's entity; the plain entities of a hart; whose turn it is. -/
namespace Go.Proofs.Ytdaadmjppikebaa.SC
open Go.RowKit Go.Proofs.YtdaadmjppikebaaW.PrintWords
set_option linter.unusedVariables false
set_option linter.unusedSimpArgs false

theorem info3 : (Try.prog.info? 3).map (fun i => (i.zero, i.size, i.bytes)) = some (some (.int .i64 0), 1, 8) := by kernel_rfl
theorem ready_is {W : World} {own : Nat → Prop} {L : Lay} {s : SS} {rd : List Bool} {A : Option Addr} {c : Nat} (h : SR W own L s) (hr : RD W rd A c) (k : Nat) (hk : k < s.es.length) {b : Bool} (hb : readyF s rd k = b) :
    Calls Try.prog 58 #[.pointer (some ⟨L.b, 0, none⟩), .int .i64 (k : Int), .slice A rd.length c] W fun x w' => x = .returned (.bool b) ∧ W = w' := by
  subst hb; exact ready_calls h hr k hk
theorem firstGo_step (p : Nat → Bool) {n k : Nat} (hk : k < n) : firstGo p (n - k) k = if p k = true then (k : Int) else firstGo p (n - (k + 1)) (k + 1) := by
  rw [show n - k = (n - (k + 1)) + 1 by omega]; rfl
set_option maxRecDepth 100000 in
set_option maxHeartbeats 800000 in
theorem ofGang_calls {W : World} {own : Nat → Prop} {L : Lay} {s : SS} {rd : List Bool} {A : Option Addr} {c : Nat} (h : SR W own L s) (hw : Wf s) (hr : RD W rd A c) (g hart : Int) :
    Calls Try.prog 42 #[.pointer (some ⟨L.b, 0, none⟩), .int .i64 g, .int .i64 hart, .slice A rd.length c] W fun x w' => x = .returned (.int .i64 (ofGangF s g hart rd)) ∧ Below W.heap.size W w' := by
  have HR := Aside0.mk h
  have HD := Aside0.mk hr
  have c5 := h.fld 5 rfl
  have hcap := h.cap.2.1
  have hn := hw.em
  clear h hw hr
  go_enter Try.func42, Try.ntmps42
  go_wp2
  go_loopw [16] (fun v16 w' => ∃ (k : Nat), v16 = .int .i64 (k : Int) ∧ k ≤ s.es.length ∧ Aside0 (firstGo (ofGangP s g hart rd) (s.es.length - k) k = ofGangF s g hart rd) ∧ Aside0 (Below W.heap.size W w')) (fun v16 _ => s.es.length - (intOf v16).toNat)
  case atStart => exact ⟨0, rfl, by omega, ⟨rfl⟩, ⟨Below.refl _ _⟩⟩
  case round =>
    obtain ⟨k, rfl, hk, HT, HB⟩ := hrel
    by_cases hlt : k < s.es.length
    · have HRr := Aside0.mk (HR.out.below HB.out)
      have HDr := Aside0.mk (HD.out.below HB.out)
      have HS := Aside0.mk ((firstGo_step (ofGangP s g hart rd) hlt).symm.trans HT.out)
      clear c5 HT
      have y0 : wr.cell? ⟨L.be, k * 7, none⟩ = some (.int .i64 (s.ent k).gu) := HRr.out.ent k 0 hlt (by decide) rfl
      have y1 : wr.cell? ⟨L.be, k * 7 + 1, none⟩ = some (.int .i64 (s.ent k).ix) := HRr.out.ent k 1 hlt (by decide) rfl
      have y2 : wr.cell? ⟨L.be, k * 7 + 2, none⟩ = some (.int .i64 (s.ent k).wt) := HRr.out.ent k 2 hlt (by decide) rfl
      have y3 : wr.cell? ⟨L.be, k * 7 + 3, none⟩ = some (.int .i64 (s.ent k).cd) := HRr.out.ent k 3 hlt (by decide) rfl
      have y4 : wr.cell? ⟨L.be, k * 7 + 4, none⟩ = some (.int .i64 (s.ent k).pt) := HRr.out.ent k 4 hlt (by decide) rfl
      have y5 : wr.cell? ⟨L.be, k * 7 + 5, none⟩ = some (.int .u64 (s.ent k).rn) := HRr.out.ent k 5 hlt (by decide) rfl
      have y6 : wr.cell? ⟨L.be, k * 7 + 6, none⟩ = some (.bool (s.ent k).gn) := HRr.out.ent k 6 hlt (by decide) rfl
      by_cases c1 : (s.ent k).gu = g
      · have b1 : ((s.ent k).gu == g) = true := by simpa using c1
        by_cases c2 : (s.ent k).ix = hart
        · have b2 : ((s.ent k).ix == hart) = true := by simpa using c2
          cases c3 : readyF s rd (k : Int) with
          | true =>
            have HQ := Aside0.mk (show (k : Int) = ofGangF s g hart rd by have := HS.out; rw [if_pos (by unfold ofGangP; rw [b1, b2, c3]; rfl)] at this; exact this)
            have HC := Aside0.mk c3
            clear c1 c2 c3 HS
            go_wp2_with (go_at_call 58; refine (ready_is (HRr.out.below (below_alloc (Below.refl _ _) _)) (HDr.out.below (below_alloc (Below.refl _ _) _)) k hlt HC.out).mono ?_; rintro e w' ⟨rfl, rfl⟩)
            go_ret
            exact ⟨ret_int HQ.out, below_alloc HB.out _⟩
          | false =>
            have HQ := Aside0.mk (show firstGo (ofGangP s g hart rd) (s.es.length - (k + 1)) (k + 1) = ofGangF s g hart rd by have := HS.out; rw [if_neg (by unfold ofGangP; rw [b1, b2, c3]; decide)] at this; exact this)
            have HC := Aside0.mk c3
            clear c1 c2 c3 HS
            go_wp2_with (go_at_call 58; refine (ready_is (HRr.out.below (below_alloc (Below.refl _ _) _)) (HDr.out.below (below_alloc (Below.refl _ _) _)) k hlt HC.out).mono ?_; rintro e w' ⟨rfl, rfl⟩)
            go_roundw
            case rel => exact ⟨k + 1, by go_num, by omega, HQ, ⟨below_alloc HB.out _⟩⟩
            case measure => simp [intOf]; omega
        · have b2 : ((s.ent k).ix == hart) = false := by simpa using c2
          have HQ := Aside0.mk (show firstGo (ofGangP s g hart rd) (s.es.length - (k + 1)) (k + 1) = ofGangF s g hart rd by have := HS.out; rw [if_neg (by unfold ofGangP; rw [b1, b2]; simp)] at this; exact this)
          clear c1 c2 HS
          go_wp2_with fail
          go_roundw
          case rel => exact ⟨k + 1, by go_num, by omega, HQ, ⟨below_alloc HB.out _⟩⟩
          case measure => simp [intOf]; omega
      · have b1 : ((s.ent k).gu == g) = false := by simpa using c1
        have HQ := Aside0.mk (show firstGo (ofGangP s g hart rd) (s.es.length - (k + 1)) (k + 1) = ofGangF s g hart rd by have := HS.out; rw [if_neg (by unfold ofGangP; rw [b1]; simp)] at this; exact this)
        clear c1 HS
        go_wp2_with fail
        go_roundw
        case rel => exact ⟨k + 1, by go_num, by omega, HQ, ⟨below_alloc HB.out _⟩⟩
        case measure => simp [intOf]; omega
    · have HE := Aside0.mk (show -1 = ofGangF s g hart rd by have := HT.out; rw [show s.es.length - k = 0 by omega] at this; exact this)
      clear HT
      go_wp2
      go_ret
      exact ⟨ret_int HE.out, HB.out⟩

theorem plainTo_succ (s : SS) (h : Int) (k : Nat) : plainTo s h (k + 1) = plainTo s h k ++ (if plainP s h k = true then [(k : Int)] else []) := by
  unfold plainTo; rw [List.range_succ, List.filter_append, List.map_append]; congr 1
  by_cases c : plainP s h k = true
  · rw [if_pos c]; simp [c]
  · rw [if_neg c]; simp [c]
theorem plainTo_len (s : SS) (h : Int) (k : Nat) : (plainTo s h k).length ≤ k := by
  unfold plainTo; rw [List.length_map]; exact Nat.le_trans (List.length_filter_le _ _) (by simp)
theorem plainTo_mem {s : SS} {h : Int} {k : Nat} {e : Int} (he : e ∈ plainTo s h k) : ∃ i : Nat, e = (i : Int) ∧ i < k ∧ homeOf s i = h ∧ s.gng i = false := by
  unfold plainTo at he
  obtain ⟨i, hi, rfl⟩ := List.mem_map.1 he
  obtain ⟨h1, h2⟩ := List.mem_filter.1 hi
  unfold plainP at h2
  simp at h1 h2
  exact ⟨i, rfl, h1, h2.1, h2.2⟩
set_option maxRecDepth 100000 in
set_option maxHeartbeats 800000 in
theorem plain_calls {W : World} {own : Nat → Prop} {L : Lay} {s : SS} (h : SR W own L s) (hw : Wf s) (hart : Int) :
    Calls Try.prog 37 #[.pointer (some ⟨L.b, 0, none⟩), .int .i64 hart] W fun x w' => ∃ v, x = .returned v ∧ Kd.R (Kd.int .i64) 3 w' W.heap.size (fun _ => True) v (plainL s hart) ∧ Below W.heap.size W w' := by
  have HW := Aside0.mk hw
  have HR := Aside0.mk h
  have HM := Aside0.mk (homes_calls h)
  have hcap := h.cap.2.1
  have hcap2 := h.cap.2.2
  have hcap1 := h.cap.1
  have hn := hw.em
  have hgm := hw.gm
  clear h hw
  go_enter Try.func37, Try.ntmps37
  go_wp2_with (go_at_call 48; refine HM.out.mono ?_; rintro e w1 ⟨rfl, hb⟩; have HB0 := Aside0.mk hb; clear hb)
  go_loopw [5, 11] (fun v5 v11 w' => ∃ (k : Nat), v11 = .int .i64 (k : Int) ∧ k ≤ s.es.length ∧ Aside0 (Kd.R (Kd.int .i64) 3 w' W.heap.size (fun _ => True) v5 (plainTo s hart k)) ∧ Aside0 (Below W.heap.size W w')) (fun _ v11 _ => s.es.length - (intOf v11).toNat)
  case atStart => exact ⟨0, rfl, by omega, ⟨Kd.R_nil _ _ _ _ _⟩, HB0⟩
  case round =>
    obtain ⟨k, rfl, hk, HO, HB⟩ := hrel
    clear HB0 HM
    by_cases hlt : k < s.es.length
    · have HRr := Aside0.mk (HR.out.below HB.out)
      have ch := HRr.out.hom k hlt
      have c4 := HRr.out.fld 4 rfl
      have c5 := HRr.out.fld 5 rfl
      have y0 : wr.cell? ⟨L.be, k * 7, none⟩ = some (.int .i64 (s.ent k).gu) := HRr.out.ent k 0 hlt (by decide) rfl
      obtain ⟨g1, g2, _, _⟩ := HW.out.eg k hlt
      have xg : wr.cell? ⟨L.bg, (s.ent k).gu.toNat * 7 + 6, none⟩ = some (.bool (s.gng k)) := HRr.out.gst (s.ent k).gu.toNat 6 (by omega) (by decide) rfl
      have HP := Aside0.mk (plainTo_succ s hart k)
      have HL := Aside0.mk (Nat.le_trans (plainTo_len s hart k) (show k ≤ 64 by omega))
      by_cases d1 : homeOf s k = hart
      · have b1 : (homeOf s k == hart) = true := by simpa using d1
        cases b2 : s.gng k with
        | false =>
          rw [b2] at xg
          have HPP := Aside0.mk (show plainTo s hart (k + 1) = plainTo s hart k ++ [(k : Int)] by rw [HP.out, if_pos (by unfold plainP; rw [b1, b2]; rfl)])
          clear d1 b2 HP
          go_wp2
          go_quiet (fail)
          obtain ⟨wq, hwq⟩ : ∃ wq, wq = wr.drewN nq := ⟨_, rfl⟩
          have HOq := Aside0.mk (Kd.R_drewN HO.out nq)
          have HBq := Aside0.mk (pw_below_drewN HB.out nq)
          rw [← hwq] at HOq HBq ⊢
          clear hwq HO HB HRr ch c4 c5 y0 xg
          go_wp2_with (first | ((with_reducible refine gate_builtin (b := .append) (xs := #[.tmp 37, .tmp 39]) rfl ?_); go_loud (at_builtin; refine Kd.R_append (Kd.int .i64) (w0 := W) W.heap.size rfl (.tmp 37) (.tmp 39) 22 3 (.int .i64 0) 8 rfl Try.underlying22 info3 rfl (by decide) (by omega) u5 (plainTo s hart k) ((k : Int)) [.int .i64 ((k : Int))] (fun _ => True) (fun _ => False) rfl rfl ?aP (fun _ hk => hk.elim) ?aF ?aO ?aB ?aS ?aL ?_; (case aP => exact rfl); (case aF => exact (fun _ _ => trivial)); (case aO => exact HOq.out); (case aB => exact HBq.out); (case aS => exact (HBq.out).size); (case aL => have := HL.out; simp; omega); intro v1 w1 ho hbb hg hat; have HO2 := Aside0.mk ho; have HB2 := Aside0.mk hbb; clear ho hbb hg hat)) | fail)
          go_roundw
          case rel => exact ⟨k + 1, by go_num, by omega, ⟨by rw [HPP.out]; exact HO2.out⟩, HB2⟩
          case measure => simp [intOf]; omega
        | true =>
          rw [b2] at xg
          have HPP := Aside0.mk (show plainTo s hart (k + 1) = plainTo s hart k by rw [HP.out, if_neg (by unfold plainP; rw [b2]; simp), List.append_nil])
          clear d1 b2 HP
          go_wp2
          go_quiet (fail)
          go_wp2
          go_roundw
          case rel => exact ⟨k + 1, by go_num, by omega, ⟨by rw [HPP.out]; exact Kd.R_drewN HO.out nq⟩, ⟨pw_below_drewN HB.out nq⟩⟩
          case measure => simp [intOf]; omega
      · have b1 : (homeOf s k == hart) = false := by simpa using d1
        have HPP := Aside0.mk (show plainTo s hart (k + 1) = plainTo s hart k by rw [HP.out, if_neg (by unfold plainP; rw [b1]; simp), List.append_nil])
        clear d1 HP
        go_wp2
        go_quiet (fail)
        go_wp2
        go_roundw
        case rel => exact ⟨k + 1, by go_num, by omega, ⟨by rw [HPP.out]; exact Kd.R_drewN HO.out nq⟩, ⟨pw_below_drewN HB.out nq⟩⟩
        case measure => simp [intOf]; omega
    · obtain rfl : k = s.es.length := by omega
      go_wp2
      go_ret
      exact ⟨_, rfl, HO.out, HB.out⟩
end Go.Proofs.Ytdaadmjppikebaa.SC

/- Whose turn it is, partitioned. -/
namespace Go.Proofs.Ytdaadmjppikebaa.SC
open Go.RowKit Go.Proofs.YtdaadmjppikebaaW.PrintWords
set_option linter.unusedVariables false
set_option linter.unusedSimpArgs false

theorem whoseF_range (s : SS) (h : Int) : whoseF s h = -1 ∨ ∃ i : Nat, whoseF s h = (i : Int) ∧ i < s.es.length ∧ homeOf s i = h ∧ s.gng i = false := by
  unfold whoseF
  by_cases h0 : (plainL s h).length = 0
  · rw [if_pos h0]; exact .inl rfl
  · rw [if_neg h0]
    right
    have hlt : (s.sh / s.S % ((plainL s h).length : Int)).toNat < (plainL s h).length := by
      have h1 := Int.emod_nonneg (s.sh / s.S) (show ((plainL s h).length : Int) ≠ 0 by omega)
      have h2 := Int.emod_lt_of_pos (s.sh / s.S) (show (0 : Int) < ((plainL s h).length : Int) by omega)
      omega
    rw [List.getD_eq_getElem?_getD, List.getElem?_eq_getElem hlt]
    exact plainTo_mem (List.getElem_mem hlt)
set_option maxRecDepth 100000 in
set_option maxHeartbeats 800000 in
theorem whose_calls {W : World} {own : Nat → Prop} {L : Lay} {s : SS} (h : SR W own L s) (hw : Wf s) (hart : Int) :
    Calls Try.prog 44 #[.pointer (some ⟨L.b, 0, none⟩), .int .i64 hart] W fun x w' => x = .returned (.int .i64 (whoseF s hart)) ∧ Below W.heap.size W w' := by
  have HP := Aside0.mk (plain_calls h hw hart)
  have HR := Aside0.mk h
  have hll := plainTo_len s hart s.es.length
  have hem := hw.em
  have hs1 := hw.S1
  have hs2 := hw.S2
  have hsh := hw.sw.1
  have hsh2 := hw.sw.2
  have hnw := hw.nw.2
  have hlen : (plainL s hart).length ≤ 64 := Nat.le_trans hll hem
  have HW := Aside0.mk (show whoseF s hart = if (plainL s hart).length = 0 then -1 else (plainL s hart).getD (s.sh / s.S % (plainL s hart).length).toNat 0 from rfl)
  clear h hw hll
  obtain ⟨l, hl⟩ : ∃ l, l = plainL s hart := ⟨_, rfl⟩
  rw [← hl] at HP HW hlen
  clear hl
  by_cases h0 : l.length = 0
  · have b0 : ((l.length : Int) == 0) = true := by simp [h0]
    have HE := Aside0.mk (show -1 = whoseF s hart by rw [HW.out, if_pos h0])
    clear h0
    go_enter Try.func44, Try.ntmps44
    go_wp2_with (go_at_call 37; refine HP.out.mono ?_; rintro e w1 ⟨v, rfl, ho, hb⟩; obtain ⟨A1, q1, rfl, hq, hC⟩ := Kd.R_reads ho; have HB := Aside0.mk hb; have HC := Aside0.mk hC; clear ho hb hC)
    go_ret
    exact ⟨ret_int HE.out, HB.out⟩
  · have b0 : ((l.length : Int) == 0) = false := by simpa using h0
    obtain ⟨i, hi⟩ : ∃ i, i = s.sh / s.S % (l.length : Int) := ⟨_, rfl⟩
    have i1 : 0 ≤ s.sh / s.S % (l.length : Int) := Int.emod_nonneg _ (by omega)
    have i2 : s.sh / s.S % (l.length : Int) < (l.length : Int) := Int.emod_lt_of_pos _ (by omega)
    have i3 : 0 ≤ s.sh / s.S := Int.ediv_nonneg hsh (by omega)
    have i4 : s.sh / s.S ≤ 4611686018427387904 := by have := Int.ediv_le_self s.S hsh; omega
    have HE := Aside0.mk (show rd l (s.sh / s.S % (l.length : Int)) = whoseF s hart by rw [HW.out, if_neg h0]; rfl)
    have h1 : 1 ≤ l.length := by omega
    clear h0 hi
    go_enter Try.func44, Try.ntmps44
    go_wp2_with (go_at_call 37; refine HP.out.mono ?_; rintro e w1 ⟨v, rfl, ho, hb⟩; obtain ⟨A1, q1, rfl, hq, hC⟩ := Kd.R_reads ho; have HB := Aside0.mk hb; have HC := Aside0.mk hC; have c1 := (HR.out.below hb).fld 1 rfl; have c8 := (HR.out.below hb).fld 8 rfl; obtain ⟨ad, rfl, hcell⟩ := Kd.at_int hC (s.sh / s.S % (l.length : Int)) i1 i2; clear ho hb hC)
    go_quiet (fail)
    go_wp2
    go_ret
    exact ⟨ret_int HE.out, pw_below_drewN HB.out _⟩
set_option maxRecDepth 100000 in
theorem byTurn_calls {W : World} {own : Nat → Prop} {L : Lay} {s : SS} {rd : List Bool} {A : Option Addr} {c : Nat} (h : SR W own L s) (hw : Wf s) (hr : RD W rd A c) (hart : Int) :
    Calls Try.prog 38 #[.pointer (some ⟨L.b, 0, none⟩), .int .i64 hart, .slice A rd.length c] W fun x w' => x = .returned (.int .i64 (byTurnF s hart rd)) ∧ Below W.heap.size W w' := by
  have HC := Aside0.mk (whose_calls h hw hart)
  have HR := Aside0.mk h
  have HD := Aside0.mk hr
  have hd : byTurnF s hart rd = if 0 ≤ whoseF s hart ∧ readyF s rd (whoseF s hart) = true then whoseF s hart else -1 := rfl
  clear h hr
  rcases whoseF_range s hart with hm | ⟨i, hm, hi, _, _⟩
  · rw [hm] at HC hd
    have HE := Aside0.mk (show byTurnF s hart rd = -1 by rw [hd, if_neg (by omega)])
    clear hd hm hw
    go_enter Try.func38, Try.ntmps38
    go_wp2_with (go_at_call 44; refine HC.out.mono ?_; rintro e w1 ⟨rfl, hb⟩; have HB := Aside0.mk hb; clear hb)
    go_ret
    exact ⟨ret_int HE.out.symm, HB.out⟩
  · rw [hm] at HC hd
    clear hm hw
    cases hb : readyF s rd (i : Int) with
    | true =>
      have HE := Aside0.mk (show byTurnF s hart rd = (i : Int) by rw [hd, if_pos ⟨by omega, hb⟩])
      have HT := Aside0.mk hb
      clear hd hb
      go_enter Try.func38, Try.ntmps38
      go_wp2_with (first | (go_at_call 44; refine HC.out.mono ?_; rintro e w1 ⟨rfl, hb⟩; have HB := Aside0.mk hb; clear hb) | (go_at_call 58; refine (ready_is (HR.out.below HB.out) (HD.out.below HB.out) i hi HT.out).mono ?_; rintro e w' ⟨rfl, rfl⟩))
      go_ret
      exact ⟨ret_int HE.out.symm, HB.out⟩
    | false =>
      have HE := Aside0.mk (show byTurnF s hart rd = -1 by rw [hd, if_neg (by rw [hb]; simp)])
      have HT := Aside0.mk hb
      clear hd hb
      go_enter Try.func38, Try.ntmps38
      go_wp2_with (first | (go_at_call 44; refine HC.out.mono ?_; rintro e w1 ⟨rfl, hb⟩; have HB := Aside0.mk hb; clear hb) | (go_at_call 58; refine (ready_is (HR.out.below HB.out) (HD.out.below HB.out) i hi HT.out).mono ?_; rintro e w' ⟨rfl, rfl⟩))
      go_ret
      exact ⟨ret_int HE.out.symm, HB.out⟩
end Go.Proofs.Ytdaadmjppikebaa.SC
