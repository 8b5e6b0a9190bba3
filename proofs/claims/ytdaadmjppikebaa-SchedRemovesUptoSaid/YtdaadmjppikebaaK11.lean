/- Parts of the walk of package sched, merged. -/
/- SchedGangs, plain: whose slot it is, how often in a period; what a gang is charged. -/
import Derived.Test.YtdaadmjppikebaaK10
namespace Go.Proofs.Ytdaadmjppikebaa.SC
open Go.RowKit
open Go.Proofs.Ytdaadmjppikebaa.PV (S94 k94 S29 k29 rd_T94 rd_T29)
set_option linter.unusedVariables false
set_option linter.unusedSimpArgs false

/-- How many of the first i ticks were a gang's. -/
def gcnt (gs : List SG) (P : Nat) (q : Nat) : Nat → Int
  | 0 => 0
  | i + 1 => gcnt gs P q i + if gangGo gs 0 ((i % P : Nat) : Int) = (q : Int) then 1 else 0
/-- What SchedGangs has counted. -/
structure GaP (m : Nat) (S : Int) (P : Nat) (cr : Bool) (ys : List S29) (s : SS) (sl : List Int) (i : Nat) : Prop where
  now : s.now = i
  n : NP m S P cr ys s
  l : sl.length = ys.length
  c : ∀ q : Nat, q < ys.length → sl.getD q 0 = gcnt s.gs P q i
theorem gangF_at {m : Nat} {S : Int} {P : Nat} {cr : Bool} {ys : List S29} {s : SS} {sl : List Int} {i : Nat} (h : GaP m S P cr ys s sl i) : gangF s = gangGo s.gs 0 ((i % P : Nat) : Int) := by
  unfold gangF
  rw [h.now, h.n.P]
  rfl
theorem GaP.tick {W : World} {own : Nat → Prop} {b m : Nat} {S : Int} {P : Nat} {cr : Bool} {ys : List S29} {s : SS} {sl sl' : List Int} {i : Nat} (hx : SB W own b s) (h : GaP m S P cr ys s sl i) (hi : i ≤ 1048576) (rd : List Bool) (hl : sl'.length = sl.length) (hs : ∀ q : Nat, q < ys.length → sl'.getD q 0 = sl.getD q 0 + if gangF s = (q : Int) then 1 else 0) : GaP m S P cr ys (tickF s rd) sl' (i + 1) := by
  have hn := h.now
  have ht := tickF_tf rd hx.wf (by omega) hx.cntC hx.cntR
  refine ⟨by rw [ht.now, hn]; rfl, h.n.st ht.st, hl.trans h.l, fun q hq => ?_⟩
  rw [hs q hq, h.c q hq, ht.st.gs, gangF_at h]
  rfl
end Go.Proofs.Ytdaadmjppikebaa.SC
