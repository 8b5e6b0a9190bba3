import Derived.Test.YtdaadmjppikebaaK0
import Derived.Defers
import Derived.Laws.Pointers
import Derived.Laws.LoneSync
import Derived.RegionTactic
import Derived.RegionCalls
import Derived.ChangeAlike
import Derived.Test.YtdaadmjppikebaaK3
import Derived.Test.YtdaadmjppikebaaK1
/- Parts of the walk of package sched, merged. -/
/- sync.Once, not yet done, its lock free. (After the kit's worked text Lazy.) -/
namespace Go.Proofs.Ytdaadmjppikebaa.SC
open Go.RowKit Go.Proofs.YtdaadmjppikebaaW.PrintWords
set_option linter.unusedVariables false
set_option linter.unusedSimpArgs false

theorem disable (w : World) : (callFunc 81 #[]).run Try.prog w = .ok (.value (.tuple #[])) w := run_call_mark0 Try.func81 (by kernel_rfl) (by kernel_rfl) (by kernel_rfl) .disable (by kernel_rfl) w
theorem enable (w : World) : (callFunc 83 #[]).run Try.prog w = .ok (.value (.tuple #[])) w := run_call_mark0 Try.func83 (by kernel_rfl) (by kernel_rfl) (by kernel_rfl) .enable (by kernel_rfl) w
theorem acquire (a : Addr) (w : World) : (callFunc 84 #[.pointer (some a)]).run Try.prog w = .ok (.value (.tuple #[])) w := run_call_marked Try.func84 (by kernel_rfl) (by kernel_rfl) (by kernel_rfl) .acquire (by kernel_rfl) a w
theorem releaseMerge (a : Addr) (w : World) : (callFunc 86 #[.pointer (some a)]).run Try.prog w = .ok (.value (.tuple #[])) w := run_call_marked Try.func86 (by kernel_rfl) (by kernel_rfl) (by kernel_rfl) .releaseMerge (by kernel_rfl) a w
theorem store_deferred (a : Addr) (x : Value) (u : FrameMode) (w : World) (hc : w.cell? a = some x) (hz : w.frozen? a = false) :
    CallsD Try.prog 76 #[.pointer (some a), .bool true] u w fun e u' w' => u' = u ∧ (e = .returned (.tuple #[]) ∧ w' = w.drew.setCell a (.int .u32 1)) := by
  have hc' : w.drew.cell? a = some x := by go_simp
  have hz' : w.drew.frozen? a = false := by go_simp
  have hst := run_call_store (P := Try.prog) Try.func79 (by kernel_rfl) (by kernel_rfl) (by kernel_rfl) (by kernel_rfl) (k := .u32) (y := 1) hc' hz'
  go_enter_d Try.func76, Try.ntmps76
  go_wp2
  go_region_calls
  all_goals (go_end0; exact ⟨rfl, rfl⟩)
set_option maxRecDepth 100000 in
theorem unlock_deferred (a : Addr) (u : FrameMode) (w : World) (hc : w.cell? a = some (.int .i32 1)) (hz : w.frozen? a = false) :
    CallsD Try.prog 75 #[.pointer (some a)] u w fun e u' w' => u' = u ∧ (e = .returned (.tuple #[]) ∧ w' = w.setCell a (.int .i32 0)) := by
  have hd := disable
  have he := enable
  have hr := releaseMerge
  have hadd := run_call_add (P := Try.prog) Try.func87 (by kernel_rfl) (by kernel_rfl) (by kernel_rfl) .i32 (by kernel_rfl) (y := -1) (s := 0) hc hz (by simp [go_sem]; rfl)
  have hcv := run_convert_to_unsafe (P := Try.prog) (src := 128) (dst := 132) Try.underlying128 Try.underlying132 (by kernel_rfl) hc
  go_enter_d Try.func75, Try.ntmps75
  go_wp2
  go_end0
  go_wp2
  go_end0
  exact ⟨rfl, rfl⟩
set_option maxRecDepth 100000 in
theorem lock_free (a : Addr) (w : World) (hc : w.cell? a = some (.int .i32 0)) (hz : w.frozen? a = false) :
    Calls Try.prog 74 #[.pointer (some a)] w fun e w' => e = .returned (.tuple #[]) ∧ w' = w.setCell a (.int .i32 1) := by
  have hd := disable
  have he := enable
  have ha := acquire
  have hcas := run_call_cas_hit (P := Try.prog) Try.func82 (by kernel_rfl) (by kernel_rfl) (by kernel_rfl) .i32 (by kernel_rfl) (y := 1) hc hz
  have hc' : (w.setCell a (.int .i32 1)).cell? a = some (.int .i32 1) := World.cell?_setCell_same w a _ hc
  have hcv := run_convert_to_unsafe (P := Try.prog) (src := 128) (dst := 132) Try.underlying128 Try.underlying132 (by kernel_rfl) hc'
  go_enter Try.func74, Try.ntmps74
  go_wp2
  first | go_end0 | (simp only [Exit.inBlock, Exit.then]; refine bodyPost_ret (results_none rfl _ _ _) rfl ?_) | refine bodyPost_ret (results_none rfl _ _ _) rfl ?_
  go_wp2
  go_end0
  exact ⟨rfl, rfl⟩
set_option maxRecDepth 100000 in
set_option maxHeartbeats 1600000 in
theorem slow_any (b off : Nat) (pl : Addr) (w : World) (Q : World → Prop)
    (h0 : w.cell? ⟨b, off, none⟩ = some (.int .u32 0)) (h1 : w.cell? ⟨b, off + 1, none⟩ = some (.int .i32 0))
    (f0 : w.frozen? ⟨b, off, none⟩ = false) (f1 : w.frozen? ⟨b, off + 1, none⟩ = false)
    (hF : Calls Try.prog 65 #[.pointer (some pl)] (w.setCell ⟨b, off + 1, none⟩ (.int .i32 1)) fun e w' => e = .returned (.tuple #[]) ∧ Q w')
    (hQ : ∀ w', Q w' → w'.cell? ⟨b, off, none⟩ = some (.int .u32 0) ∧ w'.frozen? ⟨b, off, none⟩ = false ∧ w'.cell? ⟨b, off + 1, none⟩ = some (.int .i32 1) ∧ w'.frozen? ⟨b, off + 1, none⟩ = false) :
    Calls Try.prog 72 #[.pointer (some ⟨b, off, none⟩), .func (.func 65) #[] #[.pointer (some pl)]] w fun e w' => e = .returned (.tuple #[]) ∧
      ∃ w2, Q w2 ∧ w' = (w2.drew.setCell ⟨b, off, none⟩ (.int .u32 1)).setCell ⟨b, off + 1, none⟩ (.int .i32 0) := by
  have hl := run_call_load (P := Try.prog) Try.func73 (by kernel_rfl) (by kernel_rfl) (by kernel_rfl) .u32 (by kernel_rfl) (w := w.setCell ⟨b, off + 1, none⟩ (.int .i32 1)) (a := ⟨b, off, none⟩) (x := 0) ((World.cell?_setCell_other _ ⟨b, off + 1, none⟩ ⟨b, off, none⟩ _ (by simp)).trans h0)
  have hnot : ∀ (x : Bool) (w : World), (Op.unary .not (.bool x)).run Try.prog w = .ok (.bool (!x)) w := fun _ _ => rfl
  have HF := Aside0.mk hF
  have HQ := Aside0.mk hQ
  clear hF hQ
  go_enter_defers Try.func72, Try.ntmps72
  go_wp2_with (first | (go_at_call 74; refine (lock_free ⟨b, off + 1, none⟩ _ (by go_simp) (by go_simp)).mono ?_; rintro e w' ⟨rfl, rfl⟩) | (go_at_call 71; go_in) | (go_at_call 65; refine HF.out.mono ?_; rintro e w2 ⟨rfl, hq⟩; have HQ2 := Aside0.mk hq; clear hq))
  obtain ⟨k0, k1, k2, k3⟩ := HQ.out _ HQ2.out
  refine leaves_cons (f := 76) (args := #[.pointer (some ⟨b, off, none⟩), .bool true]) (by simp) (by simp [go_sem]) ?_
  refine (store_deferred ⟨b, off, none⟩ (.int .u32 0) .returning _ k0 k1).mono ?_
  rintro e u' w'' ⟨rfl, rfl, rfl⟩
  refine leaves_cons (f := 75) (args := #[.pointer (some ⟨b, off + 1, none⟩)]) (by simp [settle]) (by simp [go_sem]) ?_
  refine (unlock_deferred ⟨b, off + 1, none⟩ _ _ ?_ (by simp [k3])).mono ?_
  · refine (World.cell?_setCell_other _ ⟨b, off, none⟩ ⟨b, off + 1, none⟩ _ (by simp)).trans ?_
    rw [World.cell?_drew]
    exact k2
  rintro e u' w'' ⟨rfl, rfl, rfl⟩
  simp [Leaves, settle, results, Try.results72]
  exact ⟨_, HQ2.out, rfl⟩
theorem do_first (b off : Nat) (pl : Addr) (w : World) (Q : World → Prop)
    (h0 : w.cell? ⟨b, off, none⟩ = some (.int .u32 0)) (h1 : w.cell? ⟨b, off + 1, none⟩ = some (.int .i32 0))
    (f0 : w.frozen? ⟨b, off, none⟩ = false) (f1 : w.frozen? ⟨b, off + 1, none⟩ = false)
    (hF : Calls Try.prog 65 #[.pointer (some pl)] (w.setCell ⟨b, off + 1, none⟩ (.int .i32 1)) fun e w' => e = .returned (.tuple #[]) ∧ Q w')
    (hQ : ∀ w', Q w' → w'.cell? ⟨b, off, none⟩ = some (.int .u32 0) ∧ w'.frozen? ⟨b, off, none⟩ = false ∧ w'.cell? ⟨b, off + 1, none⟩ = some (.int .i32 1) ∧ w'.frozen? ⟨b, off + 1, none⟩ = false) :
    Calls Try.prog 64 #[.pointer (some ⟨b, off, none⟩), .func (.func 65) #[] #[.pointer (some pl)]] w fun e w' => e = .returned (.tuple #[]) ∧
      ∃ w2, Q w2 ∧ w' = (w2.drew.setCell ⟨b, off, none⟩ (.int .u32 1)).setCell ⟨b, off + 1, none⟩ (.int .i32 0) := by
  have hl := run_call_load (P := Try.prog) Try.func73 (by kernel_rfl) (by kernel_rfl) (by kernel_rfl) .u32 (by kernel_rfl) h0
  have hnot : ∀ (x : Bool) (w : World), (Op.unary .not (.bool x)).run Try.prog w = .ok (.bool (!x)) w := fun _ _ => rfl
  have HS := Aside0.mk (slow_any b off pl w Q h0 h1 f0 f1 hF hQ)
  clear hF hQ
  go_enter Try.func64, Try.ntmps64
  go_wp2_with (first | (go_at_call 72; refine HS.out.mono ?_; rintro e w3 ⟨rfl, hp⟩; have HP := Aside0.mk hp; clear hp) | (go_at_call 71; go_in))
  go_end0
  exact ⟨rfl, HP.out⟩
end Go.Proofs.Ytdaadmjppikebaa.SC

/- The table of homes, made once. -/
namespace Go.Proofs.Ytdaadmjppikebaa.SC
open Go.RowKit Go.Proofs.YtdaadmjppikebaaW.PrintWords Go.Proofs.YtdaadmjppikebaaW.PrintLast
set_option linter.unusedVariables false
set_option linter.unusedSimpArgs false

/-- The scheduler's own cells, while it is made. -/
def schP (L : Lay) (s : SS) (pv : Value) (o m : Int) (tv : Value) : List Value := [.int .i64 s.H, .int .i64 s.S, .int .i64 s.P, .bool s.cr, .slice (some ⟨L.bg, 0, none⟩) s.gs.length L.cg, .slice (some ⟨L.be, 0, none⟩) s.es.length L.ce, .slice (some ⟨L.bt, 0, none⟩) s.ts.length s.ts.length, .int .u64 s.now, .int .u64 s.sh, .slice (some ⟨L.bc, 0, none⟩) s.ch.length s.ch.length, pv, .int .u32 o, .int .i32 m, .int .u32 0, tv]
def homesTo (s : SS) (k : Nat) : List Int := (List.range k).map (homeOf s)
theorem homesTo_succ (s : SS) (k : Nat) : homesTo s (k + 1) = homesTo s k ++ [homeOf s k] := by unfold homesTo; rw [List.range_succ, List.map_append]; rfl
theorem homesTo_len (s : SS) (k : Nat) : (homesTo s k).length = k := by simp [homesTo]
theorem blk_ent {W : World} {g : Nat} {s : SS} (h : Blk W g 96 (s.es.flatMap entC)) (i j : Nat) (hi : i < s.es.length) (hj : j < 7) {v : Value} (hv : (entC (s.ent i))[j]? = some v) : W.cell? ⟨g, i * 7 + j, none⟩ = some v :=
  h.cell ((flat_get entC 7 (fun _ => rfl) s.es i j hj _ (ent_some hi)).trans hv)
theorem blk_gst {W : World} {g : Nat} {s : SS} (h : Blk W g 94 (s.gs.flatMap gstC)) (i j : Nat) (hi : i < s.gs.length) (hj : j < 7) {v : Value} (hv : (gstC (s.gst i))[j]? = some v) : W.cell? ⟨g, i * 7 + j, none⟩ = some v :=
  h.cell ((flat_get gstC 7 (fun _ => rfl) s.gs i j hj _ (gst_some hi)).trans hv)
/-- What is known while homes are told. -/
structure HK (W : World) (L : Lay) (s : SS) (pl : Addr) (pv : Value) (o m : Int) (tv : Value) : Prop where
  S : Blk W L.b 91 (schP L s pv o m tv)
  G : Blk W L.bg 94 (s.gs.flatMap gstC)
  E : Blk W L.be 96 (s.es.flatMap entC)
  p : W.cell? pl = some (.pointer (some ⟨L.b, 0, none⟩))
  pb : pl.block ≠ L.b
  cap : s.gs.length ≤ L.cg ∧ s.es.length ≤ L.ce
theorem HK.below {W W' : World} {L : Lay} {s : SS} {pl : Addr} {pv : Value} {o m : Int} {tv : Value} (h : HK W L s pl pv o m tv) (hb : Below W.heap.size W W') : HK W' L s pl pv o m tv := ⟨h.S.below hb, h.G.below hb, h.E.below hb, pw_cell_below hb h.p, h.pb, h.cap⟩
theorem HK.mut {W W' : World} {L : Lay} {s : SS} {pl : Addr} {pv : Value} {o m o' m' : Int} {tv tv' : Value} {S : Nat → Prop} (h : HK W L s pl pv o m tv) (hm : Mut S W W') (hs : ∀ k, S k → k = L.b) (hS : Blk W' L.b 91 (schP L s pv o' m' tv')) : HK W' L s pl pv o' m' tv' :=
  ⟨hS, h.G.mut hm (fun e => (h.S.ne h.G (by decide)) (hs _ e).symm), h.E.mut hm (fun e => (h.S.ne h.E (by decide)) (hs _ e).symm), cell_kept h.p hm.kept (fun e => h.pb (hs _ e)), h.pb, h.cap⟩

theorem HK.keep {W W' : World} {L : Lay} {s : SS} {pl : Addr} {pv : Value} {o m : Int} {tv : Value} {S : Nat → Prop} (h : HK W L s pl pv o m tv) (hm : Mut S W W') (hs : ∀ k, S k → k ≠ L.b ∧ k ≠ L.bg ∧ k ≠ L.be ∧ k ≠ pl.block) : HK W' L s pl pv o m tv :=
  ⟨h.S.mut hm (fun e => (hs _ e).1 rfl), h.G.mut hm (fun e => (hs _ e).2.1 rfl), h.E.mut hm (fun e => (hs _ e).2.2.1 rfl), cell_kept h.p hm.kept (fun e => (hs _ e).2.2.2 rfl), h.pb, h.cap⟩
set_option maxRecDepth 100000 in
set_option maxHeartbeats 3200000 in
theorem homes1_calls {W : World} {L : Lay} {s : SS} {pb : Nat} {pv : Value} (h : HK W L s ⟨pb, 0, none⟩ pv 0 1 (.slice none 0 0)) (hw : 1 ≤ s.H ∧ s.H ≤ 8 ∧ s.gs.length ≤ 8 ∧ s.es.length ≤ 64) (heg : ∀ i, i < s.es.length → 0 ≤ (s.ent i).gu ∧ (s.ent i).gu < s.gs.length) :
    Calls Try.prog 65 #[.pointer (some ⟨pb, 0, none⟩)] W fun x w' => x = .returned (.tuple #[]) ∧ ∃ tv, HK w' L s ⟨pb, 0, none⟩ pv 0 1 tv ∧ Kd.R (Kd.int .i64) 3 w' W.heap.size (fun _ => True) tv (homesL s) ∧ Mut (fun k => k = L.b) W w' := by
  have HH := Aside0.mk h
  have HEG := Aside0.mk heg
  have HFAR := Aside0.mk (show ∀ k, W.heap.size ≤ k → k ≠ L.b ∧ k ≠ L.bg ∧ k ≠ L.be ∧ k ≠ pb from fun k hk => by have h1 := h.S.lt; have h2 := h.G.lt; have h3 := h.E.lt; have h4 := World.block_lt_of_cell? W ⟨pb, 0, none⟩ h.p; simp only at h4; omega)
  obtain ⟨hH1, hH8, hgm, hem⟩ := hw
  have hp := h.p
  have c5 : W.cell? ⟨L.b, 5, none⟩ = some (.slice (some ⟨L.be, 0, none⟩) s.es.length L.ce) := h.S.cell rfl
  have hcap := h.cap.2
  have hcap1 := h.cap.1
  clear h heg
  go_enter Try.func65, Try.ntmps65
  go_wp2
  go_loopw [9] (fun v9 w' => ∃ (k : Nat) (tv : Value), v9 = .int .i64 (k : Int) ∧ k ≤ s.es.length ∧ Aside0 (HK w' L s ⟨pb, 0, none⟩ pv 0 1 tv) ∧ Aside0 (Kd.R (Kd.int .i64) 3 w' W.heap.size (fun _ => True) tv (homesTo s k)) ∧ Aside0 (Mut (fun k => k = L.b) W w')) (fun v9 _ => s.es.length - (intOf v9).toNat)
  case atStart => exact ⟨0, _, rfl, by omega, HH, ⟨Kd.R_nil _ _ _ _ _⟩, ⟨Mut.refl _ _⟩⟩
  case round =>
    obtain ⟨k, tv, rfl, hk, HHk, HO, HM⟩ := hrel
    clear hp c5
    by_cases hlt : k < s.es.length
    · have hp : wr.cell? ⟨pb, 0, none⟩ = some (.pointer (some ⟨L.b, 0, none⟩)) := HHk.out.p
      have c0 : wr.cell? ⟨L.b, 0, none⟩ = some (.int .i64 s.H) := HHk.out.S.cell rfl
      have c4 : wr.cell? ⟨L.b, 4, none⟩ = some (.slice (some ⟨L.bg, 0, none⟩) s.gs.length L.cg) := HHk.out.S.cell rfl
      have y0 : wr.cell? ⟨L.be, k * 7, none⟩ = some (.int .i64 (s.ent k).gu) := blk_ent HHk.out.E k 0 hlt (by decide) rfl
      have y1 : wr.cell? ⟨L.be, k * 7 + 1, none⟩ = some (.int .i64 (s.ent k).ix) := blk_ent HHk.out.E k 1 hlt (by decide) rfl
      have y2 : wr.cell? ⟨L.be, k * 7 + 2, none⟩ = some (.int .i64 (s.ent k).wt) := blk_ent HHk.out.E k 2 hlt (by decide) rfl
      have y3 : wr.cell? ⟨L.be, k * 7 + 3, none⟩ = some (.int .i64 (s.ent k).cd) := blk_ent HHk.out.E k 3 hlt (by decide) rfl
      have y4 : wr.cell? ⟨L.be, k * 7 + 4, none⟩ = some (.int .i64 (s.ent k).pt) := blk_ent HHk.out.E k 4 hlt (by decide) rfl
      have y5 : wr.cell? ⟨L.be, k * 7 + 5, none⟩ = some (.int .u64 (s.ent k).rn) := blk_ent HHk.out.E k 5 hlt (by decide) rfl
      have y6 : wr.cell? ⟨L.be, k * 7 + 6, none⟩ = some (.bool (s.ent k).gn) := blk_ent HHk.out.E k 6 hlt (by decide) rfl
      obtain ⟨g1, g2⟩ := HEG.out k hlt
      have xg : wr.cell? ⟨L.bg, (s.ent k).gu.toNat * 7 + 6, none⟩ = some (.bool (s.gng k)) := blk_gst HHk.out.G (s.ent k).gu.toNat 6 (by omega) (by decide) rfl
      have hr1 : 0 ≤ (k : Int) % s.H := Int.emod_nonneg _ (by omega)
      have hr2 : (k : Int) % s.H < s.H := Int.emod_lt_of_pos _ (by omega)
      have hz : ¬ s.H = 0 := by omega
      have hal := below_alloc (Below.refl wr.heap.size wr) (.cells #[.int .i64 (s.ent k).gu, .int .i64 (s.ent k).ix, .int .i64 (s.ent k).wt, .int .i64 (s.ent k).cd, .int .i64 (s.ent k).pt, .int .u64 (s.ent k).rn, .bool (s.ent k).gn] 96)
      have ap := pw_cell_below hal hp
      have a0 := pw_cell_below hal c0
      have a4 := pw_cell_below hal c4
      have ax := pw_cell_below hal xg
      clear hal
      cases hb : s.gng k with
      | false =>
        rw [hb] at xg ax
        have HV := Aside0.mk (show homeOf s k = (k : Int) % s.H by unfold homeOf; rw [if_neg (by rw [hb]; decide)])
        clear hb
        go_wp2
        go_quiet (fail)
        have HBq := Aside0.mk (show Below wr.heap.size wr ((wr.alloc (.cells #[.int .i64 (s.ent k).gu, .int .i64 (s.ent k).ix, .int .i64 (s.ent k).wt, .int .i64 (s.ent k).cd, .int .i64 (s.ent k).pt, .int .u64 (s.ent k).rn, .bool (s.ent k).gn] 96)).drewN nq) from pw_below_drewN (below_alloc (Below.refl _ _) _) nq)
        have n1 : ((wr.alloc (.cells #[.int .i64 (s.ent k).gu, .int .i64 (s.ent k).ix, .int .i64 (s.ent k).wt, .int .i64 (s.ent k).cd, .int .i64 (s.ent k).pt, .int .u64 (s.ent k).rn, .bool (s.ent k).gn] 96)).drewN nq).cell? ⟨wr.heap.size, 1, none⟩ = some (.int .i64 (s.ent k).ix) := cell_drewN ((blk_cell (blk_new _ _) 1).trans rfl) nq
        obtain ⟨wq, hwq⟩ : ∃ wq, wq = (wr.alloc (.cells #[.int .i64 (s.ent k).gu, .int .i64 (s.ent k).ix, .int .i64 (s.ent k).wt, .int .i64 (s.ent k).cd, .int .i64 (s.ent k).pt, .int .u64 (s.ent k).rn, .bool (s.ent k).gn] 96)).drewN nq := ⟨_, rfl⟩
        rw [← hwq] at HBq n1 ⊢
        have HHq := Aside0.mk (HHk.out.below HBq.out)
        have HOq := Aside0.mk (Kd.R_below HO.out HBq.out)
        have HMq := Aside0.mk (HM.out.below HBq.out)
        have ze0 : wq.drew.cell? ⟨pb, 0, none⟩ = some (.pointer (some ⟨L.b, 0, none⟩)) := (HHq.out.below (below_drew (Below.refl _ _))).p
        have ze1 : wq.drew.cell? ⟨L.b, 14, none⟩ = some tv := (HHq.out.below (below_drew (Below.refl _ _))).S.cell rfl
        clear hwq hp c0 c4 xg ap a0 a4 ax y0 y1 y2 y3 y4 y5 y6
        go_upto_region 6 with (fail)
        rw [← HV.out]
        refine start_ (n := 11) (S := fun w' => w'.cell? ⟨pb, 0, none⟩ = some (.pointer (some ⟨L.b, 0, none⟩)) ∧ w'.cell? ⟨L.b, 14, none⟩ = some tv) (ds := [10]) (bl 11 0) (by kernel_rfl) rfl rfl ⟨ze0, ze1⟩ (fun hHeld => ?_)
        refine pure_ (i := 5) (N := some 36) (v := ?_) (a' := ?_) (bl 11 32) rfl rfl (by kernel_rfl) (fun _ _ _ h => h) (Or.inl ⟨by rfl, ?_⟩) ?_ ?_
        rotate_left
        · intro w'
          go_simp
          with_reducible rfl
        rotate_left
        · simp only [Act.put, lsa, lsz, lsc, i64_w, i32_w]
          rfl
        refine take_ (i := 0) (N := some 31) (v := ?_) (a' := ?_) (bl 11 33) rfl rfl (by kernel_rfl) (fun _ _ _ h => h) (Or.inl ⟨by rfl, ?_⟩) hHeld ?_ ?_
        rotate_left
        · rintro w' ⟨s0, s1⟩
          go_simp
          with_reducible rfl
        rotate_left
        · simp only [Act.put, lsa, lsz, lsc, i64_w, i32_w]
          rfl
        refine take_ (i := 1) (N := some 32) (v := ?_) (a' := ?_) (bl 11 35) rfl rfl (by kernel_rfl) (fun _ _ _ h => h) (Or.inl ⟨by rfl, ?_⟩) hHeld ?_ ?_
        rotate_left
        · rintro w' ⟨s0, s1⟩
          go_simp
          with_reducible rfl
        rotate_left
        · simp only [Act.put, lsa, lsz, lsc, i64_w, i32_w]
          rfl
        refine pure_ (i := 2) (N := some 33) (v := ?_) (a' := ?_) (bl 11 39) rfl rfl (by kernel_rfl) (fun _ _ _ h => h) (Or.inl ⟨by rfl, ?_⟩) ?_ ?_
        rotate_left
        · intro w'
          go_simp
          with_reducible rfl
        rotate_left
        · simp only [Act.put, lsa, lsz, lsc, i64_w, i32_w]
          rfl
        refine pure_ (i := 3) (N := some 34) (v := ?_) (a' := ?_) (bl 11 47) rfl rfl (by kernel_rfl) (fun _ _ _ h => h) (Or.inl ⟨by rfl, ?_⟩) ?_ ?_
        rotate_left
        · intro w'
          go_simp
          with_reducible rfl
        rotate_left
        · simp only [Act.put, lsa, lsz, lsc, i64_w, i32_w]
          rfl
        refine take_ (i := 4) (N := some 35) (v := ?_) (a' := ?_) (bl 11 63) rfl rfl (by kernel_rfl) (fun _ _ _ h => h) (Or.inl ⟨by rfl, ?_⟩) hHeld ?_ ?_
        rotate_left
        · rintro w' ⟨s0, s1⟩
          go_simp
          with_reducible rfl
        rotate_left
        · simp only [Act.put, lsa, lsz, lsc, i64_w, i32_w]
          rfl
        refine one_ (i := 6) (N := some 37) (bl 11 127) rfl rfl (by kernel_rfl) (by decide) (fun K hK => ?_)
        refine value_ (w1 := ?_) (v := ?_) (by rfl) rfl ?_ ?_
        rotate_left 2
        · go_simp
          constructor
          · rfl
          · rfl
        refine hK.out _ _ ⟨pw_cell_below (below_alloc (Below.refl _ _) _) ze0, pw_cell_below (below_alloc (Below.refl _ _) _) ze1⟩ (fun hHeld => ?_)
        clear hK K
        refine norm_ (a' := ?_) ?_ ?_
        rotate_left
        · show Act.put _ (some 37) _ = _
          simp only [Act.put, lsa, lsz, lsc, i64_w, i32_w]
          rfl
        refine one_ (i := 7) (N := some 38) (bl 11 255) rfl rfl (by kernel_rfl) (by decide) (fun K hK => ?_)
        rw [show (wq.alloc (.cells #[.int .i64 (homeOf s k)] 3)).drew = wq.drew.alloc (.cells #[.int .i64 (homeOf s k)] 3) from rfl]
        refine Kd.R_append_step (Kd.int .i64) (w0 := wq.drew) W.heap.size (by rfl) (.tmp 35) (.tmp 37) 22 3 (.int .i64 0) 8 rfl Try.underlying22 info3 rfl (by decide) (by omega) tv (homesTo s k) (homeOf s k) [.int .i64 (homeOf s k)] (fun _ => True) (fun _ => False) rfl rfl ?aP (fun _ hk => hk.elim) ?aF ?aO ?aB ?aS ?aL ?_
        (case aP => exact rfl)
        (case aF => exact (fun _ _ => trivial))
        (case aO => exact Kd.R_drew HOq.out)
        (case aB => exact Below.refl _ _)
        (case aS => exact HMq.out.size)
        (case aL => have := homesTo_len s k; omega)
        intro v9 w9 ho hb9 hg9 hat9
        obtain ⟨A9, n9, q9, e9⟩ : ∃ (A9 : Option Addr) (n9 q9 : Nat), v9 = .slice A9 n9 q9 := (by obtain ⟨A, c, e⟩ := Kd.R_slice ho; exact ⟨_, _, _, e⟩)
        subst e9
        have HO9 := Aside0.mk ho
        have HM9 := Aside0.mk ((HMq.out.below (below_drew (Below.refl _ _))).trans (below_mut0 hg9) (fun k hk => .inr (Kd.R_base HOq.out k hk)))
        have HK9 := Aside0.mk ((HHq.out.below (below_drew (Below.refl _ _))).keep (below_mut0 hg9) (fun k hk => HFAR.out k (Kd.R_base HOq.out k hk)))
        have z9 : w9.cell? ⟨L.b, 14, none⟩ = some tv := HK9.out.S.cell rfl
        have zf9 : w9.frozen? ⟨L.b, 14, none⟩ = false := HK9.out.S.frozen _
        have zp9 : w9.cell? ⟨pb, 0, none⟩ = some (.pointer (some ⟨L.b, 0, none⟩)) := HK9.out.p
        clear ho hb9 hg9 hat9
        refine hK.out _ _ ⟨zp9, z9⟩ (fun hHeld => ?_)
        clear hK K
        refine norm_ (a' := ?_) ?_ ?_
        rotate_left
        · show Act.put _ (some 38) _ = _
          simp only [Act.put, lsa, lsz, lsc, i64_w, i32_w]
          rfl
        refine pure_ (i := 8) (N := some 39) (v := ?_) (a' := ?_) (bl 11 511) rfl rfl (by kernel_rfl) (fun _ _ _ h => h) (Or.inl ⟨by rfl, ?_⟩) ?_ ?_
        rotate_left
        · intro w'
          go_simp
          with_reducible rfl
        rotate_left
        · simp only [Act.put, lsa, lsz, lsc, i64_w, i32_w]
          rfl
        refine pure_ (i := 9) (N := some 40) (v := ?_) (a' := ?_) (bl 11 1023) rfl rfl (by kernel_rfl) (fun _ _ _ h => h) (Or.inl ⟨by rfl, ?_⟩) ?_ ?_
        rotate_left
        · intro w'
          go_simp
          with_reducible rfl
        rotate_left
        · simp only [Act.put, lsa, lsz, lsc, i64_w, i32_w]
          rfl
        refine last_ (i := 10) (N := none) (bl 11 2047) rfl rfl (by kernel_rfl) (by decide) (fun K hK => ?_)
        refine skip_ (w1 := ?_) (by rfl) rfl ?_ ?_
        rotate_left
        · go_simp
          rfl
        refine hK.out _ _ ?_
        clear hK K
        refine done_ (by kernel_rfl) ?_
        go_wp2
        go_roundw
        case rel => exact ⟨k + 1, .slice A9 n9 q9, by go_num, by omega, ⟨HK9.out.mut (set_mut _ _ _) (fun _ hk => hk) (HK9.out.S.set 14 _)⟩, ⟨by rw [homesTo_succ]; exact R_mut HO9.out (set_mut _ _ _) (fun n hn e => (HFAR.out n (Kd.R_base HO9.out n hn)).1 e)⟩, ⟨HM9.out.setCell (.inl rfl) _⟩⟩
        case measure => simp [intOf]; omega
      | true =>
        rw [hb] at xg ax
        have HV := Aside0.mk (show homeOf s k = (s.ent k).ix by unfold homeOf; rw [if_pos hb])
        clear hb
        go_wp2
        go_quiet (fail)
        have HBq := Aside0.mk (show Below wr.heap.size wr ((wr.alloc (.cells #[.int .i64 (s.ent k).gu, .int .i64 (s.ent k).ix, .int .i64 (s.ent k).wt, .int .i64 (s.ent k).cd, .int .i64 (s.ent k).pt, .int .u64 (s.ent k).rn, .bool (s.ent k).gn] 96)).drewN nq) from pw_below_drewN (below_alloc (Below.refl _ _) _) nq)
        have n1 : ((wr.alloc (.cells #[.int .i64 (s.ent k).gu, .int .i64 (s.ent k).ix, .int .i64 (s.ent k).wt, .int .i64 (s.ent k).cd, .int .i64 (s.ent k).pt, .int .u64 (s.ent k).rn, .bool (s.ent k).gn] 96)).drewN nq).cell? ⟨wr.heap.size, 1, none⟩ = some (.int .i64 (s.ent k).ix) := cell_drewN ((blk_cell (blk_new _ _) 1).trans rfl) nq
        obtain ⟨wq, hwq⟩ : ∃ wq, wq = (wr.alloc (.cells #[.int .i64 (s.ent k).gu, .int .i64 (s.ent k).ix, .int .i64 (s.ent k).wt, .int .i64 (s.ent k).cd, .int .i64 (s.ent k).pt, .int .u64 (s.ent k).rn, .bool (s.ent k).gn] 96)).drewN nq := ⟨_, rfl⟩
        rw [← hwq] at HBq n1 ⊢
        have HHq := Aside0.mk (HHk.out.below HBq.out)
        have HOq := Aside0.mk (Kd.R_below HO.out HBq.out)
        have HMq := Aside0.mk (HM.out.below HBq.out)
        have ze0 : wq.drew.cell? ⟨pb, 0, none⟩ = some (.pointer (some ⟨L.b, 0, none⟩)) := (HHq.out.below (below_drew (Below.refl _ _))).p
        have ze1 : wq.drew.cell? ⟨L.b, 14, none⟩ = some tv := (HHq.out.below (below_drew (Below.refl _ _))).S.cell rfl
        clear hwq hp c0 c4 xg ap a0 a4 ax y0 y1 y2 y3 y4 y5 y6
        go_upto_region 6 with (fail)
        rw [← HV.out]
        refine start_ (n := 11) (S := fun w' => w'.cell? ⟨pb, 0, none⟩ = some (.pointer (some ⟨L.b, 0, none⟩)) ∧ w'.cell? ⟨L.b, 14, none⟩ = some tv) (ds := [10]) (bl 11 0) (by kernel_rfl) rfl rfl ⟨ze0, ze1⟩ (fun hHeld => ?_)
        refine pure_ (i := 5) (N := some 36) (v := ?_) (a' := ?_) (bl 11 32) rfl rfl (by kernel_rfl) (fun _ _ _ h => h) (Or.inl ⟨by rfl, ?_⟩) ?_ ?_
        rotate_left
        · intro w'
          go_simp
          with_reducible rfl
        rotate_left
        · simp only [Act.put, lsa, lsz, lsc, i64_w, i32_w]
          rfl
        refine take_ (i := 0) (N := some 31) (v := ?_) (a' := ?_) (bl 11 33) rfl rfl (by kernel_rfl) (fun _ _ _ h => h) (Or.inl ⟨by rfl, ?_⟩) hHeld ?_ ?_
        rotate_left
        · rintro w' ⟨s0, s1⟩
          go_simp
          with_reducible rfl
        rotate_left
        · simp only [Act.put, lsa, lsz, lsc, i64_w, i32_w]
          rfl
        refine take_ (i := 1) (N := some 32) (v := ?_) (a' := ?_) (bl 11 35) rfl rfl (by kernel_rfl) (fun _ _ _ h => h) (Or.inl ⟨by rfl, ?_⟩) hHeld ?_ ?_
        rotate_left
        · rintro w' ⟨s0, s1⟩
          go_simp
          with_reducible rfl
        rotate_left
        · simp only [Act.put, lsa, lsz, lsc, i64_w, i32_w]
          rfl
        refine pure_ (i := 2) (N := some 33) (v := ?_) (a' := ?_) (bl 11 39) rfl rfl (by kernel_rfl) (fun _ _ _ h => h) (Or.inl ⟨by rfl, ?_⟩) ?_ ?_
        rotate_left
        · intro w'
          go_simp
          with_reducible rfl
        rotate_left
        · simp only [Act.put, lsa, lsz, lsc, i64_w, i32_w]
          rfl
        refine pure_ (i := 3) (N := some 34) (v := ?_) (a' := ?_) (bl 11 47) rfl rfl (by kernel_rfl) (fun _ _ _ h => h) (Or.inl ⟨by rfl, ?_⟩) ?_ ?_
        rotate_left
        · intro w'
          go_simp
          with_reducible rfl
        rotate_left
        · simp only [Act.put, lsa, lsz, lsc, i64_w, i32_w]
          rfl
        refine take_ (i := 4) (N := some 35) (v := ?_) (a' := ?_) (bl 11 63) rfl rfl (by kernel_rfl) (fun _ _ _ h => h) (Or.inl ⟨by rfl, ?_⟩) hHeld ?_ ?_
        rotate_left
        · rintro w' ⟨s0, s1⟩
          go_simp
          with_reducible rfl
        rotate_left
        · simp only [Act.put, lsa, lsz, lsc, i64_w, i32_w]
          rfl
        refine one_ (i := 6) (N := some 37) (bl 11 127) rfl rfl (by kernel_rfl) (by decide) (fun K hK => ?_)
        refine value_ (w1 := ?_) (v := ?_) (by rfl) rfl ?_ ?_
        rotate_left 2
        · go_simp
          constructor
          · rfl
          · rfl
        refine hK.out _ _ ⟨pw_cell_below (below_alloc (Below.refl _ _) _) ze0, pw_cell_below (below_alloc (Below.refl _ _) _) ze1⟩ (fun hHeld => ?_)
        clear hK K
        refine norm_ (a' := ?_) ?_ ?_
        rotate_left
        · show Act.put _ (some 37) _ = _
          simp only [Act.put, lsa, lsz, lsc, i64_w, i32_w]
          rfl
        refine one_ (i := 7) (N := some 38) (bl 11 255) rfl rfl (by kernel_rfl) (by decide) (fun K hK => ?_)
        rw [show (wq.alloc (.cells #[.int .i64 (homeOf s k)] 3)).drew = wq.drew.alloc (.cells #[.int .i64 (homeOf s k)] 3) from rfl]
        refine Kd.R_append_step (Kd.int .i64) (w0 := wq.drew) W.heap.size (by rfl) (.tmp 35) (.tmp 37) 22 3 (.int .i64 0) 8 rfl Try.underlying22 info3 rfl (by decide) (by omega) tv (homesTo s k) (homeOf s k) [.int .i64 (homeOf s k)] (fun _ => True) (fun _ => False) rfl rfl ?bP (fun _ hk => hk.elim) ?bF ?bO ?bB ?bS ?bL ?_
        (case bP => exact rfl)
        (case bF => exact (fun _ _ => trivial))
        (case bO => exact Kd.R_drew HOq.out)
        (case bB => exact Below.refl _ _)
        (case bS => exact HMq.out.size)
        (case bL => have := homesTo_len s k; omega)
        intro v9 w9 ho hb9 hg9 hat9
        obtain ⟨A9, n9, q9, e9⟩ : ∃ (A9 : Option Addr) (n9 q9 : Nat), v9 = .slice A9 n9 q9 := (by obtain ⟨A, c, e⟩ := Kd.R_slice ho; exact ⟨_, _, _, e⟩)
        subst e9
        have HO9 := Aside0.mk ho
        have HM9 := Aside0.mk ((HMq.out.below (below_drew (Below.refl _ _))).trans (below_mut0 hg9) (fun k hk => .inr (Kd.R_base HOq.out k hk)))
        have HK9 := Aside0.mk ((HHq.out.below (below_drew (Below.refl _ _))).keep (below_mut0 hg9) (fun k hk => HFAR.out k (Kd.R_base HOq.out k hk)))
        have z9 : w9.cell? ⟨L.b, 14, none⟩ = some tv := HK9.out.S.cell rfl
        have zf9 : w9.frozen? ⟨L.b, 14, none⟩ = false := HK9.out.S.frozen _
        have zp9 : w9.cell? ⟨pb, 0, none⟩ = some (.pointer (some ⟨L.b, 0, none⟩)) := HK9.out.p
        clear ho hb9 hg9 hat9
        refine hK.out _ _ ⟨zp9, z9⟩ (fun hHeld => ?_)
        clear hK K
        refine norm_ (a' := ?_) ?_ ?_
        rotate_left
        · show Act.put _ (some 38) _ = _
          simp only [Act.put, lsa, lsz, lsc, i64_w, i32_w]
          rfl
        refine pure_ (i := 8) (N := some 39) (v := ?_) (a' := ?_) (bl 11 511) rfl rfl (by kernel_rfl) (fun _ _ _ h => h) (Or.inl ⟨by rfl, ?_⟩) ?_ ?_
        rotate_left
        · intro w'
          go_simp
          with_reducible rfl
        rotate_left
        · simp only [Act.put, lsa, lsz, lsc, i64_w, i32_w]
          rfl
        refine pure_ (i := 9) (N := some 40) (v := ?_) (a' := ?_) (bl 11 1023) rfl rfl (by kernel_rfl) (fun _ _ _ h => h) (Or.inl ⟨by rfl, ?_⟩) ?_ ?_
        rotate_left
        · intro w'
          go_simp
          with_reducible rfl
        rotate_left
        · simp only [Act.put, lsa, lsz, lsc, i64_w, i32_w]
          rfl
        refine last_ (i := 10) (N := none) (bl 11 2047) rfl rfl (by kernel_rfl) (by decide) (fun K hK => ?_)
        refine skip_ (w1 := ?_) (by rfl) rfl ?_ ?_
        rotate_left
        · go_simp
          rfl
        refine hK.out _ _ ?_
        clear hK K
        refine done_ (by kernel_rfl) ?_
        go_wp2
        go_roundw
        case rel => exact ⟨k + 1, .slice A9 n9 q9, by go_num, by omega, ⟨HK9.out.mut (set_mut _ _ _) (fun _ hk => hk) (HK9.out.S.set 14 _)⟩, ⟨by rw [homesTo_succ]; exact R_mut HO9.out (set_mut _ _ _) (fun n hn e => (HFAR.out n (Kd.R_base HO9.out n hn)).1 e)⟩, ⟨HM9.out.setCell (.inl rfl) _⟩⟩
        case measure => simp [intOf]; omega
    · obtain rfl : k = s.es.length := by omega
      go_wp2
      go_end0
      exact ⟨rfl, tv, HHk.out, HO.out, HM.out⟩
end Go.Proofs.Ytdaadmjppikebaa.SC

/- Rows of structs of scalars; the table of homes, made at the first asking. -/
namespace Go.Proofs.Ytdaadmjppikebaa.SC
open Go.RowKit Go.Proofs.YtdaadmjppikebaaW.PrintWords Go.Proofs.YtdaadmjppikebaaW.PrintLast
set_option linter.unusedVariables false
set_option linter.unusedSimpArgs false

theorem Mut.set1 {b : Nat} {W W1 : World} (h : Mut (fun k => k = b) W W1) (i : Nat) (u : Value) : Mut (fun k => k = b) W (W1.setCell ⟨b, i, none⟩ u) := Mut.setCell (S := fun k => k = b) (p := ⟨b, i, none⟩) h (.inl rfl) u
/-- Elements whose cells are just these. -/
def rowKd {α : Type} (f : α → List Value) (n : Nat) (hn : ∀ a, (f a).length = n) (h1 : ∀ a, ∀ u ∈ f a, u.oneCell' = true) : Kd α where
  sz := n
  E := []
  K := fun _ x cs => cs = f x
  M := fun _ _ _ x cs => cs = f x
  K_len := fun h => by rw [h]; exact hn _
  K_one := fun h u hu => by rw [h] at hu; exact h1 _ u hu
  K_below := fun _ h => h
  K_of_M := fun h => h
  M_mono := fun _ h => h
  M_bound := fun h => h
  M_move := fun _ h => h
  M_lower := fun _ h => h
theorem entC_one : ∀ a, ∀ u ∈ entC a, u.oneCell' = true := by
  intro a u hu
  simp only [entC, List.mem_cons, List.not_mem_nil, or_false] at hu
  rcases hu with rfl | rfl | rfl | rfl | rfl | rfl | rfl <;> rfl
theorem gstC_one : ∀ a, ∀ u ∈ gstC a, u.oneCell' = true := by
  intro a u hu
  simp only [gstC, List.mem_cons, List.not_mem_nil, or_false] at hu
  rcases hu with rfl | rfl | rfl | rfl | rfl | rfl | rfl <;> rfl
def kE : Kd SE := rowKd entC 7 (fun _ => rfl) entC_one
def kG : Kd SG := rowKd gstC 7 (fun _ => rfl) gstC_one
theorem blk_of_row {α : Type} {f : α → List Value} {n : Nat} {hn : ∀ a, (f a).length = n} {h1 : ∀ a, ∀ u ∈ f a, u.oneCell' = true} {e base : Nat} {ok : Nat → Prop} {W : World} {v : Value} {xs : List α} (h : (rowKd f n hn h1).R e W base ok v xs) (hp : 0 < xs.length) (hn0 : 0 < n) :
    ∃ g cap, v = .slice (some ⟨g, 0, none⟩) xs.length cap ∧ xs.length ≤ cap ∧ base ≤ g ∧ ok g ∧ Blk W g e (xs.flatMap f) := by
  obtain ⟨hok, inner, hown, hr⟩ := h
  obtain ⟨hl, hc⟩ := hown
  rcases hc with ⟨_, hz⟩ | ⟨g, cap, cur, rfl, hb, hh, hcap, _, hsz, hcur⟩
  · omega
  refine ⟨g, cap, rfl, hcap, hb, hok g rfl, cur, hh, fun i u hi => ?_⟩
  have hlen : ∀ l : List α, (l.flatMap f).length = l.length * n := by
    intro l
    induction l with
    | nil => simp
    | cons x r ih => rw [List.flatMap_cons, List.length_append, hn, ih, List.length_cons, Nat.succ_mul]; omega
  have hil : i < xs.length * n := by rw [← hlen]; exact (List.getElem?_eq_some_iff.1 hi).1
  have hj : i / n < xs.length := Nat.div_lt_of_lt_mul (by rw [Nat.mul_comm]; exact hil)
  have hrr : i % n < n := Nat.mod_lt _ hn0
  have hie : i / n * n + i % n = i := by rw [Nat.mul_comm]; exact Nat.div_add_mod i n
  have hg := flat_get f n hn xs (i / n) (i % n) hrr xs[i / n] (List.getElem?_eq_getElem hj)
  rw [hie, hi] at hg
  have hx : (inner.drop (i / n * n)).take n = f xs[i / n] := hr.2 (i / n) _ (List.getElem?_eq_getElem hj)
  rw [← hx, List.getElem?_take_of_lt hrr, List.getElem?_drop, hie] at hg
  have hin : i < inner.length := by have e : (rowKd f n hn h1).sz = n := rfl; rw [hl, e]; exact hil
  have e : (rowKd f n hn h1).sz = n := rfl
  rw [← hcur] at hg
  rw [e, List.getElem?_take_of_lt hil] at hg
  rw [hg]; simp
theorem blk_of_int {e base : Nat} {ok : Nat → Prop} {W : World} {v : Value} {xs : List Int} (h : Kd.R (Kd.int .i64) e W base ok v xs) (hp : 0 < xs.length) :
    ∃ g cap, v = .slice (some ⟨g, 0, none⟩) xs.length cap ∧ xs.length ≤ cap ∧ base ≤ g ∧ ok g ∧ Blk W g e (xs.map (Value.int .i64)) := by
  have hok := h.1
  obtain ⟨hl, hc⟩ := Kd.own_of_R (enc := Value.int .i64) (h1 := fun _ => rfl) h
  rcases hc with ⟨_, hz⟩ | ⟨g, cap, cur, rfl, hb, hh, hcap, _, hsz, hcur⟩
  · omega
  refine ⟨g, cap, rfl, hcap, hb, hok g rfl, cur, hh, fun i u hi => ?_⟩
  have hil : i < xs.length := by have := (List.getElem?_eq_some_iff.1 hi).1; simpa using this
  have h2 : (encs (Value.int .i64) xs)[i]? = some u := hi
  rw [← hcur, List.getElem?_take_of_lt (by omega)] at h2
  rw [← h2]; simp
/-- The scheduler before homes are asked for. -/
structure SR0 (W : World) (own : Nat → Prop) (L : Lay) (s : SS) : Prop where
  S : Blk W L.b 91 (schP L s L.pv 0 0 (.slice none 0 0))
  G : Blk W L.bg 94 (s.gs.flatMap gstC)
  E : Blk W L.be 96 (s.es.flatMap entC)
  T : Blk W L.bt 99 ((L.qs.zip s.ts).flatMap trnC)
  C : Blk W L.bc 79 (s.ch.map (Value.int .u64))
  ql : L.qs.length = s.ts.length
  Q : ∀ (i : Nat) (q : Value), L.qs[i]? = some q → q = .slice none 0 0 ∧ (s.trn i).q = []
  ob : own L.b ∧ own L.bg ∧ own L.be ∧ own L.bt ∧ own L.bc
  cap : s.gs.length ≤ L.cg ∧ s.es.length ≤ L.ce
  lt : ∀ k, own k → k < W.heap.size
  H : 1 ≤ s.H ∧ s.H ≤ 8 ∧ s.gs.length ≤ 8 ∧ s.es.length ≤ 64 ∧ 1 ≤ s.es.length
  eg : ∀ i, i < s.es.length → 0 ≤ (s.ent i).gu ∧ (s.ent i).gu < s.gs.length
theorem homes_R {w2 : World} {n m b : Nat} {v : Value} {xs : List Int} (h : Kd.R (Kd.int .i64) 3 w2 m (fun _ => True) v xs) (hb : b < n) (hm : m = n) :
    Kd.R (Kd.int .i64) 3 ((w2.drew.setCell ⟨b, 11, none⟩ (.int .u32 1)).setCell ⟨b, 12, none⟩ (.int .i32 0)) n (fun _ => True) v xs := by
  subst hm
  have hz : ∀ k, v.ownBlock = some k → ¬ k = b := fun k hk e => by have := Kd.R_base h k hk; omega
  exact R_mut (R_mut (Kd.R_below h (below_drew (Below.refl _ _))) (set_mut _ ⟨b, 11, none⟩ _) hz) (set_mut _ ⟨b, 12, none⟩ _) hz
set_option maxRecDepth 100000 in
set_option maxHeartbeats 1600000 in
theorem homes_first {W : World} {own : Nat → Prop} {L : Lay} {s : SS} (h : SR0 W own L s) :
    Calls Try.prog 48 #[.pointer (some ⟨L.b, 0, none⟩)] W fun x w' => ∃ g cap, x = .returned (.slice (some ⟨g, 0, none⟩) s.es.length cap) ∧ W.heap.size ≤ g ∧ SR w' (fun k => own k ∨ k = g) { L with bh := g, ch := cap } s ∧ Mut (fun k => k = L.b) W w' := by
  have hmf := hmf
  have hba := below_alloc (Below.refl W.heap.size W) (.cells #[.pointer (some ⟨L.b, 0, none⟩)] 30)
  obtain ⟨w1, hw1⟩ : ∃ w1, w1 = W.alloc (.cells #[.pointer (some ⟨L.b, 0, none⟩)] 30) := ⟨_, rfl⟩
  have hp : w1.cell? ⟨W.heap.size, 0, none⟩ = some (.pointer (some ⟨L.b, 0, none⟩)) := by rw [hw1]; exact (blk_cell (blk_new _ _) 0).trans rfl
  rw [← hw1] at hba
  have hk : HK w1 L s ⟨W.heap.size, 0, none⟩ L.pv 0 0 (.slice none 0 0) := ⟨h.S.below hba, h.G.below hba, h.E.below hba, hp, by have := h.S.lt; simp only; omega, h.cap⟩
  have hk1 : HK (w1.setCell ⟨L.b, 12, none⟩ (.int .i32 1)) L s ⟨W.heap.size, 0, none⟩ L.pv 0 1 (.slice none 0 0) := hk.mut (set_mut _ _ _) (fun _ hk => hk) (hk.S.set 12 _)
  have c11 : w1.cell? ⟨L.b, 11, none⟩ = some (.int .u32 0) := hk.S.cell rfl
  have c12 : w1.cell? ⟨L.b, 11 + 1, none⟩ = some (.int .i32 0) := hk.S.cell rfl
  have HD := Aside0.mk (do_first L.b 11 ⟨W.heap.size, 0, none⟩ w1 (fun w' => ∃ tv, HK w' L s ⟨W.heap.size, 0, none⟩ L.pv 0 1 tv ∧ Kd.R (Kd.int .i64) 3 w' (w1.setCell ⟨L.b, 12, none⟩ (.int .i32 1)).heap.size (fun _ => True) tv (homesL s) ∧ Mut (fun k => k = L.b) (w1.setCell ⟨L.b, 12, none⟩ (.int .i32 1)) w')
    c11 c12 (hk.S.frozen _) (hk.S.frozen _) (homes1_calls hk1 ⟨h.H.1, h.H.2.1, h.H.2.2.1, h.H.2.2.2.1⟩ h.eg)
    (fun w' hq => by obtain ⟨tv, h1, _, _⟩ := hq; exact ⟨h1.S.cell rfl, h1.S.frozen _, h1.S.cell rfl, h1.S.frozen _⟩))
  have HK1 := Aside0.mk hk
  have HB1 := Aside0.mk hba
  have HW1 := Aside0.mk hw1
  have HH := Aside0.mk h
  clear hk1 c11 c12 hk hba hw1 h hp
  go_enter Try.func48, Try.ntmps48
  go_upto_region 1 with (fail)
  rw [← HW1.out]
  have hp : w1.cell? ⟨W.heap.size, 0, none⟩ = some (.pointer (some ⟨L.b, 0, none⟩)) := HK1.out.p
  go_wp2_with (go_at_call 64; refine HD.out.mono ?_; rintro e w5 ⟨rfl, w2, ⟨tv, hk2, hr2, hm2⟩, hw5⟩; have hk3 := (hk2.below (below_drew (Below.refl _ _))).mut (set_mut _ ⟨L.b, 11, none⟩ (.int .u32 1)) (fun _ hk => hk) ((hk2.below (below_drew (Below.refl _ _))).S.set 11 _); have hk4 : HK w5 L s ⟨W.heap.size, 0, none⟩ L.pv 1 0 tv := (by rw [hw5]; exact hk3.mut (set_mut _ ⟨L.b, 12, none⟩ (.int .i32 0)) (fun _ hk => hk) (hk3.S.set 12 _)); have m1 : Mut (fun k => k = L.b) W (w1.setCell ⟨L.b, 12, none⟩ (.int .i32 1)) := (Mut.of_below HB1.out _).set1 12 _; have m2 : Mut (fun k => k = L.b) W w2.drew := (m1.trans hm2 (fun _ h => .inl h)).below (below_drew (Below.refl _ _)); have m3 : Mut (fun k => k = L.b) W (w2.drew.setCell ⟨L.b, 11, none⟩ (.int .u32 1)) := m2.set1 11 _; have hm5 : Mut (fun k => k = L.b) W w5 := (by rw [hw5]; exact m3.set1 12 _); have hr5 : Kd.R (Kd.int .i64) 3 w5 w1.heap.size (fun _ => True) tv (homesL s) := (by rw [hw5]; exact homes_R hr2 HK1.out.S.lt (by simp [World.setCell])); have q0 : w5.cell? ⟨W.heap.size, 0, none⟩ = some (.pointer (some ⟨L.b, 0, none⟩)) := hk4.p; have q14 : w5.cell? ⟨L.b, 14, none⟩ = some tv := hk4.S.cell rfl; have HK4 := Aside0.mk hk4; have HM5 := Aside0.mk hm5; have HR5 := Aside0.mk hr5; clear hk2 hr2 hm2 hk3 hk4 hw5 hm5 hr5 m1 m2 m3)
  go_ret
  have h := HH.out
  obtain ⟨g, cap, rfl, hcap, hb, _, hblk⟩ := blk_of_int HR5.out (by rw [homesL_len]; exact h.H.2.2.2.2)
  rw [homesL_len] at hcap
  have hgW : W.heap.size ≤ g := Nat.le_trans HB1.out.size hb
  have hno : ∀ k, own k → k < W.heap.size := h.lt
  obtain ⟨d1, d2, d3, d4, d5⟩ := h.ob
  refine ⟨g, cap, by rw [homesL_len]; rfl, hgW, ?_, HM5.out⟩
  have hS : Blk w5 L.b 91 (schC { L with bh := g, ch := cap } s) := by
    have := HK4.out.S
    rw [homesL_len] at this
    exact this
  exact { S := hS, G := HK4.out.G, E := HK4.out.E, T := h.T.mut HM5.out (fun e => (h.S.ne h.T (by decide)) e.symm), C := h.C.mut HM5.out (fun e => (h.S.ne h.C (by decide)) e.symm), Hm := hblk, ql := h.ql, Q := fun i q hq => (by obtain ⟨h1, h2⟩ := h.Q i q hq; rw [h1, h2]; exact Kd.R_nil _ _ _ _ _), qd := fun i j q r k _ hq _ hk => (by obtain ⟨h1, _⟩ := h.Q i q hq; rw [h1] at hk; cases hk), ob := ⟨.inl d1, .inl d2, .inl d3, .inl d4, .inl d5, .inr rfl⟩, cap := ⟨h.cap.1, h.cap.2, hcap⟩, lt := fun k hk => hk.elim (fun hk => Nat.lt_of_lt_of_le (hno k hk) HM5.out.size) (fun hk => by rw [hk]; exact hblk.lt) }
end Go.Proofs.Ytdaadmjppikebaa.SC

/- The plain entities of a hart, homes asked for the first time or not. -/
namespace Go.Proofs.Ytdaadmjppikebaa.SC
open Go.RowKit Go.Proofs.YtdaadmjppikebaaW.PrintWords
set_option linter.unusedVariables false
set_option linter.unusedSimpArgs false

set_option maxRecDepth 100000 in
set_option maxHeartbeats 800000 in
theorem plain_of {W : World} {own' : Nat → Nat → Prop} {Q : Nat → Nat → World → Prop} {L : Lay} {s : SS} (hM : Calls Try.prog 48 #[.pointer (some ⟨L.b, 0, none⟩)] W fun e w1 => ∃ g cap, e = .returned (.slice (some ⟨g, 0, none⟩) s.es.length cap) ∧ SR w1 (own' g) { L with bh := g, ch := cap } s ∧ Q g cap w1)
    (hn : s.es.length ≤ 64) (hgm : s.gs.length ≤ 8) (heg : ∀ i, i < s.es.length → 0 ≤ (s.ent i).gu ∧ (s.ent i).gu < s.gs.length) (hart : Int) :
    Calls Try.prog 37 #[.pointer (some ⟨L.b, 0, none⟩), .int .i64 hart] W fun x w' => ∃ v g cap w1, x = .returned v ∧ SR w1 (own' g) { L with bh := g, ch := cap } s ∧ Q g cap w1 ∧ Kd.R (Kd.int .i64) 3 w' w1.heap.size (fun _ => True) v (plainL s hart) ∧ Below w1.heap.size w1 w' := by
  have HW := Aside0.mk heg
  have HM := Aside0.mk hM
  clear hM heg
  go_enter Try.func37, Try.ntmps37
  go_wp2_with (go_at_call 48; refine HM.out.mono ?_; rintro e wh ⟨g, cap, rfl, hs, hq⟩; have HR := Aside0.mk hs; have HQ := Aside0.mk hq; have hcap : s.es.length ≤ L.ce := hs.cap.2.1; have hcap2 : s.es.length ≤ cap := hs.cap.2.2; have hcap1 : s.gs.length ≤ L.cg := hs.cap.1; clear hs hq)
  go_loopw [5, 11] (fun v5 v11 w' => ∃ (k : Nat), v11 = .int .i64 (k : Int) ∧ k ≤ s.es.length ∧ Aside0 (Kd.R (Kd.int .i64) 3 w' wh.heap.size (fun _ => True) v5 (plainTo s hart k)) ∧ Aside0 (Below wh.heap.size wh w')) (fun _ v11 _ => s.es.length - (intOf v11).toNat)
  case atStart => exact ⟨0, rfl, by omega, ⟨Kd.R_nil _ _ _ _ _⟩, ⟨Below.refl _ _⟩⟩
  case round =>
    obtain ⟨k, rfl, hk, HO, HB⟩ := hrel
    clear HM
    by_cases hlt : k < s.es.length
    · have HRr := Aside0.mk (HR.out.below HB.out)
      have ch : wr.cell? ⟨g, k, none⟩ = some (.int .i64 (homeOf s k)) := HRr.out.hom k hlt
      have c4 : wr.cell? ⟨L.b, 4, none⟩ = some (.slice (some ⟨L.bg, 0, none⟩) s.gs.length L.cg) := HRr.out.fld 4 rfl
      have c5 : wr.cell? ⟨L.b, 5, none⟩ = some (.slice (some ⟨L.be, 0, none⟩) s.es.length L.ce) := HRr.out.fld 5 rfl
      have y0 : wr.cell? ⟨L.be, k * 7, none⟩ = some (.int .i64 (s.ent k).gu) := HRr.out.ent k 0 hlt (by decide) rfl
      obtain ⟨g1, g2⟩ := HW.out k hlt
      have xg : wr.cell? ⟨L.bg, (s.ent k).gu.toNat * 7 + 6, none⟩ = some (.bool (s.gng k)) := HRr.out.gst (s.ent k).gu.toNat 6 (by omega) (by decide) rfl
      have HP := Aside0.mk (plainTo_succ s hart k)
      have HL := Aside0.mk (Nat.le_trans (plainTo_len s hart k) (show k ≤ 64 by omega))
      by_cases d1 : homeOf s k = hart
      · have b1 : (homeOf s k == hart) = true := by simpa using d1
        cases b2 : s.gng k with
        | false =>
          rw [b2] at xg
          have HPP := Aside0.mk (show plainTo s hart (k + 1) = plainTo s hart k ++ [(k : Int)] by rw [HP.out, if_pos (by unfold plainP; rw [b1, b2]; rfl)])
          clear d1 b2 HP
          go_wp2
          go_quiet (fail)
          obtain ⟨wq, hwq⟩ : ∃ wq, wq = wr.drewN nq := ⟨_, rfl⟩
          have HOq := Aside0.mk (Kd.R_drewN HO.out nq)
          have HBq := Aside0.mk (pw_below_drewN HB.out nq)
          rw [← hwq] at HOq HBq ⊢
          clear hwq HO HB HRr ch c4 c5 y0 xg
          go_wp2_with (first | ((with_reducible refine gate_builtin (b := .append) (xs := #[.tmp 37, .tmp 39]) rfl ?_); go_loud (at_builtin; refine Kd.R_append (Kd.int .i64) (w0 := wh) wh.heap.size rfl (.tmp 37) (.tmp 39) 22 3 (.int .i64 0) 8 rfl Try.underlying22 info3 rfl (by decide) (by omega) u5 (plainTo s hart k) ((k : Int)) [.int .i64 ((k : Int))] (fun _ => True) (fun _ => False) rfl rfl ?aP (fun _ hk => hk.elim) ?aF ?aO ?aB ?aS ?aL ?_; (case aP => exact rfl); (case aF => exact (fun _ _ => trivial)); (case aO => exact HOq.out); (case aB => exact HBq.out); (case aS => exact (HBq.out).size); (case aL => have := HL.out; simp; omega); intro v1 w1 ho hbb hg hat; have HO2 := Aside0.mk ho; have HB2 := Aside0.mk hbb; clear ho hbb hg hat)) | fail)
          go_roundw
          case rel => exact ⟨k + 1, by go_num, by omega, ⟨by rw [HPP.out]; exact HO2.out⟩, HB2⟩
          case measure => simp [intOf]; omega
        | true =>
          rw [b2] at xg
          have HPP := Aside0.mk (show plainTo s hart (k + 1) = plainTo s hart k by rw [HP.out, if_neg (by unfold plainP; rw [b2]; simp), List.append_nil])
          clear d1 b2 HP
          go_wp2
          go_quiet (fail)
          go_wp2
          go_roundw
          case rel => exact ⟨k + 1, by go_num, by omega, ⟨by rw [HPP.out]; exact Kd.R_drewN HO.out nq⟩, ⟨pw_below_drewN HB.out nq⟩⟩
          case measure => simp [intOf]; omega
      · have b1 : (homeOf s k == hart) = false := by simpa using d1
        have HPP := Aside0.mk (show plainTo s hart (k + 1) = plainTo s hart k by rw [HP.out, if_neg (by unfold plainP; rw [b1]; simp), List.append_nil])
        clear d1 HP
        go_wp2
        go_quiet (fail)
        go_wp2
        go_roundw
        case rel => exact ⟨k + 1, by go_num, by omega, ⟨by rw [HPP.out]; exact Kd.R_drewN HO.out nq⟩, ⟨pw_below_drewN HB.out nq⟩⟩
        case measure => simp [intOf]; omega
    · obtain rfl : k = s.es.length := by omega
      go_wp2
      go_ret
      exact ⟨_, g, cap, wh, rfl, HR.out, HQ.out, HO.out, HB.out⟩
end Go.Proofs.Ytdaadmjppikebaa.SC
