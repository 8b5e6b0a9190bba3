import Derived.Test.YtgibdhdglppdcaaGreatA6
import Derived.WalkSpells
namespace Go.Proofs.YtgibdhdglppdcaaGreat.PU
set_option maxRecDepth 100000
open Go.RowKit Go.Proofs.YtgibdhdglppdcaaGreatW.PrintWords Go.Proofs.YtgibdhdglppdcaaGreatW.PrintLast Go.Proofs.YtgibdhdglppdcaaGreatW.PrintMore
set_option linter.unusedVariables false
set_option linter.unusedSimpArgs false

set_option maxRecDepth 100000 in
set_option maxHeartbeats 400000 in
theorem clone_calls (w0 W : World) (A : Option Addr) (c : Nat) (l : List Int) (hB : Below w0.heap.size w0 W) (hr : Kd.C (Kd.int .u8) W A l.length l) (hc : l.length ≤ c) (hl : l.length < 140737488355328) :
    Calls Tryz.prog 43 #[.slice A l.length c] W fun e w' => ∃ v, e = .returned v ∧ Kd.R (Kd.int .u8) 5 w' w0.heap.size (fun k => W.heap.size ≤ k) v l ∧ Below W.heap.size W w' := by
  have heq : ∀ (W : World) (a : Option Addr) (n c : Nat), (binOp .eql 23 (.slice a n c) (.slice none 0 0)).run Tryz.prog W = .ok (.bool a.isNone) W := fun W a n c => by
    simp only [binOp]
    simp [Op.equal, Op.maxDepth, Lib.run_equalIn_slice_nil W 9999 23 5 a n c 0 0 Tryz.underlying23]
  have HR := Aside0.mk hr
  have HL := Aside0.mk hl
  have HB := Aside0.mk hB
  cases A with
  | none =>
    obtain rfl : l = [] := by
      cases l with
      | nil => rfl
      | cons x r => obtain ⟨ad, h, _⟩ := hr.2.2 (by simp); cases h
    clear hr hl hB
    go_enter Tryz.func43, Tryz.ntmps43
    go_wp2
    go_ret
    exact ⟨_, rfl, Kd.R_nil _ _ _ _ _, Below.refl _ _⟩
  | some ad =>
    clear hr hl hB
    go_enter Tryz.func43, Tryz.ntmps43
    go_wp2_with (first | ((with_reducible refine gate_dst (N := 5) rfl ?_); refine Kd.R_lit (Kd.int .u8) _ 5 ?hg (N := 5) ?hd (xs := ([] : List Int)) (inner := []) (ok := fun k => W.heap.size ≤ k) (okp := fun k => W.heap.size ≤ k) ?hr ?hp (fun _ hk => hk) (Nat.le_refl _) (Below.refl _ _) (Nat.le_refl _) (by simp) ?_; (case hd => rfl); (case hg => rfl); (case hr => first | (go_simp; done) | (go_simp; rfl)); (case hp => exact Reps.none _ _); intro v1 w1 ho hb hg hn; have HO := Aside0.mk ho; have HB1 := Aside0.mk hb; clear ho hb hg hn) | ((with_reducible refine gate_builtin (b := .append) (xs := #[.tmp 5, .tmp 6]) rfl ?_); at_builtin; refine Kd.R_append_rows (Kd.int .u8) (w0 := W) W.heap.size rfl (.tmp 5) (.tmp 6) 23 5 (.int .u8 0) 1 rfl Tryz.underlying23 info5 rfl (by decide) (by omega) v1 [] l _ l.length c (fun k => W.heap.size ≤ k) (fun _ => False) rfl rfl ?aO ?aR (fun _ _ h => h) (fun _ h => h.elim) ?aF ?aB ?aS ?aL ?_; (case aO => exact HO.out); (case aR => exact Kd.C_below HR.out HB1.out); (case aF => exact (fun k hk => Nat.le_trans HB1.out.size hk)); (case aB => exact HB1.out); (case aS => exact HB1.out.size); (case aL => have := HL.out; simp; omega); intro v2 w2 ho hb hg hat; have HO2 := Aside0.mk ho; have HB2 := Aside0.mk hb; clear ho hb hg hat))
    go_ret
    exact ⟨_, rfl, Kd.R_lower HO2.out HB.out.size, HB2.out⟩

theorem clone_len (w0 W : World) (A : Option Addr) (m c : Nat) (l : List Int) (hm : m = l.length) (hB : Below w0.heap.size w0 W) (hr : Kd.C (Kd.int .u8) W A l.length l) (hc : l.length ≤ c) (hl : l.length < 140737488355328) :
    Calls Tryz.prog 43 #[.slice A m c] W fun e w' => ∃ v, e = .returned v ∧ Kd.R (Kd.int .u8) 5 w' w0.heap.size (fun k => W.heap.size ≤ k) v l ∧ Below W.heap.size W w' := by
  subst hm
  exact clone_calls w0 W A c l hB hr hc hl
/-- Bytes read, told by their number. -/
def rdB (l : List Int) : Option (List Int × List Int) := match rdN l 0 0 with
  | none => none
  | some (n, r) => if n ≤ (r.length : Int) then some (r.take n.toNat, r.drop n.toNat) else none
theorem rdN_shrinks : ∀ (l : List Int) (m : Nat) (n : Int) {x : Int} {r : List Int}, rdN l m n = some (x, r) → r.length < l.length
  | [], _, _, _, _, h => by simp [rdN] at h
  | v :: l, m, n, x, r, h => by
    simp only [rdN] at h
    split at h
    · cases h
    · split at h
      · injection h with h; injection h with h1 h2; subst h2; simp
      · have := rdN_shrinks l _ _ h; simp; omega
theorem rdN_nonneg : ∀ (l : List Int) (m : Nat) (n : Int) {x : Int} {r : List Int}, 0 ≤ n → rdN l m n = some (x, r) → 0 ≤ x ∧ x ≤ 1099511627776
  | [], _, _, _, _, _, h => by simp [rdN] at h
  | v :: l, m, n, x, r, hn, h => by
    simp only [rdN] at h
    have hp : (0 : Int) < 2 ^ m := Int.pow_pos (by decide)
    have h0 : 0 ≤ v % 128 * 2 ^ m := Int.mul_nonneg (by omega) (Int.le_of_lt hp)
    split at h
    · cases h
    · next hb =>
      split at h
      · injection h with h; injection h with h1 h2; subst h1; omega
      · exact rdN_nonneg l _ _ (by omega) h
theorem rdN_mem : ∀ (l : List Int) (m : Nat) (n : Int) {x : Int} {r : List Int}, rdN l m n = some (x, r) → ∀ y ∈ r, y ∈ l
  | [], _, _, _, _, h => by simp [rdN] at h
  | v :: l, m, n, x, r, h => by
    simp only [rdN] at h
    split at h
    · cases h
    · split at h
      · injection h with h; injection h with h1 h2; subst h2; exact fun y hy => List.mem_cons_of_mem _ hy
      · exact fun y hy => List.mem_cons_of_mem _ (rdN_mem l _ _ h y hy)
theorem rdB_shrinks {l x r : List Int} (h : rdB l = some (x, r)) : r.length + x.length < l.length := by
  unfold rdB at h
  split at h
  · cases h
  · next n r' hN =>
    have := rdN_shrinks _ _ _ hN
    have h0 := rdN_nonneg _ _ _ (Int.le_refl 0) hN
    split at h
    · injection h with h; injection h with h1 h2; subst h1; subst h2; simp; omega
    · cases h
theorem rdB_mem {l x r : List Int} (h : rdB l = some (x, r)) : (∀ y ∈ r, y ∈ l) ∧ ∀ y ∈ x, y ∈ l := by
  unfold rdB at h
  split at h
  · cases h
  · next n r' hN =>
    have := rdN_mem _ _ _ hN
    split at h
    · injection h with h; injection h with h1 h2; subst h1; subst h2
      exact ⟨fun y hy => this y (List.mem_of_mem_drop hy), fun y hy => this y (List.mem_of_mem_take hy)⟩
    · cases h

theorem number_ok {w0 W : World} {g : Nat} {l r : List Int} {n : Int} (h : RS w0 W g l) (hb : ∀ x ∈ l, 0 ≤ x ∧ x < 256) (hN : rdN l 0 0 = some (n, r)) :
    Calls Tryz.prog 25 #[.pointer (some ⟨g, 0, none⟩)] W fun e w' => e = .returned (.int .i64 n) ∧ RS w0 w' g r ∧ Kept W w' (fun k => k = g) :=
  (number_calls w0 W g l h hb).mono fun e w' hp => by
    rcases hp with ⟨n', r', h1, h2, h3, h4⟩ | ⟨h1, _⟩
    · rw [hN] at h1; injection h1 with h1; injection h1 with h1 h5; subst h1; subst h5; exact ⟨h2, h3, h4⟩
    · rw [hN] at h1; cases h1
theorem number_no {w0 W : World} {g : Nat} {l : List Int} (h : RS w0 W g l) (hb : ∀ x ∈ l, 0 ≤ x ∧ x < 256) (hN : rdN l 0 0 = none) :
    Calls Tryz.prog 25 #[.pointer (some ⟨g, 0, none⟩)] W fun e w' => e = .panicked cutChain ∧ Kept W w' (fun k => k = g) ∧ Below w0.heap.size w0 w' :=
  (number_calls w0 W g l h hb).mono fun e w' hp => by
    rcases hp with ⟨n', r', h1, _⟩ | ⟨h1, h2, h3, h4⟩
    · rw [hN] at h1; cases h1
    · exact ⟨h2, h3, h4⟩

set_option maxRecDepth 100000 in
set_option maxHeartbeats 800000 in
theorem bytes_ok {w0 W : World} {g : Nat} {l x r : List Int} (h : RS w0 W g l) (hg : g < W.heap.size) (hb : ∀ x ∈ l, 0 ≤ x ∧ x < 256) (hl : l.length < 140737488355328) (hB : rdB l = some (x, r)) :
    Calls Tryz.prog 26 #[.pointer (some ⟨g, 0, none⟩)] W fun e w' => ∃ v, e = .returned v ∧ Kd.R (Kd.int .u8) 5 w' w0.heap.size (fun k => W.heap.size ≤ k) v x ∧ RS w0 w' g r ∧ Kept W w' (fun k => k = g) := by
  have hs := rdB_shrinks hB
  unfold rdB at hB
  cases hN : rdN l 0 0 with
  | none => rw [hN] at hB; cases hB
  | some q =>
    obtain ⟨n, r'⟩ := q
    rw [hN] at hB
    simp only at hB
    by_cases hn : n ≤ (r'.length : Int)
    · rw [if_pos hn] at hB
      injection hB with hB; injection hB with h1 h2; subst h1; subst h2
      have h0 := (rdN_nonneg _ _ _ (Int.le_refl 0) hN).1
      have HS := Aside0.mk hs
      have HRS := Aside0.mk h
      have HN := Aside0.mk hN
      have HB := Aside0.mk hb
      clear h hb hN hs
      go_enter Tryz.func26, Tryz.ntmps26
      go_wp2_with fail
      refine (number_ok HRS.out HB.out HN.out).mono ?_
      rintro e w1 ⟨rfl, hrs, hk⟩
      have HRS1 := Aside0.mk hrs
      have HK1 := Aside0.mk hk
      clear hrs hk
      go_wp2_with fail
      refine (take_ok w0 _ g r' n HRS1.out h0 hn).mono ?_
      rintro e w2 ⟨A, c, rfl, hc, hC, hrs, hk⟩
      have HC := Aside0.mk hC
      have HCC := Aside0.mk hc
      have HRS2 := Aside0.mk hrs
      have HK2 := Aside0.mk (HK1.out.then_ hk (fun _ h => .inl h))
      clear hrs hk hC hc
      go_wp2_with fail
      refine (clone_len w0 _ A _ c (r'.take n.toNat) (by simp; omega) HRS2.out.2.1 (Kd.C_below HC.out HRS2.out.2.1) HCC.out (by have := HS.out; omega)).mono ?_
      rintro e w3 ⟨v, rfl, hR, hb3⟩
      have HR := Aside0.mk hR
      have HB3 := Aside0.mk hb3
      clear hR hb3
      go_wp2
      go_ret
      exact ⟨v, rfl, Kd.R_mono HR.out (fun k hk => Nat.le_trans HK2.out.1 hk), HRS2.out.below HB3.out, HK2.out.below HB3.out⟩
    · rw [if_neg hn] at hB; cases hB
set_option maxRecDepth 100000 in
set_option maxHeartbeats 800000 in
theorem bytes_no {w0 W : World} {g : Nat} {l : List Int} (h : RS w0 W g l) (hb : ∀ x ∈ l, 0 ≤ x ∧ x < 256) (hB : rdB l = none) :
    Calls Tryz.prog 26 #[.pointer (some ⟨g, 0, none⟩)] W fun e w' => e = .panicked cutChain ∧ Kept W w' (fun k => k = g) ∧ Below w0.heap.size w0 w' := by
  unfold rdB at hB
  have HRS := Aside0.mk h
  have HB := Aside0.mk hb
  cases hN : rdN l 0 0 with
  | none =>
    have HN := Aside0.mk hN
    clear h hb hN hB
    go_enter Tryz.func26, Tryz.ntmps26
    go_wp2_with fail
    refine (number_no HRS.out HB.out HN.out).mono ?_
    rintro e w1 ⟨rfl, hk, hbl⟩
    exact ⟨rfl, rfl, hk, hbl⟩
  | some q =>
    obtain ⟨n, r'⟩ := q
    rw [hN] at hB
    simp only at hB
    by_cases hn : n ≤ (r'.length : Int)
    · rw [if_pos hn] at hB; cases hB
    · have HN := Aside0.mk hN
      clear h hb hN hB
      go_enter Tryz.func26, Tryz.ntmps26
      go_wp2_with fail
      refine (number_ok HRS.out HB.out HN.out).mono ?_
      rintro e w1 ⟨rfl, hrs, hk⟩
      have HRS1 := Aside0.mk hrs
      have HK1 := Aside0.mk hk
      clear hrs hk
      go_wp2_with fail
      refine (take_no w0 _ g r' n HRS1.out (by omega)).mono ?_
      rintro e w2 ⟨rfl, hb2⟩
      exact ⟨rfl, rfl, HK1.out.below hb2, HRS1.out.2.1.trans (hb2.mono HRS1.out.2.1.size)⟩
end Go.Proofs.YtgibdhdglppdcaaGreat.PU
