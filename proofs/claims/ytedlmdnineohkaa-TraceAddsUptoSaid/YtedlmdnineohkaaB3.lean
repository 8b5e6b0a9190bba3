import Derived.Test.YtedlmdnineohkaaB2
namespace Go.Proofs.Ytedlmdnineohkaa.PU
open Go.RowKit Go.Proofs.YtedlmdnineohkaaW.PrintWords Go.Proofs.YtedlmdnineohkaaW.PrintLast Go.Proofs.YtedlmdnineohkaaW.PrintMore
set_option linter.unusedVariables false
set_option linter.unusedSimpArgs false

def SomeRel (l : List Int) (bad : Bool) (xs l' : List Int) (bad' : Bool) : Prop :=
  if bad = true then l' = l ∧ bad' = true else match rdB l with
    | some q => xs = q.1 ∧ l' = q.2 ∧ bad' = false
    | none => bad' = true ∧ l'.length ≤ l.length
def SomeR (w0 W : World) (g : Nat) (l : List Int) (bad : Bool) (e : Ending) (w' : World) : Prop :=
  ∃ v xs l' bad', e = .returned v ∧ Kd.R (Kd.int .u8) 5 w' w0.heap.size (fun k => W.heap.size ≤ k) v xs ∧ RQ w0 w' g l' bad' ∧ Kept W w' (fun k => k = g) ∧ SomeRel l bad xs l' bad'

set_option maxHeartbeats 800000 in
theorem rsome_calls (w0 W : World) (g : Nat) (l : List Int) (bad : Bool) (h : RQ w0 W g l bad) :
    Calls Try.prog 35 #[.pointer (some ⟨g, 0, none⟩)] W (SomeR w0 W g l bad) := by
  have HH := Aside0.mk h
  clear h
  go_enter Try.func35, Try.ntmps35
  go_wp2_with fail
  refine (rnum_calls w0 _ g l bad HH.out).mono ?_
  rintro e w1 ⟨x, l1, bad1, rfl, hrq, hk, hrel⟩
  have HRQ := Aside0.mk hrq
  have HK := Aside0.mk hk
  have HREL := Aside0.mk hrel
  clear hrq hk hrel
  go_wp2_with fail
  refine (rtake_calls w0 _ g l1 bad1 x HRQ.out ?_).mono ?_
  · intro hb
    have hr := HREL.out
    unfold NumRel at hr
    split at hr
    · rw [hr.2] at hb; cases hb
    · cases hN : rdN l 0 0 with
      | none => rw [hN] at hr; rw [hr.1] at hb; cases hb
      | some q => rw [hN] at hr; rw [hr.1]; exact (rdN_nonneg _ _ _ (Int.le_refl 0) hN).1
  rintro e w2 ⟨v, xs, l2, bad2, rfl, hR, hrq, hk, hrel⟩
  have HR := Aside0.mk hR
  have HRQ2 := Aside0.mk hrq
  have HK2 := Aside0.mk (HK.out.then_ hk (fun _ h => .inl h))
  have HREL2 : Aside0 (SomeRel l bad xs l2 bad2) := ⟨by
    have hr := HREL.out
    unfold NumRel at hr
    unfold TakeRel at hrel
    unfold SomeRel
    by_cases hb : bad = true
    · rw [if_pos hb] at hr ⊢
      obtain ⟨rfl, rfl⟩ := hr
      rw [if_pos (.inl rfl)] at hrel
      exact ⟨hrel.2.1, hrel.2.2⟩
    · rw [if_neg hb] at hr ⊢
      unfold rdB
      cases hN : rdN l 0 0 with
      | none =>
        rw [hN] at hr
        obtain ⟨rfl, hlen⟩ := hr
        rw [if_pos (.inl rfl)] at hrel
        exact ⟨hrel.2.2, by rw [hrel.2.1]; exact hlen⟩
      | some q =>
        obtain ⟨n, r⟩ := q
        rw [hN] at hr
        obtain ⟨e1, e2, rfl⟩ := hr
        have e1 : x = n := e1
        have e2 : l1 = r := e2
        subst e1 e2
        have hs := rdN_shrinks _ _ _ hN
        by_cases hn : (x : Int) ≤ (l1.length : Int)
        · rw [if_neg (by rintro (h | h); cases h; omega)] at hrel
          simp only
          rw [if_pos hn]
          exact hrel
        · rw [if_pos (.inr (by omega))] at hrel
          simp only
          rw [if_neg hn]
          exact ⟨hrel.2.2, by rw [hrel.2.1]; omega⟩⟩
  have HSZ := Aside0.mk HK.out.1
  clear hR hrq hk hrel
  go_wp2
  go_ret
  exact ⟨v, xs, l2, bad2, rfl, Kd.R_mono HR.out (fun k hk => Nat.le_trans HSZ.out hk), HRQ2.out, HK2.out, HREL2.out⟩
end Go.Proofs.Ytedlmdnineohkaa.PU
