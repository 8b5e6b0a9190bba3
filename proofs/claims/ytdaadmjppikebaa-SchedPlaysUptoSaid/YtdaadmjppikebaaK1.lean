/- Parts of the walk of package sched, merged. -/
/- Closures: who is rich; who it is that leaves; the library's functions over them. -/
import Derived.Test.YtdaadmjppikebaaK0
import Derived.Lib.SliceRun
namespace Go.Proofs.Ytdaadmjppikebaa.SC
open Go.RowKit Go.Proofs.YtdaadmjppikebaaW.PrintWords
set_option linter.unusedVariables false
set_option linter.unusedSimpArgs false

theorem rich_is {W : World} {own : Nat → Prop} {L : Lay} {s : SS} {rd : List Bool} {A : Option Addr} {c : Nat} {p q : Addr} (h : SR W own L s) (hr : RD W rd A c) (hp : W.cell? p = some (.pointer (some ⟨L.b, 0, none⟩))) (hq : W.cell? q = some (.slice A rd.length c)) (k : Nat) (hk : k < s.es.length) {b : Bool} (hb : richF s rd k = b) :
    Calls Try.prog 59 #[.int .i64 (k : Int), .pointer (some p), .pointer (some q)] W fun x w' => x = .returned (.bool b) ∧ W = w' := by
  have HR := Aside0.mk h
  have HD := Aside0.mk hr
  have c5 := h.fld 5 rfl
  have hcap := h.cap.2.1
  have y3 : W.cell? ⟨L.be, k * 7 + 3, none⟩ = some (.int .i64 (s.ent k).cd) := h.ent k 3 hk (by decide) rfl
  have hf : richF s rd k = (readyF s rd k && decide (0 < (s.ent k).cd)) := by unfold richF; simp
  rw [hb] at hf
  clear h hr hb
  cases h1 : readyF s rd k with
  | false =>
    rw [h1] at hf
    have HF := Aside0.mk hf
    have H1 := Aside0.mk h1
    clear hf h1
    go_enter Try.func59, Try.ntmps59
    go_wp2_with (go_at_call 58; refine (ready_is HR.out HD.out k hk H1.out).mono ?_; rintro e w' ⟨rfl, rfl⟩)
    go_ret
    exact ⟨ret_bool (by rw [HF.out]; rfl), rfl⟩
  | true =>
    rw [h1] at hf
    have H1 := Aside0.mk h1
    by_cases h2 : 0 < (s.ent k).cd
    · have d2 : decide (0 < (s.ent k).cd) = true := decide_eq_true h2
      have HF := Aside0.mk (show b = true by rw [hf, d2]; rfl)
      clear hf h1 h2
      go_enter Try.func59, Try.ntmps59
      go_wp2_with (go_at_call 58; refine (ready_is HR.out HD.out k hk H1.out).mono ?_; rintro e w' ⟨rfl, rfl⟩)
      go_ret
      exact ⟨ret_bool (by rw [HF.out]), rfl⟩
    · have d2 : decide (0 < (s.ent k).cd) = false := decide_eq_false h2
      have HF := Aside0.mk (show b = false by rw [hf, d2]; rfl)
      clear hf h1 h2
      go_enter Try.func59, Try.ntmps59
      go_wp2_with (go_at_call 58; refine (ready_is HR.out HD.out k hk H1.out).mono ?_; rintro e w' ⟨rfl, rfl⟩)
      go_ret
      exact ⟨ret_bool (by rw [HF.out]), rfl⟩
theorem same_is {W : World} {p : Addr} {e x : Int} (hp : W.cell? p = some (.int .i64 e)) {b : Bool} (hb : (x == e) = b) :
    Calls Try.prog 67 #[.int .i64 x, .pointer (some p)] W fun r w' => r = .returned (.bool b) ∧ W = w' := by
  go_enter Try.func67, Try.ntmps67
  go_wp2
  go_ret
  exact ⟨rfl, rfl⟩
def idxGo (p : Int → Bool) : List Int → Nat → Int
  | [], _ => -1
  | e :: r, i => if p e = true then (i : Int) else idxGo p r (i + 1)
theorem idxGo_any (p : Int → Bool) : ∀ (l : List Int) (i : Nat), (0 ≤ idxGo p l i ↔ l.any p = true) ∧ -1 ≤ idxGo p l i ∧ (0 ≤ idxGo p l i → (i : Int) ≤ idxGo p l i ∧ idxGo p l i < (i : Int) + l.length) := by
  intro l
  induction l with
  | nil => intro i; simp [idxGo]
  | cons e r ih =>
    intro i
    simp only [idxGo, List.any_cons, List.length_cons]
    by_cases h : p e = true
    · rw [if_pos h, h]; simp; omega
    · rw [if_neg h]
      obtain ⟨h1, h2, h3⟩ := ih (i + 1)
      have hf : p e = false := by simpa using h
      rw [hf]
      refine ⟨by simpa using h1, h2, fun h0 => ?_⟩
      have := h3 h0
      push_cast at this ⊢
      omega
theorem drop_int {l : List Int} {k : Nat} (hk : k < l.length) : l.drop k = rd l k :: l.drop (k + 1) := by
  rw [List.drop_eq_getElem_cons hk]; congr 1
  unfold rd; rw [Int.toNat_natCast, List.getD_eq_getElem?_getD, List.getElem?_eq_getElem hk]; rfl
theorem rd_mem {l : List Int} {k : Nat} (hk : k < l.length) : rd l k ∈ l := by
  unfold rd; rw [Int.toNat_natCast, List.getD_eq_getElem?_getD, List.getElem?_eq_getElem hk]; exact List.getElem_mem hk
theorem rich_int {W : World} {own : Nat → Prop} {L : Lay} {s : SS} {rd : List Bool} {A : Option Addr} {c : Nat} {p q : Addr} (h : SR W own L s) (hr : RD W rd A c) (hp : W.cell? p = some (.pointer (some ⟨L.b, 0, none⟩))) (hq : W.cell? q = some (.slice A rd.length c)) (e : Int) (he : 0 ≤ e ∧ e < s.es.length) {b : Bool} (hb : richF s rd e = b) :
    Calls Try.prog 59 #[.int .i64 e, .pointer (some p), .pointer (some q)] W fun x w' => x = .returned (.bool b) ∧ W = w' := by
  obtain ⟨k, rfl⟩ := Int.eq_ofNat_of_zero_le he.1
  exact rich_is h hr hp hq k (by omega) hb
set_option maxRecDepth 100000 in
theorem indexRich {W : World} {own : Nat → Prop} {L : Lay} {s : SS} {rd : List Bool} {A : Option Addr} {c : Nat} {p q : Addr} (h : SR W own L s) (hr : RD W rd A c) (hp : W.cell? p = some (.pointer (some ⟨L.b, 0, none⟩))) (hq : W.cell? q = some (.slice A rd.length c)) {l : List Int} (hl : ∀ e ∈ l, 0 ≤ e ∧ e < s.es.length) {Aq : Option Addr} {cq : Nat} (hC : Kd.C (Kd.int .i64) W Aq l.length l) (hc : l.length ≤ cq) :
    Calls Try.prog 70 #[.slice Aq l.length cq, .func (.func 59) #[] #[.pointer (some p), .pointer (some q)]] W fun r w' => r = .returned (.int .i64 (idxGo (richF s rd) l 0)) ∧ W = w' := by
  have hlen := hC.2.1
  have HC := Aside0.mk hC
  have HR := Aside0.mk h
  have HD := Aside0.mk hr
  have HP := Aside0.mk hp
  have HQ0 := Aside0.mk hq
  have HL := Aside0.mk hl
  clear hC h hr hp hq hl
  go_enter Try.func70, Try.ntmps70
  go_wp2
  go_loop [8] (fun v8 => ∃ (k : Nat), v8 = .int .i64 (k : Int) ∧ k ≤ l.length ∧ Aside0 (idxGo (richF s rd) (l.drop k) k = idxGo (richF s rd) l 0)) (fun v8 => l.length - (intOf v8).toNat)
  case atStart => exact ⟨0, rfl, by omega, ⟨rfl⟩⟩
  case round =>
    obtain ⟨k, rfl, hk, HT⟩ := hrel
    by_cases hlt : k < l.length
    · obtain ⟨ad, rfl, hcell⟩ := Kd.at_int HC.out (k : Int) (by omega) (by omega)
      rw [Int.toNat_natCast] at hcell
      have HS := Aside0.mk (show (if (richF s rd) (Go.Proofs.YtdaadmjppikebaaW.PrintWords.rd l k) = true then (k : Int) else idxGo (richF s rd) (l.drop (k + 1)) (k + 1)) = idxGo (richF s rd) l 0 by have := HT.out; rw [drop_int hlt] at this; exact this)
      have HM := Aside0.mk (rd_mem hlt)
      clear HT
      obtain ⟨x, hx⟩ : ∃ x, x = Go.Proofs.YtdaadmjppikebaaW.PrintWords.rd l k := ⟨_, rfl⟩
      rw [← hx] at hcell HS HM
      clear hx
      cases hb : (richF s rd) x with
      | true =>
        have HB := Aside0.mk hb
        have HQ := Aside0.mk (show (k : Int) = idxGo (richF s rd) l 0 by have := HS.out; rw [if_pos hb] at this; exact this)
        clear hb HS
        go_wp2_with (go_at_call 59; refine (rich_int HR.out HD.out HP.out HQ0.out _ (HL.out _ HM.out) HB.out).mono ?_; rintro e w' ⟨rfl, rfl⟩)
        go_ret
        exact ⟨ret_int HQ.out, rfl⟩
      | false =>
        have HB := Aside0.mk hb
        have HQ := Aside0.mk (show idxGo (richF s rd) (l.drop (k + 1)) (k + 1) = idxGo (richF s rd) l 0 by have := HS.out; rw [if_neg (by rw [hb]; decide)] at this; exact this)
        clear hb HS
        go_wp2_with (go_at_call 59; refine (rich_int HR.out HD.out HP.out HQ0.out _ (HL.out _ HM.out) HB.out).mono ?_; rintro e w' ⟨rfl, rfl⟩)
        go_round
        case rel => exact ⟨k + 1, by go_num, by omega, HQ⟩
        case measure => simp [intOf]; omega
    · have HE := Aside0.mk (show -1 = idxGo (richF s rd) l 0 by have := HT.out; rw [drop_end hlt] at this; exact this)
      clear HT
      go_wp2
      go_ret
      exact ⟨ret_int HE.out, rfl⟩
set_option maxRecDepth 100000 in
theorem indexSame {W : World} {p : Addr} {e0 : Int} (hp : W.cell? p = some (.int .i64 e0)) {l : List Int} {Aq : Option Addr} {cq : Nat} (hC : Kd.C (Kd.int .i64) W Aq l.length l) (hc : l.length ≤ cq) :
    Calls Try.prog 70 #[.slice Aq l.length cq, .func (.func 67) #[] #[.pointer (some p)]] W fun r w' => r = .returned (.int .i64 (idxGo (fun x => x == e0) l 0)) ∧ W = w' := by
  have hlen := hC.2.1
  have HC := Aside0.mk hC
  have HP := Aside0.mk hp
  clear hC hp
  go_enter Try.func70, Try.ntmps70
  go_wp2
  go_loop [8] (fun v8 => ∃ (k : Nat), v8 = .int .i64 (k : Int) ∧ k ≤ l.length ∧ Aside0 (idxGo (fun x => x == e0) (l.drop k) k = idxGo (fun x => x == e0) l 0)) (fun v8 => l.length - (intOf v8).toNat)
  case atStart => exact ⟨0, rfl, by omega, ⟨rfl⟩⟩
  case round =>
    obtain ⟨k, rfl, hk, HT⟩ := hrel
    by_cases hlt : k < l.length
    · obtain ⟨ad, rfl, hcell⟩ := Kd.at_int HC.out (k : Int) (by omega) (by omega)
      rw [Int.toNat_natCast] at hcell
      have HS := Aside0.mk (show (if (fun x => x == e0) (Go.Proofs.YtdaadmjppikebaaW.PrintWords.rd l k) = true then (k : Int) else idxGo (fun x => x == e0) (l.drop (k + 1)) (k + 1)) = idxGo (fun x => x == e0) l 0 by have := HT.out; rw [drop_int hlt] at this; exact this)
      have HM := Aside0.mk (rd_mem hlt)
      clear HT
      obtain ⟨x, hx⟩ : ∃ x, x = Go.Proofs.YtdaadmjppikebaaW.PrintWords.rd l k := ⟨_, rfl⟩
      rw [← hx] at hcell HS HM
      clear hx
      cases hb : (fun x => x == e0) x with
      | true =>
        have HB := Aside0.mk hb
        have HQ := Aside0.mk (show (k : Int) = idxGo (fun x => x == e0) l 0 by have := HS.out; rw [if_pos hb] at this; exact this)
        clear hb HS
        go_wp2_with (go_at_call 67; refine (same_is HP.out HB.out).mono ?_; rintro e w' ⟨rfl, rfl⟩)
        go_ret
        exact ⟨ret_int HQ.out, rfl⟩
      | false =>
        have HB := Aside0.mk hb
        have HQ := Aside0.mk (show idxGo (fun x => x == e0) (l.drop (k + 1)) (k + 1) = idxGo (fun x => x == e0) l 0 by have := HS.out; rw [if_neg (by rw [hb]; decide)] at this; exact this)
        clear hb HS
        go_wp2_with (go_at_call 67; refine (same_is HP.out HB.out).mono ?_; rintro e w' ⟨rfl, rfl⟩)
        go_round
        case rel => exact ⟨k + 1, by go_num, by omega, HQ⟩
        case measure => simp [intOf]; omega
    · have HE := Aside0.mk (show -1 = idxGo (fun x => x == e0) l 0 by have := HT.out; rw [drop_end hlt] at this; exact this)
      clear HT
      go_wp2
      go_ret
      exact ⟨ret_int HE.out, rfl⟩
theorem containsRich {W : World} {own : Nat → Prop} {L : Lay} {s : SS} {rd : List Bool} {A : Option Addr} {c : Nat} {p q : Addr} (h : SR W own L s) (hr : RD W rd A c) (hp : W.cell? p = some (.pointer (some ⟨L.b, 0, none⟩))) (hq : W.cell? q = some (.slice A rd.length c)) {l : List Int} (hl : ∀ e ∈ l, 0 ≤ e ∧ e < s.es.length) {Aq : Option Addr} {cq : Nat} (hC : Kd.C (Kd.int .i64) W Aq l.length l) (hc : l.length ≤ cq) {b : Bool} (hb : l.any (richF s rd) = b) :
    Calls Try.prog 60 #[.slice Aq l.length cq, .func (.func 59) #[] #[.pointer (some p), .pointer (some q)]] W fun r w' => r = .returned (.bool b) ∧ W = w' := by
  have HI := Aside0.mk (indexRich h hr hp hq hl hC hc)
  have hi := (idxGo_any (richF s rd) l 0).1
  clear h hr hp hq hC
  cases b with
  | true =>
    have hd : decide (0 ≤ idxGo (richF s rd) l 0) = true := decide_eq_true (hi.2 hb)
    clear hi hb
    go_enter Try.func60, Try.ntmps60
    go_wp2_with (go_at_call 70; refine HI.out.mono ?_; rintro e w' ⟨rfl, rfl⟩)
    go_ret
    exact ⟨rfl, rfl⟩
  | false =>
    have hd : decide (0 ≤ idxGo (richF s rd) l 0) = false := decide_eq_false (fun h => by rw [hi.1 h] at hb; cases hb)
    clear hi hb
    go_enter Try.func60, Try.ntmps60
    go_wp2_with (go_at_call 70; refine HI.out.mono ?_; rintro e w' ⟨rfl, rfl⟩)
    go_ret
    exact ⟨rfl, rfl⟩
end Go.Proofs.Ytdaadmjppikebaa.SC

/- Leaving a queue. -/
namespace Go.Proofs.Ytdaadmjppikebaa.SC
open Go.RowKit Go.Proofs.YtdaadmjppikebaaW.PrintWords
set_option linter.unusedVariables false
set_option linter.unusedSimpArgs false

theorem idxGo_split (p : Int → Bool) : ∀ (l : List Int) (i : Nat), (idxGo p l i = -1 ∧ l.filter (fun x => !p x) = l) ∨ ∃ n : Nat, idxGo p l i = ((i + n : Nat) : Int) ∧ n < l.length ∧ (l.take (n + 1)).filter (fun x => !p x) = l.take n := by
  intro l
  induction l with
  | nil => intro i; exact .inl ⟨rfl, rfl⟩
  | cons e r ih =>
    intro i
    simp only [idxGo]
    by_cases h : p e = true
    · rw [if_pos h]; exact .inr ⟨0, rfl, by simp, by simp [h]⟩
    · rw [if_neg h]
      have hf : p e = false := by simpa using h
      rcases ih (i + 1) with ⟨h1, h2⟩ | ⟨n, h1, h2, h3⟩
      · exact .inl ⟨h1, by rw [List.filter_cons, if_pos (by rw [hf]; rfl), h2]⟩
      · refine .inr ⟨n + 1, by rw [h1]; congr 1; omega, by simp only [List.length_cons]; omega, ?_⟩
        rw [List.take_succ_cons, List.filter_cons, if_pos (by rw [hf]; rfl), h3, List.take_succ_cons]
theorem R_clear {W : World} {ok : Nat → Prop} {g n cap i : Nat} {c : List Int} (h : Kd.R (Kd.int .i64) 3 W 0 ok (.slice (some ⟨g, 0, none⟩) n cap) c) (hi : i ≤ n) :
    Kd.R (Kd.int .i64) 3 (W.setCells g i (List.replicate (n - i) (.int .i64 0))) 0 ok (.slice (some ⟨g, 0, none⟩) i cap) (c.take i) ∧ Mut (fun k => k = g) W (W.setCells g i (List.replicate (n - i) (.int .i64 0))) := by
  obtain ⟨s1, s2, s3, s4⟩ := setCells_same g (List.replicate (n - i) (Value.int .i64 0)) i W
  refine ⟨?_, ⟨s1, s2, s3, by rw [s4]; exact Nat.le_refl _, fun k _ hk => setCells_far _ _ k hk⟩⟩
  have hn := (Kd.R_reads' h).1
  have hok := h.1 g rfl
  have ho := Kd.own_of_R (enc := Value.int .i64) (h1 := fun _ => rfl) h
  obtain ⟨h1, h2⟩ := ho
  rcases h2 with ⟨h2, _⟩ | ⟨g', cap', cur, h2, h3, h4, h5, h6, h7, h8⟩
  · cases h2
  injection h2 with e1 e2 e3
  injection e1 with e1
  injection e1 with e1 e4 e5
  subst e1 e3
  obtain ⟨cur', k1, k2, k3⟩ := setCells_row (List.replicate (n - i) (Value.int .i64 0)) i W cur h4 (by simp; omega)
  refine Kd.R_of_own (enc := Value.int .i64) (h1 := fun _ => rfl) ⟨by simp [encs], .inr ⟨g, cap, cur', ?_, Nat.zero_le _, k1, ?_, h6, by rw [k2, h7], ?_⟩⟩ (fun k hk => by simp [Value.ownBlock] at hk; subst hk; exact hok)
  · congr 1; simp; omega
  · simp; omega
  · rw [k3]
    have hl : (c.take i).length = i := by simp; omega
    rw [hl, Nat.mul_one, List.append_assoc, List.take_append_of_le_length (by simp; omega), List.take_take, Nat.min_self]
    have h9 := congrArg (List.take i) h8
    rw [List.take_take, Nat.mul_one, Nat.min_eq_left (by omega)] at h9
    rw [h9]; simp [encs, List.map_take]
theorem zero3 (w : World) : (zeroValue 3).run Try.prog w = .ok (.int .i64 0) w := by kernel_rfl
set_option maxRecDepth 100000 in
set_option maxHeartbeats 1600000 in
theorem delete_calls {W : World} {ok : Nat → Prop} {p : Addr} {e0 : Int} {l : List Int} {Aq : Option Addr} {cq : Nat} (hR : Kd.R (Kd.int .i64) 3 W 0 ok (.slice Aq l.length cq) l) (hp : W.cell? p = some (.int .i64 e0)) (hnp : ¬ ok p.block) (hl : l.length ≤ 64) :
    Calls Try.prog 66 #[.slice Aq l.length cq, .func (.func 67) #[] #[.pointer (some p)]] W fun r w' => ∃ n, r = .returned (.slice Aq n cq) ∧ n = (l.filter fun x => x != e0).length ∧ Kd.R (Kd.int .i64) 3 w' 0 ok (.slice Aq n cq) (l.filter fun x => x != e0) ∧ Mut ok W w' := by
  obtain ⟨_, hcq, hC⟩ := Kd.R_reads' hR
  have HI := Aside0.mk (indexSame hp hC hcq)
  have HR := Aside0.mk hR
  have HP := Aside0.mk hp
  have HNP := Aside0.mk hnp
  have hf : (fun x : Int => !(x == e0)) = (fun x => x != e0) := rfl
  rcases idxGo_split (fun x => x == e0) l 0 with ⟨h1, h2⟩ | ⟨n, h1, h2, h3⟩
  · rw [h1] at HI
    have HE := Aside0.mk (show l.filter (fun x => x != e0) = l from h2)
    clear h1 h2 hC hR hp hnp hf
    go_enter Try.func66, Try.ntmps66
    go_wp2_with (go_at_call 70; refine HI.out.mono ?_; rintro e w' ⟨rfl, rfl⟩)
    go_ret
    exact ⟨l.length, rfl, by rw [HE.out], by rw [HE.out]; exact HR.out, Mut.refl _ _⟩
  · rw [Nat.zero_add] at h1
    rw [h1] at HI
    have HF0 := Aside0.mk (show (l.take (n + 1)).filter (fun x => x != e0) = l.take n from h3)
    have b1 : ((n : Int) == -1) = false := by simp
    obtain ⟨g, cap, hv, _, hgl, _⟩ := Kd.R_form hR (by omega)
    injection hv with e1 e2 e3
    subst e1 e3
    have HOK := Aside0.mk (hR.1 g rfl)
    clear h1 h3 hC hR hp hnp hf hgl
    go_enter Try.func66, Try.ntmps66
    go_wp2_with (go_at_call 70; refine HI.out.mono ?_; rintro e w' ⟨rfl, rfl⟩)
    go_loopw [5, 6] (fun v5 v6 w' => ∃ (i j : Nat) (c : List Int), v5 = .int .i64 (i : Int) ∧ v6 = .int .i64 (j : Int) ∧ i < j ∧ j ≤ l.length ∧ Aside0 (c.length = l.length) ∧ Aside0 (c.take i = (l.take j).filter fun x => x != e0) ∧ Aside0 (c.drop j = l.drop j) ∧ Aside0 (Kd.R (Kd.int .i64) 3 w' 0 ok (.slice (some ⟨g, 0, none⟩) l.length cq) c) ∧ Aside0 (Mut ok W w')) (fun _ v6 _ => l.length - (intOf v6).toNat)
    case atStart => exact ⟨n, n + 1, l, rfl, by go_num, by omega, by omega, ⟨rfl⟩, ⟨HF0.out.symm⟩, ⟨rfl⟩, HR, ⟨Mut.refl _ _⟩⟩
    case round =>
      obtain ⟨i, j, c, rfl, rfl, hij, hj, HCL, HT, HD, HRc, HM⟩ := hrel
      clear HR HI HF0
      by_cases hlt : j < l.length
      · have HRc2 := Aside0.mk (show Kd.R (Kd.int .i64) 3 wr 0 ok (.slice (some ⟨g, 0, none⟩) c.length cq) c by rw [HCL.out]; exact HRc.out)
        obtain ⟨cj, _⟩ := Kd.R_cell (enc := Value.int .i64) (h1 := fun _ => rfl) (0 : Int) HRc2.out (j : Int) (by omega) (by have := HCL.out; omega)
        obtain ⟨ci, fi⟩ := Kd.R_cell (enc := Value.int .i64) (h1 := fun _ => rfl) (0 : Int) HRc2.out (i : Int) (by omega) (by have := HCL.out; omega)
        rw [Int.toNat_natCast] at cj ci fi
        have hxj : rdOf (0 : Int) c (j : Int) = Go.Proofs.YtdaadmjppikebaaW.PrintWords.rd l j := by
          have h1 := HD.out
          rw [drop_int hlt, drop_int (by have := HCL.out; omega)] at h1
          exact (List.cons.inj h1).1
        rw [hxj] at cj
        have HDD := Aside0.mk (show c.drop (j + 1) = l.drop (j + 1) by have h1 := HD.out; rw [drop_int hlt, drop_int (by have := HCL.out; omega)] at h1; exact (List.cons.inj h1).2)
        have HTT := Aside0.mk (show (l.take (j + 1)).filter (fun x => x != e0) = c.take i ++ [Go.Proofs.YtdaadmjppikebaaW.PrintWords.rd l j].filter (fun x => x != e0) by
          rw [HT.out, ← List.filter_append]; congr 1
          rw [List.take_succ_eq_append_getElem hlt]; congr 2
          unfold Go.Proofs.YtdaadmjppikebaaW.PrintWords.rd; rw [Int.toNat_natCast, List.getD_eq_getElem?_getD, List.getElem?_eq_getElem hlt]; rfl)
        obtain ⟨x, hx⟩ : ∃ x, x = Go.Proofs.YtdaadmjppikebaaW.PrintWords.rd l j := ⟨_, rfl⟩
        rw [← hx] at cj HTT
        obtain ⟨y, hy⟩ : ∃ y, y = rdOf (0 : Int) c (i : Int) := ⟨_, rfl⟩
        rw [← hy] at ci
        have HPw := Aside0.mk (cell_kept HP.out HM.out.kept HNP.out)
        have hcl : i < c.length := by have := HCL.out; omega
        have HIC := Aside0.mk hcl
        clear hx hy hxj hcl
        cases hb : (x == e0) with
        | true =>
          have HB := Aside0.mk hb
          have HQ := Aside0.mk (show c.take i = (l.take (j + 1)).filter (fun x => x != e0) by rw [HTT.out]; simp [hb, bne])
          clear hb ci fi
          go_wp2_with (go_at_call 67; refine (same_is HPw.out HB.out).mono ?_; rintro e w' ⟨rfl, rfl⟩)
          go_roundw
          case rel => exact ⟨i, j + 1, c, rfl, by go_num, by omega, by omega, HCL, HQ, HDD, HRc, HM⟩
          case measure => simp [intOf]; omega
        | false =>
          have HB := Aside0.mk hb
          have HQ := Aside0.mk (show (c.set i x).take (i + 1) = (l.take (j + 1)).filter (fun x => x != e0) by
            rw [HTT.out]
            have h1 : [x].filter (fun x => x != e0) = [x] := by simp [hb, bne]
            rw [h1, List.take_succ_eq_append_getElem (by rw [List.length_set]; exact HIC.out), List.take_set_of_le (Nat.le_refl _)]
            simp)
          have HDS := Aside0.mk (show (c.set i x).drop (j + 1) = l.drop (j + 1) by rw [List.drop_set_of_lt (by omega)]; exact HDD.out)
          obtain ⟨hr1, hg1⟩ := Kd.R_put (enc := Value.int .i64) (h1 := fun _ => rfl) HRc2.out (i : Int) x
          rw [Int.toNat_natCast] at hr1 hg1
          have HR1 := Aside0.mk (show Kd.R (Kd.int .i64) 3 (wr.setCell ⟨g, i, none⟩ (.int .i64 x)) 0 ok (.slice (some ⟨g, 0, none⟩) l.length cq) (c.set i x) by rw [HCL.out] at hr1; exact hr1)
          have HM1 := Aside0.mk (show Mut ok W (wr.setCell ⟨g, i, none⟩ (.int .i64 x)) from HM.out.setCell (.inl HOK.out) _)
          clear hb hr1 hg1
          go_wp2_with (go_at_call 67; refine (same_is HPw.out HB.out).mono ?_; rintro e w' ⟨rfl, rfl⟩)
          go_roundw
          case rel => exact ⟨i + 1, j + 1, c.set i x, by go_num, by go_num, by omega, by omega, ⟨by rw [List.length_set]; exact HCL.out⟩, HQ, HDS, HR1, HM1⟩
          case measure => simp [intOf]; omega
      · obtain rfl : j = l.length := by omega
        have HQ := Aside0.mk (show c.take i = l.filter (fun x => x != e0) by rw [HT.out, List.take_length])
        have hcl := HCL.out
        obtain ⟨hr1, hm1⟩ := R_clear (i := i) HRc.out (by omega)
        have HR1 := Aside0.mk hr1
        have HM1 := Aside0.mk (HM.out.trans hm1 (fun k hk => .inl (by rw [hk]; exact HOK.out)))
        have HN := Aside0.mk (show i = (l.filter fun x => x != e0).length by rw [← HQ.out]; simp; omega)
        have HRc2 := Aside0.mk (show Kd.R (Kd.int .i64) 3 wr 0 ok (.slice (some ⟨g, 0, none⟩) c.length cq) c by rw [HCL.out]; exact HRc.out)
        have hclr : ∀ ty, (Builtin.clear_ #[22] ty #[.slice (some ⟨g, i, none⟩) (l.length - i) (cq - i)]).run Try.prog wr = .ok (.tuple #[]) (wr.setCells g i (List.replicate (l.length - i) (.int .i64 0))) := fun ty =>
          Lib.run_clear_slice wr 22 3 ty (.int .i64 0) Try.underlying22 zero3 rfl rfl g i (l.length - i) (cq - i) (by omega)
            (fun j hj => by have h := (Kd.R_cell (enc := Value.int .i64) (h1 := fun _ => rfl) (0 : Int) HRc2.out ((i + j : Nat) : Int) (by omega) (by omega)).1; rw [Int.toNat_natCast] at h; rw [h]; rfl)
            (fun j hj => by have h := (Kd.R_cell (enc := Value.int .i64) (h1 := fun _ => rfl) (0 : Int) HRc2.out ((i + j : Nat) : Int) (by omega) (by omega)).2; rw [Int.toNat_natCast] at h; exact h)
        obtain ⟨i0, hi0, _, hsz, _⟩ := info_parts info3
        have hcut : ∀ Wc : World, (Instr.slice 22 (.slice (some ⟨g, 0, none⟩) l.length cq) (some (.int .i64 (i : Int))) none none).run Try.prog Wc = .ok (.slice (some ⟨g, i, none⟩) (l.length - i) (cq - i)) Wc := fun Wc => by
          have h := cut_from (P := Try.prog) 22 3 .i64 Try.underlying22 hi0 1 hsz (some ⟨g, 0, none⟩) l.length cq (i : Int) (by omega) (by omega) Wc
          rw [h, Int.toNat_natCast, if_neg (by omega)]
          simp [add_plain]
        have hcut2 : ∀ Wc : World, (Instr.slice 22 (.slice (some ⟨g, 0, none⟩) l.length cq) none (some (.int .i64 (i : Int))) none).run Try.prog Wc = .ok (.slice (some ⟨g, 0, none⟩) i cq) Wc := fun Wc => by
          have h := cut_to (P := Try.prog) 22 3 .i64 Try.underlying22 hi0 (some ⟨g, 0, none⟩) l.length cq (i : Int) (by omega) (by omega) hcq Wc
          rw [h, Int.toNat_natCast]
        clear hi0 hsz hcl hr1 hm1
        go_wp2
        go_ret
        exact ⟨i, rfl, HN.out, by rw [← HQ.out]; exact HR1.out, HM1.out⟩
end Go.Proofs.Ytdaadmjppikebaa.SC

/- The state turned, cell by cell. -/
namespace Go.Proofs.Ytdaadmjppikebaa.SC
open Go.RowKit Go.Proofs.YtdaadmjppikebaaW.PrintWords
set_option linter.unusedVariables false
set_option linter.unusedSimpArgs false

theorem flat_set {α : Type} (f : α → List Value) (n : Nat) (hn : ∀ a, (f a).length = n) (j : Nat) (hj : j < n) (a a' : α) (v : Value) (h : f a' = (f a).set j v) : ∀ (l : List α) (i : Nat), l[i]? = some a → (l.set i a').flatMap f = (l.flatMap f).set (i * n + j) v := by
  intro l
  induction l with
  | nil => intro i ha; simp at ha
  | cons x r ih =>
    intro i ha
    cases i with
    | zero =>
      simp at ha; subst ha
      rw [List.set_cons_zero, List.flatMap_cons, List.flatMap_cons, h, Nat.zero_mul, Nat.zero_add, List.set_append_left _ _ (by rw [hn]; exact hj)]
    | succ i =>
      rw [List.set_cons_succ, List.flatMap_cons, List.flatMap_cons, ih i (by simpa using ha), List.set_append_right _ _ (by rw [hn, Nat.succ_mul]; omega), hn, Nat.succ_mul, show i * n + n + j - n = i * n + j by omega]
theorem modify_set {α : Type} (l : List α) (i : Nat) (f : α → α) (a : α) (h : l[i]? = some a) : l.modify i f = l.set i (f a) := by
  apply List.ext_getElem?
  intro j
  have hl : i < l.length := (List.getElem?_eq_some_iff.1 h).1
  rw [List.getElem?_modify, List.getElem?_set]
  by_cases e : i = j
  · subst e
    rw [List.getElem?_eq_getElem hl] at h
    simp [hl, Option.some.inj h]
  · simp [e]
theorem zip_set {α β : Type} : ∀ (l : List α) (r : List β) (i : Nat) (a : α) (b : β), (l.set i a).zip (r.set i b) = (l.zip r).set i (a, b) := by
  intro l
  induction l with
  | nil => intro r i a b; simp
  | cons x l ih =>
    intro r i a b
    cases r with
    | nil => simp
    | cons y r =>
      cases i with
      | zero => simp
      | succ i => simp [ih]
section
variable {s : SS} {i j : Nat}
@[simp] theorem modE_len (f : SE → SE) : (s.modE i f).es.length = s.es.length := by simp [SS.modE]
@[simp] theorem modE_ts (f : SE → SE) : (s.modE i f).ts = s.ts := rfl
@[simp] theorem modE_gs (f : SE → SE) : (s.modE i f).gs = s.gs := rfl
@[simp] theorem modE_ch (f : SE → SE) : (s.modE i f).ch = s.ch := rfl
@[simp] theorem modT_len (f : ST → ST) : (s.modT i f).ts.length = s.ts.length := by simp [SS.modT]
@[simp] theorem modT_es (f : ST → ST) : (s.modT i f).es = s.es := rfl
@[simp] theorem modT_gs (f : ST → ST) : (s.modT i f).gs = s.gs := rfl
@[simp] theorem modT_ch (f : ST → ST) : (s.modT i f).ch = s.ch := rfl
@[simp] theorem modC_len (f : Int → Int) : (s.modC i f).ch.length = s.ch.length := by simp [SS.modC]
@[simp] theorem modC_es (f : Int → Int) : (s.modC i f).es = s.es := rfl
@[simp] theorem modC_ts (f : Int → Int) : (s.modC i f).ts = s.ts := rfl
@[simp] theorem modC_gs (f : Int → Int) : (s.modC i f).gs = s.gs := rfl
theorem modE_ent (f : SE → SE) (hi : i < s.es.length) : (s.modE i f).ent j = if i = j then f (s.ent i) else s.ent j := by
  unfold SS.modE SS.ent
  simp only [List.getD_eq_getElem?_getD, List.getElem?_modify]
  by_cases e : i = j
  · subst e; simp [List.getElem?_eq_getElem hi]
  · simp [e]
theorem modT_trn (f : ST → ST) (hi : i < s.ts.length) : (s.modT i f).trn j = if i = j then f (s.trn i) else s.trn j := by
  unfold SS.modT SS.trn
  simp only [List.getD_eq_getElem?_getD, List.getElem?_modify]
  by_cases e : i = j
  · subst e; simp [List.getElem?_eq_getElem hi]
  · simp [e]
theorem modE_gng (f : SE → SE) (hi : i < s.es.length) (hf : (f (s.ent i)).gu = (s.ent i).gu) : (s.modE i f).gng j = s.gng j := by
  unfold SS.gng SS.gst
  rw [modE_ent f hi]
  by_cases e : i = j
  · subst e; rw [if_pos rfl, hf]; rfl
  · rw [if_neg e]; rfl
theorem modE_home (f : SE → SE) (hi : i < s.es.length) (hf : (f (s.ent i)).gu = (s.ent i).gu ∧ (f (s.ent i)).ix = (s.ent i).ix) : homeOf (s.modE i f) j = homeOf s j := by
  unfold homeOf
  rw [modE_gng f hi hf.1, modE_ent f hi]
  by_cases e : i = j
  · subst e; rw [if_pos rfl, hf.2]; rfl
  · rw [if_neg e]; rfl
theorem modE_homes (f : SE → SE) (hi : i < s.es.length) (hf : (f (s.ent i)).gu = (s.ent i).gu ∧ (f (s.ent i)).ix = (s.ent i).ix) : homesL (s.modE i f) = homesL s := by
  unfold homesL
  rw [modE_len]
  exact List.map_congr_left (fun k _ => modE_home f hi hf)
end
section
variable {W W' : World} {own S : Nat → Prop} {L : Lay} {s : SS}
theorem SR.dist (h : SR W own L s) : L.b ≠ L.bg ∧ L.b ≠ L.be ∧ L.b ≠ L.bt ∧ L.b ≠ L.bc ∧ L.b ≠ L.bh ∧ L.bg ≠ L.be ∧ L.bg ≠ L.bt ∧ L.bg ≠ L.bc ∧ L.bg ≠ L.bh ∧ L.be ≠ L.bt ∧ L.be ≠ L.bc ∧ L.be ≠ L.bh ∧ L.bt ≠ L.bc ∧ L.bt ≠ L.bh ∧ L.bc ≠ L.bh :=
  ⟨h.S.ne h.G (by decide), h.S.ne h.E (by decide), h.S.ne h.T (by decide), h.S.ne h.C (by decide), h.S.ne h.Hm (by decide), h.G.ne h.E (by decide), h.G.ne h.T (by decide), h.G.ne h.C (by decide), h.G.ne h.Hm (by decide), h.E.ne h.T (by decide), h.E.ne h.C (by decide), h.E.ne h.Hm (by decide), h.T.ne h.C (by decide), h.T.ne h.Hm (by decide), h.C.ne h.Hm (by decide)⟩
/-- A queue's block is of another type than all but the table of homes. -/
theorem SR.qne (h : SR W own L s) {i : Nat} {q : Value} (hq : L.qs[i]? = some q) {k : Nat} (hk : q.ownBlock = some k) : k ≠ L.b ∧ k ≠ L.bg ∧ k ≠ L.be ∧ k ≠ L.bt ∧ k ≠ L.bc ∧ k ≠ L.bh ∧ own k := by
  have hR := h.Q i q hq
  have hn : ∀ {g t : Nat} {cs : List Value}, Blk W g t cs → (3 : Nat) ≠ t → k ≠ g := fun hb ht e => by
    obtain ⟨c, h1, _⟩ := hb
    exact Kd.R_ne hR h1 ht (by rw [hk, e])
  have := hR.1 k hk
  exact ⟨hn h.S (by decide), hn h.G (by decide), hn h.E (by decide), hn h.T (by decide), hn h.C (by decide), this.2, this.1⟩
theorem R_ok {k : IntKind} {e b : Nat} {ok ok' : Nat → Prop} {q : Value} {xs : List Int} (h : Kd.R (Kd.int k) e W b ok q xs) (hok : ∀ n, q.ownBlock = some n → ok' n) : Kd.R (Kd.int k) e W b ok' q xs :=
  Kd.R_of_own (enc := Value.int k) (h1 := fun _ => rfl) (Kd.own_of_R (enc := Value.int k) (h1 := fun _ => rfl) h) hok
theorem R_mut {k : IntKind} {e b : Nat} {ok : Nat → Prop} {q : Value} {xs : List Int} (h : Kd.R (Kd.int k) e W b ok q xs) (hm : Mut S W W') (hn : ∀ n, q.ownBlock = some n → ¬ S n) : Kd.R (Kd.int k) e W' b ok q xs :=
  R_ok (Kd.R_kept (R_ok h (ok' := fun n => q.ownBlock = some n) (fun n hn => hn)) hm.kept (fun n hk => hn n hk)) h.1
/-- A store into one of the blocks that is no queue: the queues stand as they are. -/
theorem SR.q_far (h : SR W own L s) (hm : Mut S W W') (hS : ∀ k, S k → k = L.b ∨ k = L.bg ∨ k = L.be ∨ k = L.bt ∨ k = L.bc) (i : Nat) (q : Value) (hq : L.qs[i]? = some q) : Kd.R (Kd.int .i64) 3 W' 0 (fun k => own k ∧ k ≠ L.bh) q (s.trn i).q :=
  R_mut (h.Q i q hq) hm (fun n hn hs => by
    obtain ⟨h1, h2, h3, h4, h5, _⟩ := h.qne hq hn
    rcases hS n hs with e | e | e | e | e <;> contradiction)
theorem set_mut (W : World) (p : Addr) (u : Value) : Mut (fun k => k = p.block) W (W.setCell p u) := ⟨rfl, rfl, rfl, by simp [World.setCell], fun i _ hn => Below.heap_setCell W p u i hn⟩
/-- One cell of a hart's turn: who is current, what it has used. -/
theorem SR.putT (h : SR W own L s) (i j : Nat) (hi : i < s.ts.length) (hj : j < 3) (v : Value) (f : ST → ST) (hf : ∀ q, trnC (q, f (s.trn i)) = (trnC (q, s.trn i)).set j v) (hq : (f (s.trn i)).q = (s.trn i).q) :
    SR (W.setCell ⟨L.bt, i * 3 + j, none⟩ v) own L (s.modT i f) := by
  have hm := set_mut W ⟨L.bt, i * 3 + j, none⟩ v
  obtain ⟨d1, d2, d3, d4, d5, d6, d7, d8, d9, d10, d11, d12, d13, d14, d15⟩ := h.dist
  obtain ⟨q, hqi⟩ := h.qs i hi
  refine { S := ?_, G := h.G.mut hm (by simpa using d7), E := h.E.mut hm (by simpa using d10), T := ?_, C := h.C.mut hm (by simpa using d13.symm), Hm := h.Hm.mut hm (by simpa using d14.symm), ql := by simp [h.ql], Q := fun k r hr => ?_, qd := h.qd, ob := h.ob, cap := h.cap, lt := fun k hk => Nat.lt_of_lt_of_le (h.lt k hk) hm.size }
  · have e : schC L (s.modT i f) = schC L s := by unfold schC; simp [SS.modT]
    rw [e]; exact h.S.mut hm (by simpa using d3)
  · have hz : (L.qs.zip s.ts)[i]? = some (q, s.trn i) := by rw [List.getElem?_zip_eq_some]; exact ⟨hqi, trn_some hi⟩
    have e : (L.qs.zip (s.modT i f).ts) = (L.qs.zip s.ts).set i (q, f (s.trn i)) := by
      show L.qs.zip (s.ts.modify i f) = _
      rw [modify_set _ _ _ _ (trn_some hi), ← zip_set]
      congr 1
      exact (List.ext_getElem? (fun k => by
        rw [List.getElem?_set]
        by_cases e : i = k
        · subst e; rw [hqi]; simp [(List.getElem?_eq_some_iff.1 hqi).1]
        · simp [e]))
    rw [e, flat_set trnC 3 (fun _ => rfl) j hj (q, s.trn i) (q, f (s.trn i)) v (hf q) _ i hz]
    exact h.T.set _ _
  · rw [modT_trn f hi]
    have hr' := h.q_far hm (fun k hk => by simp at hk; simp [hk]) k r hr
    by_cases e : i = k
    · subst e; rw [if_pos rfl, hq]; exact hr'
    · rw [if_neg e]; exact hr'
/-- One cell of an entity. -/
theorem SR.putE (h : SR W own L s) (i j : Nat) (hi : i < s.es.length) (hj : j < 7) (v : Value) (f : SE → SE) (hf : entC (f (s.ent i)) = (entC (s.ent i)).set j v) (hg : (f (s.ent i)).gu = (s.ent i).gu ∧ (f (s.ent i)).ix = (s.ent i).ix) :
    SR (W.setCell ⟨L.be, i * 7 + j, none⟩ v) own L (s.modE i f) := by
  have hm := set_mut W ⟨L.be, i * 7 + j, none⟩ v
  obtain ⟨d1, d2, d3, d4, d5, d6, d7, d8, d9, d10, d11, d12, d13, d14, d15⟩ := h.dist
  refine { S := ?_, G := h.G.mut hm (by simpa using d6), E := ?_, T := h.T.mut hm (by simpa using d10.symm), C := h.C.mut hm (by simpa using d11.symm), Hm := ?_, ql := h.ql, Q := fun k r hr => h.q_far hm (fun k hk => by simp at hk; simp [hk]) k r hr, qd := h.qd, ob := h.ob, cap := ⟨h.cap.1, by simpa using h.cap.2.1, by simpa using h.cap.2.2⟩, lt := fun k hk => Nat.lt_of_lt_of_le (h.lt k hk) hm.size }
  · have e : schC L (s.modE i f) = schC L s := by unfold schC; simp [SS.modE]
    rw [e]; exact h.S.mut hm (by simpa using d2)
  · have e : (s.modE i f).es = s.es.set i (f (s.ent i)) := modify_set _ _ _ _ (ent_some hi)
    rw [e, flat_set entC 7 (fun _ => rfl) j hj (s.ent i) (f (s.ent i)) v hf _ i (ent_some hi)]
    exact h.E.set _ _
  · rw [modE_homes f hi hg]; exact h.Hm.mut hm (by simpa using d12.symm)
/-- What a guest was charged. -/
theorem SR.putC (h : SR W own L s) (i : Nat) (hi : i < s.ch.length) (n : Int) (f : Int → Int) (hf : f (s.ch.getD i 0) = n) :
    SR (W.setCell ⟨L.bc, i, none⟩ (.int .u64 n)) own L (s.modC i f) := by
  have hm := set_mut W ⟨L.bc, i, none⟩ (.int .u64 n)
  obtain ⟨d1, d2, d3, d4, d5, d6, d7, d8, d9, d10, d11, d12, d13, d14, d15⟩ := h.dist
  refine { S := ?_, G := h.G.mut hm (by simpa using d8), E := h.E.mut hm (by simpa using d11), T := h.T.mut hm (by simpa using d13), C := ?_, Hm := h.Hm.mut hm (by simpa using d15.symm), ql := h.ql, Q := fun k r hr => h.q_far hm (fun k hk => by simp at hk; simp [hk]) k r hr, qd := h.qd, ob := h.ob, cap := h.cap, lt := fun k hk => Nat.lt_of_lt_of_le (h.lt k hk) hm.size }
  · have e : schC L (s.modC i f) = schC L s := by unfold schC; simp [SS.modC]
    rw [e]; exact h.S.mut hm (by simpa using d4)
  · have hg : s.ch[i]? = some (s.ch.getD i 0) := by rw [List.getD_eq_getElem?_getD, List.getElem?_eq_getElem hi]; rfl
    have e : (s.modC i f).ch = s.ch.set i n := by rw [← hf]; exact modify_set _ _ _ _ hg
    rw [e, List.map_set]
    exact h.C.set _ _
theorem SR.putN (h : SR W own L s) (n : Int) : SR (W.setCell ⟨L.b, 7, none⟩ (.int .u64 n)) own L { s with now := n } := by
  have hm := set_mut W ⟨L.b, 7, none⟩ (.int .u64 n)
  obtain ⟨d1, d2, d3, d4, d5, d6, d7, d8, d9, d10, d11, d12, d13, d14, d15⟩ := h.dist
  exact { S := h.S.set 7 _, G := h.G.mut hm (by simpa using d1.symm), E := h.E.mut hm (by simpa using d2.symm), T := h.T.mut hm (by simpa using d3.symm), C := h.C.mut hm (by simpa using d4.symm), Hm := h.Hm.mut hm (by simpa using d5.symm), ql := h.ql, Q := fun k r hr => h.q_far hm (fun k hk => by simp at hk; simp [hk]) k r hr, qd := h.qd, ob := h.ob, cap := h.cap, lt := fun k hk => Nat.lt_of_lt_of_le (h.lt k hk) hm.size }
theorem SR.putS (h : SR W own L s) (n : Int) : SR (W.setCell ⟨L.b, 8, none⟩ (.int .u64 n)) own L { s with sh := n } := by
  have hm := set_mut W ⟨L.b, 8, none⟩ (.int .u64 n)
  obtain ⟨d1, d2, d3, d4, d5, d6, d7, d8, d9, d10, d11, d12, d13, d14, d15⟩ := h.dist
  exact { S := h.S.set 8 _, G := h.G.mut hm (by simpa using d1.symm), E := h.E.mut hm (by simpa using d2.symm), T := h.T.mut hm (by simpa using d3.symm), C := h.C.mut hm (by simpa using d4.symm), Hm := h.Hm.mut hm (by simpa using d5.symm), ql := h.ql, Q := fun k r hr => h.q_far hm (fun k hk => by simp at hk; simp [hk]) k r hr, qd := h.qd, ob := h.ob, cap := h.cap, lt := fun k hk => Nat.lt_of_lt_of_le (h.lt k hk) hm.size }
/-- A hart's queue, turned by a call and stored back. -/
theorem SR.putQ (h : SR W own L s) (i : Nat) (hi : i < s.ts.length) (q q' : Value) (hqi : L.qs[i]? = some q) {W1 : World} (hm1 : Mut (fun k => q.ownBlock = some k) W W1) (xs : List Int) (f : ST → ST) (hf : f (s.trn i) = { s.trn i with q := xs })
    (hR : Kd.R (Kd.int .i64) 3 W1 0 (fun _ => True) q' xs) (hat : ∀ k, q'.ownBlock = some k → q.ownBlock = some k ∨ W.heap.size ≤ k) :
    SR (W1.setCell ⟨L.bt, i * 3, none⟩ q') (fun k => own k ∨ q'.ownBlock = some k) { L with qs := L.qs.set i q' } (s.modT i f) := by
  have hm2 := set_mut W1 ⟨L.bt, i * 3, none⟩ q'
  obtain ⟨d1, d2, d3, d4, d5, d6, d7, d8, d9, d10, d11, d12, d13, d14, d15⟩ := h.dist
  have hqb : ∀ k, q.ownBlock = some k → k ≠ L.b ∧ k ≠ L.bg ∧ k ≠ L.be ∧ k ≠ L.bt ∧ k ≠ L.bc ∧ k ≠ L.bh ∧ own k := fun k hk => h.qne hqi hk
  have two : ∀ {g t : Nat} {cs : List Value}, Blk W g t cs → (∀ k, q.ownBlock = some k → k ≠ g) → g ≠ L.bt → Blk (W1.setCell ⟨L.bt, i * 3, none⟩ q') g t cs := fun hb h1 h2 => (hb.mut hm1 (fun hk => h1 _ hk rfl)).mut hm2 (by simpa using h2)
  have hlq : i < L.qs.length := by rw [h.ql]; exact hi
  refine { S := ?_, G := two h.G (fun k hk => (hqb k hk).2.1) d7, E := two h.E (fun k hk => (hqb k hk).2.2.1) d10, T := ?_, C := two h.C (fun k hk => (hqb k hk).2.2.2.2.1) d13.symm, Hm := two h.Hm (fun k hk => (hqb k hk).2.2.2.2.2.1) d14.symm, ql := by simp [h.ql], Q := fun k r hr => ?_, qd := fun a b r t k hab ha hb hk => ?_, ob := ⟨.inl h.ob.1, .inl h.ob.2.1, .inl h.ob.2.2.1, .inl h.ob.2.2.2.1, .inl h.ob.2.2.2.2.1, .inl h.ob.2.2.2.2.2⟩, cap := h.cap, lt := fun k hk => ?_ }
  · have e : schC { L with qs := L.qs.set i q' } (s.modT i f) = schC L s := by unfold schC; simp [SS.modT]
    rw [e]; exact two h.S (fun k hk => (hqb k hk).1) d3
  · have hz : (L.qs.zip s.ts)[i]? = some (q, s.trn i) := by rw [List.getElem?_zip_eq_some]; exact ⟨hqi, trn_some hi⟩
    have e : ((L.qs.set i q').zip (s.modT i f).ts) = (L.qs.zip s.ts).set i (q', f (s.trn i)) := by
      show (L.qs.set i q').zip (s.ts.modify i f) = _
      rw [modify_set _ _ _ _ (trn_some hi), zip_set]
    show Blk _ L.bt 99 (((L.qs.set i q').zip (s.modT i f).ts).flatMap trnC)
    rw [e, flat_set trnC 3 (fun _ => rfl) 0 (by decide) (q, s.trn i) (q', f (s.trn i)) q' (by rw [hf]; rfl) _ i hz]
    exact ((h.T.mut hm1 (fun hk => (hqb _ hk).2.2.2.1 rfl))).set _ _
  · show Kd.R (Kd.int .i64) 3 _ 0 (fun k => (own k ∨ q'.ownBlock = some k) ∧ k ≠ L.bh) r ((s.modT i f).trn k).q
    rw [modT_trn f hi]
    have hr2 : (L.qs.set i q')[k]? = some r := hr
    by_cases e : i = k
    · subst e
      rw [List.getElem?_set_self hlq] at hr2
      injection hr2 with hr2
      subst hr2
      rw [if_pos rfl, hf]
      refine R_ok (R_mut hR hm2 (fun n hn e => ?_)) (fun n hn => ⟨.inr hn, fun e => ?_⟩)
      · simp only at e
        subst e
        rcases hat _ hn with h1 | h1
        · exact (hqb _ h1).2.2.2.1 rfl
        · have := h.T.lt; omega
      · subst e
        rcases hat _ hn with h1 | h1
        · exact (hqb _ h1).2.2.2.2.2.1 rfl
        · have := h.Hm.lt; omega
    · rw [List.getElem?_set_ne e] at hr2
      rw [if_neg e]
      have hk := h.Q k r hr2
      exact R_ok (R_mut (R_mut hk hm1 (fun n hn hs => h.qd i k q r n e hqi hr2 hs hn)) hm2 (fun n hn e2 => (h.qne hr2 hn).2.2.2.1 (by simpa using e2))) (fun n hn => ⟨.inl (hk.1 n hn).1, (hk.1 n hn).2⟩)
  · have ha2 : (L.qs.set i q')[a]? = some r := ha
    have hb2 : (L.qs.set i q')[b]? = some t := hb
    by_cases e1 : i = a
    · subst e1
      rw [List.getElem?_set_self hlq] at ha2
      injection ha2 with ha2
      subst ha2
      rw [List.getElem?_set_ne hab] at hb2
      rcases hat _ hk with h1 | h1
      · exact h.qd i b q t k hab hqi hb2 h1
      · intro h2
        have := Kd.R_lt (h.Q b t hb2) k h2
        omega
    · rw [List.getElem?_set_ne e1] at ha2
      by_cases e2 : i = b
      · subst e2
        rw [List.getElem?_set_self hlq] at hb2
        injection hb2 with hb2
        subst hb2
        intro h2
        rcases hat _ h2 with h1 | h1
        · exact h.qd i a q r k (fun e => hab e.symm) hqi ha2 h1 hk
        · have := Kd.R_lt (h.Q a r ha2) k hk
          omega
      · rw [List.getElem?_set_ne e2] at hb2
        exact h.qd a b r t k hab ha2 hb2 hk
  · rcases hk with hk | hk
    · exact Nat.lt_of_lt_of_le (h.lt k hk) (Nat.le_trans hm1.size hm2.size)
    · exact Nat.lt_of_lt_of_le (Kd.R_lt hR k hk) hm2.size
end
end Go.Proofs.Ytdaadmjppikebaa.SC

/- Leaving a hart's queue; what a call leaves of the scheduler. -/
namespace Go.Proofs.Ytdaadmjppikebaa.SC
open Go.RowKit Go.Proofs.YtdaadmjppikebaaW.PrintWords
set_option linter.unusedVariables false
set_option linter.unusedSimpArgs false

/-- Behind a call: the state s', its blocks the elder ones and new ones; of what there was, only own blocks are turned. -/
def Post (W : World) (own : Nat → Prop) (L : Lay) (s' : SS) (w' : World) : Prop := ∃ (own' : Nat → Prop) (qs' : List Value), SR w' own' { L with qs := qs' } s' ∧ Mut own W w' ∧ (∀ k, own k → own' k) ∧ ∀ k, own' k → own k ∨ W.heap.size ≤ k
section
variable {W W1 w' : World} {own own1 : Nat → Prop} {L : Lay} {s s' : SS}
theorem SR.wide (h : SR W own L s) {own2 : Nat → Prop} (hs : ∀ k, own k → own2 k) (hlt : ∀ k, own2 k → k < W.heap.size) : SR W own2 L s :=
  { S := h.S, G := h.G, E := h.E, T := h.T, C := h.C, Hm := h.Hm, ql := h.ql, Q := fun i q hq => Kd.R_mono (h.Q i q hq) (fun k hk => ⟨hs k hk.1, hk.2⟩), qd := h.qd, ob := ⟨hs _ h.ob.1, hs _ h.ob.2.1, hs _ h.ob.2.2.1, hs _ h.ob.2.2.2.1, hs _ h.ob.2.2.2.2.1, hs _ h.ob.2.2.2.2.2⟩, cap := h.cap, lt := hlt }
theorem Post.same (h : SR W own L s) (hb : Below W.heap.size W w') : Post W own L s w' := ⟨own, L.qs, h.below hb, Mut.of_below hb own, fun _ h => h, fun _ h => .inl h⟩
theorem Post.of {qs2 : List Value} (h : SR w' own1 { L with qs := qs2 } s') (hm : Mut own W w') (h1 : ∀ k, own k → own1 k) (h2 : ∀ k, own1 k → own k ∨ W.heap.size ≤ k) : Post W own L s' w' := ⟨own1, qs2, h, hm, h1, h2⟩
end
theorem modT_modT (s : SS) (i : Nat) (f g : ST → ST) : (s.modT i f).modT i g = s.modT i (fun t => g (f t)) := by
  unfold SS.modT
  congr 1
  apply List.ext_getElem?
  intro j
  simp only [List.getElem?_modify]
  by_cases e : i = j
  · subst e; simp [Function.comp_def]
  · simp [e]
theorem modT_congr {s : SS} {i : Nat} {f g : ST → ST} (hi : i < s.ts.length) (h : f (s.trn i) = g (s.trn i)) : s.modT i f = s.modT i g := by
  unfold SS.modT
  rw [modify_set _ _ _ _ (trn_some hi), modify_set _ _ _ _ (trn_some hi), h]
theorem cell_drewN {W : World} {a : Addr} {v : Value} (h : W.cell? a = some v) (n : Nat) : (W.drewN n).cell? a = some v := pw_cell_below (pw_below_drewN (Below.refl _ _) n) h
theorem RD.drewN {W : World} {rd : List Bool} {A : Option Addr} {c : Nat} (h : RD W rd A c) (n : Nat) : RD (W.drewN n) rd A c := h.below (pw_below_drewN (Below.refl _ _) n)
set_option maxRecDepth 100000 in
set_option maxHeartbeats 1600000 in
theorem leave_calls {W : World} {own : Nat → Prop} {L : Lay} {s : SS} (h : SR W own L s) (i : Nat) (hi : i < s.ts.length) (hl : (s.trn i).q.length ≤ 64) (e0 : Int) :
    Calls Try.prog 49 #[.pointer (some ⟨L.bt, i * 3, none⟩), .int .i64 e0] W fun x w' => x = .returned (.tuple #[]) ∧ ∃ q', SR w' own { L with qs := L.qs.set i q' } (s.modT i fun t => { t with q := t.q.filter fun x => x != e0 }) ∧ Mut own W w' := by
  have hmf := hmf
  obtain ⟨q, hq⟩ := h.qs i hi
  have hRq := h.Q i q hq
  obtain ⟨Aq, cq, rfl, hcq, _⟩ := Kd.R_reads hRq
  have HA := Aside0.mk (h.below (below_alloc (Below.refl _ _) (.cells #[.int .i64 e0] 3)))
  have HMA := Aside0.mk (below_alloc (Below.refl W.heap.size W) (.cells #[.int .i64 e0] 3))
  have c0 : (W.alloc (.cells #[.int .i64 e0] 3)).cell? ⟨L.bt, i * 3, none⟩ = some (.slice Aq (s.trn i).q.length cq) := HA.out.trn i 0 hi (by decide) hq rfl
  have hp : (W.alloc (.cells #[.int .i64 e0] 3)).cell? ⟨W.heap.size, 0, none⟩ = some (.int .i64 e0) := (blk_cell (blk_new _ _) 0).trans rfl
  have hown : ∀ k, (Value.slice Aq (s.trn i).q.length cq).ownBlock = some k → own k ∧ k < W.heap.size := fun k hk => ⟨(hRq.1 k hk).1, h.lt k (hRq.1 k hk).1⟩
  have HD := Aside0.mk (delete_calls (W := W.alloc (.cells #[.int .i64 e0] 3)) (ok := fun k => (Value.slice Aq (s.trn i).q.length cq).ownBlock = some k) (p := ⟨W.heap.size, 0, none⟩) (e0 := e0) (R_ok (HA.out.Q i _ hq) (fun _ hn => hn)) hp (fun hk => by have := (hown _ hk).2; simp at this) hl)
  have HQ := Aside0.mk hq
  have HO := Aside0.mk hown
  have HR := Aside0.mk h
  clear hp h hRq hown hq
  go_enter Try.func49, Try.ntmps49
  go_wp2_with (go_at_call 66; refine HD.out.mono ?_; rintro e w1 ⟨n, rfl, hn, hr1, hm1⟩; have HN := Aside0.mk hn; have HR1 := Aside0.mk hr1; have HM1 := Aside0.mk hm1; have hT1 := HA.out.T.mut HM1.out (fun hk => (HA.out.qne HQ.out hk).2.2.2.1 rfl); have f1 := hT1.frozen (i * 3); have c1 : w1.cell? ⟨L.bt, i * 3, none⟩ = some (.slice Aq (s.trn i).q.length cq) := hT1.cell (i := i * 3) ((flat_get trnC 3 (fun _ => rfl) (L.qs.zip s.ts) i 0 (by decide) (.slice Aq (s.trn i).q.length cq, s.trn i) (by rw [List.getElem?_zip_eq_some]; exact ⟨HQ.out, trn_some hi⟩)).trans rfl); clear hT1 hn hr1 hm1)
  go_end0
  refine ⟨rfl, .slice Aq n cq, ?_, ?_⟩
  · have hob : (Value.slice Aq n cq).ownBlock = (Value.slice Aq (s.trn i).q.length cq).ownBlock := by cases Aq <;> rfl
    refine (HA.out.putQ i hi _ (.slice Aq n cq) HQ.out HM1.out _ (fun t => { t with q := t.q.filter fun x => x != e0 }) rfl (Kd.R_mono HR1.out (fun _ _ => trivial)) (fun k hk => .inl (by rw [← hob]; exact hk))).wide (fun k hk => hk.elim id (fun h => (HO.out k (by rw [← hob]; exact h)).1)) (fun k hk => ?_)
    exact Nat.lt_of_lt_of_le (HA.out.lt k hk) (Nat.le_trans HM1.out.size (set_mut w1 _ _).size)
  · exact (((Mut.of_below HMA.out own).trans HM1.out (fun k hk => .inl (HO.out k hk).1)).setCell (.inl HR.out.ob.2.2.2.1) _)
end Go.Proofs.Ytdaadmjppikebaa.SC

/- By credit. -/
namespace Go.Proofs.Ytdaadmjppikebaa.SC
open Go.RowKit Go.Proofs.YtdaadmjppikebaaW.PrintWords
set_option linter.unusedVariables false
set_option linter.unusedSimpArgs false

theorem ready_int {W : World} {own : Nat → Prop} {L : Lay} {s : SS} {rd : List Bool} {A : Option Addr} {c : Nat} (h : SR W own L s) (hr : RD W rd A c) (e : Int) (he : 0 ≤ e ∧ e < s.es.length) {b : Bool} (hb : readyF s rd e = b) :
    Calls Try.prog 58 #[.pointer (some ⟨L.b, 0, none⟩), .int .i64 e, .slice A rd.length c] W fun x w' => x = .returned (.bool b) ∧ W = w' := by
  obtain ⟨k, rfl⟩ := Int.eq_ofNat_of_zero_le he.1
  exact ready_is h hr k (by omega) hb
/-- The filter of a queue without one of its own, and that one behind. -/
theorem back_len {s : SS} (hw : Wf s) {i : Nat} (hi : i < s.ts.length) (hc : 0 ≤ (s.trn i).cu) : (backF (s.trn i)).q.length ≤ 64 := by
  obtain ⟨_, h2, _, _, _, _, _, h8⟩ := hw.tq i hi
  have hm := h8 hc
  have : ∀ (l : List Int) (x : Int), x ∈ l → (l.filter fun y => y != x).length + 1 ≤ l.length := by
    intro l x
    induction l with
    | nil => intro h; cases h
    | cons y r ih =>
      intro h
      by_cases e : y = x
      · subst e
        simp only [List.filter_cons, bne_self_eq_false, List.length_cons]
        have := List.length_filter_le (fun z => z != y) r
        simp; omega
      · have hx : x ∈ r := by rcases List.mem_cons.1 h with h | h; exact absurd h.symm e; exact h
        have := ih hx
        have hb : (y != x) = true := by simpa using e
        simp only [List.filter_cons, hb, if_true, List.length_cons]; omega
  have := this _ _ hm
  unfold backF
  simp only [List.length_append, List.length_singleton]
  omega
theorem RD.mut {W W' : World} {S : Nat → Prop} {rd : List Bool} {A : Option Addr} {c : Nat} (h : RD W rd A c) (hm : Mut S W W') (hn : ∀ ad, A = some ad → ¬ S ad.block) : RD W' rd A c := by
  refine ⟨⟨h.r.1, h.r.2.1, fun hp => ?_⟩, h.c⟩
  obtain ⟨ad, e, hc⟩ := h.r.2.2 hp
  refine ⟨ad, e, fun j p hj => ?_⟩
  obtain ⟨cs, h1, h2, h3⟩ := hc j p hj
  exact ⟨cs, h1, h2, fun i u hi => cell_kept (h3 i u hi) hm.kept (by rw [add_block]; exact hn ad e)⟩
theorem below_mut0 {w w1 : World} {row : Option Nat} (hg : w.grownBy w1 row) : Mut (fun k => row = some k) w w1 := ⟨hg.os, hg.tape, hg.output, hg.size, fun i hi hn => hg.block i hi (fun e => hn e.symm)⟩
theorem backF_eq {s : SS} {i : Nat} (hi : i < s.ts.length) : (((s.modT i fun t => { t with q := t.q.filter fun x => x != (s.trn i).cu }).modT i fun t => { t with q := t.q ++ [(s.trn i).cu] }).modT i fun t => { t with cu := -1 }) = s.modT i backF := by
  rw [modT_modT, modT_modT]
  exact modT_congr hi rfl
theorem findQ_range {s : SS} {rd : List Bool} {sm : Bool} : ∀ (l : List Int), (∀ e ∈ l, 0 ≤ e ∧ e < s.es.length) → findQ s rd sm l = -1 ∨ findQ s rd sm l ∈ l := by
  intro l
  induction l with
  | nil => intro _; exact .inl rfl
  | cons e r ih =>
    intro h
    simp only [findQ]
    split
    · exact .inr (List.mem_cons_self)
    · rcases ih (fun x hx => h x (List.mem_cons_of_mem _ hx)) with h1 | h1
      · exact .inl h1
      · exact .inr (List.mem_cons_of_mem _ h1)
end Go.Proofs.Ytdaadmjppikebaa.SC
