/- Several texts in one. -/
import Derived.Test.YtjapahcbhjjeiaaGreatDoorL1
import Derived.Test.YtjapahcbhjjeiaaGreatDoorRX
import Derived.Test.YtjapahcbhjjeiaaGreatDoorG10
import Derived.Test.YtjapahcbhjjeiaaGreatDoorF2
import Derived.Test.YtjapahcbhjjeiaaGreatDoorG11
import Derived.LoopTactic
/- The document's Decode, walked: what it asks for. -/
namespace Go.Proofs.YtjapahcbhjjeiaaGreatDoor.AS
open Go.RowKit Go.Proofs.YtjapahcbhjjeiaaGreatDoorW.PrintWords Go.Proofs.YtjapahcbhjjeiaaGreatDoorW.PrintLast Go.Proofs.YtjapahcbhjjeiaaGreatDoorW.PrintMore Go.Proofs.YtjapahcbhjjeiaaGreatDoor.PA
set_option linter.unusedVariables false
set_option linter.unusedSimpArgs false
set_option maxRecDepth 100000
set_option maxHeartbeats 8000000

abbrev RN (f : Nat) (xs : Array Value) (v : Int) : Prop := ∀ W, Calls Tryz.prog f xs W fun e w' => e = .returned (.int .i64 v) ∧ ∃ m, w' = W.drewN m
structure DB (w rd rs1 rs2 sh u j i b s f3 f7 op tp : Int) : Prop where
  f3 : RN 79 #[.int .u32 w, .int .i64 14, .int .i64 12] f3
  f7 : RN 79 #[.int .u32 w, .int .i64 31, .int .i64 25] f7
  rd : RN 79 #[.int .u32 w, .int .i64 11, .int .i64 7] rd
  rs1 : RN 79 #[.int .u32 w, .int .i64 19, .int .i64 15] rs1
  rs2 : RN 79 #[.int .u32 w, .int .i64 24, .int .i64 20] rs2
  op : RN 79 #[.int .u32 w, .int .i64 6, .int .i64 0] op
  tp : RN 79 #[.int .u32 w, .int .i64 31, .int .i64 26] tp
  sh : RN 79 #[.int .u32 w, .int .i64 25, .int .i64 20] sh
  u : RN 80 #[.int .u32 w] u
  j : RN 81 #[.int .u32 w] j
  i : RN 82 #[.int .u32 w] i
  b : RN 83 #[.int .u32 w] b
  s : RN 84 #[.int .u32 w] s

end Go.Proofs.YtjapahcbhjjeiaaGreatDoor.AS

/- The document's Decode, walked: ways A. -/
namespace Go.Proofs.YtjapahcbhjjeiaaGreatDoor.AS
open Go.RowKit Go.Proofs.YtjapahcbhjjeiaaGreatDoorW.PrintWords Go.Proofs.YtjapahcbhjjeiaaGreatDoorW.PrintLast Go.Proofs.YtjapahcbhjjeiaaGreatDoorW.PrintMore Go.Proofs.YtjapahcbhjjeiaaGreatDoor.PA
set_option linter.unusedVariables false
set_option linter.unusedSimpArgs false
set_option maxRecDepth 100000
set_option maxHeartbeats 8000000

inductive WayA (rd rs1 rs2 sh u j i b s : Int) : (f3 f7 op tp : Int) → Ins → Bool → Prop
  | lui {f3 : Int} {f7 : Int} {tp : Int} : WayA rd rs1 rs2 sh u j i b s f3 f7 55 tp ⟨1, 0, rd, 0, 0, u, 0, false⟩ true
  | auipc {f3 : Int} {f7 : Int} {tp : Int} : WayA rd rs1 rs2 sh u j i b s f3 f7 23 tp ⟨2, 0, rd, 0, 0, u, 0, false⟩ true
  | jal {f3 : Int} {f7 : Int} {tp : Int} : WayA rd rs1 rs2 sh u j i b s f3 f7 111 tp ⟨3, 0, rd, 0, 0, j, 0, false⟩ true
  | jalr {f3 : Int} {f7 : Int} {tp : Int} (h3 : (f3 == 0) = true) : WayA rd rs1 rs2 sh u j i b s f3 f7 103 tp ⟨4, 0, rd, rs1, 0, i, 0, false⟩ true
  | jalrn {f3 : Int} {f7 : Int} {tp : Int} (h3 : (f3 == 0) = false) : WayA rd rs1 rs2 sh u j i b s f3 f7 103 tp ⟨0, 0, 0, 0, 0, 0, 0, false⟩ false
  | br {f3 : Int} {f7 : Int} {tp : Int} (h3 : (pickL [1, 2, 0, 0, 3, 4, 5, 6] f3 == 0) = false) : WayA rd rs1 rs2 sh u j i b s f3 f7 99 tp ⟨5, pickL [1, 2, 0, 0, 3, 4, 5, 6] f3, 0, rs1, rs2, b, 0, false⟩ true
  | brn {f3 : Int} {f7 : Int} {tp : Int} (h3 : (pickL [1, 2, 0, 0, 3, 4, 5, 6] f3 == 0) = true) : WayA rd rs1 rs2 sh u j i b s f3 f7 99 tp ⟨0, 0, 0, 0, 0, 0, 0, false⟩ false
  | ld {f3 : Int} {f7 : Int} {tp : Int} (h3 : (pickL [1, 2, 4, 8, 1, 2, 4] f3 == 0) = false) : WayA rd rs1 rs2 sh u j i b s f3 f7 3 tp ⟨6, 0, rd, rs1, 0, i, pickL [1, 2, 4, 8, 1, 2, 4] f3, decide (f3 < 4)⟩ true
  | ldn {f3 : Int} {f7 : Int} {tp : Int} (h3 : (pickL [1, 2, 4, 8, 1, 2, 4] f3 == 0) = true) : WayA rd rs1 rs2 sh u j i b s f3 f7 3 tp ⟨0, 0, 0, 0, 0, 0, 0, false⟩ false
  | st {f3 : Int} {f7 : Int} {tp : Int} (h3 : (pickL [1, 2, 4, 8] f3 == 0) = false) : WayA rd rs1 rs2 sh u j i b s f3 f7 35 tp ⟨7, 0, 0, rs1, rs2, s, pickL [1, 2, 4, 8] f3, false⟩ true
  | stn {f3 : Int} {f7 : Int} {tp : Int} (h3 : (pickL [1, 2, 4, 8] f3 == 0) = true) : WayA rd rs1 rs2 sh u j i b s f3 f7 35 tp ⟨0, 0, 0, 0, 0, 0, 0, false⟩ false
  | fe {f3 : Int} {f7 : Int} {tp : Int} (h3 : f3 < 2) : WayA rd rs1 rs2 sh u j i b s f3 f7 15 tp ⟨10, 0, 0, 0, 0, 0, 0, false⟩ true
  | fen {f3 : Int} {f7 : Int} {tp : Int} (h3 : ¬ f3 < 2) : WayA rd rs1 rs2 sh u j i b s f3 f7 15 tp ⟨0, 0, 0, 0, 0, 0, 0, false⟩ false
  | n {f3 : Int} {f7 : Int} {op : Int} {tp : Int} (n55 : (op == 55) = false) (n23 : (op == 23) = false) (n111 : (op == 111) = false) (n103 : (op == 103) = false) (n99 : (op == 99) = false) (n3 : (op == 3) = false) (n35 : (op == 35) = false) (n19 : (op == 19) = false) (n27 : (op == 27) = false) (n51 : (op == 51) = false) (n59 : (op == 59) = false) (n15 : (op == 15) = false) (n115 : (op == 115) = false) (n47 : (op == 47) = false) : WayA rd rs1 rs2 sh u j i b s f3 f7 op tp ⟨0, 0, 0, 0, 0, 0, 0, false⟩ false
theorem rdec_A {w rd rs1 rs2 sh u j i b s f3 f7 op tp : Int} {r : Ins} {ok : Bool} (W : World) (hD : DB w rd rs1 rs2 sh u j i b s f3 f7 op tp) (h : WayA rd rs1 rs2 sh u j i b s f3 f7 op tp r ok) :
    Calls Tryz.prog 52 #[.int .u32 w] W fun e w' => e = .returned (.tuple #[insV r, .bool ok]) ∧ Below W.heap.size W w' := by
  have HB := Aside0.mk (Below.refl W.heap.size W)
  have hu23 := Tryz.underlying23
  cases h
  all_goals
    go_enter Tryz.func52, Tryz.ntmps52
    go_wp2_with (first | ((with_reducible refine gate_dst (N := 2) rfl ?_); refine box_event (by rfl) (N := 2) (by rfl) (cs := #[.int .i64 0, .int .i64 0, .int .i64 0, .int .i64 0, .int .i64 0, .int .i64 0, .int .i64 0, .bool false]) (t := 23) (by first | (go_simp; done) | (go_simp; rfl)) ?_; intro gR hg w2 hbox hb; have HR := Aside0.mk hbox; have HB2 := Aside0.mk (below_step HB.out hb); have HLR := Aside0.mk (show W.heap.size ≤ gR by rw [hg]; exact below_size (by repeat (first | (with_reducible first | exact HB.out | apply below_alloc | apply pw_below_drewN | apply below_drew1) | exact HB.out))); clear HB; have HB := HB2; clear HB2 hbox hb hg) | ((with_reducible refine gate_dst (N := 9) rfl ?_); refine box_event (by rfl) (N := 9) (by rfl) (cs := #[.int .i64 0, .int .i64 0, .int .i64 0, .int .i64 0, .int .i64 0, .int .i64 0, .int .i64 0, .bool false]) (t := 23) (by first | (go_simp; done) | (go_simp; rfl)) ?_; intro gS hg w9 hbox hb; have HS := Aside0.mk hbox; have HR2 := Aside0.mk (blk_below (by exact HR.out) hb); have HN := Aside0.mk (show gR ≠ gS by rw [hg]; exact Nat.ne_of_lt (blk_lt (by exact HR.out))); have HLS := Aside0.mk (show W.heap.size ≤ gS by rw [hg]; exact below_size (by repeat (first | (with_reducible first | exact HB.out | apply below_alloc | apply pw_below_drewN | apply below_drew1) | exact HB.out))); have HB2 := Aside0.mk (below_step (by repeat (first | (with_reducible first | exact HB.out | apply below_alloc | apply pw_below_drewN | apply below_drew1) | exact HB.out)) hb); clear HB HR; have HB := HB2; have HR := HR2; clear HB2 HR2 hbox hb hg; obtain ⟨y0, y1, y2, y3, y4, y5, y6, y7, yf0, yf1, yf2, yf3, yf4, yf5, yf6, yf7⟩ := cells8 HS.out) | ((with_reducible refine gate_any rfl ?_); refine setR rfl rfl HS.out rfl rfl (by kernel_rfl) rfl rfl ?_; intro w7 hbox hfar hbel; have HS2 := Aside0.mk hbox; have HR2 := Aside0.mk (far_blk hfar HN.out HR.out); have HB2 := Aside0.mk (hbel _ _ (by repeat (first | (with_reducible first | exact HB.out | apply below_alloc | apply pw_below_drewN | apply below_drew1) | exact HB.out)) HLS.out); clear hbox hfar hbel HS HR HB y0 y1 y2 y3 y4 y5 y6 y7 yf0 yf1 yf2 yf3 yf4 yf5 yf6 yf7; have HS := HS2; have HR := HR2; have HB := HB2; clear HS2 HR2 HB2; obtain ⟨y0, y1, y2, y3, y4, y5, y6, y7, yf0, yf1, yf2, yf3, yf4, yf5, yf6, yf7⟩ := cells8 HS.out) | (go_at_call 79; (first | (with_reducible refine (hD.f3 _).mono ?_) | (with_reducible refine (hD.f7 _).mono ?_) | (with_reducible refine (hD.rd _).mono ?_) | (with_reducible refine (hD.rs1 _).mono ?_) | (with_reducible refine (hD.rs2 _).mono ?_) | (with_reducible refine (hD.op _).mono ?_) | (with_reducible refine (hD.tp _).mono ?_) | (with_reducible refine (hD.sh _).mono ?_)); rintro e w' ⟨rfl, ⟨nd, rfl⟩⟩) | ((with_reducible refine gate_any rfl ?_); refine setF rfl rfl HS.out rfl (by first | (go_simp; done) | (go_simp; rfl)) (by simp) (by kernel_rfl) rfl rfl ?_; intro w7 hbox hfar hbel; simp only [putS] at hbox; have HS2 := Aside0.mk hbox; have HR2 := Aside0.mk (far_blk hfar HN.out HR.out); have HB2 := Aside0.mk (hbel _ _ (by repeat (first | (with_reducible first | exact HB.out | apply below_alloc | apply pw_below_drewN | apply below_drew1) | exact HB.out)) HLS.out); clear hbox hfar hbel HS HR HB y0 y1 y2 y3 y4 y5 y6 y7 yf0 yf1 yf2 yf3 yf4 yf5 yf6 yf7; have HS := HS2; have HR := HR2; have HB := HB2; clear HS2 HR2 HB2; obtain ⟨y0, y1, y2, y3, y4, y5, y6, y7, yf0, yf1, yf2, yf3, yf4, yf5, yf6, yf7⟩ := cells8 HS.out) | (go_at_call 77; (with_reducible first | refine litg1 (o := (.cells #[.int .i64 1, .int .i64 2, .int .i64 0, .int .i64 0, .int .i64 3, .int .i64 4, .int .i64 5, .int .i64 6] 3)) ?_ | refine litg2 (o := (.cells #[.int .i64 1, .int .i64 2, .int .i64 0, .int .i64 0, .int .i64 3, .int .i64 4, .int .i64 5, .int .i64 6] 3)) ?_); refine (rpick_at [1, 2, 0, 0, 3, 4, 5, 6] _ (by repeat (first | exact lit_C _ _ (by decide) | apply Kd.C_drewN | apply Kd.C_drew)) rfl (by decide)).mono ?_; rintro e w' ⟨rfl, ⟨nd, rfl⟩⟩; have HR2 := Aside0.mk (blk_alloc HR.out (.cells #[.int .i64 1, .int .i64 2, .int .i64 0, .int .i64 0, .int .i64 3, .int .i64 4, .int .i64 5, .int .i64 6] 3)); have HS2 := Aside0.mk (blk_alloc HS.out (.cells #[.int .i64 1, .int .i64 2, .int .i64 0, .int .i64 0, .int .i64 3, .int .i64 4, .int .i64 5, .int .i64 6] 3)); clear HR HS y0 y1 y2 y3 y4 y5 y6 y7 yf0 yf1 yf2 yf3 yf4 yf5 yf6 yf7; have HR := HR2; have HS := HS2; clear HR2 HS2; obtain ⟨y0, y1, y2, y3, y4, y5, y6, y7, yf0, yf1, yf2, yf3, yf4, yf5, yf6, yf7⟩ := cells8 HS.out) | (go_at_call 77; (with_reducible first | refine litg1 (o := (.cells #[.int .i64 1, .int .i64 2, .int .i64 4, .int .i64 8, .int .i64 1, .int .i64 2, .int .i64 4] 3)) ?_ | refine litg2 (o := (.cells #[.int .i64 1, .int .i64 2, .int .i64 4, .int .i64 8, .int .i64 1, .int .i64 2, .int .i64 4] 3)) ?_); refine (rpick_at [1, 2, 4, 8, 1, 2, 4] _ (by repeat (first | exact lit_C _ _ (by decide) | apply Kd.C_drewN | apply Kd.C_drew)) rfl (by decide)).mono ?_; rintro e w' ⟨rfl, ⟨nd, rfl⟩⟩; have HR2 := Aside0.mk (blk_alloc HR.out (.cells #[.int .i64 1, .int .i64 2, .int .i64 4, .int .i64 8, .int .i64 1, .int .i64 2, .int .i64 4] 3)); have HS2 := Aside0.mk (blk_alloc HS.out (.cells #[.int .i64 1, .int .i64 2, .int .i64 4, .int .i64 8, .int .i64 1, .int .i64 2, .int .i64 4] 3)); clear HR HS y0 y1 y2 y3 y4 y5 y6 y7 yf0 yf1 yf2 yf3 yf4 yf5 yf6 yf7; have HR := HR2; have HS := HS2; clear HR2 HS2; obtain ⟨y0, y1, y2, y3, y4, y5, y6, y7, yf0, yf1, yf2, yf3, yf4, yf5, yf6, yf7⟩ := cells8 HS.out) | (go_at_call 77; (with_reducible first | refine litg1 (o := (.cells #[.int .i64 1, .int .i64 2, .int .i64 4, .int .i64 8] 3)) ?_ | refine litg2 (o := (.cells #[.int .i64 1, .int .i64 2, .int .i64 4, .int .i64 8] 3)) ?_); refine (rpick_at [1, 2, 4, 8] _ (by repeat (first | exact lit_C _ _ (by decide) | apply Kd.C_drewN | apply Kd.C_drew)) rfl (by decide)).mono ?_; rintro e w' ⟨rfl, ⟨nd, rfl⟩⟩; have HR2 := Aside0.mk (blk_alloc HR.out (.cells #[.int .i64 1, .int .i64 2, .int .i64 4, .int .i64 8] 3)); have HS2 := Aside0.mk (blk_alloc HS.out (.cells #[.int .i64 1, .int .i64 2, .int .i64 4, .int .i64 8] 3)); clear HR HS y0 y1 y2 y3 y4 y5 y6 y7 yf0 yf1 yf2 yf3 yf4 yf5 yf6 yf7; have HR := HR2; have HS := HS2; clear HR2 HS2; obtain ⟨y0, y1, y2, y3, y4, y5, y6, y7, yf0, yf1, yf2, yf3, yf4, yf5, yf6, yf7⟩ := cells8 HS.out) | (go_at_call 80; (with_reducible refine (hD.u _).mono ?_); rintro e w' ⟨rfl, ⟨nd, rfl⟩⟩) | (go_at_call 81; (with_reducible refine (hD.j _).mono ?_); rintro e w' ⟨rfl, ⟨nd, rfl⟩⟩) | (go_at_call 82; (with_reducible refine (hD.i _).mono ?_); rintro e w' ⟨rfl, ⟨nd, rfl⟩⟩) | (go_at_call 83; (with_reducible refine (hD.b _).mono ?_); rintro e w' ⟨rfl, ⟨nd, rfl⟩⟩) | (go_at_call 84; (with_reducible refine (hD.s _).mono ?_); rintro e w' ⟨rfl, ⟨nd, rfl⟩⟩) | ((with_reducible refine gate_any rfl ?_); refine setR rfl rfl HR.out rfl rfl (by kernel_rfl) rfl rfl ?_; intro w8 hbox hfar hbel; have HR2 := Aside0.mk hbox; have HS2 := Aside0.mk (far_blk hfar (fun e => HN.out e.symm) HS.out); have HB2 := Aside0.mk (hbel _ _ (by repeat (first | (with_reducible first | exact HB.out | apply below_alloc | apply pw_below_drewN | apply below_drew1) | exact HB.out)) HLR.out); clear hbox hfar hbel HS HR HB y0 y1 y2 y3 y4 y5 y6 y7 yf0 yf1 yf2 yf3 yf4 yf5 yf6 yf7; have HS := HS2; have HR := HR2; have HB := HB2; clear HS2 HR2 HB2; obtain ⟨y0, y1, y2, y3, y4, y5, y6, y7, yf0, yf1, yf2, yf3, yf4, yf5, yf6, yf7⟩ := cells8 HS.out) | fail)
    refine bodyPost_ret (results_ct rfl _ _ gR 23 _ (0, 0) _ rfl HR.out Tryz.underlying23 rfl (by kernel_rfl)) rfl ?_
    exact ⟨rfl, (by repeat (first | (with_reducible first | exact HB.out | apply below_alloc | apply pw_below_drewN | apply below_drew1) | exact HB.out))⟩


end Go.Proofs.YtjapahcbhjjeiaaGreatDoor.AS

/- The document's Decode, walked: ways B. -/
namespace Go.Proofs.YtjapahcbhjjeiaaGreatDoor.AS
open Go.RowKit Go.Proofs.YtjapahcbhjjeiaaGreatDoorW.PrintWords Go.Proofs.YtjapahcbhjjeiaaGreatDoorW.PrintLast Go.Proofs.YtjapahcbhjjeiaaGreatDoorW.PrintMore Go.Proofs.YtjapahcbhjjeiaaGreatDoor.PA
set_option linter.unusedVariables false
set_option linter.unusedSimpArgs false
set_option maxRecDepth 100000
set_option maxHeartbeats 8000000

inductive WayB (rd rs1 rs2 sh u j i b s : Int) : (f3 f7 op tp : Int) → Ins → Bool → Prop
  | im {f3 : Int} {f7 : Int} {tp : Int} (h1 : (f3 == 1) = false) (h5 : (f3 == 5) = false) (h3 : (pickL [1, 0, 4, 5, 6, 0, 9, 10] f3 == 0) = false) : WayB rd rs1 rs2 sh u j i b s f3 f7 19 tp ⟨9, pickL [1, 0, 4, 5, 6, 0, 9, 10] f3, rd, rs1, 0, i, 0, false⟩ true
  | im1 {f7 : Int} : WayB rd rs1 rs2 sh u j i b s 1 f7 19 0 ⟨9, 3, rd, rs1, 0, sh, 0, false⟩ true
  | im5 {f7 : Int} : WayB rd rs1 rs2 sh u j i b s 5 f7 19 0 ⟨9, 7, rd, rs1, 0, sh, 0, false⟩ true
  | im6 {f7 : Int} : WayB rd rs1 rs2 sh u j i b s 5 f7 19 16 ⟨9, 8, rd, rs1, 0, sh, 0, false⟩ true
  | im1n {f7 : Int} {tp : Int} (h7 : (tp == 0) = false) (h3 : (pickL [1, 0, 4, 5, 6, 0, 9, 10] 1 == 0) = true) : WayB rd rs1 rs2 sh u j i b s 1 f7 19 tp ⟨0, 0, 0, 0, 0, 0, 0, false⟩ false
  | im5n {f7 : Int} {tp : Int} (h7 : (tp == 0) = false) (h8 : (tp == 16) = false) (h3 : (pickL [1, 0, 4, 5, 6, 0, 9, 10] 5 == 0) = true) : WayB rd rs1 rs2 sh u j i b s 5 f7 19 tp ⟨0, 0, 0, 0, 0, 0, 0, false⟩ false
  | iw {f7 : Int} {tp : Int} : WayB rd rs1 rs2 sh u j i b s 0 f7 27 tp ⟨9, 19, rd, rs1, 0, i, 0, false⟩ true
  | iw1 {tp : Int} : WayB rd rs1 rs2 sh u j i b s 1 0 27 tp ⟨9, 21, rd, rs1, 0, rs2, 0, false⟩ true
  | iw5 {tp : Int} : WayB rd rs1 rs2 sh u j i b s 5 0 27 tp ⟨9, 22, rd, rs1, 0, rs2, 0, false⟩ true
  | iw6 {tp : Int} : WayB rd rs1 rs2 sh u j i b s 5 32 27 tp ⟨9, 23, rd, rs1, 0, rs2, 0, false⟩ true
  | iw1n {f7 : Int} {tp : Int} (h7 : (f7 == 0) = false) : WayB rd rs1 rs2 sh u j i b s 1 f7 27 tp ⟨0, 0, 0, 0, 0, 0, 0, false⟩ false
  | iw5n {f7 : Int} {tp : Int} (h7 : (f7 == 0) = false) (h8 : (f7 == 32) = false) : WayB rd rs1 rs2 sh u j i b s 5 f7 27 tp ⟨0, 0, 0, 0, 0, 0, 0, false⟩ false
  | iwn {f3 : Int} {f7 : Int} {tp : Int} (h0 : (f3 == 0) = false) (h1 : (f3 == 1) = false) (h5 : (f3 == 5) = false) : WayB rd rs1 rs2 sh u j i b s f3 f7 27 tp ⟨0, 0, 0, 0, 0, 0, 0, false⟩ false
theorem rdec_B {w rd rs1 rs2 sh u j i b s f3 f7 op tp : Int} {r : Ins} {ok : Bool} (W : World) (hD : DB w rd rs1 rs2 sh u j i b s f3 f7 op tp) (h : WayB rd rs1 rs2 sh u j i b s f3 f7 op tp r ok) :
    Calls Tryz.prog 52 #[.int .u32 w] W fun e w' => e = .returned (.tuple #[insV r, .bool ok]) ∧ Below W.heap.size W w' := by
  have HB := Aside0.mk (Below.refl W.heap.size W)
  have hu23 := Tryz.underlying23
  cases h
  all_goals
    go_enter Tryz.func52, Tryz.ntmps52
    go_wp2_with (first | ((with_reducible refine gate_dst (N := 2) rfl ?_); refine box_event (by rfl) (N := 2) (by rfl) (cs := #[.int .i64 0, .int .i64 0, .int .i64 0, .int .i64 0, .int .i64 0, .int .i64 0, .int .i64 0, .bool false]) (t := 23) (by first | (go_simp; done) | (go_simp; rfl)) ?_; intro gR hg w2 hbox hb; have HR := Aside0.mk hbox; have HB2 := Aside0.mk (below_step HB.out hb); have HLR := Aside0.mk (show W.heap.size ≤ gR by rw [hg]; exact below_size (by repeat (first | (with_reducible first | exact HB.out | apply below_alloc | apply pw_below_drewN | apply below_drew1) | exact HB.out))); clear HB; have HB := HB2; clear HB2 hbox hb hg) | ((with_reducible refine gate_dst (N := 9) rfl ?_); refine box_event (by rfl) (N := 9) (by rfl) (cs := #[.int .i64 0, .int .i64 0, .int .i64 0, .int .i64 0, .int .i64 0, .int .i64 0, .int .i64 0, .bool false]) (t := 23) (by first | (go_simp; done) | (go_simp; rfl)) ?_; intro gS hg w9 hbox hb; have HS := Aside0.mk hbox; have HR2 := Aside0.mk (blk_below (by exact HR.out) hb); have HN := Aside0.mk (show gR ≠ gS by rw [hg]; exact Nat.ne_of_lt (blk_lt (by exact HR.out))); have HLS := Aside0.mk (show W.heap.size ≤ gS by rw [hg]; exact below_size (by repeat (first | (with_reducible first | exact HB.out | apply below_alloc | apply pw_below_drewN | apply below_drew1) | exact HB.out))); have HB2 := Aside0.mk (below_step (by repeat (first | (with_reducible first | exact HB.out | apply below_alloc | apply pw_below_drewN | apply below_drew1) | exact HB.out)) hb); clear HB HR; have HB := HB2; have HR := HR2; clear HB2 HR2 hbox hb hg; obtain ⟨y0, y1, y2, y3, y4, y5, y6, y7, yf0, yf1, yf2, yf3, yf4, yf5, yf6, yf7⟩ := cells8 HS.out) | ((with_reducible refine gate_any rfl ?_); refine setR rfl rfl HS.out rfl rfl (by kernel_rfl) rfl rfl ?_; intro w7 hbox hfar hbel; have HS2 := Aside0.mk hbox; have HR2 := Aside0.mk (far_blk hfar HN.out HR.out); have HB2 := Aside0.mk (hbel _ _ (by repeat (first | (with_reducible first | exact HB.out | apply below_alloc | apply pw_below_drewN | apply below_drew1) | exact HB.out)) HLS.out); clear hbox hfar hbel HS HR HB y0 y1 y2 y3 y4 y5 y6 y7 yf0 yf1 yf2 yf3 yf4 yf5 yf6 yf7; have HS := HS2; have HR := HR2; have HB := HB2; clear HS2 HR2 HB2; obtain ⟨y0, y1, y2, y3, y4, y5, y6, y7, yf0, yf1, yf2, yf3, yf4, yf5, yf6, yf7⟩ := cells8 HS.out) | (go_at_call 79; (first | (with_reducible refine (hD.f3 _).mono ?_) | (with_reducible refine (hD.f7 _).mono ?_) | (with_reducible refine (hD.rd _).mono ?_) | (with_reducible refine (hD.rs1 _).mono ?_) | (with_reducible refine (hD.rs2 _).mono ?_) | (with_reducible refine (hD.op _).mono ?_) | (with_reducible refine (hD.tp _).mono ?_) | (with_reducible refine (hD.sh _).mono ?_)); rintro e w' ⟨rfl, ⟨nd, rfl⟩⟩) | ((with_reducible refine gate_any rfl ?_); refine setF rfl rfl HS.out rfl (by first | (go_simp; done) | (go_simp; rfl)) (by simp) (by kernel_rfl) rfl rfl ?_; intro w7 hbox hfar hbel; simp only [putS] at hbox; have HS2 := Aside0.mk hbox; have HR2 := Aside0.mk (far_blk hfar HN.out HR.out); have HB2 := Aside0.mk (hbel _ _ (by repeat (first | (with_reducible first | exact HB.out | apply below_alloc | apply pw_below_drewN | apply below_drew1) | exact HB.out)) HLS.out); clear hbox hfar hbel HS HR HB y0 y1 y2 y3 y4 y5 y6 y7 yf0 yf1 yf2 yf3 yf4 yf5 yf6 yf7; have HS := HS2; have HR := HR2; have HB := HB2; clear HS2 HR2 HB2; obtain ⟨y0, y1, y2, y3, y4, y5, y6, y7, yf0, yf1, yf2, yf3, yf4, yf5, yf6, yf7⟩ := cells8 HS.out) | (go_at_call 77; (with_reducible first | refine litg1 (o := (.cells #[.int .i64 1, .int .i64 0, .int .i64 4, .int .i64 5, .int .i64 6, .int .i64 0, .int .i64 9, .int .i64 10] 3)) ?_ | refine litg2 (o := (.cells #[.int .i64 1, .int .i64 0, .int .i64 4, .int .i64 5, .int .i64 6, .int .i64 0, .int .i64 9, .int .i64 10] 3)) ?_); refine (rpick_at [1, 0, 4, 5, 6, 0, 9, 10] _ (by repeat (first | exact lit_C _ _ (by decide) | apply Kd.C_drewN | apply Kd.C_drew)) rfl (by decide)).mono ?_; rintro e w' ⟨rfl, ⟨nd, rfl⟩⟩; have HR2 := Aside0.mk (blk_alloc HR.out (.cells #[.int .i64 1, .int .i64 0, .int .i64 4, .int .i64 5, .int .i64 6, .int .i64 0, .int .i64 9, .int .i64 10] 3)); have HS2 := Aside0.mk (blk_alloc HS.out (.cells #[.int .i64 1, .int .i64 0, .int .i64 4, .int .i64 5, .int .i64 6, .int .i64 0, .int .i64 9, .int .i64 10] 3)); clear HR HS y0 y1 y2 y3 y4 y5 y6 y7 yf0 yf1 yf2 yf3 yf4 yf5 yf6 yf7; have HR := HR2; have HS := HS2; clear HR2 HS2; obtain ⟨y0, y1, y2, y3, y4, y5, y6, y7, yf0, yf1, yf2, yf3, yf4, yf5, yf6, yf7⟩ := cells8 HS.out) | (go_at_call 80; (with_reducible refine (hD.u _).mono ?_); rintro e w' ⟨rfl, ⟨nd, rfl⟩⟩) | (go_at_call 81; (with_reducible refine (hD.j _).mono ?_); rintro e w' ⟨rfl, ⟨nd, rfl⟩⟩) | (go_at_call 82; (with_reducible refine (hD.i _).mono ?_); rintro e w' ⟨rfl, ⟨nd, rfl⟩⟩) | (go_at_call 83; (with_reducible refine (hD.b _).mono ?_); rintro e w' ⟨rfl, ⟨nd, rfl⟩⟩) | (go_at_call 84; (with_reducible refine (hD.s _).mono ?_); rintro e w' ⟨rfl, ⟨nd, rfl⟩⟩) | ((with_reducible refine gate_any rfl ?_); refine setR rfl rfl HR.out rfl rfl (by kernel_rfl) rfl rfl ?_; intro w8 hbox hfar hbel; have HR2 := Aside0.mk hbox; have HS2 := Aside0.mk (far_blk hfar (fun e => HN.out e.symm) HS.out); have HB2 := Aside0.mk (hbel _ _ (by repeat (first | (with_reducible first | exact HB.out | apply below_alloc | apply pw_below_drewN | apply below_drew1) | exact HB.out)) HLR.out); clear hbox hfar hbel HS HR HB y0 y1 y2 y3 y4 y5 y6 y7 yf0 yf1 yf2 yf3 yf4 yf5 yf6 yf7; have HS := HS2; have HR := HR2; have HB := HB2; clear HS2 HR2 HB2; obtain ⟨y0, y1, y2, y3, y4, y5, y6, y7, yf0, yf1, yf2, yf3, yf4, yf5, yf6, yf7⟩ := cells8 HS.out) | fail)
    refine bodyPost_ret (results_ct rfl _ _ gR 23 _ (0, 0) _ rfl HR.out Tryz.underlying23 rfl (by kernel_rfl)) rfl ?_
    exact ⟨rfl, (by repeat (first | (with_reducible first | exact HB.out | apply below_alloc | apply pw_below_drewN | apply below_drew1) | exact HB.out))⟩


end Go.Proofs.YtjapahcbhjjeiaaGreatDoor.AS

/- The document's Decode, walked: ways C. -/
namespace Go.Proofs.YtjapahcbhjjeiaaGreatDoor.AS
open Go.RowKit Go.Proofs.YtjapahcbhjjeiaaGreatDoorW.PrintWords Go.Proofs.YtjapahcbhjjeiaaGreatDoorW.PrintLast Go.Proofs.YtjapahcbhjjeiaaGreatDoorW.PrintMore Go.Proofs.YtjapahcbhjjeiaaGreatDoor.PA
set_option linter.unusedVariables false
set_option linter.unusedSimpArgs false
set_option maxRecDepth 100000
set_option maxHeartbeats 8000000

inductive WayC (rd rs1 rs2 sh u j i b s : Int) : (f3 f7 op tp : Int) → Ins → Bool → Prop
  | al0 {f3 : Int} {tp : Int} (h3 : (pickL [1, 3, 4, 5, 6, 7, 9, 10] f3 == 0) = false) : WayC rd rs1 rs2 sh u j i b s f3 0 51 tp ⟨8, pickL [1, 3, 4, 5, 6, 7, 9, 10] f3, rd, rs1, rs2, 0, 0, false⟩ true
  | al0n {f3 : Int} {tp : Int} (h3 : (pickL [1, 3, 4, 5, 6, 7, 9, 10] f3 == 0) = true) : WayC rd rs1 rs2 sh u j i b s f3 0 51 tp ⟨0, 0, 0, 0, 0, 0, 0, false⟩ false
  | al32 {f3 : Int} {tp : Int} (h3 : (pickL [2, 0, 0, 0, 0, 8, 0, 0] f3 == 0) = false) : WayC rd rs1 rs2 sh u j i b s f3 32 51 tp ⟨8, pickL [2, 0, 0, 0, 0, 8, 0, 0] f3, rd, rs1, rs2, 0, 0, false⟩ true
  | al32n {f3 : Int} {tp : Int} (h3 : (pickL [2, 0, 0, 0, 0, 8, 0, 0] f3 == 0) = true) : WayC rd rs1 rs2 sh u j i b s f3 32 51 tp ⟨0, 0, 0, 0, 0, 0, 0, false⟩ false
  | al1 {f3 : Int} {tp : Int} (h3 : (pickL [11, 12, 13, 14, 15, 16, 17, 18] f3 == 0) = false) : WayC rd rs1 rs2 sh u j i b s f3 1 51 tp ⟨8, pickL [11, 12, 13, 14, 15, 16, 17, 18] f3, rd, rs1, rs2, 0, 0, false⟩ true
  | al1n {f3 : Int} {tp : Int} (h3 : (pickL [11, 12, 13, 14, 15, 16, 17, 18] f3 == 0) = true) : WayC rd rs1 rs2 sh u j i b s f3 1 51 tp ⟨0, 0, 0, 0, 0, 0, 0, false⟩ false
  | aln {f3 : Int} {f7 : Int} {tp : Int} (h0 : (f7 == 0) = false) (h1 : (f7 == 32) = false) (h5 : (f7 == 1) = false) : WayC rd rs1 rs2 sh u j i b s f3 f7 51 tp ⟨0, 0, 0, 0, 0, 0, 0, false⟩ false
  | aw0 {f3 : Int} {tp : Int} (h3 : (pickL [19, 21, 0, 0, 0, 22, 0, 0] f3 == 0) = false) : WayC rd rs1 rs2 sh u j i b s f3 0 59 tp ⟨8, pickL [19, 21, 0, 0, 0, 22, 0, 0] f3, rd, rs1, rs2, 0, 0, false⟩ true
  | aw0n {f3 : Int} {tp : Int} (h3 : (pickL [19, 21, 0, 0, 0, 22, 0, 0] f3 == 0) = true) : WayC rd rs1 rs2 sh u j i b s f3 0 59 tp ⟨0, 0, 0, 0, 0, 0, 0, false⟩ false
  | aw32 {f3 : Int} {tp : Int} (h3 : (pickL [20, 0, 0, 0, 0, 23, 0, 0] f3 == 0) = false) : WayC rd rs1 rs2 sh u j i b s f3 32 59 tp ⟨8, pickL [20, 0, 0, 0, 0, 23, 0, 0] f3, rd, rs1, rs2, 0, 0, false⟩ true
  | aw32n {f3 : Int} {tp : Int} (h3 : (pickL [20, 0, 0, 0, 0, 23, 0, 0] f3 == 0) = true) : WayC rd rs1 rs2 sh u j i b s f3 32 59 tp ⟨0, 0, 0, 0, 0, 0, 0, false⟩ false
  | aw1 {f3 : Int} {tp : Int} (h3 : (pickL [24, 0, 0, 0, 25, 26, 27, 28] f3 == 0) = false) : WayC rd rs1 rs2 sh u j i b s f3 1 59 tp ⟨8, pickL [24, 0, 0, 0, 25, 26, 27, 28] f3, rd, rs1, rs2, 0, 0, false⟩ true
  | aw1n {f3 : Int} {tp : Int} (h3 : (pickL [24, 0, 0, 0, 25, 26, 27, 28] f3 == 0) = true) : WayC rd rs1 rs2 sh u j i b s f3 1 59 tp ⟨0, 0, 0, 0, 0, 0, 0, false⟩ false
  | awn {f3 : Int} {f7 : Int} {tp : Int} (h0 : (f7 == 0) = false) (h1 : (f7 == 32) = false) (h5 : (f7 == 1) = false) : WayC rd rs1 rs2 sh u j i b s f3 f7 59 tp ⟨0, 0, 0, 0, 0, 0, 0, false⟩ false
theorem rdec_C {w rd rs1 rs2 sh u j i b s f3 f7 op tp : Int} {r : Ins} {ok : Bool} (W : World) (hD : DB w rd rs1 rs2 sh u j i b s f3 f7 op tp) (h : WayC rd rs1 rs2 sh u j i b s f3 f7 op tp r ok) :
    Calls Tryz.prog 52 #[.int .u32 w] W fun e w' => e = .returned (.tuple #[insV r, .bool ok]) ∧ Below W.heap.size W w' := by
  have HB := Aside0.mk (Below.refl W.heap.size W)
  have hu23 := Tryz.underlying23
  cases h
  all_goals
    go_enter Tryz.func52, Tryz.ntmps52
    go_wp2_with (first | ((with_reducible refine gate_dst (N := 2) rfl ?_); refine box_event (by rfl) (N := 2) (by rfl) (cs := #[.int .i64 0, .int .i64 0, .int .i64 0, .int .i64 0, .int .i64 0, .int .i64 0, .int .i64 0, .bool false]) (t := 23) (by first | (go_simp; done) | (go_simp; rfl)) ?_; intro gR hg w2 hbox hb; have HR := Aside0.mk hbox; have HB2 := Aside0.mk (below_step HB.out hb); have HLR := Aside0.mk (show W.heap.size ≤ gR by rw [hg]; exact below_size (by repeat (first | (with_reducible first | exact HB.out | apply below_alloc | apply pw_below_drewN | apply below_drew1) | exact HB.out))); clear HB; have HB := HB2; clear HB2 hbox hb hg) | ((with_reducible refine gate_dst (N := 9) rfl ?_); refine box_event (by rfl) (N := 9) (by rfl) (cs := #[.int .i64 0, .int .i64 0, .int .i64 0, .int .i64 0, .int .i64 0, .int .i64 0, .int .i64 0, .bool false]) (t := 23) (by first | (go_simp; done) | (go_simp; rfl)) ?_; intro gS hg w9 hbox hb; have HS := Aside0.mk hbox; have HR2 := Aside0.mk (blk_below (by exact HR.out) hb); have HN := Aside0.mk (show gR ≠ gS by rw [hg]; exact Nat.ne_of_lt (blk_lt (by exact HR.out))); have HLS := Aside0.mk (show W.heap.size ≤ gS by rw [hg]; exact below_size (by repeat (first | (with_reducible first | exact HB.out | apply below_alloc | apply pw_below_drewN | apply below_drew1) | exact HB.out))); have HB2 := Aside0.mk (below_step (by repeat (first | (with_reducible first | exact HB.out | apply below_alloc | apply pw_below_drewN | apply below_drew1) | exact HB.out)) hb); clear HB HR; have HB := HB2; have HR := HR2; clear HB2 HR2 hbox hb hg; obtain ⟨y0, y1, y2, y3, y4, y5, y6, y7, yf0, yf1, yf2, yf3, yf4, yf5, yf6, yf7⟩ := cells8 HS.out) | ((with_reducible refine gate_any rfl ?_); refine setR rfl rfl HS.out rfl rfl (by kernel_rfl) rfl rfl ?_; intro w7 hbox hfar hbel; have HS2 := Aside0.mk hbox; have HR2 := Aside0.mk (far_blk hfar HN.out HR.out); have HB2 := Aside0.mk (hbel _ _ (by repeat (first | (with_reducible first | exact HB.out | apply below_alloc | apply pw_below_drewN | apply below_drew1) | exact HB.out)) HLS.out); clear hbox hfar hbel HS HR HB y0 y1 y2 y3 y4 y5 y6 y7 yf0 yf1 yf2 yf3 yf4 yf5 yf6 yf7; have HS := HS2; have HR := HR2; have HB := HB2; clear HS2 HR2 HB2; obtain ⟨y0, y1, y2, y3, y4, y5, y6, y7, yf0, yf1, yf2, yf3, yf4, yf5, yf6, yf7⟩ := cells8 HS.out) | (go_at_call 79; (first | (with_reducible refine (hD.f3 _).mono ?_) | (with_reducible refine (hD.f7 _).mono ?_) | (with_reducible refine (hD.rd _).mono ?_) | (with_reducible refine (hD.rs1 _).mono ?_) | (with_reducible refine (hD.rs2 _).mono ?_) | (with_reducible refine (hD.op _).mono ?_) | (with_reducible refine (hD.tp _).mono ?_) | (with_reducible refine (hD.sh _).mono ?_)); rintro e w' ⟨rfl, ⟨nd, rfl⟩⟩) | ((with_reducible refine gate_any rfl ?_); refine setF rfl rfl HS.out rfl (by first | (go_simp; done) | (go_simp; rfl)) (by simp) (by kernel_rfl) rfl rfl ?_; intro w7 hbox hfar hbel; simp only [putS] at hbox; have HS2 := Aside0.mk hbox; have HR2 := Aside0.mk (far_blk hfar HN.out HR.out); have HB2 := Aside0.mk (hbel _ _ (by repeat (first | (with_reducible first | exact HB.out | apply below_alloc | apply pw_below_drewN | apply below_drew1) | exact HB.out)) HLS.out); clear hbox hfar hbel HS HR HB y0 y1 y2 y3 y4 y5 y6 y7 yf0 yf1 yf2 yf3 yf4 yf5 yf6 yf7; have HS := HS2; have HR := HR2; have HB := HB2; clear HS2 HR2 HB2; obtain ⟨y0, y1, y2, y3, y4, y5, y6, y7, yf0, yf1, yf2, yf3, yf4, yf5, yf6, yf7⟩ := cells8 HS.out) | (go_at_call 77; (with_reducible first | refine litg1 (o := (.cells #[.int .i64 1, .int .i64 3, .int .i64 4, .int .i64 5, .int .i64 6, .int .i64 7, .int .i64 9, .int .i64 10] 3)) ?_ | refine litg2 (o := (.cells #[.int .i64 1, .int .i64 3, .int .i64 4, .int .i64 5, .int .i64 6, .int .i64 7, .int .i64 9, .int .i64 10] 3)) ?_); refine (rpick_at [1, 3, 4, 5, 6, 7, 9, 10] _ (by repeat (first | exact lit_C _ _ (by decide) | apply Kd.C_drewN | apply Kd.C_drew)) rfl (by decide)).mono ?_; rintro e w' ⟨rfl, ⟨nd, rfl⟩⟩; have HR2 := Aside0.mk (blk_alloc HR.out (.cells #[.int .i64 1, .int .i64 3, .int .i64 4, .int .i64 5, .int .i64 6, .int .i64 7, .int .i64 9, .int .i64 10] 3)); have HS2 := Aside0.mk (blk_alloc HS.out (.cells #[.int .i64 1, .int .i64 3, .int .i64 4, .int .i64 5, .int .i64 6, .int .i64 7, .int .i64 9, .int .i64 10] 3)); clear HR HS y0 y1 y2 y3 y4 y5 y6 y7 yf0 yf1 yf2 yf3 yf4 yf5 yf6 yf7; have HR := HR2; have HS := HS2; clear HR2 HS2; obtain ⟨y0, y1, y2, y3, y4, y5, y6, y7, yf0, yf1, yf2, yf3, yf4, yf5, yf6, yf7⟩ := cells8 HS.out) | (go_at_call 77; (with_reducible first | refine litg1 (o := (.cells #[.int .i64 2, .int .i64 0, .int .i64 0, .int .i64 0, .int .i64 0, .int .i64 8, .int .i64 0, .int .i64 0] 3)) ?_ | refine litg2 (o := (.cells #[.int .i64 2, .int .i64 0, .int .i64 0, .int .i64 0, .int .i64 0, .int .i64 8, .int .i64 0, .int .i64 0] 3)) ?_); refine (rpick_at [2, 0, 0, 0, 0, 8, 0, 0] _ (by repeat (first | exact lit_C _ _ (by decide) | apply Kd.C_drewN | apply Kd.C_drew)) rfl (by decide)).mono ?_; rintro e w' ⟨rfl, ⟨nd, rfl⟩⟩; have HR2 := Aside0.mk (blk_alloc HR.out (.cells #[.int .i64 2, .int .i64 0, .int .i64 0, .int .i64 0, .int .i64 0, .int .i64 8, .int .i64 0, .int .i64 0] 3)); have HS2 := Aside0.mk (blk_alloc HS.out (.cells #[.int .i64 2, .int .i64 0, .int .i64 0, .int .i64 0, .int .i64 0, .int .i64 8, .int .i64 0, .int .i64 0] 3)); clear HR HS y0 y1 y2 y3 y4 y5 y6 y7 yf0 yf1 yf2 yf3 yf4 yf5 yf6 yf7; have HR := HR2; have HS := HS2; clear HR2 HS2; obtain ⟨y0, y1, y2, y3, y4, y5, y6, y7, yf0, yf1, yf2, yf3, yf4, yf5, yf6, yf7⟩ := cells8 HS.out) | (go_at_call 77; (with_reducible first | refine litg1 (o := (.cells #[.int .i64 11, .int .i64 12, .int .i64 13, .int .i64 14, .int .i64 15, .int .i64 16, .int .i64 17, .int .i64 18] 3)) ?_ | refine litg2 (o := (.cells #[.int .i64 11, .int .i64 12, .int .i64 13, .int .i64 14, .int .i64 15, .int .i64 16, .int .i64 17, .int .i64 18] 3)) ?_); refine (rpick_at [11, 12, 13, 14, 15, 16, 17, 18] _ (by repeat (first | exact lit_C _ _ (by decide) | apply Kd.C_drewN | apply Kd.C_drew)) rfl (by decide)).mono ?_; rintro e w' ⟨rfl, ⟨nd, rfl⟩⟩; have HR2 := Aside0.mk (blk_alloc HR.out (.cells #[.int .i64 11, .int .i64 12, .int .i64 13, .int .i64 14, .int .i64 15, .int .i64 16, .int .i64 17, .int .i64 18] 3)); have HS2 := Aside0.mk (blk_alloc HS.out (.cells #[.int .i64 11, .int .i64 12, .int .i64 13, .int .i64 14, .int .i64 15, .int .i64 16, .int .i64 17, .int .i64 18] 3)); clear HR HS y0 y1 y2 y3 y4 y5 y6 y7 yf0 yf1 yf2 yf3 yf4 yf5 yf6 yf7; have HR := HR2; have HS := HS2; clear HR2 HS2; obtain ⟨y0, y1, y2, y3, y4, y5, y6, y7, yf0, yf1, yf2, yf3, yf4, yf5, yf6, yf7⟩ := cells8 HS.out) | (go_at_call 77; (with_reducible first | refine litg1 (o := (.cells #[.int .i64 19, .int .i64 21, .int .i64 0, .int .i64 0, .int .i64 0, .int .i64 22, .int .i64 0, .int .i64 0] 3)) ?_ | refine litg2 (o := (.cells #[.int .i64 19, .int .i64 21, .int .i64 0, .int .i64 0, .int .i64 0, .int .i64 22, .int .i64 0, .int .i64 0] 3)) ?_); refine (rpick_at [19, 21, 0, 0, 0, 22, 0, 0] _ (by repeat (first | exact lit_C _ _ (by decide) | apply Kd.C_drewN | apply Kd.C_drew)) rfl (by decide)).mono ?_; rintro e w' ⟨rfl, ⟨nd, rfl⟩⟩; have HR2 := Aside0.mk (blk_alloc HR.out (.cells #[.int .i64 19, .int .i64 21, .int .i64 0, .int .i64 0, .int .i64 0, .int .i64 22, .int .i64 0, .int .i64 0] 3)); have HS2 := Aside0.mk (blk_alloc HS.out (.cells #[.int .i64 19, .int .i64 21, .int .i64 0, .int .i64 0, .int .i64 0, .int .i64 22, .int .i64 0, .int .i64 0] 3)); clear HR HS y0 y1 y2 y3 y4 y5 y6 y7 yf0 yf1 yf2 yf3 yf4 yf5 yf6 yf7; have HR := HR2; have HS := HS2; clear HR2 HS2; obtain ⟨y0, y1, y2, y3, y4, y5, y6, y7, yf0, yf1, yf2, yf3, yf4, yf5, yf6, yf7⟩ := cells8 HS.out) | (go_at_call 77; (with_reducible first | refine litg1 (o := (.cells #[.int .i64 20, .int .i64 0, .int .i64 0, .int .i64 0, .int .i64 0, .int .i64 23, .int .i64 0, .int .i64 0] 3)) ?_ | refine litg2 (o := (.cells #[.int .i64 20, .int .i64 0, .int .i64 0, .int .i64 0, .int .i64 0, .int .i64 23, .int .i64 0, .int .i64 0] 3)) ?_); refine (rpick_at [20, 0, 0, 0, 0, 23, 0, 0] _ (by repeat (first | exact lit_C _ _ (by decide) | apply Kd.C_drewN | apply Kd.C_drew)) rfl (by decide)).mono ?_; rintro e w' ⟨rfl, ⟨nd, rfl⟩⟩; have HR2 := Aside0.mk (blk_alloc HR.out (.cells #[.int .i64 20, .int .i64 0, .int .i64 0, .int .i64 0, .int .i64 0, .int .i64 23, .int .i64 0, .int .i64 0] 3)); have HS2 := Aside0.mk (blk_alloc HS.out (.cells #[.int .i64 20, .int .i64 0, .int .i64 0, .int .i64 0, .int .i64 0, .int .i64 23, .int .i64 0, .int .i64 0] 3)); clear HR HS y0 y1 y2 y3 y4 y5 y6 y7 yf0 yf1 yf2 yf3 yf4 yf5 yf6 yf7; have HR := HR2; have HS := HS2; clear HR2 HS2; obtain ⟨y0, y1, y2, y3, y4, y5, y6, y7, yf0, yf1, yf2, yf3, yf4, yf5, yf6, yf7⟩ := cells8 HS.out) | (go_at_call 77; (with_reducible first | refine litg1 (o := (.cells #[.int .i64 24, .int .i64 0, .int .i64 0, .int .i64 0, .int .i64 25, .int .i64 26, .int .i64 27, .int .i64 28] 3)) ?_ | refine litg2 (o := (.cells #[.int .i64 24, .int .i64 0, .int .i64 0, .int .i64 0, .int .i64 25, .int .i64 26, .int .i64 27, .int .i64 28] 3)) ?_); refine (rpick_at [24, 0, 0, 0, 25, 26, 27, 28] _ (by repeat (first | exact lit_C _ _ (by decide) | apply Kd.C_drewN | apply Kd.C_drew)) rfl (by decide)).mono ?_; rintro e w' ⟨rfl, ⟨nd, rfl⟩⟩; have HR2 := Aside0.mk (blk_alloc HR.out (.cells #[.int .i64 24, .int .i64 0, .int .i64 0, .int .i64 0, .int .i64 25, .int .i64 26, .int .i64 27, .int .i64 28] 3)); have HS2 := Aside0.mk (blk_alloc HS.out (.cells #[.int .i64 24, .int .i64 0, .int .i64 0, .int .i64 0, .int .i64 25, .int .i64 26, .int .i64 27, .int .i64 28] 3)); clear HR HS y0 y1 y2 y3 y4 y5 y6 y7 yf0 yf1 yf2 yf3 yf4 yf5 yf6 yf7; have HR := HR2; have HS := HS2; clear HR2 HS2; obtain ⟨y0, y1, y2, y3, y4, y5, y6, y7, yf0, yf1, yf2, yf3, yf4, yf5, yf6, yf7⟩ := cells8 HS.out) | (go_at_call 80; (with_reducible refine (hD.u _).mono ?_); rintro e w' ⟨rfl, ⟨nd, rfl⟩⟩) | (go_at_call 81; (with_reducible refine (hD.j _).mono ?_); rintro e w' ⟨rfl, ⟨nd, rfl⟩⟩) | (go_at_call 82; (with_reducible refine (hD.i _).mono ?_); rintro e w' ⟨rfl, ⟨nd, rfl⟩⟩) | (go_at_call 83; (with_reducible refine (hD.b _).mono ?_); rintro e w' ⟨rfl, ⟨nd, rfl⟩⟩) | (go_at_call 84; (with_reducible refine (hD.s _).mono ?_); rintro e w' ⟨rfl, ⟨nd, rfl⟩⟩) | ((with_reducible refine gate_any rfl ?_); refine setR rfl rfl HR.out rfl rfl (by kernel_rfl) rfl rfl ?_; intro w8 hbox hfar hbel; have HR2 := Aside0.mk hbox; have HS2 := Aside0.mk (far_blk hfar (fun e => HN.out e.symm) HS.out); have HB2 := Aside0.mk (hbel _ _ (by repeat (first | (with_reducible first | exact HB.out | apply below_alloc | apply pw_below_drewN | apply below_drew1) | exact HB.out)) HLR.out); clear hbox hfar hbel HS HR HB y0 y1 y2 y3 y4 y5 y6 y7 yf0 yf1 yf2 yf3 yf4 yf5 yf6 yf7; have HS := HS2; have HR := HR2; have HB := HB2; clear HS2 HR2 HB2; obtain ⟨y0, y1, y2, y3, y4, y5, y6, y7, yf0, yf1, yf2, yf3, yf4, yf5, yf6, yf7⟩ := cells8 HS.out) | fail)
    refine bodyPost_ret (results_ct rfl _ _ gR 23 _ (0, 0) _ rfl HR.out Tryz.underlying23 rfl (by kernel_rfl)) rfl ?_
    exact ⟨rfl, (by repeat (first | (with_reducible first | exact HB.out | apply below_alloc | apply pw_below_drewN | apply below_drew1) | exact HB.out))⟩


end Go.Proofs.YtjapahcbhjjeiaaGreatDoor.AS

/- The document's Decode, walked: the system's rows and the atomic ones. -/
namespace Go.Proofs.YtjapahcbhjjeiaaGreatDoor.AS
open Go.RowKit Go.MapKept Go.Proofs.YtjapahcbhjjeiaaGreatDoorW.PrintWords Go.Proofs.YtjapahcbhjjeiaaGreatDoorW.PrintLast Go.Proofs.YtjapahcbhjjeiaaGreatDoorW.PrintMore Go.Proofs.YtjapahcbhjjeiaaGreatDoor.PA
set_option linter.unusedVariables false
set_option linter.unusedSimpArgs false
set_option maxRecDepth 100000
set_option maxHeartbeats 8000000

inductive WayS (rs1 rs2 c : Int) : (w f3 f7 rd : Int) → Ins → Bool → Prop
  | ec {f3 f7 rd : Int} : WayS rs1 rs2 c 115 f3 f7 rd ⟨11, 0, 0, 0, 0, 0, 0, false⟩ true
  | eb {f3 f7 rd : Int} : WayS rs1 rs2 c 1048691 f3 f7 rd ⟨12, 0, 0, 0, 0, 0, 0, false⟩ true
  | sr {f3 f7 rd : Int} : WayS rs1 rs2 c 270532723 f3 f7 rd ⟨18, 0, 0, 0, 0, 0, 0, false⟩ true
  | wf {f3 f7 rd : Int} : WayS rs1 rs2 c 273678451 f3 f7 rd ⟨19, 0, 0, 0, 0, 0, 0, false⟩ true
  | sf {w : Int} (n0 : (w == 115) = false) (n1 : (w == 1048691) = false) (n2 : (w == 270532723) = false) (n3 : (w == 273678451) = false) : WayS rs1 rs2 c w 0 9 0 ⟨20, 0, 0, rs1, rs2, 0, 0, false⟩ true
  | na {w f7 rd : Int} (n0 : (w == 115) = false) (n1 : (w == 1048691) = false) (n2 : (w == 270532723) = false) (n3 : (w == 273678451) = false) (h7 : (f7 == 9) = false) : WayS rs1 rs2 c w 0 f7 rd ⟨0, 0, 0, 0, 0, 0, 0, false⟩ false
  | nb {w rd : Int} (n0 : (w == 115) = false) (n1 : (w == 1048691) = false) (n2 : (w == 270532723) = false) (n3 : (w == 273678451) = false) (hd : (rd == 0) = false) : WayS rs1 rs2 c w 0 9 rd ⟨0, 0, 0, 0, 0, 0, 0, false⟩ false
  | nc {w f7 rd : Int} (n0 : (w == 115) = false) (n1 : (w == 1048691) = false) (n2 : (w == 270532723) = false) (n3 : (w == 273678451) = false) : WayS rs1 rs2 c w 4 f7 rd ⟨0, 0, 0, 0, 0, 0, 0, false⟩ false
  | c1 {w f7 rd : Int} (n0 : (w == 115) = false) (n1 : (w == 1048691) = false) (n2 : (w == 270532723) = false) (n3 : (w == 273678451) = false) : WayS rs1 rs2 c w 1 f7 rd ⟨13, 1, rd, rs1, 0, c, 0, false⟩ true
  | c2 {w f7 rd : Int} (n0 : (w == 115) = false) (n1 : (w == 1048691) = false) (n2 : (w == 270532723) = false) (n3 : (w == 273678451) = false) : WayS rs1 rs2 c w 2 f7 rd ⟨13, 2, rd, rs1, 0, c, 0, false⟩ true
  | c3 {w f7 rd : Int} (n0 : (w == 115) = false) (n1 : (w == 1048691) = false) (n2 : (w == 270532723) = false) (n3 : (w == 273678451) = false) : WayS rs1 rs2 c w 3 f7 rd ⟨13, 3, rd, rs1, 0, c, 0, false⟩ true
  | c5 {w f7 rd : Int} (n0 : (w == 115) = false) (n1 : (w == 1048691) = false) (n2 : (w == 270532723) = false) (n3 : (w == 273678451) = false) : WayS rs1 rs2 c w 5 f7 rd ⟨14, 1, rd, rs1, 0, c, 0, false⟩ true
  | c6 {w f7 rd : Int} (n0 : (w == 115) = false) (n1 : (w == 1048691) = false) (n2 : (w == 270532723) = false) (n3 : (w == 273678451) = false) : WayS rs1 rs2 c w 6 f7 rd ⟨14, 2, rd, rs1, 0, c, 0, false⟩ true
  | c7 {w f7 rd : Int} (n0 : (w == 115) = false) (n1 : (w == 1048691) = false) (n2 : (w == 270532723) = false) (n3 : (w == 273678451) = false) : WayS rs1 rs2 c w 7 f7 rd ⟨14, 3, rd, rs1, 0, c, 0, false⟩ true
theorem rsys {w f3 f7 rd rs1 rs2 c : Int} {r : Ins} {ok : Bool} (W : World) (hC : RN 79 #[.int .u32 w, .int .i64 31, .int .i64 20] c) (h : WayS rs1 rs2 c w f3 f7 rd r ok) :
    Calls Tryz.prog 85 #[.int .u32 w, .int .i64 f3, .int .i64 f7, .int .i64 rd, .int .i64 rs1, .int .i64 rs2] W fun e w' => e = .returned (.tuple #[insV r, .bool ok]) ∧ Below W.heap.size W w' := by
  have HB := Aside0.mk (Below.refl W.heap.size W)
  have hu23 := Tryz.underlying23
  cases h
  all_goals
    go_enter Tryz.func85, Tryz.ntmps85
    go_wp2_with (first | ((with_reducible refine gate_dst (N := 12) rfl ?_); refine box_event (by rfl) (N := 12) (by rfl) (cs := #[.int .i64 0, .int .i64 0, .int .i64 0, .int .i64 0, .int .i64 0, .int .i64 0, .int .i64 0, .bool false]) (t := 23) (by first | (go_simp; done) | (go_simp; rfl)) ?_; intro gR hg w2 hbox hb; have HR := Aside0.mk hbox; have HB2 := Aside0.mk (below_step HB.out hb); have HLR := Aside0.mk (show W.heap.size ≤ gR by rw [hg]; exact below_size (by repeat (first | (with_reducible first | exact HB.out | apply below_alloc | apply pw_below_drewN | apply below_drew1) | exact HB.out))); clear HB; have HB := HB2; clear HB2 hbox hb hg) | (go_at_call 79; (with_reducible refine (hC _).mono ?_); rintro e w' ⟨rfl, ⟨nd, rfl⟩⟩) | ((with_reducible refine gate_any rfl ?_); refine setR rfl rfl HR.out rfl rfl (by kernel_rfl) rfl rfl ?_; intro w8 hbox hfar hbel; have HR2 := Aside0.mk hbox; have HB2 := Aside0.mk (hbel _ _ (by repeat (first | (with_reducible first | exact HB.out | apply below_alloc | apply pw_below_drewN | apply below_drew1) | exact HB.out)) HLR.out); clear hbox hfar hbel HR HB; have HR := HR2; have HB := HB2; clear HR2 HB2) | fail)
    refine bodyPost_ret (results_ct rfl _ _ gR 23 _ (0, 0) _ rfl HR.out Tryz.underlying23 rfl (by kernel_rfl)) rfl ?_
    exact ⟨rfl, (by repeat (first | (with_reducible first | exact HB.out | apply below_alloc | apply pw_below_drewN | apply below_drew1) | exact HB.out))⟩


theorem num_cell {wr : World} {A : Option Addr} {l : List Int} {n : Nat} (hC : Kd.C (Kd.int .i64) wr A l.length l) (hn : n < l.length) : ∃ ad, A = some ad ∧ wr.cell? (ad.add n) = some (.int .i64 l[n]) := by
  obtain ⟨ad, rfl, hcell⟩ := Kd.at_int hC (n : Int) (by omega) (by omega)
  refine ⟨ad, rfl, ?_⟩
  rw [Int.toNat_natCast] at hcell
  rw [hcell]
  simp [rd, hn]
inductive WayT (rd rs1 rs2 : Int) : (f3 five : Int) → Ins → Bool → Prop
  | n {f3 five : Int} (h2 : (f3 != 2) = true) (h3 : (f3 != 3) = true) : WayT rd rs1 rs2 f3 five ⟨0, 0, 0, 0, 0, 0, 0, false⟩ false
  | lr2 (hz : (rs2 == 0) = true) : WayT rd rs1 rs2 2 2 ⟨15, 0, rd, rs1, 0, 0, 4, false⟩ true
  | lr3 (hz : (rs2 == 0) = true) : WayT rd rs1 rs2 3 2 ⟨15, 0, rd, rs1, 0, 0, 8, false⟩ true
  | sc2 : WayT rd rs1 rs2 2 3 ⟨16, 0, rd, rs1, rs2, 0, 4, false⟩ true
  | sc3 : WayT rd rs1 rs2 3 3 ⟨16, 0, rd, rs1, rs2, 0, 8, false⟩ true
theorem ratm {w f3 rd rs1 rs2 five : Int} {r : Ins} {ok : Bool} (W : World) (hC : RN 79 #[.int .u32 w, .int .i64 31, .int .i64 27] five) (h : WayT rd rs1 rs2 f3 five r ok) :
    Calls Tryz.prog 86 #[.int .u32 w, .int .i64 f3, .int .i64 rd, .int .i64 rs1, .int .i64 rs2] W fun e w' => e = .returned (.tuple #[insV r, .bool ok]) ∧ Below W.heap.size W w' := by
  have HB := Aside0.mk (Below.refl W.heap.size W)
  have hu23 := Tryz.underlying23
  cases h
  all_goals
    go_enter Tryz.func86, Tryz.ntmps86
    go_wp2_with (first | ((with_reducible refine gate_dst (N := 10) rfl ?_); refine box_event (by rfl) (N := 10) (by rfl) (cs := #[.int .i64 0, .int .i64 0, .int .i64 0, .int .i64 0, .int .i64 0, .int .i64 0, .int .i64 0, .bool false]) (t := 23) (by first | (go_simp; done) | (go_simp; rfl)) ?_; intro gR hg w2 hbox hb; have HR := Aside0.mk hbox; have HB2 := Aside0.mk (below_step HB.out hb); have HLR := Aside0.mk (show W.heap.size ≤ gR by rw [hg]; exact below_size (by repeat (first | (with_reducible first | exact HB.out | apply below_alloc | apply pw_below_drewN | apply below_drew1) | exact HB.out))); clear HB; have HB := HB2; clear HB2 hbox hb hg) | ((with_reducible refine gate_dst (N := 26) rfl ?_); refine lit_event (by rfl) (N := 26) (by rfl) [1, 0, 4, 12, 8, 16, 20, 24, 28] (by decide) (by first | (go_simp; done) | (go_simp; rfl)) ?_; intro Aa wa hCa hb; have HCa := Aside0.mk hCa; have HR2 := Aside0.mk (blk_below (by (with_reducible repeat (first | refine blk_drewN ?_ _ | refine blk_drew ?_ | refine blk_alloc ?_ _)); exact HR.out) hb); have HB2 := Aside0.mk (below_step (by repeat (first | (with_reducible first | exact HB.out | apply below_alloc | apply pw_below_drewN | apply below_drew1) | exact HB.out)) hb); clear HB HR hCa hb; have HB := HB2; have HR := HR2; clear HB2 HR2) | (go_at_call 79; (with_reducible refine (hC _).mono ?_); rintro e w' ⟨rfl, ⟨nd, rfl⟩⟩) | ((with_reducible refine gate_any rfl ?_); refine setR rfl rfl HR.out rfl rfl (by kernel_rfl) rfl rfl ?_; intro w8 hbox hfar hbel; have HR2 := Aside0.mk hbox; have HB2 := Aside0.mk (hbel _ _ (by repeat (first | (with_reducible first | exact HB.out | apply below_alloc | apply pw_below_drewN | apply below_drew1) | exact HB.out)) HLR.out); clear hbox hfar hbel HR HB; have HR := HR2; have HB := HB2; clear HR2 HB2) | fail)
    refine bodyPost_ret (results_ct rfl _ _ gR 23 _ (0, 0) _ rfl (by (with_reducible repeat (first | refine blk_drewN ?_ _ | refine blk_drew ?_ | refine blk_alloc ?_ _)); exact HR.out) Tryz.underlying23 rfl (by kernel_rfl)) rfl ?_
    exact ⟨rfl, (by repeat (first | (with_reducible first | exact HB.out | apply below_alloc | apply pw_below_drewN | apply below_drew1) | exact HB.out))⟩

def atmI (rd rs1 rs2 sz i : Int) : Ins := if i = -1 then ⟨0, 0, 0, 0, 0, 0, 0, false⟩ else ⟨17, i + 1, rd, rs1, rs2, 0, sz, false⟩
def atmB (i : Int) : Bool := decide (i ≠ -1)
theorem ratl {w f3 sz rd rs1 rs2 five : Int} (W : World) (hC : RN 79 #[.int .u32 w, .int .i64 31, .int .i64 27] five) (hf : (f3 = 2 ∧ sz = 4) ∨ (f3 = 3 ∧ sz = 8)) (h2 : five = 2 → (rs2 == 0) = false) (h3 : (five == 3) = false) {i : Int} (hi : idxL [1, 0, 4, 12, 8, 16, 20, 24, 28] five = i) :
    Calls Tryz.prog 86 #[.int .u32 w, .int .i64 f3, .int .i64 rd, .int .i64 rs1, .int .i64 rs2] W fun e w' => e = .returned (.tuple #[insV (atmI rd rs1 rs2 sz i), .bool (atmB i)]) ∧ Below W.heap.size W w' := by
  have HB := Aside0.mk (Below.refl W.heap.size W)
  have hu23 := Tryz.underlying23
  have HI := Aside0.mk hi
  have K : (five == 2) = false ∨ ((five == 2) = true ∧ (rs2 == 0) = false) := by
    by_cases e : five = 2
    · exact .inr ⟨by simp [e], h2 e⟩
    · exact .inl (beq_false_of_ne e)
  clear h2 hi
  rcases hf with ⟨rfl, rfl⟩ | ⟨rfl, rfl⟩ <;> rcases K with h2 | ⟨h2, h4⟩
  all_goals
    go_enter Tryz.func86, Tryz.ntmps86
    go_wp2_with (first | ((with_reducible refine gate_dst (N := 10) rfl ?_); refine box_event (by rfl) (N := 10) (by rfl) (cs := #[.int .i64 0, .int .i64 0, .int .i64 0, .int .i64 0, .int .i64 0, .int .i64 0, .int .i64 0, .bool false]) (t := 23) (by first | (go_simp; done) | (go_simp; rfl)) ?_; intro gR hg w2 hbox hb; have HR := Aside0.mk hbox; have HB2 := Aside0.mk (below_step HB.out hb); have HLR := Aside0.mk (show W.heap.size ≤ gR by rw [hg]; exact below_size (by repeat (first | (with_reducible first | exact HB.out | apply below_alloc | apply pw_below_drewN | apply below_drew1) | exact HB.out))); clear HB; have HB := HB2; clear HB2 hbox hb hg) | ((with_reducible refine gate_dst (N := 26) rfl ?_); refine lit_event (by rfl) (N := 26) (by rfl) [1, 0, 4, 12, 8, 16, 20, 24, 28] (by decide) (by first | (go_simp; done) | (go_simp; rfl)) ?_; intro Aa wa hCa hb; have HCa := Aside0.mk hCa; have HR2 := Aside0.mk (blk_below (by (with_reducible repeat (first | refine blk_drewN ?_ _ | refine blk_drew ?_ | refine blk_alloc ?_ _)); exact HR.out) hb); have HB2 := Aside0.mk (below_step (by repeat (first | (with_reducible first | exact HB.out | apply below_alloc | apply pw_below_drewN | apply below_drew1) | exact HB.out)) hb); clear HB HR hCa hb; have HB := HB2; have HR := HR2; clear HB2 HR2) | (go_at_call 79; (with_reducible refine (hC _).mono ?_); rintro e w' ⟨rfl, ⟨nd, rfl⟩⟩) | fail)
    go_loopw [15] (fun v15 wr => ∃ k : Nat, v15 = .int .i64 (k : Int) ∧ k ≤ 9 ∧ idxFrom five (k : Int) ([1, 0, 4, 12, 8, 16, 20, 24, 28].drop k) = i ∧ wr.heap[gR]? = some (.cells #[.int .i64 0, .int .i64 0, .int .i64 0, .int .i64 0, .int .i64 0, .int .i64 0, .int .i64 0, .bool false] 23 (0, 0)) ∧ Kd.C (Kd.int .i64) wr Aa 9 [1, 0, 4, 12, 8, 16, 20, 24, 28] ∧ Below W.heap.size W wr) (fun v15 _ => 9 - (intOf v15).toNat)
    case atStart => exact ⟨0, rfl, by decide, HI.out, (by (with_reducible repeat (first | refine blk_drewN ?_ _ | refine blk_drew ?_ | refine blk_alloc ?_ _)); exact HR.out), by repeat (first | exact HCa.out | apply Kd.C_drewN | apply Kd.C_drew), (by repeat (first | (with_reducible first | exact HB.out | apply below_alloc | apply pw_below_drewN | apply below_drew1) | exact HB.out))⟩
    case round =>
      obtain ⟨k, rfl, hk, hgo, hR, hCl, hB⟩ := hrel
      clear HB HR HCa
      have HR := Aside0.mk hR
      have HB := Aside0.mk hB
      have HCa := Aside0.mk hCl
      have HGO := Aside0.mk hgo
      clear hR hB hCl hgo
      by_cases hlt : k < 9
      · obtain ⟨ad, rfl, y⟩ := num_cell HCa.out hlt
        obtain ⟨x, hx⟩ : ∃ x : Int, x = [1, 0, 4, 12, 8, 16, 20, 24, 28][k] := ⟨_, rfl⟩
        rw [← hx] at y
        have HX : Aside0 ((five = x → i = k) ∧ (five ≠ x → idxFrom five ((k + 1 : Nat) : Int) ([1, 0, 4, 12, 8, 16, 20, 24, 28].drop (k + 1)) = i)) := ⟨by
          have h1 := HGO.out
          rw [List.drop_eq_getElem_cons (by exact hlt), ← hx, idxFrom] at h1
          constructor
          · intro e; rw [if_pos e] at h1; exact h1.symm
          · intro e; rw [if_neg e] at h1; push_cast; exact h1⟩
        clear HGO hx
        have HLT := Aside0.mk hlt
        have hd0 : decide ((k : Int) < 9) = true := decide_eq_true (by omega)
        have hk9 : (k : Int) < 9 := by omega
        by_cases c : (x == five) = true
        · go_wp2_with (first | ((with_reducible refine gate_any rfl ?_); refine setR rfl rfl HR.out rfl rfl (by kernel_rfl) rfl rfl ?_; intro w8 hbox hfar hbel; have HR2 := Aside0.mk hbox; have HB2 := Aside0.mk (hbel _ _ (by repeat (first | (with_reducible first | exact HB.out | apply below_alloc | apply pw_below_drewN | apply below_drew1) | exact HB.out)) HLR.out); clear hbox hfar hbel HR HB; have HR := HR2; have HB := HB2; clear HR2 HB2) | fail)
          refine bodyPost_ret (results_ct rfl _ _ gR 23 _ (0, 0) _ rfl HR.out Tryz.underlying23 rfl (by kernel_rfl)) rfl ?_
          have he := HX.out.1 (by simpa using Eq.symm (by simpa using c))
          have hn : (i : Int) ≠ -1 := by omega
          refine ⟨?_, HB.out⟩
          rw [atmI, atmB, if_neg hn, decide_eq_true hn, he]
          rfl
        · have c' : (x == five) = false := by simpa using c
          have hne : five ≠ x := fun e => c (by simp [e])
          clear c
          go_wp2
          go_roundw
          case rel => exact ⟨k + 1, by go_num, by have := HLT.out; omega, HX.out.2 hne, HR.out, HCa.out, HB.out⟩
          case measure => simp [intOf]; have := HLT.out; omega
      · obtain rfl : k = 9 := by omega
        have he : Aside0 (i = -1) := ⟨HGO.out.symm⟩
        clear hlt HGO
        go_wp2_with (first | ((with_reducible refine gate_any rfl ?_); refine setR rfl rfl HR.out rfl rfl (by kernel_rfl) rfl rfl ?_; intro w8 hbox hfar hbel; have HR2 := Aside0.mk hbox; have HB2 := Aside0.mk (hbel _ _ (by repeat (first | (with_reducible first | exact HB.out | apply below_alloc | apply pw_below_drewN | apply below_drew1) | exact HB.out)) HLR.out); clear hbox hfar hbel HR HB; have HR := HR2; have HB := HB2; clear HR2 HB2) | fail)
        refine bodyPost_ret (results_ct rfl _ _ gR 23 _ (0, 0) _ rfl HR.out Tryz.underlying23 rfl (by kernel_rfl)) rfl ?_
        refine ⟨?_, HB.out⟩
        rw [he.out]
        rfl

end Go.Proofs.YtjapahcbhjjeiaaGreatDoor.AS

/- The document's Decode by its contract. -/
namespace Go.Proofs.YtjapahcbhjjeiaaGreatDoor.AS
open Go.RowKit Go.Proofs.YtjapahcbhjjeiaaGreatDoorW.PrintWords Go.Proofs.YtjapahcbhjjeiaaGreatDoorW.PrintLast Go.Proofs.YtjapahcbhjjeiaaGreatDoorW.PrintMore Go.Proofs.YtjapahcbhjjeiaaGreatDoor.PA
set_option linter.unusedVariables false
set_option linter.unusedSimpArgs false
set_option maxRecDepth 100000
set_option maxHeartbeats 4000000

theorem rb {w : Int} (hw : U32 w) (hi lo : Nat) {hi' lo' : Int} (h : lo ≤ hi) (h31 : hi ≤ 31) (e1 : hi' = (hi : Int)) (e2 : lo' = (lo : Int)) : RN 79 #[.int .u32 w, .int .i64 hi', .int .i64 lo'] (fl w hi lo) :=
  fun W => (rbits_lit hi lo W hw.1 hw.2 h h31 e1 e2).mono fun e w' h => ⟨h.1, h.2.out⟩
theorem rs {v u : Int} (n : Nat) {n' : Int} (h1 : 1 ≤ n) (h32 : n ≤ 32) (v0 : 0 ≤ v) (v1 : v < 2 ^ n) (e : n' = (n : Int)) (eu : u = v) : RN 117 #[.int .i64 u, .int .i64 n'] (sx v n) := by
  subst e; subst eu
  exact fun W => (citadelref02_signed.calls u n _ W (rsigned_ok u n h1 h32 v0 v1)).mono fun e w' h => ⟨h.1, h.2.out⟩
theorem imU {w a v : Int} (h1 : RN 79 #[.int .u32 w, .int .i64 31, .int .i64 12] a) (hs : RN 117 #[.int .i64 (wrap64 (a * 4096)), .int .i64 32] v) : RN 80 #[.int .u32 w] v := by
  intro W
  go_enter Tryz.func80, Tryz.ntmps80
  go_wp2_with (first | (go_at_call 79; (with_reducible refine (h1 _).mono ?_); rintro e w' ⟨rfl, ⟨nd, rfl⟩⟩) | (go_at_call 117; (with_reducible refine (hs _).mono ?_); rintro e w' ⟨rfl, ⟨nd, rfl⟩⟩) | fail)
  go_ret
  exact ⟨rfl, (show Drawn0 W _ by repeat (first | exact Drawn0.refl _ | apply Drawn0.step)).out⟩
theorem imI {w a v : Int} (h1 : RN 79 #[.int .u32 w, .int .i64 31, .int .i64 20] a) (hs : RN 117 #[.int .i64 a, .int .i64 12] v) : RN 82 #[.int .u32 w] v := by
  intro W
  go_enter Tryz.func82, Tryz.ntmps82
  go_wp2_with (first | (go_at_call 79; (with_reducible refine (h1 _).mono ?_); rintro e w' ⟨rfl, ⟨nd, rfl⟩⟩) | (go_at_call 117; (with_reducible refine (hs _).mono ?_); rintro e w' ⟨rfl, ⟨nd, rfl⟩⟩) | fail)
  go_ret
  exact ⟨rfl, (show Drawn0 W _ by repeat (first | exact Drawn0.refl _ | apply Drawn0.step)).out⟩
theorem imS {w a b v : Int} (h1 : RN 79 #[.int .u32 w, .int .i64 31, .int .i64 25] a) (h2 : RN 79 #[.int .u32 w, .int .i64 11, .int .i64 7] b) (hs : RN 117 #[.int .i64 (wrap64 (wrap64 (a * 32) + b)), .int .i64 12] v) : RN 84 #[.int .u32 w] v := by
  intro W
  go_enter Tryz.func84, Tryz.ntmps84
  go_wp2_with (first | (go_at_call 79; (with_reducible first | refine (h1 _).mono ?_ | refine (h2 _).mono ?_); rintro e w' ⟨rfl, ⟨nd, rfl⟩⟩) | (go_at_call 117; (with_reducible refine (hs _).mono ?_); rintro e w' ⟨rfl, ⟨nd, rfl⟩⟩) | fail)
  go_ret
  exact ⟨rfl, (show Drawn0 W _ by repeat (first | exact Drawn0.refl _ | apply Drawn0.step)).out⟩
theorem imJ {w a b c d v : Int} (h1 : RN 79 #[.int .u32 w, .int .i64 31, .int .i64 31] a) (h2 : RN 79 #[.int .u32 w, .int .i64 19, .int .i64 12] b) (h3 : RN 79 #[.int .u32 w, .int .i64 20, .int .i64 20] c) (h4 : RN 79 #[.int .u32 w, .int .i64 30, .int .i64 21] d)
    (hs : RN 117 #[.int .i64 (wrap64 (wrap64 (wrap64 (wrap64 (a * 1048576) + wrap64 (b * 4096)) + wrap64 (c * 2048)) + wrap64 (d * 2))), .int .i64 21] v) : RN 81 #[.int .u32 w] v := by
  intro W
  go_enter Tryz.func81, Tryz.ntmps81
  go_wp2_with (first | (go_at_call 79; (with_reducible first | refine (h1 _).mono ?_ | refine (h2 _).mono ?_ | refine (h3 _).mono ?_ | refine (h4 _).mono ?_); rintro e w' ⟨rfl, ⟨nd, rfl⟩⟩) | (go_at_call 117; (with_reducible refine (hs _).mono ?_); rintro e w' ⟨rfl, ⟨nd, rfl⟩⟩) | fail)
  go_ret
  exact ⟨rfl, (show Drawn0 W _ by repeat (first | exact Drawn0.refl _ | apply Drawn0.step)).out⟩
theorem imB {w a b c d v : Int} (h1 : RN 79 #[.int .u32 w, .int .i64 31, .int .i64 31] a) (h2 : RN 79 #[.int .u32 w, .int .i64 7, .int .i64 7] b) (h3 : RN 79 #[.int .u32 w, .int .i64 30, .int .i64 25] c) (h4 : RN 79 #[.int .u32 w, .int .i64 11, .int .i64 8] d)
    (hs : RN 117 #[.int .i64 (wrap64 (wrap64 (wrap64 (wrap64 (a * 4096) + wrap64 (b * 2048)) + wrap64 (c * 32)) + wrap64 (d * 2))), .int .i64 13] v) : RN 83 #[.int .u32 w] v := by
  intro W
  go_enter Tryz.func83, Tryz.ntmps83
  go_wp2_with (first | (go_at_call 79; (with_reducible first | refine (h1 _).mono ?_ | refine (h2 _).mono ?_ | refine (h3 _).mono ?_ | refine (h4 _).mono ?_); rintro e w' ⟨rfl, ⟨nd, rfl⟩⟩) | (go_at_call 117; (with_reducible refine (hs _).mono ?_); rintro e w' ⟨rfl, ⟨nd, rfl⟩⟩) | fail)
  go_ret
  exact ⟨rfl, (show Drawn0 W _ by repeat (first | exact Drawn0.refl _ | apply Drawn0.step)).out⟩
theorem db_of {w : Int} (hw : U32 w) : DB w (rdW w) (rs1W w) (rs2W w) (fl w 25 20) (uW w) (jW w) (iW w) (bW w) (sW w) (f3W w) (f7W w) (opW w) (fl w 31 26) where
  f3 := rb hw 14 12 (by decide) (by decide) rfl rfl
  f7 := rb hw 31 25 (by decide) (by decide) rfl rfl
  rd := rb hw 11 7 (by decide) (by decide) rfl rfl
  rs1 := rb hw 19 15 (by decide) (by decide) rfl rfl
  rs2 := rb hw 24 20 (by decide) (by decide) rfl rfl
  op := rb hw 6 0 (by decide) (by decide) rfl rfl
  tp := rb hw 31 26 (by decide) (by decide) rfl rfl
  sh := rb hw 25 20 (by decide) (by decide) rfl rfl
  u := by
    have b := fl_b w 31 12
    exact imU (rb hw 31 12 (by decide) (by decide) rfl rfl) (rs 32 (by decide) (by decide) (by omega) (by omega) rfl (by rw [w64] <;> omega))
  j := by
    have b1 := fl_b w 31 31
    have b2 := fl_b w 19 12
    have b3 := fl_b w 20 20
    have b4 := fl_b w 30 21
    exact imJ (rb hw 31 31 (by decide) (by decide) rfl rfl) (rb hw 19 12 (by decide) (by decide) rfl rfl) (rb hw 20 20 (by decide) (by decide) rfl rfl) (rb hw 30 21 (by decide) (by decide) rfl rfl) (rs 21 (by decide) (by decide) (by omega) (by omega) rfl (by simp only [wrap64]; omega))
  i := by
    have b := fl_b w 31 20
    exact imI (rb hw 31 20 (by decide) (by decide) rfl rfl) (rs 12 (by decide) (by decide) (by omega) (by omega) rfl rfl)
  b := by
    have b1 := fl_b w 31 31
    have b2 := fl_b w 7 7
    have b3 := fl_b w 30 25
    have b4 := fl_b w 11 8
    exact imB (rb hw 31 31 (by decide) (by decide) rfl rfl) (rb hw 7 7 (by decide) (by decide) rfl rfl) (rb hw 30 25 (by decide) (by decide) rfl rfl) (rb hw 11 8 (by decide) (by decide) rfl rfl) (rs 13 (by decide) (by decide) (by omega) (by omega) rfl (by simp only [wrap64]; omega))
  s := by
    have b1 := fl_b w 31 25
    have b2 := fl_b w 11 7
    exact imS (rb hw 31 25 (by decide) (by decide) rfl rfl) (rb hw 11 7 (by decide) (by decide) rfl rfl) (rs 12 (by decide) (by decide) (by unfold f7W rdW; omega) (by unfold f7W rdW; omega) rfl (by unfold f7W rdW; simp only [wrap64]; omega))

def DecR (f : Nat) (w : Int) : Prop := ∀ W, Calls Tryz.prog f #[.int .u32 w] W fun e w' => e = .returned (.tuple #[insV ((decodeL w).getD zeroI), .bool (decodeL w).isSome]) ∧ Below W.heap.size W w'
theorem decR {w : Int} {r : Ins} {ok : Bool} (e : decodeL w = if ok = true then some r else none) (hr : ok = false → r = zeroI) (h : ∀ W, Calls Tryz.prog 52 #[.int .u32 w] W fun e w' => e = .returned (.tuple #[insV r, .bool ok]) ∧ Below W.heap.size W w') : DecR 52 w := by
  intro W
  rw [e]
  cases ok with
  | true => exact h W
  | false => rw [hr rfl] at h; exact h W
theorem bf_ {a b : Int} (h : ¬ a = b) : (a == b) = false := by simpa using h
theorem rdec_plain {w : Int} (hw : U32 w) (n1 : opW w ≠ 115) (n2 : opW w ≠ 47) : DecR 52 w := by
  have hD := db_of hw
  have f3 := f3_cases w
  have hr2 : fl w 24 20 = rs2W w := rfl
  have A : ∀ {r : Ins} {ok : Bool} {f3' f7' op' tp' : Int}, f3W w = f3' → f7W w = f7' → opW w = op' → fl w 31 26 = tp' → WayA (rdW w) (rs1W w) (rs2W w) (fl w 25 20) (uW w) (jW w) (iW w) (bW w) (sW w) f3' f7' op' tp' r ok → decodeL w = (if ok = true then some r else none) → (ok = false → r = zeroI) → DecR 52 w := by
    intro r ok f3' f7' op' tp' e3 e7 e et h1 h2 h3
    subst e3; subst e7; subst e; subst et
    exact decR h2 h3 fun W => rdec_A W hD h1
  have B : ∀ {r : Ins} {ok : Bool} {f3' f7' op' tp' : Int}, f3W w = f3' → f7W w = f7' → opW w = op' → fl w 31 26 = tp' → WayB (rdW w) (rs1W w) (rs2W w) (fl w 25 20) (uW w) (jW w) (iW w) (bW w) (sW w) f3' f7' op' tp' r ok → decodeL w = (if ok = true then some r else none) → (ok = false → r = zeroI) → DecR 52 w := by
    intro r ok f3' f7' op' tp' e3 e7 e et h1 h2 h3
    subst e3; subst e7; subst e; subst et
    exact decR h2 h3 fun W => rdec_B W hD h1
  have C : ∀ {r : Ins} {ok : Bool} {f3' f7' op' tp' : Int}, f3W w = f3' → f7W w = f7' → opW w = op' → fl w 31 26 = tp' → WayC (rdW w) (rs1W w) (rs2W w) (fl w 25 20) (uW w) (jW w) (iW w) (bW w) (sW w) f3' f7' op' tp' r ok → decodeL w = (if ok = true then some r else none) → (ok = false → r = zeroI) → DecR 52 w := by
    intro r ok f3' f7' op' tp' e3 e7 e et h1 h2 h3
    subst e3; subst e7; subst e; subst et
    exact decR h2 h3 fun W => rdec_C W hD h1
  by_cases c : opW w = 55
  · exact A rfl rfl c rfl (.lui) (by simp [decodeL, rowL, plainL, immediateL, registerL, pickL, p2, branchesL, immsL, c, *]) (by simp [zeroI])
  by_cases c : opW w = 23
  · exact A rfl rfl c rfl (.auipc) (by simp [decodeL, rowL, plainL, immediateL, registerL, pickL, p2, branchesL, immsL, c, *]) (by simp [zeroI])
  by_cases c : opW w = 111
  · exact A rfl rfl c rfl (.jal) (by simp [decodeL, rowL, plainL, immediateL, registerL, pickL, p2, branchesL, immsL, c, *]) (by simp [zeroI])
  by_cases c : opW w = 103
  · rcases f3 with e | e | e | e | e | e | e | e <;> first | exact A e rfl c rfl (.jalr (by decide)) (by simp [decodeL, rowL, plainL, immediateL, registerL, pickL, p2, branchesL, immsL, c, *]) (by simp [zeroI]) | exact A e rfl c rfl (.jalrn (by decide)) (by simp [decodeL, rowL, plainL, immediateL, registerL, pickL, p2, branchesL, immsL, c, *]) (by simp [zeroI])
  by_cases c : opW w = 99
  · rcases f3 with e | e | e | e | e | e | e | e <;> first | exact A e rfl c rfl (.br (by decide)) (by simp [decodeL, rowL, plainL, immediateL, registerL, pickL, p2, branchesL, immsL, c, *]) (by simp [zeroI]) | exact A e rfl c rfl (.brn (by decide)) (by simp [decodeL, rowL, plainL, immediateL, registerL, pickL, p2, branchesL, immsL, c, *]) (by simp [zeroI])
  by_cases c : opW w = 3
  · rcases f3 with e | e | e | e | e | e | e | e <;> first | exact A e rfl c rfl (.ld (by decide)) (by simp [decodeL, rowL, plainL, immediateL, registerL, pickL, p2, branchesL, immsL, c, *]) (by simp [zeroI]) | exact A e rfl c rfl (.ldn (by decide)) (by simp [decodeL, rowL, plainL, immediateL, registerL, pickL, p2, branchesL, immsL, c, *]) (by simp [zeroI])
  by_cases c : opW w = 35
  · rcases f3 with e | e | e | e | e | e | e | e <;> first | exact A e rfl c rfl (.st (by decide)) (by simp [decodeL, rowL, plainL, immediateL, registerL, pickL, p2, branchesL, immsL, c, *]) (by simp [zeroI]) | exact A e rfl c rfl (.stn (by decide)) (by simp [decodeL, rowL, plainL, immediateL, registerL, pickL, p2, branchesL, immsL, c, *]) (by simp [zeroI])
  by_cases c : opW w = 15
  · rcases f3 with e | e | e | e | e | e | e | e <;> first | exact A e rfl c rfl (.fe (by decide)) (by simp [decodeL, rowL, plainL, immediateL, registerL, pickL, p2, branchesL, immsL, c, *]) (by simp [zeroI]) | exact A e rfl c rfl (.fen (by decide)) (by simp [decodeL, rowL, plainL, immediateL, registerL, pickL, p2, branchesL, immsL, c, *]) (by simp [zeroI])
  by_cases c : opW w = 19
  · rcases f3 with e | e | e | e | e | e | e | e
    all_goals first
      | (exact B e rfl c rfl (.im (by decide) (by decide) (by decide)) (by simp [decodeL, rowL, plainL, immediateL, registerL, pickL, p2, branchesL, immsL, c, *]) (by simp [zeroI]))
      | skip
    · by_cases t : fl w 31 26 = 0
      · exact B e rfl c t (.im1) (by simp [decodeL, rowL, plainL, immediateL, registerL, pickL, p2, branchesL, immsL, c, *]) (by simp [zeroI])
      · exact B e rfl c rfl (.im1n (bf_ t) (by decide)) (by simp [decodeL, rowL, plainL, immediateL, registerL, pickL, p2, branchesL, immsL, c, *]) (by simp [zeroI])
    · by_cases t : fl w 31 26 = 0
      · exact B e rfl c t (.im5) (by simp [decodeL, rowL, plainL, immediateL, registerL, pickL, p2, branchesL, immsL, c, *]) (by simp [zeroI])
      by_cases t' : fl w 31 26 = 16
      · exact B e rfl c t' (.im6) (by simp [decodeL, rowL, plainL, immediateL, registerL, pickL, p2, branchesL, immsL, c, *]) (by simp [zeroI])
      · exact B e rfl c rfl (.im5n (bf_ t) (bf_ t') (by decide)) (by simp [decodeL, rowL, plainL, immediateL, registerL, pickL, p2, branchesL, immsL, c, *]) (by simp [zeroI])
  by_cases c : opW w = 27
  · rcases f3 with e | e | e | e | e | e | e | e
    all_goals first
      | (exact B e rfl c rfl (.iw) (by simp [decodeL, rowL, plainL, immediateL, registerL, pickL, p2, branchesL, immsL, c, *]) (by simp [zeroI]))
      | (exact B e rfl c rfl (.iwn (by decide) (by decide) (by decide)) (by simp [decodeL, rowL, plainL, immediateL, registerL, pickL, p2, branchesL, immsL, c, *]) (by simp [zeroI]))
      | skip
    · by_cases t : f7W w = 0
      · exact B e t c rfl (.iw1) (by simp [decodeL, rowL, plainL, immediateL, registerL, pickL, p2, branchesL, immsL, c, *]) (by simp [zeroI])
      · exact B e rfl c rfl (.iw1n (bf_ t)) (by simp [decodeL, rowL, plainL, immediateL, registerL, pickL, p2, branchesL, immsL, c, *]) (by simp [zeroI])
    · by_cases t : f7W w = 0
      · exact B e t c rfl (.iw5) (by simp [decodeL, rowL, plainL, immediateL, registerL, pickL, p2, branchesL, immsL, c, *]) (by simp [zeroI])
      by_cases t' : f7W w = 32
      · exact B e t' c rfl (.iw6) (by simp [decodeL, rowL, plainL, immediateL, registerL, pickL, p2, branchesL, immsL, c, *]) (by simp [zeroI])
      · exact B e rfl c rfl (.iw5n (bf_ t) (bf_ t')) (by simp [decodeL, rowL, plainL, immediateL, registerL, pickL, p2, branchesL, immsL, c, *]) (by simp [zeroI])
  by_cases c : opW w = 51
  · by_cases t : f7W w = 0
    · rcases f3 with e | e | e | e | e | e | e | e <;> first | exact C e t c rfl (.al0 (by decide)) (by simp [decodeL, rowL, plainL, immediateL, registerL, pickL, p2, branchesL, immsL, c, *]) (by simp [zeroI]) | exact C e t c rfl (.al0n (by decide)) (by simp [decodeL, rowL, plainL, immediateL, registerL, pickL, p2, branchesL, immsL, c, *]) (by simp [zeroI])
    by_cases t' : f7W w = 32
    · rcases f3 with e | e | e | e | e | e | e | e <;> first | exact C e t' c rfl (.al32 (by decide)) (by simp [decodeL, rowL, plainL, immediateL, registerL, pickL, p2, branchesL, immsL, c, *]) (by simp [zeroI]) | exact C e t' c rfl (.al32n (by decide)) (by simp [decodeL, rowL, plainL, immediateL, registerL, pickL, p2, branchesL, immsL, c, *]) (by simp [zeroI])
    by_cases t'' : f7W w = 1
    · rcases f3 with e | e | e | e | e | e | e | e <;> first | exact C e t'' c rfl (.al1 (by decide)) (by simp [decodeL, rowL, plainL, immediateL, registerL, pickL, p2, branchesL, immsL, c, *]) (by simp [zeroI]) | exact C e t'' c rfl (.al1n (by decide)) (by simp [decodeL, rowL, plainL, immediateL, registerL, pickL, p2, branchesL, immsL, c, *]) (by simp [zeroI])
    · exact C rfl rfl c rfl (.aln (bf_ t) (bf_ t') (bf_ t'')) (by simp [decodeL, rowL, plainL, immediateL, registerL, pickL, p2, branchesL, immsL, c, *]) (by simp [zeroI])
  by_cases c : opW w = 59
  · by_cases t : f7W w = 0
    · rcases f3 with e | e | e | e | e | e | e | e <;> first | exact C e t c rfl (.aw0 (by decide)) (by simp [decodeL, rowL, plainL, immediateL, registerL, pickL, p2, branchesL, immsL, c, *]) (by simp [zeroI]) | exact C e t c rfl (.aw0n (by decide)) (by simp [decodeL, rowL, plainL, immediateL, registerL, pickL, p2, branchesL, immsL, c, *]) (by simp [zeroI])
    by_cases t' : f7W w = 32
    · rcases f3 with e | e | e | e | e | e | e | e <;> first | exact C e t' c rfl (.aw32 (by decide)) (by simp [decodeL, rowL, plainL, immediateL, registerL, pickL, p2, branchesL, immsL, c, *]) (by simp [zeroI]) | exact C e t' c rfl (.aw32n (by decide)) (by simp [decodeL, rowL, plainL, immediateL, registerL, pickL, p2, branchesL, immsL, c, *]) (by simp [zeroI])
    by_cases t'' : f7W w = 1
    · rcases f3 with e | e | e | e | e | e | e | e <;> first | exact C e t'' c rfl (.aw1 (by decide)) (by simp [decodeL, rowL, plainL, immediateL, registerL, pickL, p2, branchesL, immsL, c, *]) (by simp [zeroI]) | exact C e t'' c rfl (.aw1n (by decide)) (by simp [decodeL, rowL, plainL, immediateL, registerL, pickL, p2, branchesL, immsL, c, *]) (by simp [zeroI])
    · exact C rfl rfl c rfl (.awn (bf_ t) (bf_ t') (bf_ t'')) (by simp [decodeL, rowL, plainL, immediateL, registerL, pickL, p2, branchesL, immsL, c, *]) (by simp [zeroI])
  · exact A rfl rfl rfl rfl (.n (bf_ (by assumption)) (bf_ (by assumption)) (bf_ (by assumption)) (bf_ (by assumption)) (bf_ (by assumption)) (bf_ (by assumption)) (bf_ (by assumption)) (bf_ (by assumption)) (bf_ (by assumption)) (bf_ (by assumption)) (bf_ (by assumption)) (bf_ (by assumption)) (bf_ (by assumption)) (bf_ (by assumption))) (by simp [decodeL, rowL, *]) (by simp [zeroI])

theorem rsys_calls {w : Int} (hw : U32 w) (c : opW w = 115) (W : World) : Calls Tryz.prog 85 #[.int .u32 w, .int .i64 (f3W w), .int .i64 (f7W w), .int .i64 (rdW w), .int .i64 (rs1W w), .int .i64 (rs2W w)] W fun e w' => e = .returned (.tuple #[insV ((decodeL w).getD zeroI), .bool (decodeL w).isSome]) ∧ Below W.heap.size W w' := by
  have hC := rb hw 31 20 (hi' := 31) (lo' := 20) (by decide) (by decide) rfl rfl
  have K : ∀ {r : Ins} {ok : Bool} {w' f3' f7' rd' : Int}, w = w' → f3W w = f3' → f7W w = f7' → rdW w = rd' → WayS (rs1W w) (rs2W w) (fl w 31 20) w' f3' f7' rd' r ok → systemL w = (if ok = true then some r else none) → (ok = false → r = zeroI) → Calls Tryz.prog 85 #[.int .u32 w, .int .i64 (f3W w), .int .i64 (f7W w), .int .i64 (rdW w), .int .i64 (rs1W w), .int .i64 (rs2W w)] W fun e w' => e = .returned (.tuple #[insV ((decodeL w).getD zeroI), .bool (decodeL w).isSome]) ∧ Below W.heap.size W w' := by
    intro r ok w' f3' f7' rd' e0 e3 e7 ed h1 h2 h3
    have hd : decodeL w = systemL w := by unfold decodeL; rw [if_neg (by omega), if_pos c]
    have h := rsys W (w := w') (by rw [← e0]; exact hC) h1
    rw [hd, h2, e3, e7, ed]
    cases ok with
    | true => rw [← e0] at h; exact h
    | false => rw [h3 rfl, ← e0] at h; exact h
  by_cases a0 : w = 115
  · exact K a0 rfl rfl rfl .ec (by simp [systemL, a0]) (by simp)
  by_cases a1 : w = 1048691
  · exact K a1 rfl rfl rfl .eb (by simp [systemL, a1]) (by simp)
  by_cases a2 : w = 270532723
  · exact K a2 rfl rfl rfl .sr (by simp [systemL, a2]) (by simp)
  by_cases a3 : w = 273678451
  · exact K a3 rfl rfl rfl .wf (by simp [systemL, a3]) (by simp)
  have b0 := bf_ a0
  have b1 := bf_ a1
  have b2 := bf_ a2
  have b3 := bf_ a3
  rcases f3_cases w with e | e | e | e | e | e | e | e
  · by_cases t : f7W w = 9
    · by_cases d : rdW w = 0
      · exact K rfl e t d (.sf b0 b1 b2 b3) (by simp [systemL, *]) (by simp)
      · exact K rfl e t rfl (.nb b0 b1 b2 b3 (bf_ d)) (by simp [systemL, *]) (by simp [zeroI])
    · exact K rfl e rfl rfl (.na b0 b1 b2 b3 (bf_ t)) (by simp [systemL, *]) (by simp [zeroI])
  · exact K rfl e rfl rfl (.c1 b0 b1 b2 b3) (by simp [systemL, *]) (by simp)
  · exact K rfl e rfl rfl (.c2 b0 b1 b2 b3) (by simp [systemL, *]) (by simp)
  · exact K rfl e rfl rfl (.c3 b0 b1 b2 b3) (by simp [systemL, *]) (by simp)
  · exact K rfl e rfl rfl (.nc b0 b1 b2 b3) (by simp [systemL, *]) (by simp [zeroI])
  · exact K rfl e rfl rfl (.c5 b0 b1 b2 b3) (by simp [systemL, *]) (by simp)
  · exact K rfl e rfl rfl (.c6 b0 b1 b2 b3) (by simp [systemL, *]) (by simp)
  · exact K rfl e rfl rfl (.c7 b0 b1 b2 b3) (by simp [systemL, *]) (by simp)
theorem fvT {f : Int} (h0 : 0 ≤ f) (h1 : f < 32) (h3 : f ≠ 3) : (if idxL [1, 0, 4, 12, 8, 16, 20, 24, 28] f = -1 then (none : Option Int) else some (idxL [1, 0, 4, 12, 8, 16, 20, 24, 28] f + 1)) = (if f = 1 then some 1 else if f % 4 ≠ 0 then none else some (pickL amosL (f / 4))) := by
  have : f.toNat < 32 := by omega
  obtain ⟨n, rfl⟩ : ∃ n : Nat, f = (n : Int) := ⟨f.toNat, by omega⟩
  have hn : n < 32 := by omega
  revert h3
  have : ∀ n : Nat, n < 32 → (n : Int) ≠ 3 → (if idxL [1, 0, 4, 12, 8, 16, 20, 24, 28] (n : Int) = -1 then (none : Option Int) else some (idxL [1, 0, 4, 12, 8, 16, 20, 24, 28] (n : Int) + 1)) = (if (n : Int) = 1 then some 1 else if (n : Int) % 4 ≠ 0 then none else some (pickL amosL ((n : Int) / 4))) := by decide +kernel
  exact this n hn
theorem ratm_calls {w : Int} (hw : U32 w) (c : opW w = 47) (W : World) : Calls Tryz.prog 86 #[.int .u32 w, .int .i64 (f3W w), .int .i64 (rdW w), .int .i64 (rs1W w), .int .i64 (rs2W w)] W fun e w' => e = .returned (.tuple #[insV ((decodeL w).getD zeroI), .bool (decodeL w).isSome]) ∧ Below W.heap.size W w' := by
  have hC := rb hw 31 27 (hi' := 31) (lo' := 27) (by decide) (by decide) rfl rfl
  have hd : decodeL w = atomicL w := by unfold decodeL; rw [if_neg (by omega), if_neg (by omega), if_pos c]
  have hb := fl_b w 31 27
  rw [hd]
  by_cases h3 : f3W w ≠ 2 ∧ f3W w ≠ 3
  · have h := ratm W hC (rd := rdW w) (rs1 := rs1W w) (rs2 := rs2W w) (.n (f3 := f3W w) (by simp [h3.1]) (by simp [h3.2]))
    rw [show atomicL w = none by unfold atomicL; rw [if_pos h3]]
    exact h
  have hf : (f3W w = 2 ∧ p2 (f3W w) = 4) ∨ (f3W w = 3 ∧ p2 (f3W w) = 8) := by
    have : f3W w = 2 ∨ f3W w = 3 := by omega
    rcases this with e | e <;> rw [e] <;> decide
  by_cases h5 : fl w 31 27 = 2 ∧ rs2W w = 0
  · rw [show atomicL w = some ⟨15, 0, rdW w, rs1W w, 0, 0, p2 (f3W w), false⟩ by unfold atomicL; rw [if_neg h3, if_pos h5.1, if_pos h5.2, h5.2]]
    rcases hf with ⟨e, e'⟩ | ⟨e, e'⟩ <;> rw [e', e, h5.2]
    · exact ratm W (by rw [h5.1] at hC; exact hC) (.lr2 rfl)
    · exact ratm W (by rw [h5.1] at hC; exact hC) (.lr3 rfl)
  by_cases h6 : fl w 31 27 = 3
  · rw [show atomicL w = some ⟨16, 0, rdW w, rs1W w, rs2W w, 0, p2 (f3W w), false⟩ by unfold atomicL; rw [if_neg h3, if_neg (by omega), if_pos h6]]
    rcases hf with ⟨e, e'⟩ | ⟨e, e'⟩ <;> rw [e', e]
    · exact ratm W (by rw [h6] at hC; exact hC) .sc2
    · exact ratm W (by rw [h6] at hC; exact hC) .sc3
  have h := ratl W hC hf (rd := rdW w) (rs1 := rs1W w) (rs2 := rs2W w) (fun e => bf_ (fun z => h5 ⟨e, z⟩)) (bf_ h6) rfl
  have T := fvT hb.1 hb.2 h6
  have e : atomicL w = (if idxL [1, 0, 4, 12, 8, 16, 20, 24, 28] (fl w 31 27) = -1 then none else some (atmI (rdW w) (rs1W w) (rs2W w) (p2 (f3W w)) (idxL [1, 0, 4, 12, 8, 16, 20, 24, 28] (fl w 31 27)))) := by
    unfold atomicL atmI
    rw [if_neg h3]
    by_cases q2 : fl w 31 27 = 2
    · rw [if_pos q2, if_neg (fun z => h5 ⟨q2, z⟩), q2]; rfl
    rw [if_neg q2, if_neg h6]
    by_cases q1 : fl w 31 27 = 1
    · rw [if_pos q1, q1]; rfl
    rw [if_neg q1] at T ⊢
    by_cases q4 : fl w 31 27 % 4 ≠ 0
    · rw [if_pos q4] at T ⊢
      split at T
      · rename_i z; rw [if_pos z]
      · cases T
    · rw [if_neg q4] at T ⊢
      split at T
      · cases T
      · rename_i z; rw [if_neg z, if_neg z]; injection T with T; rw [T]
  rw [e]
  by_cases z : idxL [1, 0, 4, 12, 8, 16, 20, 24, 28] (fl w 31 27) = -1
  · rw [if_pos z]
    unfold atmI atmB at h
    rw [if_pos z, z] at h
    exact h
  · rw [if_neg z]
    unfold atmB at h
    rw [decide_eq_true z] at h
    exact h

theorem rdec_s {w rd rs1 rs2 sh u j i b s f3 f7 tp : Int} {r : Ins} {ok : Bool} (hD : DB w rd rs1 rs2 sh u j i b s f3 f7 115 tp) (hS : ∀ W, Calls Tryz.prog 85 #[.int .u32 w, .int .i64 f3, .int .i64 f7, .int .i64 rd, .int .i64 rs1, .int .i64 rs2] W fun e w' => e = .returned (.tuple #[insV r, .bool ok]) ∧ Below W.heap.size W w') (W : World) :
    Calls Tryz.prog 52 #[.int .u32 w] W fun e w' => e = .returned (.tuple #[insV r, .bool ok]) ∧ Below W.heap.size W w' := by
  have HB := Aside0.mk (Below.refl W.heap.size W)
  have hu23 := Tryz.underlying23
  unfold insV at hS
  go_enter Tryz.func52, Tryz.ntmps52
  go_wp2_with (first | ((with_reducible refine gate_dst (N := 2) rfl ?_); refine box_event (by rfl) (N := 2) (by rfl) (cs := #[.int .i64 0, .int .i64 0, .int .i64 0, .int .i64 0, .int .i64 0, .int .i64 0, .int .i64 0, .bool false]) (t := 23) (by first | (go_simp; done) | (go_simp; rfl)) ?_; intro gR hg w2 hbox hb; have HR := Aside0.mk hbox; have HB2 := Aside0.mk (below_step HB.out hb); have HLR := Aside0.mk (show W.heap.size ≤ gR by rw [hg]; exact below_size (by repeat (first | (with_reducible first | exact HB.out | apply below_alloc | apply pw_below_drewN | apply below_drew1) | exact HB.out))); clear HB; have HB := HB2; clear HB2 hbox hb hg) | ((with_reducible refine gate_dst (N := 9) rfl ?_); refine box_event (by rfl) (N := 9) (by rfl) (cs := #[.int .i64 0, .int .i64 0, .int .i64 0, .int .i64 0, .int .i64 0, .int .i64 0, .int .i64 0, .bool false]) (t := 23) (by first | (go_simp; done) | (go_simp; rfl)) ?_; intro gS hg w9 hbox hb; have HS := Aside0.mk hbox; have HR2 := Aside0.mk (blk_below (by exact HR.out) hb); have HN := Aside0.mk (show gR ≠ gS by rw [hg]; exact Nat.ne_of_lt (blk_lt (by exact HR.out))); have HLS := Aside0.mk (show W.heap.size ≤ gS by rw [hg]; exact below_size (by repeat (first | (with_reducible first | exact HB.out | apply below_alloc | apply pw_below_drewN | apply below_drew1) | exact HB.out))); have HB2 := Aside0.mk (below_step (by repeat (first | (with_reducible first | exact HB.out | apply below_alloc | apply pw_below_drewN | apply below_drew1) | exact HB.out)) hb); clear HB HR; have HB := HB2; have HR := HR2; clear HB2 HR2 hbox hb hg; obtain ⟨y0, y1, y2, y3, y4, y5, y6, y7, yf0, yf1, yf2, yf3, yf4, yf5, yf6, yf7⟩ := cells8 HS.out) | ((with_reducible refine gate_any rfl ?_); refine setR rfl rfl HS.out rfl rfl (by kernel_rfl) rfl rfl ?_; intro w7 hbox hfar hbel; have HS2 := Aside0.mk hbox; have HR2 := Aside0.mk (far_blk hfar HN.out HR.out); have HB2 := Aside0.mk (hbel _ _ (by repeat (first | (with_reducible first | exact HB.out | apply below_alloc | apply pw_below_drewN | apply below_drew1) | exact HB.out)) HLS.out); clear hbox hfar hbel HS HR HB y0 y1 y2 y3 y4 y5 y6 y7 yf0 yf1 yf2 yf3 yf4 yf5 yf6 yf7; have HS := HS2; have HR := HR2; have HB := HB2; clear HS2 HR2 HB2; obtain ⟨y0, y1, y2, y3, y4, y5, y6, y7, yf0, yf1, yf2, yf3, yf4, yf5, yf6, yf7⟩ := cells8 HS.out) | (go_at_call 79; (first | (with_reducible refine (hD.f3 _).mono ?_) | (with_reducible refine (hD.f7 _).mono ?_) | (with_reducible refine (hD.rd _).mono ?_) | (with_reducible refine (hD.rs1 _).mono ?_) | (with_reducible refine (hD.rs2 _).mono ?_) | (with_reducible refine (hD.op _).mono ?_) | (with_reducible refine (hD.tp _).mono ?_) | (with_reducible refine (hD.sh _).mono ?_)); rintro e w' ⟨rfl, ⟨nd, rfl⟩⟩) | ((with_reducible refine gate_any rfl ?_); refine setF rfl rfl HS.out rfl (by first | (go_simp; done) | (go_simp; rfl)) (by simp) (by kernel_rfl) rfl rfl ?_; intro w7 hbox hfar hbel; simp only [putS] at hbox; have HS2 := Aside0.mk hbox; have HR2 := Aside0.mk (far_blk hfar HN.out HR.out); have HB2 := Aside0.mk (hbel _ _ (by repeat (first | (with_reducible first | exact HB.out | apply below_alloc | apply pw_below_drewN | apply below_drew1) | exact HB.out)) HLS.out); clear hbox hfar hbel HS HR HB y0 y1 y2 y3 y4 y5 y6 y7 yf0 yf1 yf2 yf3 yf4 yf5 yf6 yf7; have HS := HS2; have HR := HR2; have HB := HB2; clear HS2 HR2 HB2; obtain ⟨y0, y1, y2, y3, y4, y5, y6, y7, yf0, yf1, yf2, yf3, yf4, yf5, yf6, yf7⟩ := cells8 HS.out) | (go_at_call 85; (with_reducible refine (hS _).mono ?_); rintro e w' ⟨rfl, hb⟩; have HR2 := Aside0.mk (blk_below (by (with_reducible repeat (first | refine blk_drewN ?_ _ | refine blk_drew ?_ | refine blk_alloc ?_ _)); exact HR.out) hb); have HS2 := Aside0.mk (blk_below (by (with_reducible repeat (first | refine blk_drewN ?_ _ | refine blk_drew ?_ | refine blk_alloc ?_ _)); exact HS.out) hb); have HB2 := Aside0.mk (below_step (by repeat (first | (with_reducible first | exact HB.out | apply below_alloc | apply pw_below_drewN | apply below_drew1) | exact HB.out)) hb); clear hb HS HR HB y0 y1 y2 y3 y4 y5 y6 y7 yf0 yf1 yf2 yf3 yf4 yf5 yf6 yf7; have HS := HS2; have HR := HR2; have HB := HB2; clear HS2 HR2 HB2; obtain ⟨y0, y1, y2, y3, y4, y5, y6, y7, yf0, yf1, yf2, yf3, yf4, yf5, yf6, yf7⟩ := cells8 HS.out) | ((with_reducible refine gate_any rfl ?_); refine setR rfl rfl HR.out rfl rfl (by kernel_rfl) rfl rfl ?_; intro w8 hbox hfar hbel; have HR2 := Aside0.mk hbox; have HS2 := Aside0.mk (far_blk hfar (fun e => HN.out e.symm) HS.out); have HB2 := Aside0.mk (hbel _ _ (by repeat (first | (with_reducible first | exact HB.out | apply below_alloc | apply pw_below_drewN | apply below_drew1) | exact HB.out)) HLR.out); clear hbox hfar hbel HS HR HB y0 y1 y2 y3 y4 y5 y6 y7 yf0 yf1 yf2 yf3 yf4 yf5 yf6 yf7; have HS := HS2; have HR := HR2; have HB := HB2; clear HS2 HR2 HB2; obtain ⟨y0, y1, y2, y3, y4, y5, y6, y7, yf0, yf1, yf2, yf3, yf4, yf5, yf6, yf7⟩ := cells8 HS.out) | fail)
  refine bodyPost_ret (results_ct rfl _ _ gR 23 _ (0, 0) _ rfl HR.out Tryz.underlying23 rfl (by kernel_rfl)) rfl ?_
  exact ⟨rfl, (by repeat (first | (with_reducible first | exact HB.out | apply below_alloc | apply pw_below_drewN | apply below_drew1) | exact HB.out))⟩

theorem rdec_t {w rd rs1 rs2 sh u j i b s f3 f7 tp : Int} {r : Ins} {ok : Bool} (hD : DB w rd rs1 rs2 sh u j i b s f3 f7 47 tp) (hS : ∀ W, Calls Tryz.prog 86 #[.int .u32 w, .int .i64 f3, .int .i64 rd, .int .i64 rs1, .int .i64 rs2] W fun e w' => e = .returned (.tuple #[insV r, .bool ok]) ∧ Below W.heap.size W w') (W : World) :
    Calls Tryz.prog 52 #[.int .u32 w] W fun e w' => e = .returned (.tuple #[insV r, .bool ok]) ∧ Below W.heap.size W w' := by
  have HB := Aside0.mk (Below.refl W.heap.size W)
  have hu23 := Tryz.underlying23
  unfold insV at hS
  go_enter Tryz.func52, Tryz.ntmps52
  go_wp2_with (first | ((with_reducible refine gate_dst (N := 2) rfl ?_); refine box_event (by rfl) (N := 2) (by rfl) (cs := #[.int .i64 0, .int .i64 0, .int .i64 0, .int .i64 0, .int .i64 0, .int .i64 0, .int .i64 0, .bool false]) (t := 23) (by first | (go_simp; done) | (go_simp; rfl)) ?_; intro gR hg w2 hbox hb; have HR := Aside0.mk hbox; have HB2 := Aside0.mk (below_step HB.out hb); have HLR := Aside0.mk (show W.heap.size ≤ gR by rw [hg]; exact below_size (by repeat (first | (with_reducible first | exact HB.out | apply below_alloc | apply pw_below_drewN | apply below_drew1) | exact HB.out))); clear HB; have HB := HB2; clear HB2 hbox hb hg) | ((with_reducible refine gate_dst (N := 9) rfl ?_); refine box_event (by rfl) (N := 9) (by rfl) (cs := #[.int .i64 0, .int .i64 0, .int .i64 0, .int .i64 0, .int .i64 0, .int .i64 0, .int .i64 0, .bool false]) (t := 23) (by first | (go_simp; done) | (go_simp; rfl)) ?_; intro gS hg w9 hbox hb; have HS := Aside0.mk hbox; have HR2 := Aside0.mk (blk_below (by exact HR.out) hb); have HN := Aside0.mk (show gR ≠ gS by rw [hg]; exact Nat.ne_of_lt (blk_lt (by exact HR.out))); have HLS := Aside0.mk (show W.heap.size ≤ gS by rw [hg]; exact below_size (by repeat (first | (with_reducible first | exact HB.out | apply below_alloc | apply pw_below_drewN | apply below_drew1) | exact HB.out))); have HB2 := Aside0.mk (below_step (by repeat (first | (with_reducible first | exact HB.out | apply below_alloc | apply pw_below_drewN | apply below_drew1) | exact HB.out)) hb); clear HB HR; have HB := HB2; have HR := HR2; clear HB2 HR2 hbox hb hg; obtain ⟨y0, y1, y2, y3, y4, y5, y6, y7, yf0, yf1, yf2, yf3, yf4, yf5, yf6, yf7⟩ := cells8 HS.out) | ((with_reducible refine gate_any rfl ?_); refine setR rfl rfl HS.out rfl rfl (by kernel_rfl) rfl rfl ?_; intro w7 hbox hfar hbel; have HS2 := Aside0.mk hbox; have HR2 := Aside0.mk (far_blk hfar HN.out HR.out); have HB2 := Aside0.mk (hbel _ _ (by repeat (first | (with_reducible first | exact HB.out | apply below_alloc | apply pw_below_drewN | apply below_drew1) | exact HB.out)) HLS.out); clear hbox hfar hbel HS HR HB y0 y1 y2 y3 y4 y5 y6 y7 yf0 yf1 yf2 yf3 yf4 yf5 yf6 yf7; have HS := HS2; have HR := HR2; have HB := HB2; clear HS2 HR2 HB2; obtain ⟨y0, y1, y2, y3, y4, y5, y6, y7, yf0, yf1, yf2, yf3, yf4, yf5, yf6, yf7⟩ := cells8 HS.out) | (go_at_call 79; (first | (with_reducible refine (hD.f3 _).mono ?_) | (with_reducible refine (hD.f7 _).mono ?_) | (with_reducible refine (hD.rd _).mono ?_) | (with_reducible refine (hD.rs1 _).mono ?_) | (with_reducible refine (hD.rs2 _).mono ?_) | (with_reducible refine (hD.op _).mono ?_) | (with_reducible refine (hD.tp _).mono ?_) | (with_reducible refine (hD.sh _).mono ?_)); rintro e w' ⟨rfl, ⟨nd, rfl⟩⟩) | ((with_reducible refine gate_any rfl ?_); refine setF rfl rfl HS.out rfl (by first | (go_simp; done) | (go_simp; rfl)) (by simp) (by kernel_rfl) rfl rfl ?_; intro w7 hbox hfar hbel; simp only [putS] at hbox; have HS2 := Aside0.mk hbox; have HR2 := Aside0.mk (far_blk hfar HN.out HR.out); have HB2 := Aside0.mk (hbel _ _ (by repeat (first | (with_reducible first | exact HB.out | apply below_alloc | apply pw_below_drewN | apply below_drew1) | exact HB.out)) HLS.out); clear hbox hfar hbel HS HR HB y0 y1 y2 y3 y4 y5 y6 y7 yf0 yf1 yf2 yf3 yf4 yf5 yf6 yf7; have HS := HS2; have HR := HR2; have HB := HB2; clear HS2 HR2 HB2; obtain ⟨y0, y1, y2, y3, y4, y5, y6, y7, yf0, yf1, yf2, yf3, yf4, yf5, yf6, yf7⟩ := cells8 HS.out) | (go_at_call 86; (with_reducible refine (hS _).mono ?_); rintro e w' ⟨rfl, hb⟩; have HR2 := Aside0.mk (blk_below (by (with_reducible repeat (first | refine blk_drewN ?_ _ | refine blk_drew ?_ | refine blk_alloc ?_ _)); exact HR.out) hb); have HS2 := Aside0.mk (blk_below (by (with_reducible repeat (first | refine blk_drewN ?_ _ | refine blk_drew ?_ | refine blk_alloc ?_ _)); exact HS.out) hb); have HB2 := Aside0.mk (below_step (by repeat (first | (with_reducible first | exact HB.out | apply below_alloc | apply pw_below_drewN | apply below_drew1) | exact HB.out)) hb); clear hb HS HR HB y0 y1 y2 y3 y4 y5 y6 y7 yf0 yf1 yf2 yf3 yf4 yf5 yf6 yf7; have HS := HS2; have HR := HR2; have HB := HB2; clear HS2 HR2 HB2; obtain ⟨y0, y1, y2, y3, y4, y5, y6, y7, yf0, yf1, yf2, yf3, yf4, yf5, yf6, yf7⟩ := cells8 HS.out) | ((with_reducible refine gate_any rfl ?_); refine setR rfl rfl HR.out rfl rfl (by kernel_rfl) rfl rfl ?_; intro w8 hbox hfar hbel; have HR2 := Aside0.mk hbox; have HS2 := Aside0.mk (far_blk hfar (fun e => HN.out e.symm) HS.out); have HB2 := Aside0.mk (hbel _ _ (by repeat (first | (with_reducible first | exact HB.out | apply below_alloc | apply pw_below_drewN | apply below_drew1) | exact HB.out)) HLR.out); clear hbox hfar hbel HS HR HB y0 y1 y2 y3 y4 y5 y6 y7 yf0 yf1 yf2 yf3 yf4 yf5 yf6 yf7; have HS := HS2; have HR := HR2; have HB := HB2; clear HS2 HR2 HB2; obtain ⟨y0, y1, y2, y3, y4, y5, y6, y7, yf0, yf1, yf2, yf3, yf4, yf5, yf6, yf7⟩ := cells8 HS.out) | fail)
  refine bodyPost_ret (results_ct rfl _ _ gR 23 _ (0, 0) _ rfl HR.out Tryz.underlying23 rfl (by kernel_rfl)) rfl ?_
  exact ⟨rfl, (by repeat (first | (with_reducible first | exact HB.out | apply below_alloc | apply pw_below_drewN | apply below_drew1) | exact HB.out))⟩

theorem rdec_calls {w : Int} (hw : U32 w) : DecR 52 w := by
  by_cases c : opW w = 115
  · have hD := db_of hw
    rw [c] at hD
    exact rdec_s hD (rsys_calls hw c)
  by_cases d : opW w = 47
  · have hD := db_of hw
    rw [d] at hD
    exact rdec_t hD (ratm_calls hw d)
  exact rdec_plain hw c d

end Go.Proofs.YtjapahcbhjjeiaaGreatDoor.AS
