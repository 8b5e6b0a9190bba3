/- Several texts in one. -/
import Derived.Test.YtjapahcbhjjeiaaGreatDoorF1
import Derived.Test.YtjapahcbhjjeiaaGreatDoorG2
import Derived.Test.YtjapahcbhjjeiaaGreatDoorG3
/- The walk of inst.system. -/
namespace Go.Proofs.YtjapahcbhjjeiaaGreatDoor.AS
open Go.RowKit Go.Proofs.YtjapahcbhjjeiaaGreatDoorW.PrintWords Go.Proofs.YtjapahcbhjjeiaaGreatDoorW.PrintLast Go.Proofs.YtjapahcbhjjeiaaGreatDoorW.PrintMore Go.Proofs.YtjapahcbhjjeiaaGreatDoor.PA
set_option linter.unusedVariables false
set_option maxHeartbeats 4000000
set_option maxRecDepth 100000
set_option linter.unusedSimpArgs false

theorem system_11 (W : World) : Calls Tryz.prog 97 #[.int .u32 115] W fun e w' => e = .returned (.tuple #[.agg #[.int .i64 11, .int .i64 0, .int .i64 0, .int .i64 0, .int .i64 0, .int .i64 0, .int .i64 0, .bool false], .bool true]) ∧ Below W.heap.size W w' := by
  have HB := Aside0.mk (Below.refl W.heap.size W)
  have hu23 := Tryz.underlying23
  go_enter Tryz.func97, Tryz.ntmps97
  go_wp2_with (first | ((with_reducible refine gate_dst (N := 2) rfl ?_); refine box_event (by rfl) (N := 2) (by rfl) (cs := #[.int .i64 0, .int .i64 0, .int .i64 0, .int .i64 0, .int .i64 0, .int .i64 0, .int .i64 0, .bool false]) (t := 23) (by first | (go_simp; done) | (go_simp; rfl)) ?_; intro g4 hg w4 hbox hb; have H4 := Aside0.mk hbox; have HB' := Aside0.mk (below_step HB.out hb); have HL4 := Aside0.mk (show W.heap.size ≤ g4 by omega); clear HB; have HB := HB'; clear HB'; clear hbox hb hg) | ((with_reducible refine gate_store (t := 23) rfl ?_); refine store_event rfl 23 (.tmp 2) (.tmp 8) rfl (g := g4) #[.int .i64 11, .int .i64 0, .int .i64 0, .int .i64 0, .int .i64 0, .int .i64 0, .int .i64 0, .bool false] H4.out rfl rfl (by kernel_rfl) rfl rfl ?_; intro w5 hbox hfar hbel; have H4' := Aside0.mk hbox; have HB' := Aside0.mk (hbel _ _ (by repeat (first | (with_reducible first | exact HB.out | apply below_alloc | apply pw_below_drewN | apply below_drew1) | exact HB.out)) HL4.out); clear hbox hfar hbel H4 HB; have H4 := H4'; have HB := HB'; clear H4' HB') | fail)
  refine bodyPost_ret (results_ct rfl _ _ g4 23 #[.int .i64 11, .int .i64 0, .int .i64 0, .int .i64 0, .int .i64 0, .int .i64 0, .int .i64 0, .bool false] (0, 0) _ rfl H4.out Tryz.underlying23 rfl (by kernel_rfl)) rfl ?_
  exact ⟨rfl, HB.out⟩

theorem system_12 (W : World) : Calls Tryz.prog 97 #[.int .u32 1048691] W fun e w' => e = .returned (.tuple #[.agg #[.int .i64 12, .int .i64 0, .int .i64 0, .int .i64 0, .int .i64 0, .int .i64 0, .int .i64 0, .bool false], .bool true]) ∧ Below W.heap.size W w' := by
  have HB := Aside0.mk (Below.refl W.heap.size W)
  have hu23 := Tryz.underlying23
  go_enter Tryz.func97, Tryz.ntmps97
  go_wp2_with (first | ((with_reducible refine gate_dst (N := 2) rfl ?_); refine box_event (by rfl) (N := 2) (by rfl) (cs := #[.int .i64 0, .int .i64 0, .int .i64 0, .int .i64 0, .int .i64 0, .int .i64 0, .int .i64 0, .bool false]) (t := 23) (by first | (go_simp; done) | (go_simp; rfl)) ?_; intro g4 hg w4 hbox hb; have H4 := Aside0.mk hbox; have HB' := Aside0.mk (below_step HB.out hb); have HL4 := Aside0.mk (show W.heap.size ≤ g4 by omega); clear HB; have HB := HB'; clear HB'; clear hbox hb hg) | ((with_reducible refine gate_store (t := 23) rfl ?_); refine store_event rfl 23 (.tmp 2) (.tmp 12) rfl (g := g4) #[.int .i64 12, .int .i64 0, .int .i64 0, .int .i64 0, .int .i64 0, .int .i64 0, .int .i64 0, .bool false] H4.out rfl rfl (by kernel_rfl) rfl rfl ?_; intro w5 hbox hfar hbel; have H4' := Aside0.mk hbox; have HB' := Aside0.mk (hbel _ _ (by repeat (first | (with_reducible first | exact HB.out | apply below_alloc | apply pw_below_drewN | apply below_drew1) | exact HB.out)) HL4.out); clear hbox hfar hbel H4 HB; have H4 := H4'; have HB := HB'; clear H4' HB') | fail)
  refine bodyPost_ret (results_ct rfl _ _ g4 23 #[.int .i64 12, .int .i64 0, .int .i64 0, .int .i64 0, .int .i64 0, .int .i64 0, .int .i64 0, .bool false] (0, 0) _ rfl H4.out Tryz.underlying23 rfl (by kernel_rfl)) rfl ?_
  exact ⟨rfl, HB.out⟩

theorem system_18 (W : World) : Calls Tryz.prog 97 #[.int .u32 270532723] W fun e w' => e = .returned (.tuple #[.agg #[.int .i64 18, .int .i64 0, .int .i64 0, .int .i64 0, .int .i64 0, .int .i64 0, .int .i64 0, .bool false], .bool true]) ∧ Below W.heap.size W w' := by
  have HB := Aside0.mk (Below.refl W.heap.size W)
  have hu23 := Tryz.underlying23
  go_enter Tryz.func97, Tryz.ntmps97
  go_wp2_with (first | ((with_reducible refine gate_dst (N := 2) rfl ?_); refine box_event (by rfl) (N := 2) (by rfl) (cs := #[.int .i64 0, .int .i64 0, .int .i64 0, .int .i64 0, .int .i64 0, .int .i64 0, .int .i64 0, .bool false]) (t := 23) (by first | (go_simp; done) | (go_simp; rfl)) ?_; intro g4 hg w4 hbox hb; have H4 := Aside0.mk hbox; have HB' := Aside0.mk (below_step HB.out hb); have HL4 := Aside0.mk (show W.heap.size ≤ g4 by omega); clear HB; have HB := HB'; clear HB'; clear hbox hb hg) | ((with_reducible refine gate_store (t := 23) rfl ?_); refine store_event rfl 23 (.tmp 2) (.tmp 16) rfl (g := g4) #[.int .i64 18, .int .i64 0, .int .i64 0, .int .i64 0, .int .i64 0, .int .i64 0, .int .i64 0, .bool false] H4.out rfl rfl (by kernel_rfl) rfl rfl ?_; intro w5 hbox hfar hbel; have H4' := Aside0.mk hbox; have HB' := Aside0.mk (hbel _ _ (by repeat (first | (with_reducible first | exact HB.out | apply below_alloc | apply pw_below_drewN | apply below_drew1) | exact HB.out)) HL4.out); clear hbox hfar hbel H4 HB; have H4 := H4'; have HB := HB'; clear H4' HB') | fail)
  refine bodyPost_ret (results_ct rfl _ _ g4 23 #[.int .i64 18, .int .i64 0, .int .i64 0, .int .i64 0, .int .i64 0, .int .i64 0, .int .i64 0, .bool false] (0, 0) _ rfl H4.out Tryz.underlying23 rfl (by kernel_rfl)) rfl ?_
  exact ⟨rfl, HB.out⟩

theorem system_19 (W : World) : Calls Tryz.prog 97 #[.int .u32 273678451] W fun e w' => e = .returned (.tuple #[.agg #[.int .i64 19, .int .i64 0, .int .i64 0, .int .i64 0, .int .i64 0, .int .i64 0, .int .i64 0, .bool false], .bool true]) ∧ Below W.heap.size W w' := by
  have HB := Aside0.mk (Below.refl W.heap.size W)
  have hu23 := Tryz.underlying23
  go_enter Tryz.func97, Tryz.ntmps97
  go_wp2_with (first | ((with_reducible refine gate_dst (N := 2) rfl ?_); refine box_event (by rfl) (N := 2) (by rfl) (cs := #[.int .i64 0, .int .i64 0, .int .i64 0, .int .i64 0, .int .i64 0, .int .i64 0, .int .i64 0, .bool false]) (t := 23) (by first | (go_simp; done) | (go_simp; rfl)) ?_; intro g4 hg w4 hbox hb; have H4 := Aside0.mk hbox; have HB' := Aside0.mk (below_step HB.out hb); have HL4 := Aside0.mk (show W.heap.size ≤ g4 by omega); clear HB; have HB := HB'; clear HB'; clear hbox hb hg) | ((with_reducible refine gate_store (t := 23) rfl ?_); refine store_event rfl 23 (.tmp 2) (.tmp 20) rfl (g := g4) #[.int .i64 19, .int .i64 0, .int .i64 0, .int .i64 0, .int .i64 0, .int .i64 0, .int .i64 0, .bool false] H4.out rfl rfl (by kernel_rfl) rfl rfl ?_; intro w5 hbox hfar hbel; have H4' := Aside0.mk hbox; have HB' := Aside0.mk (hbel _ _ (by repeat (first | (with_reducible first | exact HB.out | apply below_alloc | apply pw_below_drewN | apply below_drew1) | exact HB.out)) HL4.out); clear hbox hfar hbel H4 HB; have H4 := H4'; have HB := HB'; clear H4' HB') | fail)
  refine bodyPost_ret (results_ct rfl _ _ g4 23 #[.int .i64 19, .int .i64 0, .int .i64 0, .int .i64 0, .int .i64 0, .int .i64 0, .int .i64 0, .bool false] (0, 0) _ rfl H4.out Tryz.underlying23 rfl (by kernel_rfl)) rfl ?_
  exact ⟨rfl, HB.out⟩

theorem system_sf9 (W : World) {w : Int} (w0 : 0 ≤ w) (w1 : w < 4294967296) (n1 : (w == 115) = false) (n2 : (w == 1048691) = false) (n3 : (w == 270532723) = false) (n4 : (w == 273678451) = false) {f7 : Int} (h3 : f3W w = 0) (h7 : f7W w = f7) (h9 : f7 = 9) : Calls Tryz.prog 97 #[.int .u32 w] W fun e w' => e = .returned (.tuple #[.agg #[.int .i64 20, .int .i64 0, .int .i64 0, .int .i64 (rs1W w), .int .i64 (rs2W w), .int .i64 0, .int .i64 0, .bool false], .bool (rdW w == 0)]) ∧ Below W.heap.size W w' := by
  have HB := Aside0.mk (Below.refl W.heap.size W)
  have hu23 := Tryz.underlying23
  have F3 : ∀ W, Calls Tryz.prog 96 #[.int .u32 w] W fun e w' => e = .returned (.int .i64 0) ∧ Drawn0 W w' := fun W => by rw [← h3]; exact f3_calls W w0 w1
  have F7 : ∀ W, Calls Tryz.prog 129 #[.int .u32 w] W fun e w' => e = .returned (.int .i64 f7) ∧ Drawn0 W w' := fun W => by rw [← h7]; exact f7_calls W w0 w1
  have R1 : ∀ W, Calls Tryz.prog 101 #[.int .u32 w] W fun e w' => e = .returned (.int .i64 (rs1W w)) ∧ Drawn0 W w' := fun W => rs1_calls W w0 w1
  have R2 : ∀ W, Calls Tryz.prog 102 #[.int .u32 w] W fun e w' => e = .returned (.int .i64 (rs2W w)) ∧ Drawn0 W w' := fun W => rs2_calls W w0 w1
  have RD : ∀ W, Calls Tryz.prog 100 #[.int .u32 w] W fun e w' => e = .returned (.int .i64 (rdW w)) ∧ Drawn0 W w' := fun W => rd_calls W w0 w1
  clear w0 w1 h3 h7
  subst h9
  go_enter Tryz.func97, Tryz.ntmps97
  go_wp2_with (first | ((with_reducible refine gate_dst (N := 2) rfl ?_); refine box_event (by rfl) (N := 2) (by rfl) (cs := #[.int .i64 0, .int .i64 0, .int .i64 0, .int .i64 0, .int .i64 0, .int .i64 0, .int .i64 0, .bool false]) (t := 23) (by first | (go_simp; done) | (go_simp; rfl)) ?_; intro g4 hg w4 hbox hb; have H4 := Aside0.mk hbox; have HB' := Aside0.mk (below_step HB.out hb); have HL4 := Aside0.mk (show W.heap.size ≤ g4 by omega); clear HB; have HB := HB'; clear HB'; clear hbox hb hg) | fail)
  refine (F3 _).mono ?_
  rintro e w' ⟨rfl, ⟨nd, rfl⟩⟩
  go_wp2_with fail
  refine (R1 _).mono ?_
  rintro e w' ⟨rfl, ⟨nd, rfl⟩⟩
  go_wp2_with fail
  refine (R2 _).mono ?_
  rintro e w' ⟨rfl, ⟨nd, rfl⟩⟩
  go_wp2_with fail
  refine (F7 _).mono ?_
  rintro e w' ⟨rfl, ⟨nd, rfl⟩⟩
  go_wp2_with fail
  refine (RD _).mono ?_
  rintro e w' ⟨rfl, ⟨nd, rfl⟩⟩
  go_wp2_with (first | ((with_reducible refine gate_store (t := 23) rfl ?_); refine store_event rfl 23 (.tmp 2) (.tmp 29) rfl (g := g4) #[.int .i64 20, .int .i64 0, .int .i64 0, .int .i64 (rs1W w), .int .i64 (rs2W w), .int .i64 0, .int .i64 0, .bool false] H4.out rfl rfl (by kernel_rfl) rfl rfl ?_; intro w5 hbox hfar hbel; have H4' := Aside0.mk hbox; have HB' := Aside0.mk (hbel _ _ (by repeat (first | (with_reducible first | exact HB.out | apply below_alloc | apply pw_below_drewN | apply below_drew1) | exact HB.out)) HL4.out); clear hbox hfar hbel H4 HB; have H4 := H4'; have HB := HB'; clear H4' HB') | fail)
  refine bodyPost_ret (results_ct rfl _ _ g4 23 #[.int .i64 20, .int .i64 0, .int .i64 0, .int .i64 (rs1W w), .int .i64 (rs2W w), .int .i64 0, .int .i64 0, .bool false] (0, 0) _ rfl H4.out Tryz.underlying23 rfl (by kernel_rfl)) rfl ?_
  exact ⟨rfl, HB.out⟩

theorem system_sfn (W : World) {w : Int} (w0 : 0 ≤ w) (w1 : w < 4294967296) (n1 : (w == 115) = false) (n2 : (w == 1048691) = false) (n3 : (w == 270532723) = false) (n4 : (w == 273678451) = false) {f7 : Int} (h3 : f3W w = 0) (h7 : f7W w = f7) (h9 : (f7 == 9) = false) : Calls Tryz.prog 97 #[.int .u32 w] W fun e w' => e = .returned (.tuple #[.agg #[.int .i64 20, .int .i64 0, .int .i64 0, .int .i64 (rs1W w), .int .i64 (rs2W w), .int .i64 0, .int .i64 0, .bool false], .bool false]) ∧ Below W.heap.size W w' := by
  have HB := Aside0.mk (Below.refl W.heap.size W)
  have hu23 := Tryz.underlying23
  have F3 : ∀ W, Calls Tryz.prog 96 #[.int .u32 w] W fun e w' => e = .returned (.int .i64 0) ∧ Drawn0 W w' := fun W => by rw [← h3]; exact f3_calls W w0 w1
  have F7 : ∀ W, Calls Tryz.prog 129 #[.int .u32 w] W fun e w' => e = .returned (.int .i64 f7) ∧ Drawn0 W w' := fun W => by rw [← h7]; exact f7_calls W w0 w1
  have R1 : ∀ W, Calls Tryz.prog 101 #[.int .u32 w] W fun e w' => e = .returned (.int .i64 (rs1W w)) ∧ Drawn0 W w' := fun W => rs1_calls W w0 w1
  have R2 : ∀ W, Calls Tryz.prog 102 #[.int .u32 w] W fun e w' => e = .returned (.int .i64 (rs2W w)) ∧ Drawn0 W w' := fun W => rs2_calls W w0 w1
  have RD : ∀ W, Calls Tryz.prog 100 #[.int .u32 w] W fun e w' => e = .returned (.int .i64 (rdW w)) ∧ Drawn0 W w' := fun W => rd_calls W w0 w1
  clear w0 w1 h3 h7
  go_enter Tryz.func97, Tryz.ntmps97
  go_wp2_with (first | ((with_reducible refine gate_dst (N := 2) rfl ?_); refine box_event (by rfl) (N := 2) (by rfl) (cs := #[.int .i64 0, .int .i64 0, .int .i64 0, .int .i64 0, .int .i64 0, .int .i64 0, .int .i64 0, .bool false]) (t := 23) (by first | (go_simp; done) | (go_simp; rfl)) ?_; intro g4 hg w4 hbox hb; have H4 := Aside0.mk hbox; have HB' := Aside0.mk (below_step HB.out hb); have HL4 := Aside0.mk (show W.heap.size ≤ g4 by omega); clear HB; have HB := HB'; clear HB'; clear hbox hb hg) | fail)
  refine (F3 _).mono ?_
  rintro e w' ⟨rfl, ⟨nd, rfl⟩⟩
  go_wp2_with fail
  refine (R1 _).mono ?_
  rintro e w' ⟨rfl, ⟨nd, rfl⟩⟩
  go_wp2_with fail
  refine (R2 _).mono ?_
  rintro e w' ⟨rfl, ⟨nd, rfl⟩⟩
  go_wp2_with fail
  refine (F7 _).mono ?_
  rintro e w' ⟨rfl, ⟨nd, rfl⟩⟩
  go_wp2_with (first | ((with_reducible refine gate_store (t := 23) rfl ?_); refine store_event rfl 23 (.tmp 2) (.tmp 29) rfl (g := g4) #[.int .i64 20, .int .i64 0, .int .i64 0, .int .i64 (rs1W w), .int .i64 (rs2W w), .int .i64 0, .int .i64 0, .bool false] H4.out rfl rfl (by kernel_rfl) rfl rfl ?_; intro w5 hbox hfar hbel; have H4' := Aside0.mk hbox; have HB' := Aside0.mk (hbel _ _ (by repeat (first | (with_reducible first | exact HB.out | apply below_alloc | apply pw_below_drewN | apply below_drew1) | exact HB.out)) HL4.out); clear hbox hfar hbel H4 HB; have H4 := H4'; have HB := HB'; clear H4' HB') | fail)
  refine bodyPost_ret (results_ct rfl _ _ g4 23 #[.int .i64 20, .int .i64 0, .int .i64 0, .int .i64 (rs1W w), .int .i64 (rs2W w), .int .i64 0, .int .i64 0, .bool false] (0, 0) _ rfl H4.out Tryz.underlying23 rfl (by kernel_rfl)) rfl ?_
  exact ⟨rfl, HB.out⟩

theorem system_csri (W : World) {w : Int} (w0 : 0 ≤ w) (w1 : w < 4294967296) (n1 : (w == 115) = false) (n2 : (w == 1048691) = false) (n3 : (w == 270532723) = false) (n4 : (w == 273678451) = false) {f3 : Int} (h3 : f3W w = f3) (hz : (f3 == 0) = false) (hg : decide (3 < f3) = true) : Calls Tryz.prog 97 #[.int .u32 w] W fun e w' => e = .returned (.tuple #[.agg #[.int .i64 14, .int .i64 (f3 % 4), .int .i64 (rdW w), .int .i64 (rs1W w), .int .i64 0, .int .i64 (fl w 31 20), .int .i64 0, .bool false], .bool (f3 % 4 != 0)]) ∧ Below W.heap.size W w' := by
  have HB := Aside0.mk (Below.refl W.heap.size W)
  have hu23 := Tryz.underlying23
  have F3 : ∀ W, Calls Tryz.prog 96 #[.int .u32 w] W fun e w' => e = .returned (.int .i64 f3) ∧ Drawn0 W w' := fun W => by rw [← h3]; exact f3_calls W w0 w1
  have hb : 0 ≤ f3 ∧ f3 < 8 := by rw [← h3]; exact f3W_b w
  have ha : Go.bits .and .i64 f3 3 = f3 % 4 := and_i64 f3 2 (by omega) (by omega) (by omega)
  have R1 : ∀ W, Calls Tryz.prog 101 #[.int .u32 w] W fun e w' => e = .returned (.int .i64 (rs1W w)) ∧ Drawn0 W w' := fun W => rs1_calls W w0 w1
  have RD : ∀ W, Calls Tryz.prog 100 #[.int .u32 w] W fun e w' => e = .returned (.int .i64 (rdW w)) ∧ Drawn0 W w' := fun W => rd_calls W w0 w1
  have BI : ∀ W, Calls Tryz.prog 131 #[.int .u32 w, .int .i64 31, .int .i64 20] W fun e w' => e = .returned (.int .i64 (fl w 31 20)) ∧ Drawn0 W w' := fun W => bits_lit 31 20 W w0 w1 (by decide) (by decide) rfl rfl
  have hg2 : (3 < f3 : Prop) := by simpa using hg
  rw [← ha]
  clear ha w0 w1 h3 hb
  go_enter Tryz.func97, Tryz.ntmps97
  go_wp2_with (first | ((with_reducible refine gate_dst (N := 2) rfl ?_); refine box_event (by rfl) (N := 2) (by rfl) (cs := #[.int .i64 0, .int .i64 0, .int .i64 0, .int .i64 0, .int .i64 0, .int .i64 0, .int .i64 0, .bool false]) (t := 23) (by first | (go_simp; done) | (go_simp; rfl)) ?_; intro g4 hg w4 hbox hb; have H4 := Aside0.mk hbox; have HB' := Aside0.mk (below_step HB.out hb); have HL4 := Aside0.mk (show W.heap.size ≤ g4 by omega); clear HB; have HB := HB'; clear HB'; clear hbox hb hg) | fail)
  refine (F3 _).mono ?_
  rintro e w' ⟨rfl, ⟨nd, rfl⟩⟩
  go_wp2_with fail
  refine (F3 _).mono ?_
  rintro e w' ⟨rfl, ⟨nd, rfl⟩⟩
  go_wp2_with fail
  refine (RD _).mono ?_
  rintro e w' ⟨rfl, ⟨nd, rfl⟩⟩
  go_wp2_with fail
  refine (R1 _).mono ?_
  rintro e w' ⟨rfl, ⟨nd, rfl⟩⟩
  go_wp2_with fail
  refine (BI _).mono ?_
  rintro e w' ⟨rfl, ⟨nd, rfl⟩⟩
  go_wp2_with (first | ((with_reducible refine gate_dst (N := 4) rfl ?_); refine box_event (by rfl) (N := 4) (by rfl) (cs := #[.int .i64 0, .int .i64 0, .int .i64 0, .int .i64 0, .int .i64 0, .int .i64 0, .int .i64 0, .bool false]) (t := 23) (by first | (go_simp; done) | (go_simp; rfl)) ?_; intro g3 hg w5 hbox hb; have H3 := Aside0.mk hbox; have H4' := Aside0.mk (blk_below (by (with_reducible repeat (first | refine blk_drewN ?_ _ | refine blk_drew ?_ | refine blk_alloc ?_ _)); exact H4.out) hb); have HL3 := Aside0.mk (show W.heap.size ≤ g3 by have h1 := HB.out.size; simp at hg; omega); have HN := Aside0.mk (show g3 ≠ g4 by have h1 := blk_lt H4.out; simp at hg; omega); have HB' := Aside0.mk (below_step (by repeat (first | (with_reducible first | exact HB.out | apply below_alloc | apply pw_below_drewN | apply below_drew1) | exact HB.out)) hb); clear HB H4; have HB := HB'; have H4 := H4'; clear HB' H4'; clear hbox hb hg) | ((with_reducible refine gate_store (t := 23) rfl ?_); refine store_event rfl 23 (.tmp 4) (.tmp 47) rfl (g := g3) #[.int .i64 13, .int .i64 (Go.bits .and .i64 f3 3), .int .i64 (rdW w), .int .i64 (rs1W w), .int .i64 0, .int .i64 (fl w 31 20), .int .i64 0, .bool false] H3.out rfl rfl (by kernel_rfl) rfl rfl ?_; intro w6 hbox hfar hbel; have H3' := Aside0.mk hbox; have H4' := Aside0.mk (far_blk hfar (fun e => HN.out e.symm) H4.out); have HB' := Aside0.mk (hbel _ _ (by repeat (first | (with_reducible first | exact HB.out | apply below_alloc | apply pw_below_drewN | apply below_drew1) | exact HB.out)) HL3.out); clear hbox hfar hbel H4 H3 HB; have H3 := H3'; have H4 := H4'; have HB := HB'; clear H3' H4' HB'; obtain ⟨y0, y1, y2, y3, y4, y5, y6, y7, yf0, yf1, yf2, yf3, yf4, yf5, yf6, yf7⟩ := cells8 H3.out) | fail)
  refine (F3 _).mono ?_
  rintro e w' ⟨rfl, ⟨nd, rfl⟩⟩
  go_upto_region 14 with (first | ((with_reducible refine gate_store (t := 3) rfl ?_); refine set_event rfl 3 _ _ rfl (g := g3) 0 (.int .i64 14) #[.int .i64 14, .int .i64 (Go.bits .and .i64 f3 3), .int .i64 (rdW w), .int .i64 (rs1W w), .int .i64 0, .int .i64 (fl w 31 20), .int .i64 0, .bool false] H3.out (by simp) rfl rfl (by kernel_rfl) rfl rfl rfl ?_; intro w7 hbox hfar hbel; have H3' := Aside0.mk hbox; have H4' := Aside0.mk (far_blk hfar (fun e => HN.out e.symm) H4.out); have HB' := Aside0.mk (hbel _ _ (by repeat (first | (with_reducible first | exact HB.out | apply below_alloc | apply pw_below_drewN | apply below_drew1) | exact HB.out)) HL3.out); clear hbox hfar hbel H3 H4 HB y0 y1 y2 y3 y4 y5 y6 y7 yf0 yf1 yf2 yf3 yf4 yf5 yf6 yf7; have H3 := H3'; have H4 := H4'; have HB := HB'; clear H3' H4' HB'; obtain ⟨y0, y1, y2, y3, y4, y5, y6, y7, yf0, yf1, yf2, yf3, yf4, yf5, yf6, yf7⟩ := cells8 H3.out) | fail)
  refine start_ (n := 6) (S := fun w' => w'.cell? ⟨g3, 0, none⟩ = some (.int .i64 14) ∧ w'.cell? ⟨g3, 1, none⟩ = some (.int .i64 (Go.bits .and .i64 f3 3)) ∧ w'.cell? ⟨g3, 2, none⟩ = some (.int .i64 (rdW w)) ∧ w'.cell? ⟨g3, 3, none⟩ = some (.int .i64 (rs1W w)) ∧ w'.cell? ⟨g3, 4, none⟩ = some (.int .i64 0) ∧ w'.cell? ⟨g3, 5, none⟩ = some (.int .i64 (fl w 31 20)) ∧ w'.cell? ⟨g3, 6, none⟩ = some (.int .i64 0) ∧ w'.cell? ⟨g3, 7, none⟩ = some (.bool false)) (ds := []) #[false, false, false, false, false, false] (by kernel_rfl) rfl rfl (cells8a H3.out) (fun hHeld => ?_)
  refine pure_ (i := 1) (N := some 53) (v := ?_) (a' := ?_) #[false, true, false, false, false, false] rfl rfl (by kernel_rfl) (fun _ _ _ h => h) (Or.inl ⟨by rfl, ?_⟩) ?_ ?_
  rotate_left
  · intro w'
    go_simp
    with_reducible rfl
  rotate_left
  · simp only [Act.put, putS]
    rfl
  refine take_ (i := 0) (N := some 52) (v := ?_) (a' := ?_) #[true, true, false, false, false, false] rfl rfl (by kernel_rfl) (fun _ _ _ h => h) (Or.inl ⟨by rfl, ?_⟩) hHeld ?_ ?_
  rotate_left
  · rintro w' ⟨s0, s1, s2, s3, s4, s5, s6, s7⟩
    go_simp
    with_reducible rfl
  rotate_left
  · simp only [Act.put, putS]
    rfl
  refine take_ (i := 2) (N := some 54) (v := ?_) (a' := ?_) #[true, true, true, false, false, false] rfl rfl (by kernel_rfl) (fun _ _ _ h => h) (Or.inl ⟨by rfl, ?_⟩) hHeld ?_ ?_
  rotate_left
  · rintro w' ⟨s0, s1, s2, s3, s4, s5, s6, s7⟩
    go_simp
    with_reducible rfl
  rotate_left
  · simp only [Act.put, putS]
    rfl
  refine pure_ (i := 3) (N := some 55) (v := ?_) (a' := ?_) #[true, true, true, true, false, false] rfl rfl (by kernel_rfl) (fun _ _ _ h => h) (Or.inl ⟨by rfl, ?_⟩) ?_ ?_
  rotate_left
  · intro w'
    go_simp
    with_reducible rfl
  rotate_left
  · simp only [Act.put, putS]
    rfl
  refine one_ (i := 4) (N := none) #[true, true, true, true, true, false] rfl rfl (by kernel_rfl) (by decide) (fun K hK => ?_)
  refine skip_ (by rfl) rfl (run_store_row 23 (.tmp 2) (.tmp 52) rfl #[.int .i64 14, .int .i64 (Go.bits .and .i64 f3 3), .int .i64 (rdW w), .int .i64 (rs1W w), .int .i64 0, .int .i64 (fl w 31 20), .int .i64 0, .bool false] H4.out rfl rfl (by kernel_rfl) rfl rfl) ?_
  refine hK.out _ _ (cells8a ((row_far _ g4 _ g3 HN.out).trans H3.out)) (fun hHeld => ?_)
  clear hK K
  refine pure_ (i := 5) (N := some 3) (v := ?_) (a' := ?_) #[true, true, true, true, true, true] rfl rfl (by kernel_rfl) (fun _ _ _ h => h) (Or.inl ⟨by rfl, ?_⟩) ?_ ?_
  rotate_left
  · intro w'
    go_simp
    with_reducible rfl
  rotate_left
  · simp only [Act.put, putS]
    rfl
  refine done_ (by kernel_rfl) ?_
  have H4' := Aside0.mk (setRow_heap _ g4 _ #[.int .i64 14, .int .i64 (Go.bits .and .i64 f3 3), .int .i64 (rdW w), .int .i64 (rs1W w), .int .i64 0, .int .i64 (fl w 31 20), .int .i64 0, .bool false] 23 (0, 0) H4.out)
  have HB' := Aside0.mk (row_below (g := g4) (cs := #[.int .i64 14, .int .i64 (Go.bits .and .i64 f3 3), .int .i64 (rdW w), .int .i64 (rs1W w), .int .i64 0, .int .i64 (fl w 31 20), .int .i64 0, .bool false]) HB.out HL4.out)
  go_wp2
  refine bodyPost_ret (results_ct rfl _ _ g4 23 #[.int .i64 14, .int .i64 (Go.bits .and .i64 f3 3), .int .i64 (rdW w), .int .i64 (rs1W w), .int .i64 0, .int .i64 (fl w 31 20), .int .i64 0, .bool false] (0, 0) _ rfl H4'.out Tryz.underlying23 rfl (by kernel_rfl)) rfl ?_
  exact ⟨rfl, by repeat (first | (with_reducible first | exact HB'.out | apply pw_below_drewN | apply below_drew1 | refine row_below ?_ HL4.out) | exact HB.out | exact HB'.out)⟩

theorem system_csrr (W : World) {w : Int} (w0 : 0 ≤ w) (w1 : w < 4294967296) (n1 : (w == 115) = false) (n2 : (w == 1048691) = false) (n3 : (w == 270532723) = false) (n4 : (w == 273678451) = false) {f3 : Int} (h3 : f3W w = f3) (hz : (f3 == 0) = false) (hg : decide (f3 ≤ 3) = true) : Calls Tryz.prog 97 #[.int .u32 w] W fun e w' => e = .returned (.tuple #[.agg #[.int .i64 13, .int .i64 (f3 % 4), .int .i64 (rdW w), .int .i64 (rs1W w), .int .i64 0, .int .i64 (fl w 31 20), .int .i64 0, .bool false], .bool (f3 % 4 != 0)]) ∧ Below W.heap.size W w' := by
  have HB := Aside0.mk (Below.refl W.heap.size W)
  have hu23 := Tryz.underlying23
  have F3 : ∀ W, Calls Tryz.prog 96 #[.int .u32 w] W fun e w' => e = .returned (.int .i64 f3) ∧ Drawn0 W w' := fun W => by rw [← h3]; exact f3_calls W w0 w1
  have hb : 0 ≤ f3 ∧ f3 < 8 := by rw [← h3]; exact f3W_b w
  have ha : Go.bits .and .i64 f3 3 = f3 % 4 := and_i64 f3 2 (by omega) (by omega) (by omega)
  have R1 : ∀ W, Calls Tryz.prog 101 #[.int .u32 w] W fun e w' => e = .returned (.int .i64 (rs1W w)) ∧ Drawn0 W w' := fun W => rs1_calls W w0 w1
  have RD : ∀ W, Calls Tryz.prog 100 #[.int .u32 w] W fun e w' => e = .returned (.int .i64 (rdW w)) ∧ Drawn0 W w' := fun W => rd_calls W w0 w1
  have BI : ∀ W, Calls Tryz.prog 131 #[.int .u32 w, .int .i64 31, .int .i64 20] W fun e w' => e = .returned (.int .i64 (fl w 31 20)) ∧ Drawn0 W w' := fun W => bits_lit 31 20 W w0 w1 (by decide) (by decide) rfl rfl
  have hg2 : (f3 ≤ 3 : Prop) := by simpa using hg
  have hg3 : decide (3 < f3) = false := by simpa using hg2
  rw [← ha]
  clear ha w0 w1 h3 hb
  go_enter Tryz.func97, Tryz.ntmps97
  go_wp2_with (first | ((with_reducible refine gate_dst (N := 2) rfl ?_); refine box_event (by rfl) (N := 2) (by rfl) (cs := #[.int .i64 0, .int .i64 0, .int .i64 0, .int .i64 0, .int .i64 0, .int .i64 0, .int .i64 0, .bool false]) (t := 23) (by first | (go_simp; done) | (go_simp; rfl)) ?_; intro g4 hg w4 hbox hb; have H4 := Aside0.mk hbox; have HB' := Aside0.mk (below_step HB.out hb); have HL4 := Aside0.mk (show W.heap.size ≤ g4 by omega); clear HB; have HB := HB'; clear HB'; clear hbox hb hg) | fail)
  refine (F3 _).mono ?_
  rintro e w' ⟨rfl, ⟨nd, rfl⟩⟩
  go_wp2_with fail
  refine (F3 _).mono ?_
  rintro e w' ⟨rfl, ⟨nd, rfl⟩⟩
  go_wp2_with fail
  refine (RD _).mono ?_
  rintro e w' ⟨rfl, ⟨nd, rfl⟩⟩
  go_wp2_with fail
  refine (R1 _).mono ?_
  rintro e w' ⟨rfl, ⟨nd, rfl⟩⟩
  go_wp2_with fail
  refine (BI _).mono ?_
  rintro e w' ⟨rfl, ⟨nd, rfl⟩⟩
  go_wp2_with (first | ((with_reducible refine gate_dst (N := 4) rfl ?_); refine box_event (by rfl) (N := 4) (by rfl) (cs := #[.int .i64 0, .int .i64 0, .int .i64 0, .int .i64 0, .int .i64 0, .int .i64 0, .int .i64 0, .bool false]) (t := 23) (by first | (go_simp; done) | (go_simp; rfl)) ?_; intro g3 hg w5 hbox hb; have H3 := Aside0.mk hbox; have H4' := Aside0.mk (blk_below (by (with_reducible repeat (first | refine blk_drewN ?_ _ | refine blk_drew ?_ | refine blk_alloc ?_ _)); exact H4.out) hb); have HL3 := Aside0.mk (show W.heap.size ≤ g3 by have h1 := HB.out.size; simp at hg; omega); have HN := Aside0.mk (show g3 ≠ g4 by have h1 := blk_lt H4.out; simp at hg; omega); have HB' := Aside0.mk (below_step (by repeat (first | (with_reducible first | exact HB.out | apply below_alloc | apply pw_below_drewN | apply below_drew1) | exact HB.out)) hb); clear HB H4; have HB := HB'; have H4 := H4'; clear HB' H4'; clear hbox hb hg) | ((with_reducible refine gate_store (t := 23) rfl ?_); refine store_event rfl 23 (.tmp 4) (.tmp 47) rfl (g := g3) #[.int .i64 13, .int .i64 (Go.bits .and .i64 f3 3), .int .i64 (rdW w), .int .i64 (rs1W w), .int .i64 0, .int .i64 (fl w 31 20), .int .i64 0, .bool false] H3.out rfl rfl (by kernel_rfl) rfl rfl ?_; intro w6 hbox hfar hbel; have H3' := Aside0.mk hbox; have H4' := Aside0.mk (far_blk hfar (fun e => HN.out e.symm) H4.out); have HB' := Aside0.mk (hbel _ _ (by repeat (first | (with_reducible first | exact HB.out | apply below_alloc | apply pw_below_drewN | apply below_drew1) | exact HB.out)) HL3.out); clear hbox hfar hbel H4 H3 HB; have H3 := H3'; have H4 := H4'; have HB := HB'; clear H3' H4' HB'; obtain ⟨y0, y1, y2, y3, y4, y5, y6, y7, yf0, yf1, yf2, yf3, yf4, yf5, yf6, yf7⟩ := cells8 H3.out) | fail)
  refine (F3 _).mono ?_
  rintro e w' ⟨rfl, ⟨nd, rfl⟩⟩
  go_upto_region 14 with fail
  refine start_ (n := 6) (S := fun w' => w'.cell? ⟨g3, 0, none⟩ = some (.int .i64 13) ∧ w'.cell? ⟨g3, 1, none⟩ = some (.int .i64 (Go.bits .and .i64 f3 3)) ∧ w'.cell? ⟨g3, 2, none⟩ = some (.int .i64 (rdW w)) ∧ w'.cell? ⟨g3, 3, none⟩ = some (.int .i64 (rs1W w)) ∧ w'.cell? ⟨g3, 4, none⟩ = some (.int .i64 0) ∧ w'.cell? ⟨g3, 5, none⟩ = some (.int .i64 (fl w 31 20)) ∧ w'.cell? ⟨g3, 6, none⟩ = some (.int .i64 0) ∧ w'.cell? ⟨g3, 7, none⟩ = some (.bool false)) (ds := []) #[false, false, false, false, false, false] (by kernel_rfl) rfl rfl (cells8a H3.out) (fun hHeld => ?_)
  refine pure_ (i := 1) (N := some 53) (v := ?_) (a' := ?_) #[false, true, false, false, false, false] rfl rfl (by kernel_rfl) (fun _ _ _ h => h) (Or.inl ⟨by rfl, ?_⟩) ?_ ?_
  rotate_left
  · intro w'
    go_simp
    with_reducible rfl
  rotate_left
  · simp only [Act.put, putS]
    rfl
  refine take_ (i := 0) (N := some 52) (v := ?_) (a' := ?_) #[true, true, false, false, false, false] rfl rfl (by kernel_rfl) (fun _ _ _ h => h) (Or.inl ⟨by rfl, ?_⟩) hHeld ?_ ?_
  rotate_left
  · rintro w' ⟨s0, s1, s2, s3, s4, s5, s6, s7⟩
    go_simp
    with_reducible rfl
  rotate_left
  · simp only [Act.put, putS]
    rfl
  refine take_ (i := 2) (N := some 54) (v := ?_) (a' := ?_) #[true, true, true, false, false, false] rfl rfl (by kernel_rfl) (fun _ _ _ h => h) (Or.inl ⟨by rfl, ?_⟩) hHeld ?_ ?_
  rotate_left
  · rintro w' ⟨s0, s1, s2, s3, s4, s5, s6, s7⟩
    go_simp
    with_reducible rfl
  rotate_left
  · simp only [Act.put, putS]
    rfl
  refine pure_ (i := 3) (N := some 55) (v := ?_) (a' := ?_) #[true, true, true, true, false, false] rfl rfl (by kernel_rfl) (fun _ _ _ h => h) (Or.inl ⟨by rfl, ?_⟩) ?_ ?_
  rotate_left
  · intro w'
    go_simp
    with_reducible rfl
  rotate_left
  · simp only [Act.put, putS]
    rfl
  refine one_ (i := 4) (N := none) #[true, true, true, true, true, false] rfl rfl (by kernel_rfl) (by decide) (fun K hK => ?_)
  refine skip_ (by rfl) rfl (run_store_row 23 (.tmp 2) (.tmp 52) rfl #[.int .i64 13, .int .i64 (Go.bits .and .i64 f3 3), .int .i64 (rdW w), .int .i64 (rs1W w), .int .i64 0, .int .i64 (fl w 31 20), .int .i64 0, .bool false] H4.out rfl rfl (by kernel_rfl) rfl rfl) ?_
  refine hK.out _ _ (cells8a ((row_far _ g4 _ g3 HN.out).trans H3.out)) (fun hHeld => ?_)
  clear hK K
  refine pure_ (i := 5) (N := some 3) (v := ?_) (a' := ?_) #[true, true, true, true, true, true] rfl rfl (by kernel_rfl) (fun _ _ _ h => h) (Or.inl ⟨by rfl, ?_⟩) ?_ ?_
  rotate_left
  · intro w'
    go_simp
    with_reducible rfl
  rotate_left
  · simp only [Act.put, putS]
    rfl
  refine done_ (by kernel_rfl) ?_
  have H4' := Aside0.mk (setRow_heap _ g4 _ #[.int .i64 13, .int .i64 (Go.bits .and .i64 f3 3), .int .i64 (rdW w), .int .i64 (rs1W w), .int .i64 0, .int .i64 (fl w 31 20), .int .i64 0, .bool false] 23 (0, 0) H4.out)
  have HB' := Aside0.mk (row_below (g := g4) (cs := #[.int .i64 13, .int .i64 (Go.bits .and .i64 f3 3), .int .i64 (rdW w), .int .i64 (rs1W w), .int .i64 0, .int .i64 (fl w 31 20), .int .i64 0, .bool false]) HB.out HL4.out)
  go_wp2
  refine bodyPost_ret (results_ct rfl _ _ g4 23 #[.int .i64 13, .int .i64 (Go.bits .and .i64 f3 3), .int .i64 (rdW w), .int .i64 (rs1W w), .int .i64 0, .int .i64 (fl w 31 20), .int .i64 0, .bool false] (0, 0) _ rfl H4'.out Tryz.underlying23 rfl (by kernel_rfl)) rfl ?_
  exact ⟨rfl, by repeat (first | (with_reducible first | exact HB'.out | apply pw_below_drewN | apply below_drew1 | refine row_below ?_ HL4.out) | exact HB.out | exact HB'.out)⟩

end Go.Proofs.YtjapahcbhjjeiaaGreatDoor.AS

/- The walks of inst.decode for ops without a row. -/
namespace Go.Proofs.YtjapahcbhjjeiaaGreatDoor.AS
open Go.RowKit Go.MapKept Go.Proofs.YtjapahcbhjjeiaaGreatDoorW.PrintWords Go.Proofs.YtjapahcbhjjeiaaGreatDoorW.PrintLast Go.Proofs.YtjapahcbhjjeiaaGreatDoorW.PrintMore Go.Proofs.YtjapahcbhjjeiaaGreatDoor.PA
set_option linter.unusedVariables false
set_option maxHeartbeats 4000000
set_option maxRecDepth 100000
set_option linter.unusedSimpArgs false

theorem decode_fence {w : Int} (W : World) (w0 : 0 ≤ w) (w1 : w < 4294967296) (hop : opW w = 15) : Calls Tryz.prog 68 #[.int .u32 w] W fun e w' => e = .returned (.tuple #[.agg #[.int .i64 10, .int .i64 0, .int .i64 0, .int .i64 0, .int .i64 0, .int .i64 0, .int .i64 0, .bool false], .bool (decide (f3W w < 2))]) ∧ Below W.heap.size W w' := by
  have HB := Aside0.mk (Below.refl W.heap.size W)
  have hu23 := Tryz.underlying23
  have O : ∀ W, Calls Tryz.prog 95 #[.int .u32 w] W fun e w' => e = .returned (.int .i64 15) ∧ Drawn0 W w' := fun W => by rw [← hop]; exact op_calls W w0 w1
  have F3 : ∀ W, Calls Tryz.prog 96 #[.int .u32 w] W fun e w' => e = .returned (.int .i64 (f3W w)) ∧ Drawn0 W w' := fun W => f3_calls W w0 w1
  clear hop w0 w1
  go_enter Tryz.func68, Tryz.ntmps68
  go_wp2_with (first | ((with_reducible refine gate_dst (N := 2) rfl ?_); refine box_event (by rfl) (N := 2) (by rfl) (cs := #[.int .i64 0, .int .i64 0, .int .i64 0, .int .i64 0, .int .i64 0, .int .i64 0, .int .i64 0, .bool false]) (t := 23) (by first | (go_simp; done) | (go_simp; rfl)) ?_; intro g4 hg w4 hbox hb; have H4 := Aside0.mk hbox; have HB' := Aside0.mk (below_step HB.out hb); have HL4 := Aside0.mk (show W.heap.size ≤ g4 by omega); clear HB; have HB := HB'; clear HB'; clear hbox hb hg) | fail)
  refine (O _).mono ?_
  rintro e w' ⟨rfl, ⟨nd, rfl⟩⟩
  go_wp2_with fail
  refine (F3 _).mono ?_
  rintro e w' ⟨rfl, ⟨nd, rfl⟩⟩
  go_wp2_with (first | ((with_reducible refine gate_store (t := 23) rfl ?_); refine store_event rfl 23 (.tmp 2) (.tmp 11) rfl (g := g4) #[.int .i64 10, .int .i64 0, .int .i64 0, .int .i64 0, .int .i64 0, .int .i64 0, .int .i64 0, .bool false] H4.out rfl rfl (by kernel_rfl) rfl rfl ?_; intro w5 hbox hfar hbel; have H4' := Aside0.mk hbox; have HB' := Aside0.mk (hbel _ _ (by repeat (first | (with_reducible first | exact HB.out | apply below_alloc | apply pw_below_drewN | apply below_drew1) | exact HB.out)) HL4.out); clear hbox hfar hbel H4 HB; have H4 := H4'; have HB := HB'; clear H4' HB') | fail)
  refine bodyPost_ret (results_ct rfl _ _ g4 23 #[.int .i64 10, .int .i64 0, .int .i64 0, .int .i64 0, .int .i64 0, .int .i64 0, .int .i64 0, .bool false] (0, 0) _ rfl H4.out Tryz.underlying23 rfl (by kernel_rfl)) rfl ?_
  exact ⟨rfl, HB.out⟩

theorem decode_sys {w : Int} (W : World) (w0 : 0 ≤ w) (w1 : w < 4294967296) (hop : opW w = 115) {r0 r1 r2 r3 r4 r5 r6 : Int} {r7 ok : Bool} (hS : ∀ W, Calls Tryz.prog 97 #[.int .u32 w] W fun e w' => e = .returned (.tuple #[.agg #[.int .i64 r0, .int .i64 r1, .int .i64 r2, .int .i64 r3, .int .i64 r4, .int .i64 r5, .int .i64 r6, .bool r7], .bool ok]) ∧ Below W.heap.size W w') : Calls Tryz.prog 68 #[.int .u32 w] W fun e w' => e = .returned (.tuple #[.agg #[.int .i64 r0, .int .i64 r1, .int .i64 r2, .int .i64 r3, .int .i64 r4, .int .i64 r5, .int .i64 r6, .bool r7], .bool ok]) ∧ Below W.heap.size W w' := by
  have HB := Aside0.mk (Below.refl W.heap.size W)
  have hu23 := Tryz.underlying23
  have O : ∀ W, Calls Tryz.prog 95 #[.int .u32 w] W fun e w' => e = .returned (.int .i64 115) ∧ Drawn0 W w' := fun W => by rw [← hop]; exact op_calls W w0 w1
  clear hop w0 w1
  go_enter Tryz.func68, Tryz.ntmps68
  go_wp2_with (first | ((with_reducible refine gate_dst (N := 2) rfl ?_); refine box_event (by rfl) (N := 2) (by rfl) (cs := #[.int .i64 0, .int .i64 0, .int .i64 0, .int .i64 0, .int .i64 0, .int .i64 0, .int .i64 0, .bool false]) (t := 23) (by first | (go_simp; done) | (go_simp; rfl)) ?_; intro g4 hg w4 hbox hb; have H4 := Aside0.mk hbox; have HB' := Aside0.mk (below_step HB.out hb); have HL4 := Aside0.mk (show W.heap.size ≤ g4 by omega); clear HB; have HB := HB'; clear HB'; clear hbox hb hg) | fail)
  refine (O _).mono ?_
  rintro e w' ⟨rfl, ⟨nd, rfl⟩⟩
  go_wp2_with fail
  refine (hS _).mono ?_
  rintro e w' ⟨rfl, hb⟩
  have H4a := Aside0.mk (blk_below (by (with_reducible repeat (first | refine blk_drewN ?_ _ | refine blk_drew ?_ | refine blk_alloc ?_ _)); exact H4.out) hb)
  have HBa := Aside0.mk (below_step (by repeat (first | (with_reducible first | exact HB.out | apply below_alloc | apply pw_below_drewN | apply below_drew1) | exact HB.out)) hb)
  clear H4 HB hb
  have H4 := H4a; have HB := HBa
  clear H4a HBa
  go_wp2_with (first | ((with_reducible refine gate_store (t := 23) rfl ?_); refine store_event rfl 23 (.tmp 2) (.tmp 19) rfl (g := g4) #[.int .i64 r0, .int .i64 r1, .int .i64 r2, .int .i64 r3, .int .i64 r4, .int .i64 r5, .int .i64 r6, .bool r7] H4.out rfl rfl (by kernel_rfl) rfl rfl ?_; intro w5 hbox hfar hbel; have H4' := Aside0.mk hbox; have HB' := Aside0.mk (hbel _ _ (by repeat (first | (with_reducible first | exact HB.out | apply below_alloc | apply pw_below_drewN | apply below_drew1) | exact HB.out)) HL4.out); clear hbox hfar hbel H4 HB; have H4 := H4'; have HB := HB'; clear H4' HB') | fail)
  refine bodyPost_ret (results_ct rfl _ _ g4 23 #[.int .i64 r0, .int .i64 r1, .int .i64 r2, .int .i64 r3, .int .i64 r4, .int .i64 r5, .int .i64 r6, .bool r7] (0, 0) _ rfl H4.out Tryz.underlying23 rfl (by kernel_rfl)) rfl ?_
  exact ⟨rfl, HB.out⟩

theorem decode_at {w : Int} (W : World) (w0 : 0 ≤ w) (w1 : w < 4294967296) (hop : opW w = 47) {r0 r1 r2 r3 r4 r5 r6 : Int} {r7 ok : Bool} (hS : ∀ W, Calls Tryz.prog 98 #[.int .u32 w] W fun e w' => e = .returned (.tuple #[.agg #[.int .i64 r0, .int .i64 r1, .int .i64 r2, .int .i64 r3, .int .i64 r4, .int .i64 r5, .int .i64 r6, .bool r7], .bool ok]) ∧ Below W.heap.size W w') : Calls Tryz.prog 68 #[.int .u32 w] W fun e w' => e = .returned (.tuple #[.agg #[.int .i64 r0, .int .i64 r1, .int .i64 r2, .int .i64 r3, .int .i64 r4, .int .i64 r5, .int .i64 r6, .bool r7], .bool ok]) ∧ Below W.heap.size W w' := by
  have HB := Aside0.mk (Below.refl W.heap.size W)
  have hu23 := Tryz.underlying23
  have O : ∀ W, Calls Tryz.prog 95 #[.int .u32 w] W fun e w' => e = .returned (.int .i64 47) ∧ Drawn0 W w' := fun W => by rw [← hop]; exact op_calls W w0 w1
  clear hop w0 w1
  go_enter Tryz.func68, Tryz.ntmps68
  go_wp2_with (first | ((with_reducible refine gate_dst (N := 2) rfl ?_); refine box_event (by rfl) (N := 2) (by rfl) (cs := #[.int .i64 0, .int .i64 0, .int .i64 0, .int .i64 0, .int .i64 0, .int .i64 0, .int .i64 0, .bool false]) (t := 23) (by first | (go_simp; done) | (go_simp; rfl)) ?_; intro g4 hg w4 hbox hb; have H4 := Aside0.mk hbox; have HB' := Aside0.mk (below_step HB.out hb); have HL4 := Aside0.mk (show W.heap.size ≤ g4 by omega); clear HB; have HB := HB'; clear HB'; clear hbox hb hg) | fail)
  refine (O _).mono ?_
  rintro e w' ⟨rfl, ⟨nd, rfl⟩⟩
  go_wp2_with fail
  refine (hS _).mono ?_
  rintro e w' ⟨rfl, hb⟩
  have H4a := Aside0.mk (blk_below (by (with_reducible repeat (first | refine blk_drewN ?_ _ | refine blk_drew ?_ | refine blk_alloc ?_ _)); exact H4.out) hb)
  have HBa := Aside0.mk (below_step (by repeat (first | (with_reducible first | exact HB.out | apply below_alloc | apply pw_below_drewN | apply below_drew1) | exact HB.out)) hb)
  clear H4 HB hb
  have H4 := H4a; have HB := HBa
  clear H4a HBa
  go_wp2_with (first | ((with_reducible refine gate_store (t := 23) rfl ?_); refine store_event rfl 23 (.tmp 2) (.tmp 25) rfl (g := g4) #[.int .i64 r0, .int .i64 r1, .int .i64 r2, .int .i64 r3, .int .i64 r4, .int .i64 r5, .int .i64 r6, .bool r7] H4.out rfl rfl (by kernel_rfl) rfl rfl ?_; intro w5 hbox hfar hbel; have H4' := Aside0.mk hbox; have HB' := Aside0.mk (hbel _ _ (by repeat (first | (with_reducible first | exact HB.out | apply below_alloc | apply pw_below_drewN | apply below_drew1) | exact HB.out)) HL4.out); clear hbox hfar hbel H4 HB; have H4 := H4'; have HB := HB'; clear H4' HB') | fail)
  refine bodyPost_ret (results_ct rfl _ _ g4 23 #[.int .i64 r0, .int .i64 r1, .int .i64 r2, .int .i64 r3, .int .i64 r4, .int .i64 r5, .int .i64 r6, .bool r7] (0, 0) _ rfl H4.out Tryz.underlying23 rfl (by kernel_rfl)) rfl ?_
  exact ⟨rfl, HB.out⟩

theorem zero114 (w : World) : (zeroValue 114).run Tryz.prog w = .ok (.agg #[.int .i64 0, .nilFunc, .bool false, .bool false, .bool false]) w := by kernel_rfl
theorem decode_none {w : Int} (W : World) (w0 : 0 ≤ w) (w1 : w < 4294967296) {op : Int} (hop : opW w = op) (n1 : (op == 15) = false) (n2 : (op == 115) = false) (n3 : (op == 47) = false) (hm : ∀ p ∈ rowsV, p.1 ≠ Value.int .i64 op) : Calls Tryz.prog 68 #[.int .u32 w] W fun e w' => e = .returned (.tuple #[.agg #[.int .i64 0, .int .i64 0, .int .i64 0, .int .i64 0, .int .i64 0, .int .i64 0, .int .i64 0, .bool false], .bool false]) ∧ Below W.heap.size W w' := by
  have HB := Aside0.mk (Below.refl W.heap.size W)
  have hu23 := Tryz.underlying23
  have O : ∀ W, Calls Tryz.prog 95 #[.int .u32 w] W fun e w' => e = .returned (.int .i64 op) ∧ Drawn0 W w' := fun W => by rw [← hop]; exact op_calls W w0 w1
  have HMI := Aside0.mk hm
  have HKS := Aside0.mk (show ∀ p ∈ rowsV, IsKey (.int .i64) p.1 by simp [rowsV, IsKey])
  clear hop w0 w1 hm
  go_enter Tryz.func68, Tryz.ntmps68
  go_wp2_with (first | ((with_reducible refine gate_dst (N := 2) rfl ?_); refine box_event (by rfl) (N := 2) (by rfl) (cs := #[.int .i64 0, .int .i64 0, .int .i64 0, .int .i64 0, .int .i64 0, .int .i64 0, .int .i64 0, .bool false]) (t := 23) (by first | (go_simp; done) | (go_simp; rfl)) ?_; intro g4 hg w4 hbox hb; have H4 := Aside0.mk hbox; have HB' := Aside0.mk (below_step HB.out hb); have HL4 := Aside0.mk (show W.heap.size ≤ g4 by omega); clear HB; have HB := HB'; clear HB'; clear hbox hb hg) | fail)
  refine (O _).mono ?_
  rintro e w' ⟨rfl, ⟨nd, rfl⟩⟩
  go_wp2_with fail
  refine (rows_calls _).mono ?_
  rintro e w5 ⟨rfl, hM, hb⟩
  have HBa := Aside0.mk (below_step (by repeat (first | (with_reducible first | exact HB.out | apply below_alloc | apply pw_below_drewN | apply below_drew1) | exact HB.out)) hb)
  have H4a := Aside0.mk (blk_below (by (with_reducible repeat (first | refine blk_drewN ?_ _ | refine blk_drew ?_ | refine blk_alloc ?_ _)); exact H4.out) hb)
  clear HB H4 hb
  have HB := HBa; have H4 := H4a
  clear HBa H4a
  obtain ⟨bm, hbm⟩ : ∃ x, x = (w4.drewN nd).heap.size := ⟨_, rfl⟩
  have HM : Aside0 (MapAt w5 bm rowsV) := ⟨by rw [hbm]; exact hM⟩
  clear hM
  rw [← hbm]
  clear hbm
  go_wp2_with fail
  refine (O _).mono ?_
  rintro e w' ⟨rfl, ⟨nd2, rfl⟩⟩
  have HLK : Aside0 ((Instr.lookup 116 (.map (some bm)) (.int .i64 op) true).run Tryz.prog (w5.drewN nd2) = .ok (.tuple #[.agg #[.int .i64 0, .nilFunc, .bool false, .bool false, .bool false], .bool false]) (w5.drewN nd2)) := ⟨(HM.out.same (w1 := w5.drewN nd2) rfl).miss Tryz.underlying116 Tryz.underlying3 (zero114 _) (show IsKey (.int .i64) (.int .i64 op) from rfl) HKS.out HMI.out true⟩
  go_wp2_with (first | ((with_reducible refine gate_dst (N := 31) rfl ?_); refine look_event rfl _ _ 116 true rfl (.map (some bm)) (.int .i64 op) (.tuple #[.agg #[.int .i64 0, .nilFunc, .bool false, .bool false, .bool false], .bool false]) rfl rfl HLK.out ?_) | ((with_reducible refine gate_dst (N := 4) rfl ?_); refine box_event (by rfl) (N := 4) (by rfl) (cs := #[.int .i64 0, .nilFunc, .bool false, .bool false, .bool false]) (t := 114) (by first | (go_simp; done) | (go_simp; rfl)) ?_; intro g5 hg w5 hbox hb; have H5 := Aside0.mk hbox; have H4' := Aside0.mk (blk_below (by (with_reducible repeat (first | refine blk_drewN ?_ _ | refine blk_drew ?_ | refine blk_alloc ?_ _)); exact H4.out) hb); have HL5 := Aside0.mk (show W.heap.size ≤ g5 by have h1 := HB.out.size; simp at hg; omega); have HN := Aside0.mk (show g5 ≠ g4 by have h1 := blk_lt H4.out; simp at hg; omega); have HB' := Aside0.mk (below_step (by repeat (first | (with_reducible first | exact HB.out | apply below_alloc | apply pw_below_drewN | apply below_drew1) | exact HB.out)) hb); clear HB H4 hbox hb hg; have HB := HB'; have H4 := H4'; clear HB' H4') | ((with_reducible refine gate_store (t := 114) rfl ?_); refine store_event rfl 114 (.tmp 4) (.tmp 32) rfl (g := g5) #[.int .i64 0, .nilFunc, .bool false, .bool false, .bool false] H5.out rfl rfl (by kernel_rfl) rfl rfl ?_; intro w6 hbox hfar hbel; have H4' := Aside0.mk (far_blk hfar (fun e => HN.out e.symm) H4.out); have HB' := Aside0.mk (hbel _ _ HB.out HL5.out); clear hbox hfar hbel H4 H5 HB; have H4 := H4'; have HB := HB'; clear H4' HB') | ((with_reducible refine gate_store (t := 23) rfl ?_); refine store_event rfl 23 (.tmp 2) (.tmp 36) rfl (g := g4) #[.int .i64 0, .int .i64 0, .int .i64 0, .int .i64 0, .int .i64 0, .int .i64 0, .int .i64 0, .bool false] H4.out rfl rfl (by kernel_rfl) rfl rfl ?_; intro w7 hbox hfar hbel; have H4' := Aside0.mk hbox; have HB' := Aside0.mk (hbel _ _ (by repeat (first | (with_reducible first | exact HB.out | apply below_alloc | apply pw_below_drewN | apply below_drew1) | exact HB.out)) HL4.out); clear hbox hfar hbel H4 HB; have H4 := H4'; have HB := HB'; clear H4' HB') | fail)
  refine bodyPost_ret (results_ct rfl _ _ g4 23 #[.int .i64 0, .int .i64 0, .int .i64 0, .int .i64 0, .int .i64 0, .int .i64 0, .int .i64 0, .bool false] (0, 0) _ rfl H4.out Tryz.underlying23 rfl (by kernel_rfl)) rfl ?_
  exact ⟨rfl, HB.out⟩

end Go.Proofs.YtjapahcbhjjeiaaGreatDoor.AS
