/- The walks of asm.of, operations, immediate. -/
import Derived.Test.YtjapahcbhjjeiaaGreatDoorF1
import Derived.Test.YtjapahcbhjjeiaaGreatDoorE7
import Derived.Test.YtjapahcbhjjeiaaGreatDoorPAy9
namespace Go.Proofs.YtjapahcbhjjeiaaGreatDoor.AS
open Go.RowKit Go.Proofs.YtjapahcbhjjeiaaGreatDoorW.PrintWords Go.Proofs.YtjapahcbhjjeiaaGreatDoorW.PrintLast Go.Proofs.YtjapahcbhjjeiaaGreatDoorW.PrintMore Go.Proofs.YtjapahcbhjjeiaaGreatDoor.PA
set_option linter.unusedVariables false
set_option maxRecDepth 100000
set_option linter.unusedSimpArgs false

def sB (s : String) : ByteArray := ⟨(by_ s).toArray⟩
def bB (l : List UInt8) : ByteArray := ⟨l.toArray⟩

theorem str_C {w : World} {g : Nat} {t : TypeId} {fr : Nat × Nat} (xs : List ByteArray) (hl : xs.length ≤ 1000) (h : w.heap[g]? = some (.cells (xs.map Value.string).toArray t fr)) : Kd.C Kd.string w (some ⟨g, 0, none⟩) xs.length xs := by
  refine ⟨rfl, by omega, fun _ => ⟨_, rfl, fun j p hj => ⟨[.string p], rfl, rfl, ?_⟩⟩⟩
  intro i u hu
  match i, hu with
  | 0, hu =>
    simp only [List.getElem?_cons_zero, Option.some.injEq] at hu
    subst hu
    have e : ((⟨g, 0, none⟩ : Addr).add (j * 1 + 0)) = ⟨g, j, none⟩ := by unfold Addr.add; split <;> simp_all
    show w.cell? ((⟨g, 0, none⟩ : Addr).add (j * 1 + 0)) = _
    rw [e, cell_of_row w g j _ t fr h]
    simp [hj]
theorem lit_S (w : World) (xs : List ByteArray) (hl : xs.length ≤ 1000) : Kd.C Kd.string (w.alloc (.cells (xs.map Value.string).toArray 9)) (some ⟨w.heap.size, 0, none⟩) xs.length xs := str_C xs hl (blk_new w _)

def ofB (i : Int) (l : List ByteArray) : ByteArray := if i < 0 ∨ (l.length : Int) ≤ i then ⟨#[]⟩ else l.getD i.toNat ByteArray.empty
theorem of_f (i : Int) (l : List ByteArray) : asm_of.f i l = some (ofB i l) := by
  unfold asm_of.f ofB
  by_cases c : i < 0
  · rw [if_pos c, if_pos (.inl c)]
  · rw [if_neg c]
    by_cases d : i ≥ (l.length : Int)
    · rw [if_pos d, if_pos (.inr d)]
    · rw [if_neg d, if_pos (by omega), if_pos (by omega), if_neg (by omega)]
      rfl
theorem of_at {W : World} {A : Option Addr} {n c : Nat} (xs : List ByteArray) (i : Int) (hC : Kd.C Kd.string W A xs.length xs) (hn : n = xs.length) (hc : n ≤ c) :
    Calls Tryz.prog 57 #[.int .i64 i, .slice A n c] W fun e w' => e = .returned (.string (ofB i xs)) ∧ Drawn0 W w' := by
  subst hn
  exact asm_of.calls i A c xs _ W hC hc (of_f i xs)

theorem ofB_sB (i : Int) (l : List String) : ofB i (l.map sB) = sB (ofL i l) := by
  unfold ofB ofL
  by_cases c : i < 0 ∨ (l.length : Int) ≤ i
  · rw [if_pos (by simpa using c), if_pos c]; rfl
  · rw [if_neg (by simpa using c), if_neg c]
    have h : i.toNat < l.length := by omega
    simp [List.getD_eq_getElem?_getD, h]
def L_branch : List ByteArray := ([⟨#[]⟩, ⟨#[98, 101, 113]⟩, ⟨#[98, 110, 101]⟩, ⟨#[98, 108, 116]⟩, ⟨#[98, 103, 101]⟩, ⟨#[98, 108, 116, 117]⟩, ⟨#[98, 103, 101, 117]⟩] : List ByteArray)
theorem L_branch_eq : L_branch = (["", "beq", "bne", "blt", "bge", "bltu", "bgeu"] : List String).map sB := by decide +kernel
def L_lu : List ByteArray := ([⟨#[]⟩, ⟨#[108, 98, 117]⟩, ⟨#[108, 104, 117]⟩, ⟨#[]⟩, ⟨#[108, 119, 117]⟩] : List ByteArray)
theorem L_lu_eq : L_lu = (["", "lbu", "lhu", "", "lwu"] : List String).map sB := by decide +kernel
def L_ls : List ByteArray := ([⟨#[]⟩, ⟨#[108, 98]⟩, ⟨#[108, 104]⟩, ⟨#[]⟩, ⟨#[108, 119]⟩, ⟨#[]⟩, ⟨#[]⟩, ⟨#[]⟩, ⟨#[108, 100]⟩] : List ByteArray)
theorem L_ls_eq : L_ls = (["", "lb", "lh", "", "lw", "", "", "", "ld"] : List String).map sB := by decide +kernel
def L_st : List ByteArray := ([⟨#[]⟩, ⟨#[115, 98]⟩, ⟨#[115, 104]⟩, ⟨#[]⟩, ⟨#[115, 119]⟩, ⟨#[]⟩, ⟨#[]⟩, ⟨#[]⟩, ⟨#[115, 100]⟩] : List ByteArray)
theorem L_st_eq : L_st = (["", "sb", "sh", "", "sw", "", "", "", "sd"] : List String).map sB := by decide +kernel
def L_csr : List ByteArray := ([⟨#[]⟩, ⟨#[99, 115, 114, 114, 119]⟩, ⟨#[99, 115, 114, 114, 115]⟩, ⟨#[99, 115, 114, 114, 99]⟩] : List ByteArray)
theorem L_csr_eq : L_csr = (["", "csrrw", "csrrs", "csrrc"] : List String).map sB := by decide +kernel
def L_csri : List ByteArray := ([⟨#[]⟩, ⟨#[99, 115, 114, 114, 119, 105]⟩, ⟨#[99, 115, 114, 114, 115, 105]⟩, ⟨#[99, 115, 114, 114, 99, 105]⟩] : List ByteArray)
theorem L_csri_eq : L_csri = (["", "csrrwi", "csrrsi", "csrrci"] : List String).map sB := by decide +kernel
def L_amo : List ByteArray := ([⟨#[]⟩, ⟨#[97, 109, 111, 115, 119, 97, 112]⟩, ⟨#[97, 109, 111, 97, 100, 100]⟩, ⟨#[97, 109, 111, 120, 111, 114]⟩, ⟨#[97, 109, 111, 97, 110, 100]⟩, ⟨#[97, 109, 111, 111, 114]⟩, ⟨#[97, 109, 111, 109, 105, 110]⟩, ⟨#[97, 109, 111, 109, 97, 120]⟩, ⟨#[97, 109, 111, 109, 105, 110, 117]⟩, ⟨#[97, 109, 111, 109, 97, 120, 117]⟩] : List ByteArray)
theorem L_amo_eq : L_amo = (["", "amoswap", "amoadd", "amoxor", "amoand", "amoor", "amomin", "amomax", "amominu", "amomaxu"] : List String).map sB := by decide +kernel
def L_kind : List ByteArray := ([⟨#[]⟩, ⟨#[108, 117, 105]⟩, ⟨#[97, 117, 105, 112, 99]⟩, ⟨#[106, 97, 108]⟩, ⟨#[106, 97, 108, 114]⟩, ⟨#[]⟩, ⟨#[]⟩, ⟨#[]⟩, ⟨#[]⟩, ⟨#[]⟩, ⟨#[102, 101, 110, 99, 101]⟩, ⟨#[101, 99, 97, 108, 108]⟩, ⟨#[101, 98, 114, 101, 97, 107]⟩, ⟨#[]⟩, ⟨#[]⟩, ⟨#[]⟩, ⟨#[]⟩, ⟨#[]⟩, ⟨#[115, 114, 101, 116]⟩, ⟨#[119, 102, 105]⟩, ⟨#[115, 102, 101, 110, 99, 101, 46, 118, 109, 97]⟩] : List ByteArray)
theorem L_kind_eq : L_kind = (["", "lui", "auipc", "jal", "jalr", "", "", "", "", "", "fence", "ecall", "ebreak", "", "", "", "", "", "sret", "wfi", "sfence.vma"] : List String).map sB := by decide +kernel
def L_ops : List ByteArray := ([⟨#[]⟩, ⟨#[97, 100, 100]⟩, ⟨#[115, 117, 98]⟩, ⟨#[115, 108, 108]⟩, ⟨#[115, 108, 116]⟩, ⟨#[115, 108, 116, 117]⟩, ⟨#[120, 111, 114]⟩, ⟨#[115, 114, 108]⟩, ⟨#[115, 114, 97]⟩, ⟨#[111, 114]⟩, ⟨#[97, 110, 100]⟩, ⟨#[109, 117, 108]⟩, ⟨#[109, 117, 108, 104]⟩, ⟨#[109, 117, 108, 104, 115, 117]⟩, ⟨#[109, 117, 108, 104, 117]⟩, ⟨#[100, 105, 118]⟩, ⟨#[100, 105, 118, 117]⟩, ⟨#[114, 101, 109]⟩, ⟨#[114, 101, 109, 117]⟩, ⟨#[97, 100, 100, 119]⟩, ⟨#[115, 117, 98, 119]⟩, ⟨#[115, 108, 108, 119]⟩, ⟨#[115, 114, 108, 119]⟩, ⟨#[115, 114, 97, 119]⟩, ⟨#[109, 117, 108, 119]⟩, ⟨#[100, 105, 118, 119]⟩, ⟨#[100, 105, 118, 117, 119]⟩, ⟨#[114, 101, 109, 119]⟩, ⟨#[114, 101, 109, 117, 119]⟩] : List ByteArray)
theorem L_ops_eq : L_ops = (opsL : List String).map sB := by decide +kernel
theorem info83 : (Tryz.prog.info? 83).map (·.size) = some 29 := by kernel_rfl
set_option maxHeartbeats 4000000 in
theorem operations_calls (W : World) : Calls Tryz.prog 56 #[] W fun e w' => e = .returned (.agg #[.string ⟨#[]⟩, .string ⟨#[97, 100, 100]⟩, .string ⟨#[115, 117, 98]⟩, .string ⟨#[115, 108, 108]⟩, .string ⟨#[115, 108, 116]⟩, .string ⟨#[115, 108, 116, 117]⟩, .string ⟨#[120, 111, 114]⟩, .string ⟨#[115, 114, 108]⟩, .string ⟨#[115, 114, 97]⟩, .string ⟨#[111, 114]⟩, .string ⟨#[97, 110, 100]⟩, .string ⟨#[109, 117, 108]⟩, .string ⟨#[109, 117, 108, 104]⟩, .string ⟨#[109, 117, 108, 104, 115, 117]⟩, .string ⟨#[109, 117, 108, 104, 117]⟩, .string ⟨#[100, 105, 118]⟩, .string ⟨#[100, 105, 118, 117]⟩, .string ⟨#[114, 101, 109]⟩, .string ⟨#[114, 101, 109, 117]⟩, .string ⟨#[97, 100, 100, 119]⟩, .string ⟨#[115, 117, 98, 119]⟩, .string ⟨#[115, 108, 108, 119]⟩, .string ⟨#[115, 114, 108, 119]⟩, .string ⟨#[115, 114, 97, 119]⟩, .string ⟨#[109, 117, 108, 119]⟩, .string ⟨#[100, 105, 118, 119]⟩, .string ⟨#[100, 105, 118, 117, 119]⟩, .string ⟨#[114, 101, 109, 119]⟩, .string ⟨#[114, 101, 109, 117, 119]⟩]) ∧ Below W.heap.size W w' := by
  go_enter Tryz.func56, Tryz.ntmps56
  go_wp2_with (first | ((with_reducible refine gate_dst (N := 0) rfl ?_); refine box_event (by rfl) (N := 0) (by rfl) (cs := #[.string ⟨#[]⟩, .string ⟨#[]⟩, .string ⟨#[]⟩, .string ⟨#[]⟩, .string ⟨#[]⟩, .string ⟨#[]⟩, .string ⟨#[]⟩, .string ⟨#[]⟩, .string ⟨#[]⟩, .string ⟨#[]⟩, .string ⟨#[]⟩, .string ⟨#[]⟩, .string ⟨#[]⟩, .string ⟨#[]⟩, .string ⟨#[]⟩, .string ⟨#[]⟩, .string ⟨#[]⟩, .string ⟨#[]⟩, .string ⟨#[]⟩, .string ⟨#[]⟩, .string ⟨#[]⟩, .string ⟨#[]⟩, .string ⟨#[]⟩, .string ⟨#[]⟩, .string ⟨#[]⟩, .string ⟨#[]⟩, .string ⟨#[]⟩, .string ⟨#[]⟩, .string ⟨#[]⟩]) (t := 83) (by first | (go_simp; done) | (go_simp; rfl)) ?_; intro g0 hg w3 hbox hb; have H0 := Aside0.mk hbox; have HB := Aside0.mk hb; have HL := Aside0.mk (show W.heap.size ≤ g0 by omega); clear hbox hb hg) | ((with_reducible refine gate_store (t := 83) rfl ?_); refine store_event rfl 83 (.tmp 0) (.tmp 1) rfl (g := g0) #[.string ⟨#[]⟩, .string ⟨#[97, 100, 100]⟩, .string ⟨#[115, 117, 98]⟩, .string ⟨#[115, 108, 108]⟩, .string ⟨#[115, 108, 116]⟩, .string ⟨#[115, 108, 116, 117]⟩, .string ⟨#[120, 111, 114]⟩, .string ⟨#[115, 114, 108]⟩, .string ⟨#[115, 114, 97]⟩, .string ⟨#[111, 114]⟩, .string ⟨#[97, 110, 100]⟩, .string ⟨#[109, 117, 108]⟩, .string ⟨#[109, 117, 108, 104]⟩, .string ⟨#[109, 117, 108, 104, 115, 117]⟩, .string ⟨#[109, 117, 108, 104, 117]⟩, .string ⟨#[100, 105, 118]⟩, .string ⟨#[100, 105, 118, 117]⟩, .string ⟨#[114, 101, 109]⟩, .string ⟨#[114, 101, 109, 117]⟩, .string ⟨#[97, 100, 100, 119]⟩, .string ⟨#[115, 117, 98, 119]⟩, .string ⟨#[115, 108, 108, 119]⟩, .string ⟨#[115, 114, 108, 119]⟩, .string ⟨#[115, 114, 97, 119]⟩, .string ⟨#[109, 117, 108, 119]⟩, .string ⟨#[100, 105, 118, 119]⟩, .string ⟨#[100, 105, 118, 117, 119]⟩, .string ⟨#[114, 101, 109, 119]⟩, .string ⟨#[114, 101, 109, 117, 119]⟩] H0.out rfl rfl info83 rfl rfl ?_; intro w4 hbox hfar hbel; have H1 := Aside0.mk hbox; have HB' := Aside0.mk (hbel _ _ HB.out HL.out); clear hbox hfar hbel) | fail)
  refine bodyPost_ret (results_single rfl (.cell g0 83 _ (0, 0) _ rfl H1.out Tryz.underlying83 rfl info83 .nil)) rfl ?_
  exact ⟨rfl, HB'.out⟩

theorem ret_s {a b : ByteArray} (h : a = b) : Ending.returned (.string a) = Ending.returned (.string b) := by rw [h]
theorem imm_0 (W : World) : Calls Tryz.prog 58 #[.string (sB "")] W fun e w' => e = .returned (.string (sB (immL ""))) ∧ Below W.heap.size W w' := by
  rw [show sB "" = (⟨#[]⟩ : ByteArray) by decide +kernel, show sB (immL "") = (⟨#[105]⟩ : ByteArray) by decide +kernel]
  go_enter Tryz.func58, Tryz.ntmps58
  go_wp2
  go_ret
  exact ⟨ret_s (by decide +kernel), Below.refl _ _⟩
theorem imm_1 (W : World) : Calls Tryz.prog 58 #[.string (sB "add")] W fun e w' => e = .returned (.string (sB (immL "add"))) ∧ Below W.heap.size W w' := by
  rw [show sB "add" = (⟨#[97, 100, 100]⟩ : ByteArray) by decide +kernel, show sB (immL "add") = (⟨#[97, 100, 100, 105]⟩ : ByteArray) by decide +kernel]
  go_enter Tryz.func58, Tryz.ntmps58
  go_wp2
  go_ret
  exact ⟨ret_s (by decide +kernel), Below.refl _ _⟩
theorem imm_2 (W : World) : Calls Tryz.prog 58 #[.string (sB "sub")] W fun e w' => e = .returned (.string (sB (immL "sub"))) ∧ Below W.heap.size W w' := by
  rw [show sB "sub" = (⟨#[115, 117, 98]⟩ : ByteArray) by decide +kernel, show sB (immL "sub") = (⟨#[115, 117, 98, 105]⟩ : ByteArray) by decide +kernel]
  go_enter Tryz.func58, Tryz.ntmps58
  go_wp2
  go_ret
  exact ⟨ret_s (by decide +kernel), Below.refl _ _⟩
theorem imm_3 (W : World) : Calls Tryz.prog 58 #[.string (sB "sll")] W fun e w' => e = .returned (.string (sB (immL "sll"))) ∧ Below W.heap.size W w' := by
  rw [show sB "sll" = (⟨#[115, 108, 108]⟩ : ByteArray) by decide +kernel, show sB (immL "sll") = (⟨#[115, 108, 108, 105]⟩ : ByteArray) by decide +kernel]
  go_enter Tryz.func58, Tryz.ntmps58
  go_wp2
  go_ret
  exact ⟨ret_s (by decide +kernel), Below.refl _ _⟩
theorem imm_4 (W : World) : Calls Tryz.prog 58 #[.string (sB "slt")] W fun e w' => e = .returned (.string (sB (immL "slt"))) ∧ Below W.heap.size W w' := by
  rw [show sB "slt" = (⟨#[115, 108, 116]⟩ : ByteArray) by decide +kernel, show sB (immL "slt") = (⟨#[115, 108, 116, 105]⟩ : ByteArray) by decide +kernel]
  go_enter Tryz.func58, Tryz.ntmps58
  go_wp2
  go_ret
  exact ⟨ret_s (by decide +kernel), Below.refl _ _⟩
theorem imm_5 (W : World) : Calls Tryz.prog 58 #[.string (sB "sltu")] W fun e w' => e = .returned (.string (sB (immL "sltu"))) ∧ Below W.heap.size W w' := by
  rw [show sB "sltu" = (⟨#[115, 108, 116, 117]⟩ : ByteArray) by decide +kernel, show sB (immL "sltu") = (⟨#[115, 108, 116, 105, 117]⟩ : ByteArray) by decide +kernel]
  go_enter Tryz.func58, Tryz.ntmps58
  go_wp2
  go_ret
  exact ⟨ret_s (by decide +kernel), Below.refl _ _⟩
theorem imm_6 (W : World) : Calls Tryz.prog 58 #[.string (sB "xor")] W fun e w' => e = .returned (.string (sB (immL "xor"))) ∧ Below W.heap.size W w' := by
  rw [show sB "xor" = (⟨#[120, 111, 114]⟩ : ByteArray) by decide +kernel, show sB (immL "xor") = (⟨#[120, 111, 114, 105]⟩ : ByteArray) by decide +kernel]
  go_enter Tryz.func58, Tryz.ntmps58
  go_wp2
  go_ret
  exact ⟨ret_s (by decide +kernel), Below.refl _ _⟩
theorem imm_7 (W : World) : Calls Tryz.prog 58 #[.string (sB "srl")] W fun e w' => e = .returned (.string (sB (immL "srl"))) ∧ Below W.heap.size W w' := by
  rw [show sB "srl" = (⟨#[115, 114, 108]⟩ : ByteArray) by decide +kernel, show sB (immL "srl") = (⟨#[115, 114, 108, 105]⟩ : ByteArray) by decide +kernel]
  go_enter Tryz.func58, Tryz.ntmps58
  go_wp2
  go_ret
  exact ⟨ret_s (by decide +kernel), Below.refl _ _⟩
theorem imm_8 (W : World) : Calls Tryz.prog 58 #[.string (sB "sra")] W fun e w' => e = .returned (.string (sB (immL "sra"))) ∧ Below W.heap.size W w' := by
  rw [show sB "sra" = (⟨#[115, 114, 97]⟩ : ByteArray) by decide +kernel, show sB (immL "sra") = (⟨#[115, 114, 97, 105]⟩ : ByteArray) by decide +kernel]
  go_enter Tryz.func58, Tryz.ntmps58
  go_wp2
  go_ret
  exact ⟨ret_s (by decide +kernel), Below.refl _ _⟩
theorem imm_9 (W : World) : Calls Tryz.prog 58 #[.string (sB "or")] W fun e w' => e = .returned (.string (sB (immL "or"))) ∧ Below W.heap.size W w' := by
  rw [show sB "or" = (⟨#[111, 114]⟩ : ByteArray) by decide +kernel, show sB (immL "or") = (⟨#[111, 114, 105]⟩ : ByteArray) by decide +kernel]
  go_enter Tryz.func58, Tryz.ntmps58
  go_wp2
  go_ret
  exact ⟨ret_s (by decide +kernel), Below.refl _ _⟩
theorem imm_10 (W : World) : Calls Tryz.prog 58 #[.string (sB "and")] W fun e w' => e = .returned (.string (sB (immL "and"))) ∧ Below W.heap.size W w' := by
  rw [show sB "and" = (⟨#[97, 110, 100]⟩ : ByteArray) by decide +kernel, show sB (immL "and") = (⟨#[97, 110, 100, 105]⟩ : ByteArray) by decide +kernel]
  go_enter Tryz.func58, Tryz.ntmps58
  go_wp2
  go_ret
  exact ⟨ret_s (by decide +kernel), Below.refl _ _⟩
theorem imm_11 (W : World) : Calls Tryz.prog 58 #[.string (sB "mul")] W fun e w' => e = .returned (.string (sB (immL "mul"))) ∧ Below W.heap.size W w' := by
  rw [show sB "mul" = (⟨#[109, 117, 108]⟩ : ByteArray) by decide +kernel, show sB (immL "mul") = (⟨#[109, 117, 108, 105]⟩ : ByteArray) by decide +kernel]
  go_enter Tryz.func58, Tryz.ntmps58
  go_wp2
  go_ret
  exact ⟨ret_s (by decide +kernel), Below.refl _ _⟩
theorem imm_12 (W : World) : Calls Tryz.prog 58 #[.string (sB "mulh")] W fun e w' => e = .returned (.string (sB (immL "mulh"))) ∧ Below W.heap.size W w' := by
  rw [show sB "mulh" = (⟨#[109, 117, 108, 104]⟩ : ByteArray) by decide +kernel, show sB (immL "mulh") = (⟨#[109, 117, 108, 104, 105]⟩ : ByteArray) by decide +kernel]
  go_enter Tryz.func58, Tryz.ntmps58
  go_wp2
  go_ret
  exact ⟨ret_s (by decide +kernel), Below.refl _ _⟩
theorem imm_13 (W : World) : Calls Tryz.prog 58 #[.string (sB "mulhsu")] W fun e w' => e = .returned (.string (sB (immL "mulhsu"))) ∧ Below W.heap.size W w' := by
  rw [show sB "mulhsu" = (⟨#[109, 117, 108, 104, 115, 117]⟩ : ByteArray) by decide +kernel, show sB (immL "mulhsu") = (⟨#[109, 117, 108, 104, 115, 117, 105]⟩ : ByteArray) by decide +kernel]
  go_enter Tryz.func58, Tryz.ntmps58
  go_wp2
  go_ret
  exact ⟨ret_s (by decide +kernel), Below.refl _ _⟩
theorem imm_14 (W : World) : Calls Tryz.prog 58 #[.string (sB "mulhu")] W fun e w' => e = .returned (.string (sB (immL "mulhu"))) ∧ Below W.heap.size W w' := by
  rw [show sB "mulhu" = (⟨#[109, 117, 108, 104, 117]⟩ : ByteArray) by decide +kernel, show sB (immL "mulhu") = (⟨#[109, 117, 108, 104, 117, 105]⟩ : ByteArray) by decide +kernel]
  go_enter Tryz.func58, Tryz.ntmps58
  go_wp2
  go_ret
  exact ⟨ret_s (by decide +kernel), Below.refl _ _⟩
theorem imm_15 (W : World) : Calls Tryz.prog 58 #[.string (sB "div")] W fun e w' => e = .returned (.string (sB (immL "div"))) ∧ Below W.heap.size W w' := by
  rw [show sB "div" = (⟨#[100, 105, 118]⟩ : ByteArray) by decide +kernel, show sB (immL "div") = (⟨#[100, 105, 118, 105]⟩ : ByteArray) by decide +kernel]
  go_enter Tryz.func58, Tryz.ntmps58
  go_wp2
  go_ret
  exact ⟨ret_s (by decide +kernel), Below.refl _ _⟩
theorem imm_16 (W : World) : Calls Tryz.prog 58 #[.string (sB "divu")] W fun e w' => e = .returned (.string (sB (immL "divu"))) ∧ Below W.heap.size W w' := by
  rw [show sB "divu" = (⟨#[100, 105, 118, 117]⟩ : ByteArray) by decide +kernel, show sB (immL "divu") = (⟨#[100, 105, 118, 117, 105]⟩ : ByteArray) by decide +kernel]
  go_enter Tryz.func58, Tryz.ntmps58
  go_wp2
  go_ret
  exact ⟨ret_s (by decide +kernel), Below.refl _ _⟩
theorem imm_17 (W : World) : Calls Tryz.prog 58 #[.string (sB "rem")] W fun e w' => e = .returned (.string (sB (immL "rem"))) ∧ Below W.heap.size W w' := by
  rw [show sB "rem" = (⟨#[114, 101, 109]⟩ : ByteArray) by decide +kernel, show sB (immL "rem") = (⟨#[114, 101, 109, 105]⟩ : ByteArray) by decide +kernel]
  go_enter Tryz.func58, Tryz.ntmps58
  go_wp2
  go_ret
  exact ⟨ret_s (by decide +kernel), Below.refl _ _⟩
theorem imm_18 (W : World) : Calls Tryz.prog 58 #[.string (sB "remu")] W fun e w' => e = .returned (.string (sB (immL "remu"))) ∧ Below W.heap.size W w' := by
  rw [show sB "remu" = (⟨#[114, 101, 109, 117]⟩ : ByteArray) by decide +kernel, show sB (immL "remu") = (⟨#[114, 101, 109, 117, 105]⟩ : ByteArray) by decide +kernel]
  go_enter Tryz.func58, Tryz.ntmps58
  go_wp2
  go_ret
  exact ⟨ret_s (by decide +kernel), Below.refl _ _⟩
theorem imm_19 (W : World) : Calls Tryz.prog 58 #[.string (sB "addw")] W fun e w' => e = .returned (.string (sB (immL "addw"))) ∧ Below W.heap.size W w' := by
  rw [show sB "addw" = (⟨#[97, 100, 100, 119]⟩ : ByteArray) by decide +kernel, show sB (immL "addw") = (⟨#[97, 100, 100, 105, 119]⟩ : ByteArray) by decide +kernel]
  go_enter Tryz.func58, Tryz.ntmps58
  go_wp2
  go_ret
  exact ⟨ret_s (by decide +kernel), Below.refl _ _⟩
theorem imm_20 (W : World) : Calls Tryz.prog 58 #[.string (sB "subw")] W fun e w' => e = .returned (.string (sB (immL "subw"))) ∧ Below W.heap.size W w' := by
  rw [show sB "subw" = (⟨#[115, 117, 98, 119]⟩ : ByteArray) by decide +kernel, show sB (immL "subw") = (⟨#[115, 117, 98, 119, 105]⟩ : ByteArray) by decide +kernel]
  go_enter Tryz.func58, Tryz.ntmps58
  go_wp2
  go_ret
  exact ⟨ret_s (by decide +kernel), Below.refl _ _⟩
theorem imm_21 (W : World) : Calls Tryz.prog 58 #[.string (sB "sllw")] W fun e w' => e = .returned (.string (sB (immL "sllw"))) ∧ Below W.heap.size W w' := by
  rw [show sB "sllw" = (⟨#[115, 108, 108, 119]⟩ : ByteArray) by decide +kernel, show sB (immL "sllw") = (⟨#[115, 108, 108, 105, 119]⟩ : ByteArray) by decide +kernel]
  go_enter Tryz.func58, Tryz.ntmps58
  go_wp2
  go_ret
  exact ⟨ret_s (by decide +kernel), Below.refl _ _⟩
theorem imm_22 (W : World) : Calls Tryz.prog 58 #[.string (sB "srlw")] W fun e w' => e = .returned (.string (sB (immL "srlw"))) ∧ Below W.heap.size W w' := by
  rw [show sB "srlw" = (⟨#[115, 114, 108, 119]⟩ : ByteArray) by decide +kernel, show sB (immL "srlw") = (⟨#[115, 114, 108, 105, 119]⟩ : ByteArray) by decide +kernel]
  go_enter Tryz.func58, Tryz.ntmps58
  go_wp2
  go_ret
  exact ⟨ret_s (by decide +kernel), Below.refl _ _⟩
theorem imm_23 (W : World) : Calls Tryz.prog 58 #[.string (sB "sraw")] W fun e w' => e = .returned (.string (sB (immL "sraw"))) ∧ Below W.heap.size W w' := by
  rw [show sB "sraw" = (⟨#[115, 114, 97, 119]⟩ : ByteArray) by decide +kernel, show sB (immL "sraw") = (⟨#[115, 114, 97, 105, 119]⟩ : ByteArray) by decide +kernel]
  go_enter Tryz.func58, Tryz.ntmps58
  go_wp2
  go_ret
  exact ⟨ret_s (by decide +kernel), Below.refl _ _⟩
theorem imm_24 (W : World) : Calls Tryz.prog 58 #[.string (sB "mulw")] W fun e w' => e = .returned (.string (sB (immL "mulw"))) ∧ Below W.heap.size W w' := by
  rw [show sB "mulw" = (⟨#[109, 117, 108, 119]⟩ : ByteArray) by decide +kernel, show sB (immL "mulw") = (⟨#[109, 117, 108, 119, 105]⟩ : ByteArray) by decide +kernel]
  go_enter Tryz.func58, Tryz.ntmps58
  go_wp2
  go_ret
  exact ⟨ret_s (by decide +kernel), Below.refl _ _⟩
theorem imm_25 (W : World) : Calls Tryz.prog 58 #[.string (sB "divw")] W fun e w' => e = .returned (.string (sB (immL "divw"))) ∧ Below W.heap.size W w' := by
  rw [show sB "divw" = (⟨#[100, 105, 118, 119]⟩ : ByteArray) by decide +kernel, show sB (immL "divw") = (⟨#[100, 105, 118, 119, 105]⟩ : ByteArray) by decide +kernel]
  go_enter Tryz.func58, Tryz.ntmps58
  go_wp2
  go_ret
  exact ⟨ret_s (by decide +kernel), Below.refl _ _⟩
theorem imm_26 (W : World) : Calls Tryz.prog 58 #[.string (sB "divuw")] W fun e w' => e = .returned (.string (sB (immL "divuw"))) ∧ Below W.heap.size W w' := by
  rw [show sB "divuw" = (⟨#[100, 105, 118, 117, 119]⟩ : ByteArray) by decide +kernel, show sB (immL "divuw") = (⟨#[100, 105, 118, 117, 119, 105]⟩ : ByteArray) by decide +kernel]
  go_enter Tryz.func58, Tryz.ntmps58
  go_wp2
  go_ret
  exact ⟨ret_s (by decide +kernel), Below.refl _ _⟩
theorem imm_27 (W : World) : Calls Tryz.prog 58 #[.string (sB "remw")] W fun e w' => e = .returned (.string (sB (immL "remw"))) ∧ Below W.heap.size W w' := by
  rw [show sB "remw" = (⟨#[114, 101, 109, 119]⟩ : ByteArray) by decide +kernel, show sB (immL "remw") = (⟨#[114, 101, 109, 119, 105]⟩ : ByteArray) by decide +kernel]
  go_enter Tryz.func58, Tryz.ntmps58
  go_wp2
  go_ret
  exact ⟨ret_s (by decide +kernel), Below.refl _ _⟩
theorem imm_28 (W : World) : Calls Tryz.prog 58 #[.string (sB "remuw")] W fun e w' => e = .returned (.string (sB (immL "remuw"))) ∧ Below W.heap.size W w' := by
  rw [show sB "remuw" = (⟨#[114, 101, 109, 117, 119]⟩ : ByteArray) by decide +kernel, show sB (immL "remuw") = (⟨#[114, 101, 109, 117, 119, 105]⟩ : ByteArray) by decide +kernel]
  go_enter Tryz.func58, Tryz.ntmps58
  go_wp2
  go_ret
  exact ⟨ret_s (by decide +kernel), Below.refl _ _⟩
theorem imm_of (s : String) (h : s ∈ opsL) (W : World) : Calls Tryz.prog 58 #[.string (sB s)] W fun e w' => e = .returned (.string (sB (immL s))) ∧ Below W.heap.size W w' := by
  simp only [opsL, List.mem_cons, List.not_mem_nil, or_false] at h
  rcases h with rfl | rfl | rfl | rfl | rfl | rfl | rfl | rfl | rfl | rfl | rfl | rfl | rfl | rfl | rfl | rfl | rfl | rfl | rfl | rfl | rfl | rfl | rfl | rfl | rfl | rfl | rfl | rfl | rfl
  · exact imm_0 W
  · exact imm_1 W
  · exact imm_2 W
  · exact imm_3 W
  · exact imm_4 W
  · exact imm_5 W
  · exact imm_6 W
  · exact imm_7 W
  · exact imm_8 W
  · exact imm_9 W
  · exact imm_10 W
  · exact imm_11 W
  · exact imm_12 W
  · exact imm_13 W
  · exact imm_14 W
  · exact imm_15 W
  · exact imm_16 W
  · exact imm_17 W
  · exact imm_18 W
  · exact imm_19 W
  · exact imm_20 W
  · exact imm_21 W
  · exact imm_22 W
  · exact imm_23 W
  · exact imm_24 W
  · exact imm_25 W
  · exact imm_26 W
  · exact imm_27 W
  · exact imm_28 W

theorem ofL_mem (i : Int) : ofL i opsL ∈ opsL := by
  unfold ofL
  by_cases c : i < 0 ∨ ((opsL.length : Nat) : Int) ≤ i
  · rw [if_pos c]; simp [opsL]
  · rw [if_neg c]
    have hl : i.toNat < opsL.length := by omega
    rw [List.getD_eq_getElem?_getD, List.getElem?_eq_getElem hl]
    exact List.getElem_mem hl

end Go.Proofs.YtjapahcbhjjeiaaGreatDoor.AS
