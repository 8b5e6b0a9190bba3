/- asm.name's contract over the plain model. -/
import Derived.Test.YtjapahcbhjjeiaaGreatDoorG16
import Derived.Test.YtjapahcbhjjeiaaGreatDoorG10
namespace Go.Proofs.YtjapahcbhjjeiaaGreatDoor.AS
open Go.RowKit Go.Proofs.YtjapahcbhjjeiaaGreatDoorW.PrintWords Go.Proofs.YtjapahcbhjjeiaaGreatDoorW.PrintLast Go.Proofs.YtjapahcbhjjeiaaGreatDoorW.PrintMore Go.Proofs.YtjapahcbhjjeiaaGreatDoor.PA
set_option linter.unusedVariables false
set_option linter.unusedSimpArgs false

theorem by_append (a b : String) : by_ (a ++ b) = by_ a ++ by_ b := by unfold by_; rw [String.toList_append, List.map_append]
theorem bB_append (a b : List UInt8) : bB a ++ bB b = bB (a ++ b) := by
  apply ByteArray.ext
  simp [bB]
theorem sB_append (a b : String) : sB a ++ sB b = sB (a ++ b) := by
  show bB (by_ a) ++ bB (by_ b) = bB (by_ (a ++ b))
  rw [bB_append, by_append]

theorem wide_B (size : Int) : sB (wideL size) = wideB size := by
  unfold wideL wideB
  by_cases a : size = 4
  · rw [if_pos a, if_pos a]; decide +kernel
  by_cases b : size = 8
  · rw [if_neg a, if_neg a, if_pos b, if_pos b]; decide +kernel
  rw [if_neg a, if_neg a, if_neg b, if_neg b]; decide +kernel
theorem name_calls (i : Ins) (W : World) : Calls Tryz.prog 27 #[insV i] W fun e w' => e = .returned (.string (bB (nameI i))) ∧ Below W.heap.size W w' := by
  obtain ⟨kind, fn, rd, rs1, rs2, imm, size, sg⟩ := i
  show Calls Tryz.prog 27 #[.agg #[.int .i64 kind, .int .i64 fn, .int .i64 rd, .int .i64 rs1, .int .i64 rs2, .int .i64 imm, .int .i64 size, .bool sg]] W fun e w' => e = .returned (.string (sB (nameS kind fn size sg))) ∧ Below W.heap.size W w'
  unfold nameS
  by_cases k5 : kind = 5
  · rw [if_pos k5]; subst k5
    rw [show sB (ofL fn ["", "beq", "bne", "blt", "bge", "bltu", "bgeu"]) = ofB fn L_branch by rw [L_branch_eq, ofB_sB]]
    exact name_5 (kind := 5) (fn := fn) (rd := rd) (rs1 := rs1) (rs2 := rs2) (imm := imm) (size := size) (sg := sg) W
  rw [if_neg k5]
  by_cases k6 : kind = 6
  · rw [if_pos k6]; subst k6
    cases sg with
    | false =>
      rw [if_pos rfl]
      rw [show sB (ofL size ["", "lbu", "lhu", "", "lwu"]) = ofB size L_lu by rw [L_lu_eq, ofB_sB]]
      exact name_6f (kind := 6) (fn := fn) (rd := rd) (rs1 := rs1) (rs2 := rs2) (imm := imm) (size := size) (sg := false) W
    | true =>
      rw [if_neg (by decide)]
      rw [show sB (ofL size ["", "lb", "lh", "", "lw", "", "", "", "ld"]) = ofB size L_ls by rw [L_ls_eq, ofB_sB]]
      exact name_6t (kind := 6) (fn := fn) (rd := rd) (rs1 := rs1) (rs2 := rs2) (imm := imm) (size := size) (sg := true) W
  rw [if_neg k6]
  by_cases k7 : kind = 7
  · rw [if_pos k7]; subst k7
    rw [show sB (ofL size ["", "sb", "sh", "", "sw", "", "", "", "sd"]) = ofB size L_st by rw [L_st_eq, ofB_sB]]
    exact name_7 (kind := 7) (fn := fn) (rd := rd) (rs1 := rs1) (rs2 := rs2) (imm := imm) (size := size) (sg := sg) W
  rw [if_neg k7]
  by_cases k8 : kind = 8
  · rw [if_pos k8]; subst k8
    rw [show sB (ofL fn opsL) = ofB fn L_ops by rw [L_ops_eq, ofB_sB]]
    exact name_8 (kind := 8) (fn := fn) (rd := rd) (rs1 := rs1) (rs2 := rs2) (imm := imm) (size := size) (sg := sg) W
  rw [if_neg k8]
  by_cases k9 : kind = 9
  · rw [if_pos k9]; subst k9
    have HI : Aside0 (∀ W, Calls Tryz.prog 58 #[.string (ofB fn L_ops)] W fun e w' => e = .returned (.string (sB (immL (ofL fn opsL)))) ∧ Below W.heap.size W w') := ⟨fun W => by rw [L_ops_eq, ofB_sB]; exact imm_of _ (ofL_mem fn) W⟩
    exact name_9 (kind := 9) (fn := fn) (rd := rd) (rs1 := rs1) (rs2 := rs2) (imm := imm) (size := size) (sg := sg) W HI
  rw [if_neg k9]
  by_cases k13 : kind = 13
  · rw [if_pos k13]; subst k13
    rw [show sB (ofL fn ["", "csrrw", "csrrs", "csrrc"]) = ofB fn L_csr by rw [L_csr_eq, ofB_sB]]
    exact name_13 (kind := 13) (fn := fn) (rd := rd) (rs1 := rs1) (rs2 := rs2) (imm := imm) (size := size) (sg := sg) W
  rw [if_neg k13]
  by_cases k14 : kind = 14
  · rw [if_pos k14]; subst k14
    rw [show sB (ofL fn ["", "csrrwi", "csrrsi", "csrrci"]) = ofB fn L_csri by rw [L_csri_eq, ofB_sB]]
    exact name_14 (kind := 14) (fn := fn) (rd := rd) (rs1 := rs1) (rs2 := rs2) (imm := imm) (size := size) (sg := sg) W
  rw [if_neg k14]
  by_cases k17 : kind = 17
  · rw [if_pos k17]; subst k17
    rw [← sB_append]
    rw [show sB (ofL fn ["", "amoswap", "amoadd", "amoxor", "amoand", "amoor", "amomin", "amomax", "amominu", "amomaxu"]) = ofB fn L_amo by rw [L_amo_eq, ofB_sB]]
    rw [wide_B]; exact name_17 (kind := 17) (fn := fn) (rd := rd) (rs1 := rs1) (rs2 := rs2) (imm := imm) (size := size) (sg := sg) W
  rw [if_neg k17]
  by_cases k15 : kind = 15
  · rw [if_pos k15]; subst k15
    rw [← sB_append, show sB "lr" = (⟨#[108, 114]⟩ : ByteArray) by decide +kernel]
    rw [wide_B]; exact name_15 (kind := 15) (fn := fn) (rd := rd) (rs1 := rs1) (rs2 := rs2) (imm := imm) (size := size) (sg := sg) W
  rw [if_neg k15]
  by_cases k16 : kind = 16
  · rw [if_pos k16]; subst k16
    rw [← sB_append, show sB "sc" = (⟨#[115, 99]⟩ : ByteArray) by decide +kernel]
    rw [wide_B]; exact name_16 (kind := 16) (fn := fn) (rd := rd) (rs1 := rs1) (rs2 := rs2) (imm := imm) (size := size) (sg := sg) W
  rw [if_neg k16]
  rw [show sB (ofL kind ["", "lui", "auipc", "jal", "jalr", "", "", "", "", "", "fence", "ecall", "ebreak", "", "", "", "", "", "sret", "wfi", "sfence.vma"]) = ofB kind L_kind by rw [L_kind_eq, ofB_sB]]
  exact name_k (kind := kind) (fn := fn) (rd := rd) (rs1 := rs1) (rs2 := rs2) (imm := imm) (size := size) (sg := sg) W (beq_f k5) (beq_f k6) (beq_f k7) (beq_f k8) (beq_f k9) (beq_f k13) (beq_f k14) (beq_f k17) (beq_f k15) (beq_f k16)

end Go.Proofs.YtjapahcbhjjeiaaGreatDoor.AS
