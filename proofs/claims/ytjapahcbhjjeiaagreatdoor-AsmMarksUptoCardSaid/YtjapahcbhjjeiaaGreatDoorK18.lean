/- What AsmBack's row lists gives the variables' state; its arguments' readings. -/
import Derived.Test.YtjapahcbhjjeiaaGreatDoorK16
import Derived.Test.YtjapahcbhjjeiaaGreatDoorOpen
import Derived.WideShapes
import Derived.ChangeMaps5
import Derived.LaidSub
import Derived.LaidLaws
import Derived.Stop.LaidErr
import Derived.Lib.LaidTab
namespace Go.Proofs.YtjapahcbhjjeiaaGreatDoor.AS
open Go.RowKit Go.WideShapes Go.ChangeShapes Go.Proofs.YtjapahcbhjjeiaaGreatDoorW.PrintWords Go.Proofs.YtjapahcbhjjeiaaGreatDoor.Opn
set_option linter.unusedVariables false
set_option maxRecDepth 100000

theorem gt1 : (Tryz.prog.globals[1]?).map (·.type) = some 149 := by kernel_rfl
theorem gt2 : (Tryz.prog.globals[2]?).map (·.type) = some 57 := by kernel_rfl
theorem gt3 : (Tryz.prog.globals[3]?).map (·.type) = some 57 := by kernel_rfl
theorem c149 : Tryz.prog.cellsOf 149 = 20 := by kernel_rfl
theorem c82 : Tryz.prog.cellsOf 82 = 1 := by kernel_rfl
theorem c159 : Tryz.prog.cellsOf 159 = 1 := by kernel_rfl
theorem c9 : Tryz.prog.cellsOf 9 = 1 := by kernel_rfl
theorem star : "*" ++ "errors.errorString" = "*errors.errorString" := by decide
theorem row157 (u : TypeId) (h : Tryz.prog.typeName? 3 u = some "*errors.errorString") : u = 157 :=
  typeName_ptr_named (nm := "errors.errorString") (by rw [star]; kernel_rfl) (by kernel_rfl) (by decide) u (by rw [star]; exact h)
theorem pow_data : (Rows.laid_internal_strconv_uint64pow10 : DataW Unit) = Lib.tabData .u64 Lib.pow10Tab := by kernel_rfl

theorem gw_of (W : World) (h : laidMet Tryz.prog [("math/bits.deBruijn32tab", Rows.laid_math_bits_deBruijn32tab), ("math/bits.deBruijn64tab", Rows.laid_math_bits_deBruijn64tab), ("internal/strconv.uint64pow10", Rows.laid_internal_strconv_uint64pow10), ("unicode/utf8.acceptRanges", Rows.laid_unicode_utf8_acceptRanges), ("strconv.ErrRange", Rows.laid_strconv_ErrRange), ("strconv.ErrSyntax", Rows.laid_strconv_ErrSyntax), ("unicode/utf8.first", Rows.laid_unicode_utf8_first)] W) : GW W := by
  have t2 := h.tail.tail
  have t4 := t2.tail.tail
  have t5 := t4.tail
  rw [pow_data] at t2
  refine ⟨Lib.tabIs_of_head gn1 gt1 Tryz.underlying149 Tryz.underlying82 c82 c149 t2, ?_, ?_⟩
  · obtain ⟨a, s, hv, -, -, -⟩ := laid_sentinel t5 gn2 gt2 Tryz.underlying57 row157 Tryz.underlying157 Tryz.underlying159 rfl rfl Tryz.underlying9 c159 c9
    exact ⟨_, _, hv⟩
  · obtain ⟨a, s, hv, -, -, -⟩ := laid_sentinel t4 gn3 gt3 Tryz.underlying57 row157 Tryz.underlying157 Tryz.underlying159 rfl rfl Tryz.underlying9 c159 c9
    exact ⟨_, _, hv⟩

end Go.Proofs.YtjapahcbhjjeiaaGreatDoor.AS
