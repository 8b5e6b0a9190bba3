/- What AsmBack's row lists gives the variables' state; its arguments' readings. -/
import Derived.Test.YtjapahcbhjjeiaaGreatDoorK16
import Derived.Test.YtjapahcbhjjeiaaGreatDoorOpen
import Derived.WideShapes
import Derived.ChangeMaps5
import Derived.LaidSub
import Derived.LaidLaws
import Derived.Stop.LaidErr
import Derived.Lib.LaidTab
namespace Go.Proofs.YtjapahcbhjjeiaaGreatDoor.AS
open Go.RowKit Go.WideShapes Go.ChangeShapes Go.Proofs.YtjapahcbhjjeiaaGreatDoorW.PrintWords Go.Proofs.YtjapahcbhjjeiaaGreatDoor.Opn
set_option linter.unusedVariables false
set_option maxRecDepth 100000

theorem gt1 : (Tryz.prog.globals[1]?).map (·.type) = some 149 := by kernel_rfl
theorem gt2 : (Tryz.prog.globals[2]?).map (·.type) = some 57 := by kernel_rfl
theorem gt3 : (Tryz.prog.globals[3]?).map (·.type) = some 57 := by kernel_rfl
theorem c149 : Tryz.prog.cellsOf 149 = 20 := by kernel_rfl
theorem c82 : Tryz.prog.cellsOf 82 = 1 := by kernel_rfl
theorem c159 : Tryz.prog.cellsOf 159 = 1 := by kernel_rfl
theorem c9 : Tryz.prog.cellsOf 9 = 1 := by kernel_rfl
theorem star : "*" ++ "errors.errorString" = "*errors.errorString" := by decide
theorem row157 (u : TypeId) (h : Tryz.prog.typeName? 3 u = some "*errors.errorString") : u = 157 :=
  typeName_ptr_named (nm := "errors.errorString") (by rw [star]; kernel_rfl) (by kernel_rfl) (by decide) u (by rw [star]; exact h)
theorem pow_data : (Rows.laid_internal_strconv_uint64pow10 : DataW Unit) = Lib.tabData .u64 Lib.pow10Tab := by kernel_rfl

theorem gw_of (W : World) (h : laidMet Tryz.prog [("math/bits.deBruijn32tab", Rows.laid_math_bits_deBruijn32tab), ("math/bits.deBruijn64tab", Rows.laid_math_bits_deBruijn64tab), ("internal/strconv.uint64pow10", Rows.laid_internal_strconv_uint64pow10), ("unicode/utf8.acceptRanges", Rows.laid_unicode_utf8_acceptRanges), ("strconv.ErrRange", Rows.laid_strconv_ErrRange), ("strconv.ErrSyntax", Rows.laid_strconv_ErrSyntax), ("unicode/utf8.first", Rows.laid_unicode_utf8_first)] W) : GW W := by
  have t2 := h.tail.tail
  have t4 := t2.tail.tail
  have t5 := t4.tail
  rw [pow_data] at t2
  refine ⟨Lib.tabIs_of_head gn1 gt1 Tryz.underlying149 Tryz.underlying82 c82 c149 t2, ?_, ?_⟩
  · obtain ⟨a, s, hv, -, -, -⟩ := laid_sentinel t5 gn2 gt2 Tryz.underlying57 row157 Tryz.underlying157 Tryz.underlying159 rfl rfl Tryz.underlying9 c159 c9
    exact ⟨_, _, hv⟩
  · obtain ⟨a, s, hv, -, -, -⟩ := laid_sentinel t4 gn3 gt3 Tryz.underlying57 row157 Tryz.underlying157 Tryz.underlying159 rfl rfl Tryz.underlying9 c159 c9
    exact ⟨_, _, hv⟩

theorem open_ins {H : Type} {enc : TypeId × Value → H} {W : World} {base : Nat} {v : Value} {d : DataW H} {p : List MemPlace} (o : Value.okWide Tryz.prog W .any base 23 v) (h : DataW.Trod enc Tryz.prog W 0 (fun _ => true) true 23 v d p) : ∃ i : Ins, v = insV i := by
  obtain ⟨cs, rfl, hs⟩ := okWide_struct Tryz.underlying23 o
  obtain ⟨m, hm⟩ := h
  have hs8 : cs.size = 8 := hs.trans (by kernel_rfl)
  obtain ⟨n, hl, hf⟩ := opens_fields Tryz.underlying23 hm
  have hc : (Value.agg cs).cells.toList = cs.toList := rfl
  rw [hc] at hf
  obtain ⟨l⟩ := cs
  simp only [List.size_toArray] at hs8
  match l, hs8 with
  | [x0, x1, x2, x3, x4, x5, x6, x7], _ =>
    have c3 : Tryz.prog.cellsOf 3 = 1 := by kernel_rfl
    have c4 : Tryz.prog.cellsOf 4 = 1 := by kernel_rfl
    obtain ⟨y0, e0, _⟩ := hf 0 _ rfl
    obtain ⟨y1, e1, _⟩ := hf 1 _ rfl
    obtain ⟨y2, e2, _⟩ := hf 2 _ rfl
    obtain ⟨y3, e3, _⟩ := hf 3 _ rfl
    obtain ⟨y4, e4, _⟩ := hf 4 _ rfl
    obtain ⟨y5, e5, _⟩ := hf 5 _ rfl
    obtain ⟨y6, e6, _⟩ := hf 6 _ rfl
    obtain ⟨y7, e7, _⟩ := hf 7 _ rfl
    replace e0 : DataW.trod enc Tryz.prog W 0 (fun _ => true) true n 3 [x0] = some y0 := e0
    replace e1 : DataW.trod enc Tryz.prog W 0 (fun _ => true) true n 3 [x1] = some y1 := e1
    replace e2 : DataW.trod enc Tryz.prog W 0 (fun _ => true) true n 3 [x2] = some y2 := e2
    replace e3 : DataW.trod enc Tryz.prog W 0 (fun _ => true) true n 3 [x3] = some y3 := e3
    replace e4 : DataW.trod enc Tryz.prog W 0 (fun _ => true) true n 3 [x4] = some y4 := e4
    replace e5 : DataW.trod enc Tryz.prog W 0 (fun _ => true) true n 3 [x5] = some y5 := e5
    replace e6 : DataW.trod enc Tryz.prog W 0 (fun _ => true) true n 3 [x6] = some y6 := e6
    replace e7 : DataW.trod enc Tryz.prog W 0 (fun _ => true) true n 4 [x7] = some y7 := e7
    obtain ⟨n0, q0, _⟩ := DataW.trod_int Tryz.underlying3 e0
    obtain ⟨n1, q1, _⟩ := DataW.trod_int Tryz.underlying3 e1
    obtain ⟨n2, q2, _⟩ := DataW.trod_int Tryz.underlying3 e2
    obtain ⟨n3, q3, _⟩ := DataW.trod_int Tryz.underlying3 e3
    obtain ⟨n4, q4, _⟩ := DataW.trod_int Tryz.underlying3 e4
    obtain ⟨n5, q5, _⟩ := DataW.trod_int Tryz.underlying3 e5
    obtain ⟨n6, q6, _⟩ := DataW.trod_int Tryz.underlying3 e6
    obtain ⟨b7, q7, _⟩ := DataW.trod_bool Tryz.underlying4 e7
    simp only [List.cons.injEq, and_true] at q0 q1 q2 q3 q4 q5 q6 q7
    subst q0 q1 q2 q3 q4 q5 q6 q7
    exact ⟨⟨n0, n1, n2, n3, n4, n5, n6, b7⟩, rfl⟩

end Go.Proofs.YtjapahcbhjjeiaaGreatDoor.AS
