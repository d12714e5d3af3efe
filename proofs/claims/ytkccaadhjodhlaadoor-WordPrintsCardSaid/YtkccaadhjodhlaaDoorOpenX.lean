/- How a law's argument that is a pair of ints is opened; what the row's condition says of the table of powers of ten. -/
import Derived.Test.YtkccaadhjodhlaaDoorOpenW
import Derived.Test.YtkccaadhjodhlaaDoorWordX
import Derived.Lib.LaidTab
import Derived.Stop.LaidErr
set_option linter.unusedVariables false
namespace Go.Proofs.YtkccaadhjodhlaaDoor
open Go.ChangeShapes Go.WideShapes Go.ChangeAt Go.RowKit Go.Deep Go.OpenShut

theorem list2 {α : Type} (l : List α) (h : l.length = 2) : ∃ a b, l = [a, b] := by
  match l, h with
  | [a, b], _ => exact ⟨a, b, rfl⟩

set_option maxRecDepth 100000 in
theorem pair_arg {H : Type} {enc : TypeId × Value → H} {w : World} {r : Reach} {b0 : Nat} {v : Value} {d : DataW H} {p : List MemPlace} (hv : Value.okWide Tryd.prog w r b0 40 v) (h : DataW.Trod enc Tryd.prog w 0 (fun _ => true) true 40 v d p) :
    ∃ a : Int × Int, v = .agg #[.int .i64 a.1, .int .i64 a.2] ∧ True := by
  simp only [Value.okWide, Tryd.underlying40] at hv
  obtain ⟨cs, rfl, hs, _⟩ := hv
  obtain ⟨fuel, hf⟩ := h
  have hc : Tryd.prog.cellsOf 40 = 2 := by kernel_rfl
  have c2 : Tryd.prog.cellsOf 3 = 1 := by kernel_rfl
  obtain ⟨ys, m, _, _, _, hyl, hg⟩ := DataW.trod_array Tryd.underlying40 hf
  obtain ⟨u0, u1, hu⟩ := list2 cs.toList (by rw [Array.length_toList, hs, hc])
  obtain ⟨y0, y1, rfl⟩ := list2 ys hyl
  have h0 := hg 0 (by omega)
  have h1 := hg 1 (by omega)
  simp only [Value.cells, hu, c2, Nat.zero_mul, Nat.one_mul, List.drop_zero, List.drop_succ_cons, List.take_succ_cons, List.take_zero, List.getElem?_cons_zero, List.getElem?_cons_succ] at h0 h1
  obtain ⟨a, ha, _, _⟩ := DataW.trod_int Tryd.underlying3 h0
  obtain ⟨b, hb, _, _⟩ := DataW.trod_int Tryd.underlying3 h1
  injection ha with ha; injection hb with hb
  subst ha hb
  refine ⟨(a, b), ?_, trivial⟩
  congr 1
  exact Array.toList_inj.1 hu

theorem gPowT : (Tryd.prog.globals[0]?).map (·.type) = some 82 := by kernel_rfl
theorem pow_of {W : World} (h : laidMetH Tryd.prog Rows.wordDistinctRow.laid W) : Pow W := by
  rw [MakeChecks.laidMetH_plain _ _ _ (by kernel_rfl)] at h
  exact Lib.tabIs_of_head gPow gPowT Tryd.underlying82 Tryd.underlying51 (by kernel_rfl) (by kernel_rfl) h.tail.tail

set_option maxRecDepth 100000 in
theorem word_arg64 {H : Type} {enc : TypeId × Value → H} {w : World} {r : Reach} {b0 : Nat} {v : Value} {d : DataW H} {p : List MemPlace} (hv : Value.okWide Tryd.prog w r b0 33 v) (h : DataW.Trod enc Tryd.prog w 0 (fun _ => true) true 33 v d p) :
    ∃ a : Int × Int × Int, v = .agg #[.int .i64 a.1, .int .u32 a.2.1, .int .u32 a.2.2] ∧ ((-9223372036854775808 ≤ a.1 ∧ a.1 ≤ 9223372036854775807) ∧ (0 ≤ a.2.1 ∧ a.2.1 < 4294967296) ∧ (0 ≤ a.2.2 ∧ a.2.2 < 4294967296)) := by
  obtain ⟨cs, rfl, hs⟩ := okWide_struct Tryd.underlying33 hv
  obtain ⟨fuel, hf⟩ := h
  have hc : Tryd.prog.cellsOf 33 = 3 := by kernel_rfl
  obtain ⟨a, ha, w0, w1, w2⟩ := trod_word _ _ _ (by show cs.toList.length = 3; rw [Array.length_toList, hs, hc]) hf
  have b0 := bounds_i64 w0
  have b1 := bounds_u32 w1
  have b2 := bounds_u32 w2
  refine ⟨a, ?_, b0, by omega, by omega⟩
  congr 1
  exact Array.toList_inj.1 ha
end Go.Proofs.YtkccaadhjodhlaaDoor
