/- How a law's arguments that are an act, or a pair of stamps, by value, are opened. -/
import Derived.Test.YtpejhgkcofilmaaOpen
set_option linter.unusedVariables false
namespace Go.Proofs.Ytpejhgkcofilmaa
open Go.ChangeShapes Go.WideShapes Go.ChangeAt Go.RowKit Go.Deep

theorem list2 {α : Type} (l : List α) (h : l.length = 2) : ∃ a b, l = [a, b] := by
  match l, h with
  | [a, b], _ => exact ⟨a, b, rfl⟩

set_option maxRecDepth 100000 in
theorem act_arg {H : Type} {enc : TypeId × Value → H} {w : World} {r : Reach} {b0 : Nat} {v : Value} {d : DataW H} {p : List MemPlace} (hv : Value.okWide Try.prog w r b0 44 v) (h : DataW.Trod enc Try.prog w 0 (fun _ => true) true 44 v d p) :
    ∃ a : Int × Int × Bool, v = .agg #[.int .i64 a.1, .int .i64 a.2.1, .bool a.2.2] ∧ True := by
  obtain ⟨cs, rfl, hs⟩ := okWide_struct Try.underlying44 hv
  obtain ⟨fuel, hf⟩ := h
  have hc : Try.prog.cellsOf 44 = 3 := by kernel_rfl
  obtain ⟨a, ha, _⟩ := trod_act _ _ _ (by show cs.toList.length = 3; rw [Array.length_toList, hs, hc]) hf
  refine ⟨a, ?_, trivial⟩
  congr 1
  exact Array.toList_inj.1 ha

set_option maxRecDepth 100000 in
theorem pair_arg {H : Type} {enc : TypeId × Value → H} {w : World} {r : Reach} {b0 : Nat} {v : Value} {d : DataW H} {p : List MemPlace} (hv : Value.okWide Try.prog w r b0 45 v) (h : DataW.Trod enc Try.prog w 0 (fun _ => true) true 45 v d p) :
    ∃ a : Int × Int, v = .agg #[.int .i64 a.1, .int .i64 a.2] ∧ True := by
  simp only [Value.okWide, Try.underlying45] at hv
  obtain ⟨cs, rfl, hs, _⟩ := hv
  obtain ⟨fuel, hf⟩ := h
  have hc : Try.prog.cellsOf 45 = 2 := by kernel_rfl
  have c2 : Try.prog.cellsOf 2 = 1 := by kernel_rfl
  obtain ⟨ys, m, _, _, _, hyl, hg⟩ := DataW.trod_array Try.underlying45 hf
  obtain ⟨u0, u1, hu⟩ := list2 cs.toList (by rw [Array.length_toList, hs, hc])
  obtain ⟨y0, y1, rfl⟩ := list2 ys hyl
  have h0 := hg 0 (by omega)
  have h1 := hg 1 (by omega)
  simp only [Value.cells, hu, c2, Nat.zero_mul, Nat.one_mul, List.drop_zero, List.drop_succ_cons, List.take_succ_cons, List.take_zero, List.getElem?_cons_zero, List.getElem?_cons_succ] at h0 h1
  obtain ⟨a, ha, _, _⟩ := DataW.trod_int Try.underlying2 h0
  obtain ⟨b, hb, _, _⟩ := DataW.trod_int Try.underlying2 h1
  injection ha with ha; injection hb with hb
  subst ha hb
  refine ⟨(a, b), ?_, trivial⟩
  congr 1
  exact Array.toList_inj.1 hu
end Go.Proofs.Ytpejhgkcofilmaa
