/- How a law's argument that is a word is opened. -/
import Derived.Test.YtkccaadhjodhlaaDoorLift
import Derived.ShutString
import Derived.ChangeOld
import Derived.Below
import Derived.Deep.Slices
import Derived.Deep.Fields
import Derived.ChangeSame
set_option linter.unusedVariables false
namespace Go.Proofs.YtkccaadhjodhlaaDoor
open Go.ChangeShapes Go.WideShapes Go.ChangeAt Go.RowKit Go.Deep Go.OpenShut

theorem laidOut : laidOutB Tryd.prog = true := by kernel_rfl
theorem list3 {α : Type} (l : List α) (h : l.length = 3) : ∃ a b c, l = [a, b, c] := by
  match l, h with
  | [a, b, c], _ => exact ⟨a, b, c, rfl⟩

set_option maxRecDepth 100000 in
theorem trod_word {H : Type} {enc : TypeId × Value → H} {w : World} {base : Nat} {spare : Nat → Bool} {held : Bool} (n : Nat) (cs : List Value) (y : DataW H × List MemPlace) (hl : cs.length = 3)
    (h : DataW.trod enc Tryd.prog w base spare held n 33 cs = some y) : ∃ a : Int × Int × Int, cs = [.int .i64 a.1, .int .u32 a.2.1, .int .u32 a.2.2] ∧ (Lit.int .i64 a.1).wf = true ∧ (Lit.int .u32 a.2.1).wf = true ∧ (Lit.int .u32 a.2.2).wf = true := by
  obtain ⟨ys, m, _, _, _, hyl, hf⟩ := DataW.trod_struct Tryd.underlying33 h
  have c2 : Tryd.prog.cellsOf 2 = 1 := by kernel_rfl
  have c4 : Tryd.prog.cellsOf 22 = 1 := by kernel_rfl
  obtain ⟨u0, u1, u2, rfl⟩ := list3 cs hl
  obtain ⟨y0, y1, y2, rfl⟩ := list3 ys hyl
  have h0 := hf 0 _ rfl
  have h1 := hf 1 _ rfl
  have h2 := hf 2 _ rfl
  simp only [c2, c4, List.drop_zero, List.drop_succ_cons, List.take_succ_cons, List.take_zero, List.getElem?_cons_zero, List.getElem?_cons_succ] at h0 h1 h2
  obtain ⟨a, ha, _, w0⟩ := DataW.trod_int Tryd.underlying2 h0
  obtain ⟨b, hb, _, w1⟩ := DataW.trod_int Tryd.underlying22 h1
  obtain ⟨c, hc, _, w2⟩ := DataW.trod_int Tryd.underlying22 h2
  injection ha with ha; injection hb with hb; injection hc with hc
  subst ha hb hc
  exact ⟨(a, b, c), rfl, w0, w1, w2⟩

set_option maxRecDepth 100000 in
theorem word_arg {H : Type} {enc : TypeId × Value → H} {w : World} {r : Reach} {b0 : Nat} {v : Value} {d : DataW H} {p : List MemPlace} (hv : Value.okWide Tryd.prog w r b0 33 v) (h : DataW.Trod enc Tryd.prog w 0 (fun _ => true) true 33 v d p) :
    ∃ a : Int × Int × Int, v = .agg #[.int .i64 a.1, .int .u32 a.2.1, .int .u32 a.2.2] ∧ (0 ≤ a.2.1 ∧ a.2.1 < 4294967296) ∧ (0 ≤ a.2.2 ∧ a.2.2 < 4294967296) := by
  obtain ⟨cs, rfl, hs⟩ := okWide_struct Tryd.underlying33 hv
  obtain ⟨fuel, hf⟩ := h
  have hc : Tryd.prog.cellsOf 33 = 3 := by kernel_rfl
  obtain ⟨a, ha, _, w1, w2⟩ := trod_word _ _ _ (by show cs.toList.length = 3; rw [Array.length_toList, hs, hc]) hf
  have b1 := bounds_u32 w1
  have b2 := bounds_u32 w2
  refine ⟨a, ?_, by omega, by omega⟩
  congr 1
  exact Array.toList_inj.1 ha
end Go.Proofs.YtkccaadhjodhlaaDoor
