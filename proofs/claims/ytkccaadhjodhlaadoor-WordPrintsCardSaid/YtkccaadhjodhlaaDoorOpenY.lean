/- What the rows' condition of WordParses and WordPrints says: the table of powers of ten and the two error variables. -/
import Derived.Test.YtkccaadhjodhlaaDoorOpenX
import Derived.Test.YtkccaadhjodhlaaDoorWordR
import Derived.LaidLaws
set_option linter.unusedVariables false
namespace Go.Proofs.YtkccaadhjodhlaaDoor
open Go.ChangeShapes Go.WideShapes Go.ChangeAt Go.WideMaps Go.WideElems Go.RowKit

theorem var_row {w : World} {n : String} {g : Nat} {cs : Array Value} (hg : Tryd.prog.globalNamed n = some g) (h : w.var? Tryd.prog n = some cs) : ∃ t fr, w.heap[g]? = some (.cells cs t fr) := by
  simp only [World.var?, hg, Option.bind_some] at h
  split at h
  · rename_i c t fr he
    injection h with h
    subst h
    exact ⟨_, _, he⟩
  · cases h
theorem pw_of {w : World} (h : laidMetH Tryd.prog Rows.wordParsesRow.laid w) : PW w := by
  have h : laidMet Tryd.prog Rows.wordParsesRow.laid w := h
  have hp : Pow w := Lib.tabIs_of_head gPow gPowT Tryd.underlying82 Tryd.underlying51 (by kernel_rfl) (by kernel_rfl) h.tail.tail
  obtain ⟨ps, hv, hnd, hc⟩ := h
  obtain ⟨g1, t1, cs1, f1, p1, q1, _, _, _, _, hv, _⟩ := hv
  obtain ⟨g2, t2, cs2, f2, p2, q2, _, _, _, _, hv, _⟩ := hv
  obtain ⟨g3, t3, cs3, f3, p3, q3, _, _, _, _, hv, _⟩ := hv
  obtain ⟨g4, t4, cs4, f4, p4, q4, hg4, ht4, hw4, hd4, hv, _⟩ := hv
  obtain ⟨g5, t5, cs5, f5, p5, q5, hg5, ht5, hw5, hd5, hv, _⟩ := hv
  obtain rfl : g4 = 2 := Option.some.inj (hg4.symm.trans (by kernel_rfl))
  obtain rfl : g5 = 1 := Option.some.inj (hg5.symm.trans (by kernel_rfl))
  obtain rfl : t4 = 59 := Option.some.inj (ht4.symm.trans (by kernel_rfl))
  obtain rfl : t5 = 59 := Option.some.inj (ht5.symm.trans (by kernel_rfl))
  obtain ⟨u4, r4, h4⟩ := var_row hg4 hw4
  obtain ⟨u5, r5, h5⟩ := var_row hg5 hw5
  refine ⟨hp, ?_, ?_⟩
  · obtain ⟨fu, u, v, e5, _, _⟩ := iface_of_trod Tryd.underlying59 hd5
    refine ⟨.iface u v, ?_, .inr ⟨u, v, rfl⟩⟩
    rw [cell_of_row _ _ _ _ _ _ h5, ← Array.getElem?_toList, e5]
    rfl
  · obtain ⟨fu, u, v, e4, _, _⟩ := iface_of_trod Tryd.underlying59 hd4
    refine ⟨.iface u v, ?_, .inr ⟨u, v, rfl⟩⟩
    rw [cell_of_row _ _ _ _ _ _ h4, ← Array.getElem?_toList, e4]
    rfl
/-- The start-up heap meets the condition. -/
theorem door_met2 (os : Os) (args : Array Value) : laidMetH Tryd.prog Rows.wordParsesRow.laid ((World.doorLaid Tryd.prog 62 os).forCall (fun _ _ => 0) ⟨#[], args, []⟩).memory :=
  laidMetH_of_parts3 (fuel := 8) (laidMet_of_run' 8 (by kernel_rfl) (by kernel_rfl)) (by kernel_rfl) (by kernel_rfl)
end Go.Proofs.YtkccaadhjodhlaaDoor
