/- What the lifting of each syntax card needs: the heap that the start-up code leaves meets the rows' condition; the condition says what the package's tables hold. No condition. -/
import Derived.Test.YthfjkdgaiaokdaaDoorRows
import Derived.Test.YthfjkdgaiaokdaaDoorChecked
import Derived.ProofKit
import Derived.LaidMore
import Derived.OpenShut
import Derived.Stop.Joined
import Derived.RowKit
import Derived.RowKit3
import Derived.RowKitTokens
import Derived.LaidLaws
import Derived.Test.YthfjkdgaiaokdaaDoorSyO
import Derived.Test.YthfjkdgaiaokdaaDoorSyP
import Derived.Lib.LaidTab
import Derived.Stop.LaidErr
set_option linter.unusedVariables false
namespace Go.Proofs.YthfjkdgaiaokdaaDoor
open Go.ChangeShapes Go.WideShapes Go.ChangeAt Go.WideMaps Go.WideElems Go.RowKit

theorem own : ownKnob Tryd.prog.godebug = none := by kernel_rfl
/-- The door's own heap meets the condition. -/
theorem door_met (os : Os) (args : Array Value) : laidMetH Tryd.prog Rows.syntaxChecksRow.laid ((World.doorLaid Tryd.prog 65 os).forCall (fun _ _ => 0) ⟨#[], args, []⟩).memory :=
  laidMetH_of_parts3 (fuel := 8) (laidMet_of_run' 8 (by kernel_rfl) (by kernel_rfl)) (by kernel_rfl) (by kernel_rfl)

set_option maxRecDepth 100000 in
theorem row_of_trod {H : Type} {enc : TypeId × Value → H} {w : World} {base fuel n : Nat} {sp : Nat → Bool} {held : Bool} {t : TypeId} {cs : List Value} {ls : List (List UInt8)} {p : List MemPlace} (ht : Tryd.prog.underlying t = some (.array n 9))
    (h : DataW.trod enc Tryd.prog w base sp held fuel t cs = some (.agg (ls.map fun l => .lit (.string l)), p)) (hl : ls.length = n) (hct : Tryd.prog.cellsOf t = n) : cs = ls.map fun l => Value.string (bs l) := by
  obtain ⟨xs, m, _, hx, hcs, hxl, hf⟩ := DataW.trod_array ht h
  rw [hct] at hcs
  have c1 : Tryd.prog.cellsOf 9 = 1 := by kernel_rfl
  rw [c1] at hf
  have hxm : xs.map (·.1) = ls.map fun l => .lit (.string l) := by
    injection hx with hx _
    injection hx with hx
    exact hx.symm
  apply List.ext_getElem?
  intro i
  by_cases hi : i < n
  · have h1 := hf i hi
    rw [Nat.mul_one] at h1
    have hxi : i < xs.length := by omega
    rw [List.getElem?_eq_getElem hxi] at h1
    obtain ⟨s, hs, hv, _⟩ := DataW.trod_string Tryd.underlying9 h1
    have h2 : xs[i].1 = .lit (.string ls[i]) := by
      have := congrArg (fun l => l[i]?) hxm
      simp only [List.getElem?_map, List.getElem?_eq_getElem hxi, List.getElem?_eq_getElem (show i < ls.length by omega), Option.map_some] at this
      exact Option.some.inj this
    rw [hv] at h2
    have h3 : s.data.toList = ls[i] := by
      injection h2 with h2
      injection h2
    have hci : i < cs.length := by omega
    have h4 : cs[i] = .string s := by
      rw [List.drop_eq_getElem_cons hci] at hs
      have := congrArg List.head? hs
      exact Option.some.inj this
    rw [List.getElem?_eq_getElem hci, h4, List.getElem?_map, List.getElem?_eq_getElem (show i < ls.length by omega), ← h3, Option.map_some, bs_eta]
  · rw [List.getElem?_eq_none (by omega), List.getElem?_eq_none (by simp; omega)]

theorem var_row {w : World} {n : String} {g : Nat} {cs : Array Value} (hg : Tryd.prog.globalNamed n = some g) (h : w.var? Tryd.prog n = some cs) : ∃ t fr, w.heap[g]? = some (.cells cs t fr) := by
  simp only [World.var?, hg, Option.bind_some] at h
  split at h
  · rename_i c t fr he
    injection h with h
    subst h
    exact ⟨_, _, he⟩
  · cases h
theorem gPowT : (Tryd.prog.globals[2]?).map (·.type) = some 145 := by kernel_rfl
theorem sxw_of_laid {w : World} (h : laidMetH Tryd.prog Rows.syntaxChecksRow.laid w) : SxW w := by
  refine ⟨?_, ?_⟩
  · have h : laidMet Tryd.prog Rows.syntaxChecksRow.laid w := h
    obtain ⟨ps, hv, hnd, hc⟩ := h
    obtain ⟨g1, t1, cs1, f1, p1, q1, _, _, _, _, hv, _⟩ := hv
    obtain ⟨g2, t2, cs2, f2, p2, q2, _, _, _, _, hv, _⟩ := hv
    obtain ⟨g3, t3, cs3, f3, p3, q3, _, _, _, _, hv, _⟩ := hv
    obtain ⟨g4, t4, cs4, f4, p4, q4, hg4, ht4, hw4, hd4, hv, _⟩ := hv
    obtain rfl : g4 = 0 := Option.some.inj (hg4.symm.trans (by kernel_rfl))
    obtain rfl : t4 = 119 := Option.some.inj (ht4.symm.trans (by kernel_rfl))
    obtain ⟨u4, r4, h4⟩ := var_row hg4 hw4
    have e4 := row_of_trod (ls := kwords) Tryd.underlying119 hd4 rfl (by kernel_rfl)
    exact ⟨u4, r4, by rw [h4, ← e4]⟩
  · rw [MakeChecks.laidMetH_plain _ _ _ (by kernel_rfl)] at h
    exact Lib.tabIs_of_head gPow gPowT Tryd.underlying145 Tryd.underlying125 (by kernel_rfl) (by kernel_rfl) h.tail.tail
end Go.Proofs.YthfjkdgaiaokdaaDoor
