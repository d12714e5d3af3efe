/- The walk of awake. Condition: the library's tables are laid (SxW). -/
import Derived.Test.YthfjkdgaiaokdaaDoorSyI
set_option linter.unusedVariables false
set_option linter.unusedSimpArgs false
namespace Go.Proofs.YthfjkdgaiaokdaaDoor
open Go.RowKit

set_option maxRecDepth 100000 in
set_option maxHeartbeats 12800000 in
theorem awake_any (w : World) (hw : SxW w) : Calls Tryd.prog 9 #[] w fun e w' => e = .returned (.bool true) ∧ Below w.heap.size w w' := by
  have HWS := Lib.hid hw
  clear hw
  go_enter Tryd.func9, Tryd.ntmps9
  go_wp2_with fail
  refine (example_any w).mono ?_
  rintro e w1 ⟨v, rfl, hp, hb⟩
  have HP := Lib.hid hp
  have HB := Lib.hid hb
  clear hp hb
  go_wp2_with fail
  have H := print_any exP v _ w1 (HWS.out.below HB.out) HP.out ex_few
  rw [ex_printS, ex_printE] at H
  refine H.mono ?_
  rintro e w2 ⟨rfl, hb⟩
  have HB2 := Lib.hid (HB.out.trans (hb.mono HB.out.size))
  clear hb H HP HB
  go_wp2_with fail
  have HT : ∀ l, l = exT → Ending.returned (.bool ((bs exT).toList == l)) = Ending.returned (.bool true) := by
    rintro _ rfl
    rw [bs_toList, beq_self_eq_true]
  go_ret
  exact ⟨HT _ rfl, HB2.out⟩
end Go.Proofs.YthfjkdgaiaokdaaDoor
