/- The walks of the document's example and of awake. Condition: the library's tables are laid (SxW). -/
import Derived.Test.YthfjkdgaiaokdaaDoorSyH
set_option linter.unusedVariables false
set_option linter.unusedSimpArgs false
namespace Go.Proofs.YthfjkdgaiaokdaaDoor
open Go.RowKit

set_option maxRecDepth 100000 in
set_option maxHeartbeats 12800000 in
theorem example_any (w : World) : Calls Tryd.prog 17 #[] w fun e w' => ∃ v, e = .returned v ∧ PV w' (fun _ => True) exP v ∧ Below w.heap.size w w' := by
  have HL := Lib.hid (lays_at (exB w.heap.size) w)
  have HB := Lib.hid (lays_below (exB w.heap.size) w w (Below.refl _ _))
  have HP := Lib.hid (ex_pv (lays w (exB w.heap.size)) w.heap.size HL.out)
  have HZ := Lib.hid (HL.out 0 _ rfl)
  obtain ⟨w1, hw1⟩ : ∃ w1 : World, w1 = lays w (exB w.heap.size) := ⟨_, rfl⟩
  rw [← hw1] at HB HP HZ
  clear HL
  go_enter Tryd.func17, Tryd.ntmps17
  go_wp2_with fail
  change bodyPost _ _ _ _ _ (lays w (exB w.heap.size))
  rw [← hw1]
  clear hw1
  refine bodyPost_ret (results_cell_row rfl _ _ w.heap.size _ _ _ _ rfl HZ.out Tryd.underlying25 rfl (by first | rfl | kernel_rfl)) rfl ⟨_, rfl, HP.out, HB.out⟩
end Go.Proofs.YthfjkdgaiaokdaaDoor
