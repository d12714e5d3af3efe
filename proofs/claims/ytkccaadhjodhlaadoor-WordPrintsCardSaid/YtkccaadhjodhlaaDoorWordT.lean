/- The walk of word.Text at the three words of the document's example. No condition. -/
import Derived.Test.YtkccaadhjodhlaaDoorWordS
set_option linter.unusedVariables false
namespace Go.Proofs.YtkccaadhjodhlaaDoor
open Go.RowKit

set_option maxRecDepth 100000 in
set_option maxHeartbeats 3200000 in
theorem text_a (w : World) :
    Calls Tryd.prog 17 #[wd 5 2 16777223] w fun e w' => e = .returned (.string ⟨#[53, 46, 50, 35, 49, 58, 55]⟩) ∧ w' = (w.alloc (wdO 5 2 16777223)).alloc (wdO 5 2 16777223) := by
  have HK := Lib.hid (kind_any 5 2 16777223)
  rw [show kindV 16777223 = 1 by decide] at HK
  have c1 := fmtI_small 5 (by decide)
  have c2 := fmtU_small 2 (by decide)
  rw [show Lib.decDigits 5 = [53] by simp [Lib.decDigits]; try decide] at c1
  rw [show Lib.decDigits 2 = [50] by simp [Lib.decDigits]; try decide] at c2
  have C1 := Lib.hid c1
  have C2 := Lib.hid c2
  clear c1 c2
  have c3 := itoa_small 1 (by decide)
  have c4 := itoa_small 7 (by decide)
  rw [show Lib.decDigits 1 = [49] by simp [Lib.decDigits]; try decide] at c3
  rw [show Lib.decDigits 7 = [55] by simp [Lib.decDigits]; try decide] at c4
  have C3 := Lib.hid c3
  have C4 := Lib.hid c4
  have c5 := fun w => who_any 16777223 w (by decide) (by decide)
  rw [show whoA 16777223 = 1 by decide, show whoB 16777223 = 7 by decide] at c5
  have C5 := Lib.hid c5
  clear c3 c4 c5
  unfold wd wdO at *
  go_enter Tryd.func17, Tryd.ntmps17
  go_wp2_with fail
  refine (HK.out _ (by decide) (by decide)).mono ?_
  rintro e w1 ⟨rfl, rfl⟩
  go_wp2_with fail
  refine (C1.out _).mono ?_
  rintro e w1 ⟨rfl, rfl⟩
  go_wp2_with fail
  refine (C2.out _).mono ?_
  rintro e w1 ⟨rfl, rfl⟩
  go_wp2_with fail
  refine (C5.out _).mono ?_
  rintro e w1 ⟨rfl, rfl⟩
  go_wp2_with fail
  refine (C3.out _).mono ?_
  rintro e w1 ⟨rfl, rfl⟩
  go_wp2_with fail
  refine (C4.out _).mono ?_
  rintro e w1 ⟨rfl, rfl⟩
  go_wp2
  go_ret
  exact ⟨rfl, rfl⟩

set_option maxRecDepth 100000 in
set_option maxHeartbeats 3200000 in
theorem text_b (w : World) :
    Calls Tryd.prog 17 #[wd 9 3 0] w fun e w' => e = .returned (.string ⟨#[57, 46, 51]⟩) ∧ w' = (w.alloc (wdO 9 3 0)).alloc (wdO 9 3 0) := by
  have HK := Lib.hid (kind_any 9 3 0)
  rw [show kindV 0 = 0 by decide] at HK
  have c1 := fmtI_small 9 (by decide)
  have c2 := fmtU_small 3 (by decide)
  rw [show Lib.decDigits 9 = [57] by simp [Lib.decDigits]; try decide] at c1
  rw [show Lib.decDigits 3 = [51] by simp [Lib.decDigits]; try decide] at c2
  have C1 := Lib.hid c1
  have C2 := Lib.hid c2
  clear c1 c2
  unfold wd wdO at *
  go_enter Tryd.func17, Tryd.ntmps17
  go_wp2_with fail
  refine (HK.out _ (by decide) (by decide)).mono ?_
  rintro e w1 ⟨rfl, rfl⟩
  go_wp2_with fail
  refine (C1.out _).mono ?_
  rintro e w1 ⟨rfl, rfl⟩
  go_wp2_with fail
  refine (C2.out _).mono ?_
  rintro e w1 ⟨rfl, rfl⟩
  go_wp2
  go_ret
  exact ⟨rfl, rfl⟩

set_option maxRecDepth 100000 in
set_option maxHeartbeats 3200000 in
theorem text_c (w : World) :
    Calls Tryd.prog 17 #[wd 5 2 0] w fun e w' => e = .returned (.string ⟨#[53, 46, 50]⟩) ∧ w' = (w.alloc (wdO 5 2 0)).alloc (wdO 5 2 0) := by
  have HK := Lib.hid (kind_any 5 2 0)
  rw [show kindV 0 = 0 by decide] at HK
  have c1 := fmtI_small 5 (by decide)
  have c2 := fmtU_small 2 (by decide)
  rw [show Lib.decDigits 5 = [53] by simp [Lib.decDigits]; try decide] at c1
  rw [show Lib.decDigits 2 = [50] by simp [Lib.decDigits]; try decide] at c2
  have C1 := Lib.hid c1
  have C2 := Lib.hid c2
  clear c1 c2
  unfold wd wdO at *
  go_enter Tryd.func17, Tryd.ntmps17
  go_wp2_with fail
  refine (HK.out _ (by decide) (by decide)).mono ?_
  rintro e w1 ⟨rfl, rfl⟩
  go_wp2_with fail
  refine (C1.out _).mono ?_
  rintro e w1 ⟨rfl, rfl⟩
  go_wp2_with fail
  refine (C2.out _).mono ?_
  rintro e w1 ⟨rfl, rfl⟩
  go_wp2
  go_ret
  exact ⟨rfl, rfl⟩

end Go.Proofs.YtkccaadhjodhlaaDoor
