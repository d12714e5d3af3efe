/- Contracts of package strconv at small numbers, out of the kit's shelf, and the walk of strconv.FormatUint at small numbers. Condition: the number is below 100. -/
import Derived.Shelf.Lay
import Derived.Shelf.Strconv.Itoa1
import Derived.Shelf.Strconv.Itoa3
import Derived.Shelf.Strconv.Itoa4
import Derived.Test.YtkccaadhjodhlaaDoorWordB
set_option linter.unusedVariables false
namespace Go.Proofs
open Go.Shelf
shelf_lay Lays.n283 Nm 283 at Tryd as Tryd.lays283
shelf_lay Lays.n171 Nm 171 at Tryd as Tryd.lays171
shelf_lay Lays.n173 Nm 173 at Tryd as Tryd.lays173
end Go.Proofs
namespace Go.Proofs.YtkccaadhjodhlaaDoor
open Go.RowKit

theorem small_any (i : Nat) (h : i < 100) (w : World) :
    Calls Tryd.prog 39 #[.int .i64 i] w fun e w' => e = .returned (.string ⟨(Lib.decDigits i).toArray⟩) ∧ w' = w := Go.Proofs.Any.internal_strconv_small Tryd.lays283 i h w
theorem itoa_small (i : Nat) (h : i < 100) (w : World) :
    Calls Tryd.prog 24 #[.int .i64 i] w fun e w' => e = .returned (.string ⟨(Lib.decDigits i).toArray⟩) ∧ w' = w := Go.Proofs.Any.strconv_Itoa_small Tryd.lays171 i h w
theorem fmtI_small (i : Nat) (h : i < 100) (w : World) :
    Calls Tryd.prog 22 #[.int .i64 i, .int .i64 10] w fun e w' => e = .returned (.string ⟨(Lib.decDigits i).toArray⟩) ∧ w' = w := Go.Proofs.Any.strconv_FormatInt_10_small Tryd.lays173 i h w
set_option maxRecDepth 100000 in
set_option maxHeartbeats 1600000 in
theorem fmtU_inner (i : Nat) (h : i < 100) (w : World) :
    Calls Tryd.prog 32 #[.int .u64 i, .int .i64 10] w fun e w' => e = .returned (.string ⟨(Lib.decDigits i).toArray⟩) ∧ w' = w := by
  have H := Lib.hid (small_any i h)
  generalize Lib.decDigits i = L at *
  obtain ⟨a, ha⟩ : ∃ a : Int, a = (i : Int) := ⟨_, rfl⟩
  rw [← ha] at H ⊢
  have h1 : 0 ≤ a := by omega
  have h2 : a < 100 := by omega
  clear ha h
  go_enter Tryd.func32, Tryd.ntmps32
  go_wp2_with fail
  refine (H.out _).mono ?_
  rintro e w1 ⟨rfl, rfl⟩
  go_wp2
  go_ret
  exact ⟨rfl, rfl⟩
set_option maxRecDepth 100000 in
set_option maxHeartbeats 1600000 in
theorem fmtU_small (i : Nat) (h : i < 100) (w : World) :
    Calls Tryd.prog 23 #[.int .u64 i, .int .i64 10] w fun e w' => e = .returned (.string ⟨(Lib.decDigits i).toArray⟩) ∧ w' = w := by
  have H := Lib.hid (fmtU_inner i h)
  generalize Lib.decDigits i = L at *
  go_enter Tryd.func23, Tryd.ntmps23
  go_wp2_with fail
  refine (H.out _).mono ?_
  rintro e w1 ⟨rfl, rfl⟩
  go_wp2
  go_ret
  exact ⟨rfl, rfl⟩
end Go.Proofs.YtkccaadhjodhlaaDoor
