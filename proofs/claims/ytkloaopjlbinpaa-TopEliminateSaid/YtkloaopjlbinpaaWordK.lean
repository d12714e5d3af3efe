/- The walks of word.kind, word.Plain. No condition but that a number is of its kind. -/
import Derived.Test.YtkloaopjlbinpaaWordA
set_option linter.unusedVariables false
namespace Go.Proofs.Ytkloaopjlbinpaa
open Go.RowKit

/-- A word. -/
def wd (v n r : Int) : Value := .agg #[.int .i64 v, .int .u32 n, .int .u32 r]
/-- The word in memory. -/
def wdO (v n r : Int) : Obj := .cells #[.int .i64 v, .int .u32 n, .int .u32 r] 63
/-- A word's kind: plain 0, held 1, broken 2. -/
def kindV (r : Int) : Int := if r = 0 then 0 else if 0 < whoA r then 1 else 2

theorem whoA_zero : whoA 0 = 0 := by decide
theorem whoB_zero : whoB 0 = 0 := by decide

set_option maxRecDepth 100000 in
set_option maxHeartbeats 1600000 in
theorem kind_any (v n r : Int) (w : World) (h0 : 0 ≤ r) (h1 : r < 4294967296) :
    Calls Try.prog 65 #[wd v n r] w fun e w' => e = .returned (.int .i64 (kindV r)) ∧ w' = w.alloc (wdO v n r) := by
  unfold wd wdO
  obtain ⟨k, hk⟩ : ∃ k, k = kindV r := ⟨_, rfl⟩
  rw [← hk]
  by_cases hr : r = 0
  · subst hr
    obtain rfl : k = 0 := by rw [hk]; rfl
    clear hk
    go_enter Try.func65, Try.ntmps65
    go_wp2_with fail
    refine (who_any _ _ h0 h1).mono ?_
    rintro e w1 ⟨rfl, rfl⟩
    go_wp2
    go_ret
    exact ⟨rfl, rfl⟩
  · by_cases hw : 0 < whoA r
    · obtain rfl : k = 1 := by rw [hk]; simp only [kindV, if_neg hr, if_pos hw]
      clear hk
      have HW := Lib.hid (who_any r)
      generalize whoA r = a at *
      go_enter Try.func65, Try.ntmps65
      go_wp2_with fail
      refine (HW.out _ h0 h1).mono ?_
      rintro e w1 ⟨rfl, rfl⟩
      go_wp2
      go_ret
      exact ⟨rfl, rfl⟩
    · obtain rfl : k = 2 := by rw [hk]; simp only [kindV, if_neg hr, if_neg hw]
      clear hk
      have HW := Lib.hid (who_any r)
      generalize whoA r = a at *
      go_enter Try.func65, Try.ntmps65
      go_wp2_with fail
      refine (HW.out _ h0 h1).mono ?_
      rintro e w1 ⟨rfl, rfl⟩
      go_wp2
      go_ret
      exact ⟨rfl, rfl⟩

set_option maxRecDepth 100000 in
set_option maxHeartbeats 1600000 in
theorem plain_any (v n r : Int) (w : World) (h0 : 0 ≤ r) (h1 : r < 4294967296) :
    Calls Try.prog 52 #[wd v n r] w fun e w' => e = .returned (.bool (decide (r = 0))) ∧ w' = (w.alloc (wdO v n r)).alloc (wdO v n r) := by
  have HK := Lib.hid (kind_any v n r)
  have hk : (kindV r = 0) = (r = 0) := by
    unfold kindV
    split
    · simp [*]
    · split <;> simp [*]
  have hd : decide (r = 0) = decide (kindV r = 0) := by simp only [hk]
  rw [hd]
  unfold wd wdO at *
  generalize kindV r = k at *
  clear hk hd
  go_enter Try.func52, Try.ntmps52
  go_wp2_with fail
  refine (HK.out _ h0 h1).mono ?_
  rintro e w1 ⟨rfl, rfl⟩
  go_wp2
  go_ret
  exact ⟨rfl, rfl⟩

end Go.Proofs.Ytkloaopjlbinpaa
