/- The walks of word.Ref, word.Who, word.kind, word.Plain. No condition but that a number is of its kind. The walks of word.kind, word.Plain. No condition but that a number is of its kind. -/
import Derived.WalkKit
import Derived.WalkSpells
import Derived.WalkLawsBesides
import Derived.Laws.BitsAllLaws
import Derived.Lib.Hide
import Derived.BigQuiet
import Derived.Laws.Rows
import Derived.Test.YtkloaopjlbinpaaGreatBase
import Derived.Test.YtkloaopjlbinpaaGreatProg
set_option linter.unusedVariables false
namespace Go.Proofs.YtkloaopjlbinpaaGreat
open Go.RowKit

/-- A valid owner and sequence number. -/
def wOk (a b : Int) : Prop := 1 ≤ a ∧ a ≤ 72 ∧ 1 ≤ b ∧ b ≤ 16777215
instance (a b : Int) : Decidable (wOk a b) := inferInstanceAs (Decidable (_ ∧ _ ∧ _ ∧ _))
def rVal (a b : Int) : Int := if wOk a b then a * 16777216 + b else 0
def rErr (a b : Int) : Int := if wOk a b then 0 else 3
/-- A reference's owner and sequence number. -/
def whoA (r : Int) : Int := if wOk (r / 16777216) (r % 16777216) then r / 16777216 else 0
def whoB (r : Int) : Int := if wOk (r / 16777216) (r % 16777216) then r % 16777216 else 0

theorem wraps_u32 (n : Int) (h₀ : 0 ≤ n) (h₁ : n < 2 ^ 32) : IntKind.u32.wrap n = n := by rw [IntKind.wrap_u32]; omega
theorem or_ref (a b : Int) (h1 : 1 ≤ a) (h2 : a ≤ 72) (h3 : 1 ≤ b) (h4 : b ≤ 16777215) : bits .or .u32 (a * 16777216) b = a * 16777216 + b :=
  bits_join .u32 32 (by decide) wraps_u32 24 _ b (by omega) (by omega) (by omega) (by omega) (by omega) (by omega)
theorem and_ref (r : Int) (h : 0 ≤ r) (h' : r < 4294967296) : bits .and .u32 r 16777215 = r % 16777216 :=
  bits_mask .u32 32 (by decide) wraps_u32 24 (by decide) r h (by omega)

set_option maxRecDepth 100000 in
set_option maxHeartbeats 1600000 in
theorem ref_any (a b : Int) (w : World) :
    Calls Tryz.prog 114 #[.int .i64 a, .int .i64 b] w fun e w' => e = .returned (.tuple #[.int .u32 (rVal a b), .int .i64 (rErr a b)]) ∧ w' = w := by
  by_cases h : wOk a b
  · have hv : rVal a b = a * 16777216 + b := by simp only [rVal, if_pos h]
    have he : rErr a b = 0 := by simp only [rErr, if_pos h]
    rw [hv, he]
    obtain ⟨h1, h2, h3, h4⟩ := h
    have ho := or_ref a b h1 h2 h3 h4
    have k1 : ¬ a < 1 := by omega
    have k2 : ¬ 72 < a := by omega
    have k3 : ¬ b < 1 := by omega
    have k4 : ¬ 16777215 < b := by omega
    go_enter Tryz.func114, Tryz.ntmps114
    go_wp2
    go_ret2
    exact ⟨rfl, rfl⟩
  · have hv : rVal a b = 0 := by simp only [rVal, if_neg h]
    have he : rErr a b = 3 := by simp only [rErr, if_neg h]
    rw [hv, he]
    have h' : a < 1 ∨ (1 ≤ a ∧ 72 < a) ∨ (1 ≤ a ∧ a ≤ 72 ∧ b < 1) ∨ (1 ≤ a ∧ a ≤ 72 ∧ 1 ≤ b ∧ 16777215 < b) := by unfold wOk at h; omega
    clear h
    rcases h' with h1 | ⟨h1, h2⟩ | ⟨h1, h2, h3⟩ | ⟨h1, h2, h3, h4⟩
    all_goals
      go_enter Tryz.func114, Tryz.ntmps114
      go_wp2
      go_ret2
      exact ⟨rfl, rfl⟩

theorem whoA_ok {r : Int} (h : wOk (r / 16777216) (r % 16777216)) : whoA r = r / 16777216 := by simp only [whoA, if_pos h]
theorem whoB_ok {r : Int} (h : wOk (r / 16777216) (r % 16777216)) : whoB r = r % 16777216 := by simp only [whoB, if_pos h]
theorem whoA_no {r : Int} (h : ¬ wOk (r / 16777216) (r % 16777216)) : whoA r = 0 := by simp only [whoA, if_neg h]
theorem whoB_no {r : Int} (h : ¬ wOk (r / 16777216) (r % 16777216)) : whoB r = 0 := by simp only [whoB, if_neg h]

set_option maxRecDepth 100000 in
set_option maxHeartbeats 1600000 in
theorem who_any (r : Int) (w : World) (h0 : 0 ≤ r) (h1 : r < 4294967296) :
    Calls Tryz.prog 112 #[.int .u32 r] w fun e w' => e = .returned (.tuple #[.int .i64 (whoA r), .int .i64 (whoB r)]) ∧ w' = w := by
  have ha := and_ref r h0 h1
  by_cases h : wOk (r / 16777216) (r % 16777216)
  · have he : rErr (r / 16777216) (r % 16777216) = 0 := by simp only [rErr, if_pos h]
    rw [whoA_ok h, whoB_ok h]
    clear h
    go_enter Tryz.func112, Tryz.ntmps112
    go_wp2_with fail
    refine (ref_any _ _ _).mono ?_
    rintro e w1 ⟨rfl, rfl⟩
    rw [he]
    go_wp2
    go_ret2
    exact ⟨rfl, rfl⟩
  · have he : rErr (r / 16777216) (r % 16777216) = 3 := by simp only [rErr, if_neg h]
    rw [whoA_no h, whoB_no h]
    clear h
    go_enter Tryz.func112, Tryz.ntmps112
    go_wp2_with fail
    refine (ref_any _ _ _).mono ?_
    rintro e w1 ⟨rfl, rfl⟩
    rw [he]
    go_wp2
    go_ret2
    exact ⟨rfl, rfl⟩
end Go.Proofs.YtkloaopjlbinpaaGreat
namespace Go.Proofs.YtkloaopjlbinpaaGreat
open Go.RowKit

/-- A word. -/
def wd (v n r : Int) : Value := .agg #[.int .i64 v, .int .u32 n, .int .u32 r]
/-- The word in memory. -/
def wdO (v n r : Int) : Obj := .cells #[.int .i64 v, .int .u32 n, .int .u32 r] 96
/-- A word's kind: plain 0, held 1, broken 2. -/
def kindV (r : Int) : Int := if r = 0 then 0 else if 0 < whoA r then 1 else 2

theorem whoA_zero : whoA 0 = 0 := by decide
theorem whoB_zero : whoB 0 = 0 := by decide

set_option maxRecDepth 100000 in
set_option maxHeartbeats 1600000 in
theorem kind_any (v n r : Int) (w : World) (h0 : 0 ≤ r) (h1 : r < 4294967296) :
    Calls Tryz.prog 106 #[wd v n r] w fun e w' => e = .returned (.int .i64 (kindV r)) ∧ w' = w.alloc (wdO v n r) := by
  unfold wd wdO
  obtain ⟨k, hk⟩ : ∃ k, k = kindV r := ⟨_, rfl⟩
  rw [← hk]
  by_cases hr : r = 0
  · subst hr
    obtain rfl : k = 0 := by rw [hk]; rfl
    clear hk
    go_enter Tryz.func106, Tryz.ntmps106
    go_wp2_with fail
    refine (who_any _ _ h0 h1).mono ?_
    rintro e w1 ⟨rfl, rfl⟩
    go_wp2
    go_ret
    exact ⟨rfl, rfl⟩
  · by_cases hw : 0 < whoA r
    · obtain rfl : k = 1 := by rw [hk]; simp only [kindV, if_neg hr, if_pos hw]
      clear hk
      have HW := Lib.hid (who_any r)
      generalize whoA r = a at *
      go_enter Tryz.func106, Tryz.ntmps106
      go_wp2_with fail
      refine (HW.out _ h0 h1).mono ?_
      rintro e w1 ⟨rfl, rfl⟩
      go_wp2
      go_ret
      exact ⟨rfl, rfl⟩
    · obtain rfl : k = 2 := by rw [hk]; simp only [kindV, if_neg hr, if_neg hw]
      clear hk
      have HW := Lib.hid (who_any r)
      generalize whoA r = a at *
      go_enter Tryz.func106, Tryz.ntmps106
      go_wp2_with fail
      refine (HW.out _ h0 h1).mono ?_
      rintro e w1 ⟨rfl, rfl⟩
      go_wp2
      go_ret
      exact ⟨rfl, rfl⟩

set_option maxRecDepth 100000 in
set_option maxHeartbeats 1600000 in
theorem plain_any (v n r : Int) (w : World) (h0 : 0 ≤ r) (h1 : r < 4294967296) :
    Calls Tryz.prog 90 #[wd v n r] w fun e w' => e = .returned (.bool (decide (r = 0))) ∧ w' = (w.alloc (wdO v n r)).alloc (wdO v n r) := by
  have HK := Lib.hid (kind_any v n r)
  have hk : (kindV r = 0) = (r = 0) := by
    unfold kindV
    split
    · simp [*]
    · split <;> simp [*]
  have hd : decide (r = 0) = decide (kindV r = 0) := by simp only [hk]
  rw [hd]
  unfold wd wdO at *
  generalize kindV r = k at *
  clear hk hd
  go_enter Tryz.func90, Tryz.ntmps90
  go_wp2_with fail
  refine (HK.out _ h0 h1).mono ?_
  rintro e w1 ⟨rfl, rfl⟩
  go_wp2
  go_ret
  exact ⟨rfl, rfl⟩

end Go.Proofs.YtkloaopjlbinpaaGreat
