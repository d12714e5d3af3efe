/- The walk of the law WordRefs: true. Condition: the reference is a uint32. -/
import Derived.Test.YtkccaadhjodhlaaDoorWordU
set_option linter.unusedVariables false
namespace Go.Proofs.YtkccaadhjodhlaaDoor
open Go.RowKit

set_option maxRecDepth 100000 in
set_option maxHeartbeats 1600000 in
theorem refRef_any (a b : Int) (w : World) :
    Calls Tryd.prog 10 #[.int .i64 a, .int .i64 b] w fun e w' => e = .returned (.tuple #[.int .u32 (rVal a b), .int .i64 (rErr a b)]) ∧ w' = w := by
  by_cases h : wOk a b
  · have hv : rVal a b = a * 16777216 + b := by simp only [rVal, if_pos h]
    have he : rErr a b = 0 := by simp only [rErr, if_pos h]
    rw [hv, he]
    obtain ⟨h1, h2, h3, h4⟩ := h
    have k1 : ¬ a < 1 := by omega
    have k2 : ¬ 72 < a := by omega
    have k3 : ¬ b < 1 := by omega
    have k4 : ¬ 16777215 < b := by omega
    go_enter Tryd.func10, Tryd.ntmps10
    go_wp2
    go_ret2
    exact ⟨rfl, rfl⟩
  · have hv : rVal a b = 0 := by simp only [rVal, if_neg h]
    have he : rErr a b = 3 := by simp only [rErr, if_neg h]
    rw [hv, he]
    have h' : a < 1 ∨ (1 ≤ a ∧ 72 < a) ∨ (1 ≤ a ∧ a ≤ 72 ∧ b < 1) ∨ (1 ≤ a ∧ a ≤ 72 ∧ 1 ≤ b ∧ 16777215 < b) := by unfold wOk at h; omega
    clear h
    rcases h' with h1 | ⟨h1, h2⟩ | ⟨h1, h2, h3⟩ | ⟨h1, h2, h3, h4⟩
    all_goals
      go_enter Tryd.func10, Tryd.ntmps10
      go_wp2
      go_ret2
      exact ⟨rfl, rfl⟩

set_option maxRecDepth 100000 in
set_option maxHeartbeats 1600000 in
theorem refWho_any (r : Int) (w : World) (h0 : 0 ≤ r) (h1 : r < 4294967296) :
    Calls Tryd.prog 12 #[.int .u32 r] w fun e w' => e = .returned (.tuple #[.int .i64 (whoA r), .int .i64 (whoB r)]) ∧ w' = w := by
  have t1 : r.tdiv 16777216 = r / 16777216 := Int.tdiv_eq_ediv_of_nonneg h0
  have t2 : r.tmod 16777216 = r % 16777216 := Int.tmod_eq_emod_of_nonneg h0
  by_cases h : wOk (r / 16777216) (r % 16777216)
  · rw [whoA_ok h, whoB_ok h]
    obtain ⟨k1, k2, k3, k4⟩ := h
    go_enter Tryd.func12, Tryd.ntmps12
    go_wp2
    go_ret2
    exact ⟨rfl, rfl⟩
  · rw [whoA_no h, whoB_no h]
    have h' : r / 16777216 < 1 ∨ (1 ≤ r / 16777216 ∧ 72 < r / 16777216) ∨ (1 ≤ r / 16777216 ∧ r / 16777216 ≤ 72 ∧ r % 16777216 < 1) := by unfold wOk at h; omega
    clear h
    rcases h' with h1 | ⟨h1, h2⟩ | ⟨h1, h2, h3⟩
    all_goals
      go_enter Tryd.func12, Tryd.ntmps12
      go_wp2
      go_ret2
      exact ⟨rfl, rfl⟩

theorem whoA_rVal {a b : Int} (h : wOk a b) : whoA (rVal a b) = a ∧ whoB (rVal a b) = b ∧ 0 ≤ rVal a b ∧ rVal a b < 4294967296 := by
  have hv : rVal a b = a * 16777216 + b := by simp only [rVal, if_pos h]
  have h' := h
  obtain ⟨h1, h2, h3, h4⟩ := h
  have e1 : rVal a b / 16777216 = a := by omega
  have e2 : rVal a b % 16777216 = b := by omega
  have h'' : wOk (rVal a b / 16777216) (rVal a b % 16777216) := by rw [e1, e2]; exact h'
  rw [whoA_ok h'', whoB_ok h'', e1, e2]
  exact ⟨rfl, rfl, by omega, by omega⟩

theorem whoA_back (r : Int) : (whoA r = 0 ∧ rVal (whoA r) (whoB r) = 0 ∧ rErr (whoA r) (whoB r) = 3) ∨ (1 ≤ whoA r ∧ rVal (whoA r) (whoB r) = r ∧ rErr (whoA r) (whoB r) = 0) := by
  by_cases h : wOk (r / 16777216) (r % 16777216)
  · rw [whoA_ok h, whoB_ok h]
    refine .inr ⟨h.1, ?_, ?_⟩
    · simp only [rVal, if_pos h]; omega
    · simp only [rErr, if_pos h]
  · rw [whoA_no h, whoB_no h]
    exact .inl ⟨rfl, by decide, by decide⟩

set_option maxRecDepth 100000 in
set_option maxHeartbeats 3200000 in
theorem refs_any (a b r : Int) (w : World) (h0 : 0 ≤ r) (h1 : r < 4294967296) :
    Calls Tryd.prog 3 #[.int .i64 a, .int .i64 b, .int .u32 r] w fun e w' => e = .returned (.bool true) ∧ Below w.heap.size w w' := by
  have C1 := Lib.hid (ref_any a b)
  have C2 := Lib.hid (refRef_any a b)
  have C3 := Lib.hid fun w => who_any r w h0 h1
  have C4 := Lib.hid fun w => refWho_any r w h0 h1
  have C6 := Lib.hid (ref_any (whoA r) (whoB r))
  have hb := whoA_back r
  have C5 : Hid ((rErr a b = 0 ∧ ∀ w, Calls Tryd.prog 11 #[.int .u32 (rVal a b)] w fun e w' => e = .returned (.tuple #[.int .i64 a, .int .i64 b]) ∧ w' = w) ∨ rErr a b = 3) := Lib.hid (by
    by_cases h : wOk a b
    · refine .inl ⟨by simp only [rErr, if_pos h], fun w => ?_⟩
      obtain ⟨e1, e2, e3, e4⟩ := whoA_rVal h
      have := who_any (rVal a b) w e3 e4
      rwa [e1, e2] at this
    · exact .inr (by simp only [rErr, if_neg h]))
  generalize rVal (whoA r) (whoB r) = P at *
  generalize rErr (whoA r) (whoB r) = Z at *
  generalize whoA r = X at *
  generalize whoB r = Y at *
  generalize rVal a b = A at *
  generalize rErr a b = E at *
  have HB := Lib.hid hb
  clear hb h0 h1
  obtain ⟨rfl, c5⟩ | rfl := C5.out
  all_goals
    obtain ⟨rfl, rfl, rfl⟩ | ⟨k1, rfl, rfl⟩ := HB.out
  case' inl.inl => clear C5 HB; have C5 := Lib.hid c5; clear c5
  case' inl.inr => clear C5 HB; have C5 := Lib.hid c5; clear c5; have k2 : (X == 0) = false := beq_eq_false_iff_ne.2 (by omega)
  case' inr.inl => clear C5 HB
  case' inr.inr => clear C5 HB; have k2 : (X == 0) = false := beq_eq_false_iff_ne.2 (by omega)
  all_goals
    go_enter Tryd.func3, Tryd.ntmps3
    go_wp2_with fail
    refine (C1.out _).mono ?_
    rintro e w1 ⟨rfl, hh⟩
    subst w1
    go_wp2_with fail
    refine (C2.out _).mono ?_
    rintro e w1 ⟨rfl, hh⟩
    subst w1
    go_wp2_with fail
    refine (C3.out _).mono ?_
    rintro e w1 ⟨rfl, hh⟩
    subst w1
    go_wp2_with fail
    refine (C4.out _).mono ?_
    rintro e w1 ⟨rfl, hh⟩
    subst w1
    go_wp2_with fail
    try
      refine (C5.out _).mono ?_
      rintro e w1 ⟨rfl, hh⟩
      subst w1
      go_wp2_with fail
    refine (C6.out _).mono ?_
    rintro e w1 ⟨rfl, hh⟩
    subst w1
    go_wp2_with fail
    refine (awake_any _).mono ?_
    rintro e w1 ⟨rfl, hb1⟩
    go_wp2
    go_ret
    first
      | exact ⟨rfl, hb1⟩
      | (refine ⟨?_, hb1⟩; show Ending.returned (.bool (X != 0)) = _; rw [bne, k2]; rfl)
end Go.Proofs.YtkccaadhjodhlaaDoor
