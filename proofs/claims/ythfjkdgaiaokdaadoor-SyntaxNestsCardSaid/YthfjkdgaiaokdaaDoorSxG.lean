/- rule.form in one contract; Expr.empty (printed by wip/gensxg.py). No condition. -/
import Derived.Test.YthfjkdgaiaokdaaDoorSxF
set_option linter.unusedVariables false
set_option linter.unusedSimpArgs false
namespace Go.Proofs.YthfjkdgaiaokdaaDoor
open Go.RowKit

theorem form_any (j : Nat) (hj : j < 8) (n : Int) (s m : Str) (A : Option Addr) (na ca : Nat) (O : Option Addr) (no co : Nat) (a o : List Ex) (w : World) (ha : na = a.length) (ho : no = o.length) :
    Calls Tryd.prog 89 #[.agg (ruleC j), .agg (exC (j : Int) n s m A na ca O no co).toArray] w fun e w' => e = .returned (.bool (formE (.mk (j : Int) n s m a o))) ∧ Below w.heap.size w w' := by
  match j, hj with
  | 0, _ => exact form0_any n s m A na ca O no co a o w ha ho
  | 1, _ => exact form1_any n s m A na ca O no co a o w ha ho
  | 2, _ => exact form2_any n s m A na ca O no co a o w ha ho
  | 3, _ => exact form3_any n s m A na ca O no co a o w ha ho
  | 4, _ => exact form4_any n s m A na ca O no co a o w ha ho
  | 5, _ => exact form5_any n s m A na ca O no co a o w ha ho
  | 6, _ => exact form6_any n s m A na ca O no co a o w ha ho
  | 7, _ => exact form7_any n s m A na ca O no co a o w ha ho
/-- A rule's fields. -/
theorem rule_fields (j : Nat) (hj : j < 8) : ∃ b3 b4 : Bool, ∃ g lo hi : Int, ruleC j = #[.bool (decide (j ≤ 1)), .bool (decide (j = 2 ∨ 6 ≤ j)), .bool (decide (j = 6)), .bool b3, .bool b4, .int .i64 g, .int .i64 lo, .int .i64 hi] ∧ (j = 0 → g = 9223372036854775807) ∧ (j = 1 → g = 1) := by
  match j, hj with
  | 0, _ => exact ⟨_, _, _, _, _, ruleC0, by decide, by decide⟩
  | 1, _ => exact ⟨_, _, _, _, _, ruleC1, by decide, by decide⟩
  | 2, _ => exact ⟨_, _, _, _, _, ruleC2, by decide, by decide⟩
  | 3, _ => exact ⟨_, _, _, _, _, ruleC3, by decide, by decide⟩
  | 4, _ => exact ⟨_, _, _, _, _, ruleC4, by decide, by decide⟩
  | 5, _ => exact ⟨_, _, _, _, _, ruleC5, by decide, by decide⟩
  | 6, _ => exact ⟨_, _, _, _, _, ruleC6, by decide, by decide⟩
  | 7, _ => exact ⟨_, _, _, _, _, ruleC7, by decide, by decide⟩
set_option maxRecDepth 100000 in
set_option maxHeartbeats 12800000 in
theorem empty_any (k n : Int) (s m : Str) (A : Option Addr) (na ca : Nat) (O : Option Addr) (no co : Nat) (a o : List Ex) (w : World) (ha : na = a.length) (ho : no = o.length) :
    Calls Tryd.prog 87 #[.agg (exC k n s m A na ca O no co).toArray] w fun e w' => e = .returned (.bool (emptyE (.mk k n s m a o))) ∧ Below w.heap.size w w' := by
  have HB := Lib.hid (fun X => ((Below.refl w.heap.size w).alloc (Nat.le_refl _) X))
  have HD := Lib.hid (fun X k => (show Below w.heap.size w ((w.alloc X).drewN k) from ⟨(HB.out X).os, (HB.out X).tape, (HB.out X).output, (HB.out X).size, (HB.out X).block⟩))
  obtain ⟨f, hf⟩ : ∃ f, f = emptyE (.mk k n s m a o) := ⟨_, rfl⟩
  rw [← hf]
  unfold emptyE at hf
  simp only [Ex.kind, Ex.num, Ex.name, Ex.meth, Ex.args, Ex.orr, ← ha, ← ho] at hf
  unfold exC
  clear ha ho
  by_cases qk : k = 0
  rotate_left
  · have qk1 : (k == 0) = false := by simp [qk]
    obtain rfl : f = false := by rw [hf]; simp [qk]
    clear hf
    go_enter Tryd.func87, Tryd.ntmps87
    go_wp2
    repeat (go_quiet (fail); go_wp2)
    go_ret
    first | exact ⟨rfl, HB.out _⟩ | exact ⟨rfl, HD.out _ _⟩
  subst qk
  by_cases qn : n = 0
  rotate_left
  · have qn1 : (n == 0) = false := by simp [qn]
    obtain rfl : f = false := by rw [hf]; simp [qn]
    clear hf
    go_enter Tryd.func87, Tryd.ntmps87
    go_wp2
    repeat (go_quiet (fail); go_wp2)
    go_ret
    first | exact ⟨rfl, HB.out _⟩ | exact ⟨rfl, HD.out _ _⟩
  subst qn
  by_cases qs : s = []
  rotate_left
  · obtain ⟨qs1, qs2⟩ := cons_facts qs
    have qs3 := beq_nil qs
    obtain rfl : f = false := by rw [hf]; simp [qs]
    clear hf
    go_enter Tryd.func87, Tryd.ntmps87
    go_wp2
    repeat (go_quiet (fail); go_wp2)
    go_ret
    first | exact ⟨rfl, HB.out _⟩ | exact ⟨rfl, HD.out _ _⟩
  obtain ⟨qs1, qs2⟩ := nil_facts qs
  subst qs
  by_cases qm : m = []
  rotate_left
  · obtain ⟨qm1, qm2⟩ := cons_facts qm
    have qm3 := beq_nil qm
    obtain rfl : f = false := by rw [hf]; simp [qm]
    clear hf
    go_enter Tryd.func87, Tryd.ntmps87
    go_wp2
    repeat (go_quiet (fail); go_wp2)
    go_ret
    first | exact ⟨rfl, HB.out _⟩ | exact ⟨rfl, HD.out _ _⟩
  obtain ⟨qm1, qm2⟩ := nil_facts qm
  subst qm
  by_cases qna : na = 0
  rotate_left
  · have qna1 : ((na : Int) == 0) = false := by simp [qna]
    obtain rfl : f = false := by rw [hf]; simp [qna]
    clear hf
    go_enter Tryd.func87, Tryd.ntmps87
    go_wp2
    repeat (go_quiet (fail); go_wp2)
    go_ret
    first | exact ⟨rfl, HB.out _⟩ | exact ⟨rfl, HD.out _ _⟩
  subst qna
  by_cases qno : no = 0
  rotate_left
  · have qno1 : ((no : Int) == 0) = false := by simp [qno]
    obtain rfl : f = false := by rw [hf]; simp [qno]
    clear hf
    go_enter Tryd.func87, Tryd.ntmps87
    go_wp2
    repeat (go_quiet (fail); go_wp2)
    go_ret
    first | exact ⟨rfl, HB.out _⟩ | exact ⟨rfl, HD.out _ _⟩
  subst qno
  obtain rfl : f = true := by rw [hf]; simp []
  clear hf
  go_enter Tryd.func87, Tryd.ntmps87
  go_wp2
  repeat (go_quiet (fail); go_wp2)
  go_ret
  first | exact ⟨rfl, HB.out _⟩ | exact ⟨rfl, HD.out _ _⟩
end Go.Proofs.YthfjkdgaiaokdaaDoor
