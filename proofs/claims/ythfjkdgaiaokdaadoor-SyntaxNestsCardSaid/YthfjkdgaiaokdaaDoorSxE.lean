/- The walk of syntax.rule.form (printed by wip/gensxe.py): the kinds but that of a binary operator. No condition. -/
import Derived.Test.YthfjkdgaiaokdaaDoorSxD
set_option linter.unusedVariables false
set_option linter.unusedSimpArgs false
namespace Go.Proofs.YthfjkdgaiaokdaaDoor
open Go.RowKit

theorem ruleC0 : ruleC 0 = #[.bool true, .bool false, .bool false, .bool false, .bool false, .int .i64 9223372036854775807, .int .i64 0, .int .i64 0] := rfl
theorem ruleC1 : ruleC 1 = #[.bool true, .bool false, .bool false, .bool false, .bool false, .int .i64 1, .int .i64 0, .int .i64 0] := rfl
theorem ruleC2 : ruleC 2 = #[.bool false, .bool true, .bool false, .bool false, .bool false, .int .i64 0, .int .i64 0, .int .i64 0] := rfl
theorem ruleC3 : ruleC 3 = #[.bool false, .bool false, .bool false, .bool false, .bool false, .int .i64 0, .int .i64 1, .int .i64 1] := rfl
theorem ruleC4 : ruleC 4 = #[.bool false, .bool false, .bool false, .bool false, .bool false, .int .i64 0, .int .i64 1, .int .i64 1] := rfl
theorem ruleC5 : ruleC 5 = #[.bool false, .bool false, .bool false, .bool true, .bool false, .int .i64 0, .int .i64 2, .int .i64 2] := rfl
theorem ruleC6 : ruleC 6 = #[.bool false, .bool true, .bool true, .bool false, .bool true, .int .i64 0, .int .i64 0, .int .i64 4] := rfl
theorem ruleC7 : ruleC 7 = #[.bool false, .bool true, .bool false, .bool false, .bool false, .int .i64 0, .int .i64 0, .int .i64 4] := rfl
theorem nil_facts {s : Str} (h : s = []) : (bs s).toList = [] ∧ (bs s).toList.isEmpty = true := by subst h; exact ⟨bs_toList [], by rw [bs_toList]; rfl⟩
theorem cons_facts {s : Str} (h : ¬ s = []) : ¬ (bs s).toList = [] ∧ (bs s).toList.isEmpty = false := by
  rw [bs_toList]
  exact ⟨h, by cases s with | nil => exact absurd rfl h | cons => rfl⟩
theorem beq_nil {s : Str} (h : ¬ s = []) : (s == []) = false := by simp [h]
set_option maxRecDepth 100000 in
set_option maxHeartbeats 12800000 in
theorem form0_any (n : Int) (s m : Str) (A : Option Addr) (na ca : Nat) (O : Option Addr) (no co : Nat) (a o : List Ex) (w : World) (ha : na = a.length) (ho : no = o.length) :
    Calls Tryd.prog 89 #[.agg (ruleC 0), .agg (exC 0 n s m A na ca O no co).toArray] w fun e w' => e = .returned (.bool (formE (.mk 0 n s m a o))) ∧ Below w.heap.size w w' := by
  have HB := Lib.hid (fun X Y => (((Below.refl w.heap.size w).alloc (Nat.le_refl _) X).alloc (by show _ ≤ (w.heap.push X).size; simp) Y))
  have HD := Lib.hid (fun X Y k => (show Below w.heap.size w (((w.alloc X).alloc Y).drewN k) from ⟨(HB.out X Y).os, (HB.out X Y).tape, (HB.out X Y).output, (HB.out X Y).size, (HB.out X Y).block⟩))
  obtain ⟨f, hf⟩ : ∃ f, f = formE (.mk 0 n s m a o) := ⟨_, rfl⟩
  rw [← hf]
  unfold formE at hf
  simp only [Ex.kind, Ex.num, Ex.name, Ex.meth, Ex.args, Ex.orr, ← ha, ← ho] at hf
  simp (config := { decide := true }) only [if_true, if_false, or_true, true_or, or_false, false_or] at hf
  rw [ruleC0]
  unfold exC
  clear ha ho
  by_cases qs : s = []
  rotate_left
  · obtain ⟨qs1, qs2⟩ := cons_facts qs
    have qs3 := beq_nil qs
    obtain rfl : f = false := by rw [hf]; first | rfl | (simp [qs]; done) | (simp [qs]; omega)
    clear hf
    go_enter Tryd.func89, Tryd.ntmps89
    go_wp2
    repeat (go_quiet (fail); go_wp2)
    go_ret
    first | exact ⟨rfl, HB.out _ _⟩ | exact ⟨rfl, HD.out _ _ _⟩
  obtain ⟨qs1, qs2⟩ := nil_facts qs
  subst qs
  by_cases qm : m = []
  rotate_left
  · obtain ⟨qm1, qm2⟩ := cons_facts qm
    have qm3 := beq_nil qm
    obtain rfl : f = false := by rw [hf]; first | rfl | (simp [qm]; done) | (simp [qm]; omega)
    clear hf
    go_enter Tryd.func89, Tryd.ntmps89
    go_wp2
    repeat (go_quiet (fail); go_wp2)
    go_ret
    first | exact ⟨rfl, HB.out _ _⟩ | exact ⟨rfl, HD.out _ _ _⟩
  obtain ⟨qm1, qm2⟩ := nil_facts qm
  subst qm
  by_cases qh : 0 < (na : Int)
  · have qh2 : ¬ na ≤ 0 := by omega
    have qh3 : ¬ na = 0 := by omega
    have qh4 : ¬ (na : Int) < 0 := by omega
    obtain rfl : f = false := by rw [hf]; first | rfl | (simp [qh2, qh3]; done) | (simp [qh2, qh3]; omega)
    clear hf
    go_enter Tryd.func89, Tryd.ntmps89
    go_wp2
    repeat (go_quiet (fail); go_wp2)
    go_ret
    first | exact ⟨rfl, HB.out _ _⟩ | exact ⟨rfl, HD.out _ _ _⟩
  have qh4 : ¬ (na : Int) < 0 := by omega
  have qh5 : na ≤ 0 := by omega
  have qh6 : na = 0 := by omega
  by_cases qo : no = 0
  · subst qo
    obtain rfl : f = true := by rw [hf]; first | rfl | (simp [qh6, qh5]; done) | (simp [qh6, qh5]; omega)
    clear hf
    go_enter Tryd.func89, Tryd.ntmps89
    go_wp2
    repeat (go_quiet (fail); go_wp2)
    go_ret
    first | exact ⟨rfl, HB.out _ _⟩ | exact ⟨rfl, HD.out _ _ _⟩
  have qo1 : ((no : Int) == 0) = false := by simp [qo]
  have qo2 : ¬ (no : Int) = 0 := by omega
  obtain rfl : f = false := by rw [hf]; first | rfl | (simp [qh6, qh5, qo]; done) | (simp [qh6, qh5, qo]; omega)
  clear hf
  go_enter Tryd.func89, Tryd.ntmps89
  go_wp2
  repeat (go_quiet (fail); go_wp2)
  go_ret
  first | exact ⟨rfl, HB.out _ _⟩ | exact ⟨rfl, HD.out _ _ _⟩
set_option maxRecDepth 100000 in
set_option maxHeartbeats 12800000 in
theorem form1_any (n : Int) (s m : Str) (A : Option Addr) (na ca : Nat) (O : Option Addr) (no co : Nat) (a o : List Ex) (w : World) (ha : na = a.length) (ho : no = o.length) :
    Calls Tryd.prog 89 #[.agg (ruleC 1), .agg (exC 1 n s m A na ca O no co).toArray] w fun e w' => e = .returned (.bool (formE (.mk 1 n s m a o))) ∧ Below w.heap.size w w' := by
  have HB := Lib.hid (fun X Y => (((Below.refl w.heap.size w).alloc (Nat.le_refl _) X).alloc (by show _ ≤ (w.heap.push X).size; simp) Y))
  have HD := Lib.hid (fun X Y k => (show Below w.heap.size w (((w.alloc X).alloc Y).drewN k) from ⟨(HB.out X Y).os, (HB.out X Y).tape, (HB.out X Y).output, (HB.out X Y).size, (HB.out X Y).block⟩))
  obtain ⟨f, hf⟩ : ∃ f, f = formE (.mk 1 n s m a o) := ⟨_, rfl⟩
  rw [← hf]
  unfold formE at hf
  simp only [Ex.kind, Ex.num, Ex.name, Ex.meth, Ex.args, Ex.orr, ← ha, ← ho] at hf
  simp (config := { decide := true }) only [if_true, if_false, or_true, true_or, or_false, false_or] at hf
  rw [ruleC1]
  unfold exC
  clear ha ho
  by_cases qs : s = []
  rotate_left
  · obtain ⟨qs1, qs2⟩ := cons_facts qs
    have qs3 := beq_nil qs
    obtain rfl : f = false := by rw [hf]; first | rfl | (simp [qs]; done) | (simp [qs]; omega)
    clear hf
    go_enter Tryd.func89, Tryd.ntmps89
    go_wp2
    repeat (go_quiet (fail); go_wp2)
    go_ret
    first | exact ⟨rfl, HB.out _ _⟩ | exact ⟨rfl, HD.out _ _ _⟩
  obtain ⟨qs1, qs2⟩ := nil_facts qs
  subst qs
  by_cases qm : m = []
  rotate_left
  · obtain ⟨qm1, qm2⟩ := cons_facts qm
    have qm3 := beq_nil qm
    obtain rfl : f = false := by rw [hf]; first | rfl | (simp [qm]; done) | (simp [qm]; omega)
    clear hf
    go_enter Tryd.func89, Tryd.ntmps89
    go_wp2
    repeat (go_quiet (fail); go_wp2)
    go_ret
    first | exact ⟨rfl, HB.out _ _⟩ | exact ⟨rfl, HD.out _ _ _⟩
  obtain ⟨qm1, qm2⟩ := nil_facts qm
  subst qm
  by_cases qh : 0 < (na : Int)
  · have qh2 : ¬ na ≤ 0 := by omega
    have qh3 : ¬ na = 0 := by omega
    have qh4 : ¬ (na : Int) < 0 := by omega
    obtain rfl : f = false := by rw [hf]; first | rfl | (simp [qh2, qh3]; done) | (simp [qh2, qh3]; omega)
    clear hf
    go_enter Tryd.func89, Tryd.ntmps89
    go_wp2
    repeat (go_quiet (fail); go_wp2)
    go_ret
    first | exact ⟨rfl, HB.out _ _⟩ | exact ⟨rfl, HD.out _ _ _⟩
  have qh4 : ¬ (na : Int) < 0 := by omega
  have qh5 : na ≤ 0 := by omega
  have qh6 : na = 0 := by omega
  by_cases qo : no = 0
  · subst qo
    obtain rfl : f = true := by rw [hf]; first | rfl | (simp [qh6, qh5]; done) | (simp [qh6, qh5]; omega)
    clear hf
    go_enter Tryd.func89, Tryd.ntmps89
    go_wp2
    repeat (go_quiet (fail); go_wp2)
    go_ret
    first | exact ⟨rfl, HB.out _ _⟩ | exact ⟨rfl, HD.out _ _ _⟩
  have qo1 : ((no : Int) == 0) = false := by simp [qo]
  have qo2 : ¬ (no : Int) = 0 := by omega
  obtain rfl : f = false := by rw [hf]; first | rfl | (simp [qh6, qh5, qo]; done) | (simp [qh6, qh5, qo]; omega)
  clear hf
  go_enter Tryd.func89, Tryd.ntmps89
  go_wp2
  repeat (go_quiet (fail); go_wp2)
  go_ret
  first | exact ⟨rfl, HB.out _ _⟩ | exact ⟨rfl, HD.out _ _ _⟩
set_option maxRecDepth 100000 in
set_option maxHeartbeats 12800000 in
theorem form2_any (n : Int) (s m : Str) (A : Option Addr) (na ca : Nat) (O : Option Addr) (no co : Nat) (a o : List Ex) (w : World) (ha : na = a.length) (ho : no = o.length) :
    Calls Tryd.prog 89 #[.agg (ruleC 2), .agg (exC 2 n s m A na ca O no co).toArray] w fun e w' => e = .returned (.bool (formE (.mk 2 n s m a o))) ∧ Below w.heap.size w w' := by
  have HB := Lib.hid (fun X Y => (((Below.refl w.heap.size w).alloc (Nat.le_refl _) X).alloc (by show _ ≤ (w.heap.push X).size; simp) Y))
  have HD := Lib.hid (fun X Y k => (show Below w.heap.size w (((w.alloc X).alloc Y).drewN k) from ⟨(HB.out X Y).os, (HB.out X Y).tape, (HB.out X Y).output, (HB.out X Y).size, (HB.out X Y).block⟩))
  obtain ⟨f, hf⟩ : ∃ f, f = formE (.mk 2 n s m a o) := ⟨_, rfl⟩
  rw [← hf]
  unfold formE at hf
  simp only [Ex.kind, Ex.num, Ex.name, Ex.meth, Ex.args, Ex.orr, ← ha, ← ho] at hf
  simp (config := { decide := true }) only [if_true, if_false, or_true, true_or, or_false, false_or] at hf
  rw [ruleC2]
  unfold exC
  clear ha ho
  by_cases qn : n = 0
  rotate_left
  · have qn1 : (n != 0) = true := by simp [qn]
    obtain rfl : f = false := by rw [hf]; first | rfl | (simp [qn]; done) | (simp [qn]; omega)
    clear hf
    go_enter Tryd.func89, Tryd.ntmps89
    go_wp2
    repeat (go_quiet (fail); go_wp2)
    go_ret
    first | exact ⟨rfl, HB.out _ _⟩ | exact ⟨rfl, HD.out _ _ _⟩
  subst qn
  by_cases qm : m = []
  rotate_left
  · obtain ⟨qm1, qm2⟩ := cons_facts qm
    have qm3 := beq_nil qm
    obtain rfl : f = false := by rw [hf]; first | rfl | (simp [qm]; done) | (simp [qm]; omega)
    clear hf
    go_enter Tryd.func89, Tryd.ntmps89
    go_wp2
    repeat (go_quiet (fail); go_wp2)
    go_ret
    first | exact ⟨rfl, HB.out _ _⟩ | exact ⟨rfl, HD.out _ _ _⟩
  obtain ⟨qm1, qm2⟩ := nil_facts qm
  subst qm
  by_cases qh : 0 < (na : Int)
  · have qh2 : ¬ na ≤ 0 := by omega
    have qh3 : ¬ na = 0 := by omega
    have qh4 : ¬ (na : Int) < 0 := by omega
    obtain rfl : f = false := by rw [hf]; first | rfl | (simp [qh2, qh3]; done) | (simp [qh2, qh3]; omega)
    clear hf
    go_enter Tryd.func89, Tryd.ntmps89
    go_wp2
    repeat (go_quiet (fail); go_wp2)
    go_ret
    first | exact ⟨rfl, HB.out _ _⟩ | exact ⟨rfl, HD.out _ _ _⟩
  have qh4 : ¬ (na : Int) < 0 := by omega
  have qh5 : na ≤ 0 := by omega
  have qh6 : na = 0 := by omega
  by_cases qo : no = 0
  · subst qo
    obtain rfl : f = true := by rw [hf]; first | rfl | (simp [qh6, qh5]; done) | (simp [qh6, qh5]; omega)
    clear hf
    go_enter Tryd.func89, Tryd.ntmps89
    go_wp2
    repeat (go_quiet (fail); go_wp2)
    go_ret
    first | exact ⟨rfl, HB.out _ _⟩ | exact ⟨rfl, HD.out _ _ _⟩
  have qo1 : ((no : Int) == 0) = false := by simp [qo]
  have qo2 : ¬ (no : Int) = 0 := by omega
  obtain rfl : f = false := by rw [hf]; first | rfl | (simp [qh6, qh5, qo]; done) | (simp [qh6, qh5, qo]; omega)
  clear hf
  go_enter Tryd.func89, Tryd.ntmps89
  go_wp2
  repeat (go_quiet (fail); go_wp2)
  go_ret
  first | exact ⟨rfl, HB.out _ _⟩ | exact ⟨rfl, HD.out _ _ _⟩
set_option maxRecDepth 100000 in
set_option maxHeartbeats 12800000 in
theorem form3_any (n : Int) (s m : Str) (A : Option Addr) (na ca : Nat) (O : Option Addr) (no co : Nat) (a o : List Ex) (w : World) (ha : na = a.length) (ho : no = o.length) :
    Calls Tryd.prog 89 #[.agg (ruleC 3), .agg (exC 3 n s m A na ca O no co).toArray] w fun e w' => e = .returned (.bool (formE (.mk 3 n s m a o))) ∧ Below w.heap.size w w' := by
  have HB := Lib.hid (fun X Y => (((Below.refl w.heap.size w).alloc (Nat.le_refl _) X).alloc (by show _ ≤ (w.heap.push X).size; simp) Y))
  have HD := Lib.hid (fun X Y k => (show Below w.heap.size w (((w.alloc X).alloc Y).drewN k) from ⟨(HB.out X Y).os, (HB.out X Y).tape, (HB.out X Y).output, (HB.out X Y).size, (HB.out X Y).block⟩))
  obtain ⟨f, hf⟩ : ∃ f, f = formE (.mk 3 n s m a o) := ⟨_, rfl⟩
  rw [← hf]
  unfold formE at hf
  simp only [Ex.kind, Ex.num, Ex.name, Ex.meth, Ex.args, Ex.orr, ← ha, ← ho] at hf
  simp (config := { decide := true }) only [if_true, if_false, or_true, true_or, or_false, false_or] at hf
  rw [ruleC3]
  unfold exC
  clear ha ho
  by_cases qn : n = 0
  rotate_left
  · have qn1 : (n != 0) = true := by simp [qn]
    obtain rfl : f = false := by rw [hf]; first | rfl | (simp [qn]; done) | (simp [qn]; omega)
    clear hf
    go_enter Tryd.func89, Tryd.ntmps89
    go_wp2
    repeat (go_quiet (fail); go_wp2)
    go_ret
    first | exact ⟨rfl, HB.out _ _⟩ | exact ⟨rfl, HD.out _ _ _⟩
  subst qn
  by_cases qs : s = []
  rotate_left
  · obtain ⟨qs1, qs2⟩ := cons_facts qs
    have qs3 := beq_nil qs
    obtain rfl : f = false := by rw [hf]; first | rfl | (simp [qs]; done) | (simp [qs]; omega)
    clear hf
    go_enter Tryd.func89, Tryd.ntmps89
    go_wp2
    repeat (go_quiet (fail); go_wp2)
    go_ret
    first | exact ⟨rfl, HB.out _ _⟩ | exact ⟨rfl, HD.out _ _ _⟩
  obtain ⟨qs1, qs2⟩ := nil_facts qs
  subst qs
  by_cases qm : m = []
  rotate_left
  · obtain ⟨qm1, qm2⟩ := cons_facts qm
    have qm3 := beq_nil qm
    obtain rfl : f = false := by rw [hf]; first | rfl | (simp [qm]; done) | (simp [qm]; omega)
    clear hf
    go_enter Tryd.func89, Tryd.ntmps89
    go_wp2
    repeat (go_quiet (fail); go_wp2)
    go_ret
    first | exact ⟨rfl, HB.out _ _⟩ | exact ⟨rfl, HD.out _ _ _⟩
  obtain ⟨qm1, qm2⟩ := nil_facts qm
  subst qm
  by_cases ql : (na : Int) < 1
  · have ql2 : ¬ na = 1 := by omega
    obtain rfl : f = false := by rw [hf]; first | rfl | (simp [ql2]; done) | (simp [ql2]; omega)
    clear hf
    go_enter Tryd.func89, Tryd.ntmps89
    go_wp2
    repeat (go_quiet (fail); go_wp2)
    go_ret
    first | exact ⟨rfl, HB.out _ _⟩ | exact ⟨rfl, HD.out _ _ _⟩
  by_cases qh : 1 < (na : Int)
  · have qh2 : ¬ na ≤ 1 := by omega
    have qh3 : ¬ na = 1 := by omega
    have qh4 : ¬ (na : Int) < 1 := by omega
    obtain rfl : f = false := by rw [hf]; first | rfl | (simp [qh2, qh3]; done) | (simp [qh2, qh3]; omega)
    clear hf
    go_enter Tryd.func89, Tryd.ntmps89
    go_wp2
    repeat (go_quiet (fail); go_wp2)
    go_ret
    first | exact ⟨rfl, HB.out _ _⟩ | exact ⟨rfl, HD.out _ _ _⟩
  have qh4 : ¬ (na : Int) < 1 := by omega
  have qh5 : na ≤ 1 := by omega
  have qh6 : na = 1 := by omega
  by_cases qo : no = 0
  · subst qo
    obtain rfl : f = true := by rw [hf]; first | rfl | (simp [qh6, qh5]; done) | (simp [qh6, qh5]; omega)
    clear hf
    go_enter Tryd.func89, Tryd.ntmps89
    go_wp2
    repeat (go_quiet (fail); go_wp2)
    go_ret
    first | exact ⟨rfl, HB.out _ _⟩ | exact ⟨rfl, HD.out _ _ _⟩
  have qo1 : ((no : Int) == 0) = false := by simp [qo]
  have qo2 : ¬ (no : Int) = 0 := by omega
  obtain rfl : f = false := by rw [hf]; first | rfl | (simp [qh6, qh5, qo]; done) | (simp [qh6, qh5, qo]; omega)
  clear hf
  go_enter Tryd.func89, Tryd.ntmps89
  go_wp2
  repeat (go_quiet (fail); go_wp2)
  go_ret
  first | exact ⟨rfl, HB.out _ _⟩ | exact ⟨rfl, HD.out _ _ _⟩
set_option maxRecDepth 100000 in
set_option maxHeartbeats 12800000 in
theorem form4_any (n : Int) (s m : Str) (A : Option Addr) (na ca : Nat) (O : Option Addr) (no co : Nat) (a o : List Ex) (w : World) (ha : na = a.length) (ho : no = o.length) :
    Calls Tryd.prog 89 #[.agg (ruleC 4), .agg (exC 4 n s m A na ca O no co).toArray] w fun e w' => e = .returned (.bool (formE (.mk 4 n s m a o))) ∧ Below w.heap.size w w' := by
  have HB := Lib.hid (fun X Y => (((Below.refl w.heap.size w).alloc (Nat.le_refl _) X).alloc (by show _ ≤ (w.heap.push X).size; simp) Y))
  have HD := Lib.hid (fun X Y k => (show Below w.heap.size w (((w.alloc X).alloc Y).drewN k) from ⟨(HB.out X Y).os, (HB.out X Y).tape, (HB.out X Y).output, (HB.out X Y).size, (HB.out X Y).block⟩))
  obtain ⟨f, hf⟩ : ∃ f, f = formE (.mk 4 n s m a o) := ⟨_, rfl⟩
  rw [← hf]
  unfold formE at hf
  simp only [Ex.kind, Ex.num, Ex.name, Ex.meth, Ex.args, Ex.orr, ← ha, ← ho] at hf
  simp (config := { decide := true }) only [if_true, if_false, or_true, true_or, or_false, false_or] at hf
  rw [ruleC4]
  unfold exC
  clear ha ho
  by_cases qn : n = 0
  rotate_left
  · have qn1 : (n != 0) = true := by simp [qn]
    obtain rfl : f = false := by rw [hf]; first | rfl | (simp [qn]; done) | (simp [qn]; omega)
    clear hf
    go_enter Tryd.func89, Tryd.ntmps89
    go_wp2
    repeat (go_quiet (fail); go_wp2)
    go_ret
    first | exact ⟨rfl, HB.out _ _⟩ | exact ⟨rfl, HD.out _ _ _⟩
  subst qn
  by_cases qs : s = []
  rotate_left
  · obtain ⟨qs1, qs2⟩ := cons_facts qs
    have qs3 := beq_nil qs
    obtain rfl : f = false := by rw [hf]; first | rfl | (simp [qs]; done) | (simp [qs]; omega)
    clear hf
    go_enter Tryd.func89, Tryd.ntmps89
    go_wp2
    repeat (go_quiet (fail); go_wp2)
    go_ret
    first | exact ⟨rfl, HB.out _ _⟩ | exact ⟨rfl, HD.out _ _ _⟩
  obtain ⟨qs1, qs2⟩ := nil_facts qs
  subst qs
  by_cases qm : m = []
  rotate_left
  · obtain ⟨qm1, qm2⟩ := cons_facts qm
    have qm3 := beq_nil qm
    obtain rfl : f = false := by rw [hf]; first | rfl | (simp [qm]; done) | (simp [qm]; omega)
    clear hf
    go_enter Tryd.func89, Tryd.ntmps89
    go_wp2
    repeat (go_quiet (fail); go_wp2)
    go_ret
    first | exact ⟨rfl, HB.out _ _⟩ | exact ⟨rfl, HD.out _ _ _⟩
  obtain ⟨qm1, qm2⟩ := nil_facts qm
  subst qm
  by_cases ql : (na : Int) < 1
  · have ql2 : ¬ na = 1 := by omega
    obtain rfl : f = false := by rw [hf]; first | rfl | (simp [ql2]; done) | (simp [ql2]; omega)
    clear hf
    go_enter Tryd.func89, Tryd.ntmps89
    go_wp2
    repeat (go_quiet (fail); go_wp2)
    go_ret
    first | exact ⟨rfl, HB.out _ _⟩ | exact ⟨rfl, HD.out _ _ _⟩
  by_cases qh : 1 < (na : Int)
  · have qh2 : ¬ na ≤ 1 := by omega
    have qh3 : ¬ na = 1 := by omega
    have qh4 : ¬ (na : Int) < 1 := by omega
    obtain rfl : f = false := by rw [hf]; first | rfl | (simp [qh2, qh3]; done) | (simp [qh2, qh3]; omega)
    clear hf
    go_enter Tryd.func89, Tryd.ntmps89
    go_wp2
    repeat (go_quiet (fail); go_wp2)
    go_ret
    first | exact ⟨rfl, HB.out _ _⟩ | exact ⟨rfl, HD.out _ _ _⟩
  have qh4 : ¬ (na : Int) < 1 := by omega
  have qh5 : na ≤ 1 := by omega
  have qh6 : na = 1 := by omega
  by_cases qo : no = 0
  · subst qo
    obtain rfl : f = true := by rw [hf]; first | rfl | (simp [qh6, qh5]; done) | (simp [qh6, qh5]; omega)
    clear hf
    go_enter Tryd.func89, Tryd.ntmps89
    go_wp2
    repeat (go_quiet (fail); go_wp2)
    go_ret
    first | exact ⟨rfl, HB.out _ _⟩ | exact ⟨rfl, HD.out _ _ _⟩
  have qo1 : ((no : Int) == 0) = false := by simp [qo]
  have qo2 : ¬ (no : Int) = 0 := by omega
  obtain rfl : f = false := by rw [hf]; first | rfl | (simp [qh6, qh5, qo]; done) | (simp [qh6, qh5, qo]; omega)
  clear hf
  go_enter Tryd.func89, Tryd.ntmps89
  go_wp2
  repeat (go_quiet (fail); go_wp2)
  go_ret
  first | exact ⟨rfl, HB.out _ _⟩ | exact ⟨rfl, HD.out _ _ _⟩
set_option maxRecDepth 100000 in
set_option maxHeartbeats 12800000 in
theorem form6_any (n : Int) (s m : Str) (A : Option Addr) (na ca : Nat) (O : Option Addr) (no co : Nat) (a o : List Ex) (w : World) (ha : na = a.length) (ho : no = o.length) :
    Calls Tryd.prog 89 #[.agg (ruleC 6), .agg (exC 6 n s m A na ca O no co).toArray] w fun e w' => e = .returned (.bool (formE (.mk 6 n s m a o))) ∧ Below w.heap.size w w' := by
  have HB := Lib.hid (fun X Y => (((Below.refl w.heap.size w).alloc (Nat.le_refl _) X).alloc (by show _ ≤ (w.heap.push X).size; simp) Y))
  have HD := Lib.hid (fun X Y k => (show Below w.heap.size w (((w.alloc X).alloc Y).drewN k) from ⟨(HB.out X Y).os, (HB.out X Y).tape, (HB.out X Y).output, (HB.out X Y).size, (HB.out X Y).block⟩))
  obtain ⟨f, hf⟩ : ∃ f, f = formE (.mk 6 n s m a o) := ⟨_, rfl⟩
  rw [← hf]
  unfold formE at hf
  simp only [Ex.kind, Ex.num, Ex.name, Ex.meth, Ex.args, Ex.orr, ← ha, ← ho] at hf
  simp (config := { decide := true }) only [if_true, if_false, or_true, true_or, or_false, false_or] at hf
  rw [ruleC6]
  unfold exC
  clear ha ho
  by_cases qn : n = 0
  rotate_left
  · have qn1 : (n != 0) = true := by simp [qn]
    obtain rfl : f = false := by rw [hf]; first | rfl | (simp [qn]; done) | (simp [qn]; omega)
    clear hf
    go_enter Tryd.func89, Tryd.ntmps89
    go_wp2
    repeat (go_quiet (fail); go_wp2)
    go_ret
    first | exact ⟨rfl, HB.out _ _⟩ | exact ⟨rfl, HD.out _ _ _⟩
  subst qn
  by_cases qh : 4 < (na : Int)
  · have qh2 : ¬ na ≤ 4 := by omega
    have qh3 : ¬ na = 4 := by omega
    have qh4 : ¬ (na : Int) < 0 := by omega
    obtain rfl : f = false := by rw [hf]; first | rfl | (simp [qh2, qh3]; done) | (simp [qh2, qh3]; omega)
    clear hf
    go_enter Tryd.func89, Tryd.ntmps89
    go_wp2
    repeat (go_quiet (fail); go_wp2)
    go_ret
    first | exact ⟨rfl, HB.out _ _⟩ | exact ⟨rfl, HD.out _ _ _⟩
  have qh4 : ¬ (na : Int) < 0 := by omega
  have qh5 : na ≤ 4 := by omega
  by_cases qo : no = 0
  · subst qo
    obtain rfl : f = true := by rw [hf]; first | rfl | (simp [qh5]; done) | (simp [qh5]; omega)
    clear hf
    go_enter Tryd.func89, Tryd.ntmps89
    go_wp2
    repeat (go_quiet (fail); go_wp2)
    go_ret
    first | exact ⟨rfl, HB.out _ _⟩ | exact ⟨rfl, HD.out _ _ _⟩
  have qo1 : ((no : Int) == 0) = false := by simp [qo]
  have qo2 : ¬ (no : Int) = 0 := by omega
  by_cases qp : no = 1
  · subst qp
    obtain rfl : f = true := by rw [hf]; first | rfl | (simp [qh5]; done) | (simp [qh5]; omega)
    clear hf
    go_enter Tryd.func89, Tryd.ntmps89
    go_wp2
    repeat (go_quiet (fail); go_wp2)
    go_ret
    first | exact ⟨rfl, HB.out _ _⟩ | exact ⟨rfl, HD.out _ _ _⟩
  have qp1 : ((no : Int) == 1) = false := by simp; omega
  have qp2 : ¬ (no : Int) = 1 := by omega
  have qp3 : ¬ no ≤ 1 := by omega
  obtain rfl : f = false := by rw [hf]; first | rfl | (simp [qh5, qp3, qo]; done) | (simp [qh5, qp3, qo]; omega)
  clear hf
  go_enter Tryd.func89, Tryd.ntmps89
  go_wp2
  repeat (go_quiet (fail); go_wp2)
  go_ret
  first | exact ⟨rfl, HB.out _ _⟩ | exact ⟨rfl, HD.out _ _ _⟩
set_option maxRecDepth 100000 in
set_option maxHeartbeats 12800000 in
theorem form7_any (n : Int) (s m : Str) (A : Option Addr) (na ca : Nat) (O : Option Addr) (no co : Nat) (a o : List Ex) (w : World) (ha : na = a.length) (ho : no = o.length) :
    Calls Tryd.prog 89 #[.agg (ruleC 7), .agg (exC 7 n s m A na ca O no co).toArray] w fun e w' => e = .returned (.bool (formE (.mk 7 n s m a o))) ∧ Below w.heap.size w w' := by
  have HB := Lib.hid (fun X Y => (((Below.refl w.heap.size w).alloc (Nat.le_refl _) X).alloc (by show _ ≤ (w.heap.push X).size; simp) Y))
  have HD := Lib.hid (fun X Y k => (show Below w.heap.size w (((w.alloc X).alloc Y).drewN k) from ⟨(HB.out X Y).os, (HB.out X Y).tape, (HB.out X Y).output, (HB.out X Y).size, (HB.out X Y).block⟩))
  obtain ⟨f, hf⟩ : ∃ f, f = formE (.mk 7 n s m a o) := ⟨_, rfl⟩
  rw [← hf]
  unfold formE at hf
  simp only [Ex.kind, Ex.num, Ex.name, Ex.meth, Ex.args, Ex.orr, ← ha, ← ho] at hf
  simp (config := { decide := true }) only [if_true, if_false, or_true, true_or, or_false, false_or] at hf
  rw [ruleC7]
  unfold exC
  clear ha ho
  by_cases qn : n = 0
  rotate_left
  · have qn1 : (n != 0) = true := by simp [qn]
    obtain rfl : f = false := by rw [hf]; first | rfl | (simp [qn]; done) | (simp [qn]; omega)
    clear hf
    go_enter Tryd.func89, Tryd.ntmps89
    go_wp2
    repeat (go_quiet (fail); go_wp2)
    go_ret
    first | exact ⟨rfl, HB.out _ _⟩ | exact ⟨rfl, HD.out _ _ _⟩
  subst qn
  by_cases qm : m = []
  rotate_left
  · obtain ⟨qm1, qm2⟩ := cons_facts qm
    have qm3 := beq_nil qm
    obtain rfl : f = false := by rw [hf]; first | rfl | (simp [qm]; done) | (simp [qm]; omega)
    clear hf
    go_enter Tryd.func89, Tryd.ntmps89
    go_wp2
    repeat (go_quiet (fail); go_wp2)
    go_ret
    first | exact ⟨rfl, HB.out _ _⟩ | exact ⟨rfl, HD.out _ _ _⟩
  obtain ⟨qm1, qm2⟩ := nil_facts qm
  subst qm
  by_cases qh : 4 < (na : Int)
  · have qh2 : ¬ na ≤ 4 := by omega
    have qh3 : ¬ na = 4 := by omega
    have qh4 : ¬ (na : Int) < 0 := by omega
    obtain rfl : f = false := by rw [hf]; first | rfl | (simp [qh2, qh3]; done) | (simp [qh2, qh3]; omega)
    clear hf
    go_enter Tryd.func89, Tryd.ntmps89
    go_wp2
    repeat (go_quiet (fail); go_wp2)
    go_ret
    first | exact ⟨rfl, HB.out _ _⟩ | exact ⟨rfl, HD.out _ _ _⟩
  have qh4 : ¬ (na : Int) < 0 := by omega
  have qh5 : na ≤ 4 := by omega
  by_cases qo : no = 0
  · subst qo
    obtain rfl : f = true := by rw [hf]; first | rfl | (simp [qh5]; done) | (simp [qh5]; omega)
    clear hf
    go_enter Tryd.func89, Tryd.ntmps89
    go_wp2
    repeat (go_quiet (fail); go_wp2)
    go_ret
    first | exact ⟨rfl, HB.out _ _⟩ | exact ⟨rfl, HD.out _ _ _⟩
  have qo1 : ((no : Int) == 0) = false := by simp [qo]
  have qo2 : ¬ (no : Int) = 0 := by omega
  obtain rfl : f = false := by rw [hf]; first | rfl | (simp [qh5, qo]; done) | (simp [qh5, qo]; omega)
  clear hf
  go_enter Tryd.func89, Tryd.ntmps89
  go_wp2
  repeat (go_quiet (fail); go_wp2)
  go_ret
  first | exact ⟨rfl, HB.out _ _⟩ | exact ⟨rfl, HD.out _ _ _⟩
end Go.Proofs.YthfjkdgaiaokdaaDoor
