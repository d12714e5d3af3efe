/- The reference's form and Empty (printed by wip/gensyb.py). No condition. -/
import Derived.Test.YthfjkdgaiaokdaaDoorSyA
set_option linter.unusedVariables false
set_option linter.unusedSimpArgs false
namespace Go.Proofs.YthfjkdgaiaokdaaDoor
open Go.RowKit

set_option maxRecDepth 100000 in
set_option maxHeartbeats 12800000 in
theorem rform0_any (n : Int) (s m : Str) (A : Option Addr) (na ca : Nat) (O : Option Addr) (no co : Nat) (a o : List Ex) (w : World) (ha : na = a.length) (ho : no = o.length) :
    Calls Tryd.prog 75 #[.agg (exC 0 n s m A na ca O no co).toArray] w fun e w' => e = .returned (.bool (formE (.mk 0 n s m a o))) ∧ Below w.heap.size w w' := by
  have HB := Lib.hid (fun X => (Below.refl w.heap.size w).alloc (Nat.le_refl _) X)
  have HD := Lib.hid (fun X k => (show Below w.heap.size w ((w.alloc X).drewN k) from ⟨(HB.out X).os, (HB.out X).tape, (HB.out X).output, (HB.out X).size, (HB.out X).block⟩))
  have HD3 := Lib.hid (fun X k j i => (show Below w.heap.size w ((((w.alloc X).drewN k).drewN j).drewN i) from ⟨(HB.out X).os, (HB.out X).tape, (HB.out X).output, (HB.out X).size, (HB.out X).block⟩))
  have HDD := Lib.hid (fun X k j => (show Below w.heap.size w (((w.alloc X).drewN k).drewN j) from ⟨(HB.out X).os, (HB.out X).tape, (HB.out X).output, (HB.out X).size, (HB.out X).block⟩))
  obtain ⟨f, hf⟩ : ∃ f, f = formE (.mk 0 n s m a o) := ⟨_, rfl⟩
  rw [← hf]
  rw [formE_mk, ← ha, ← ho] at hf
  simp (config := { decide := true }) only [if_true, if_false, or_true, true_or, or_false, false_or] at hf
  unfold exC
  clear ha ho
  by_cases qs : s = []
  rotate_left
  · obtain ⟨qs1, qs2⟩ := cons_facts qs
    have qs3 := beq_nil qs
    obtain rfl : f = false := by rw [hf]; first | rfl | (simp [qs]; done) | (simp [qs]; omega)
    clear hf
    go_enter Tryd.func75, Tryd.ntmps75
    go_wp2_with fail
    repeat (go_quiet (fail); go_wp2_with fail)
    go_ret
    first | exact ⟨rfl, HB.out _⟩ | exact ⟨rfl, HD.out _ _⟩ | exact ⟨rfl, HDD.out _ _ _⟩ | exact ⟨rfl, HD3.out _ _ _ _⟩ | exact ⟨congrArg (fun b => Ending.returned (.bool b)) qno2, HD.out _ _⟩ | exact ⟨congrArg (fun b => Ending.returned (.bool b)) qno2, HDD.out _ _ _⟩ | exact ⟨congrArg (fun b => Ending.returned (.bool b)) qna2, HD.out _ _⟩
  obtain ⟨qs1, qs2⟩ := nil_facts qs
  subst qs
  by_cases qm : m = []
  rotate_left
  · obtain ⟨qm1, qm2⟩ := cons_facts qm
    have qm3 := beq_nil qm
    obtain rfl : f = false := by rw [hf]; first | rfl | (simp [qm]; done) | (simp [qm]; omega)
    clear hf
    go_enter Tryd.func75, Tryd.ntmps75
    go_wp2_with fail
    repeat (go_quiet (fail); go_wp2_with fail)
    go_ret
    first | exact ⟨rfl, HB.out _⟩ | exact ⟨rfl, HD.out _ _⟩ | exact ⟨rfl, HDD.out _ _ _⟩ | exact ⟨rfl, HD3.out _ _ _ _⟩ | exact ⟨congrArg (fun b => Ending.returned (.bool b)) qno2, HD.out _ _⟩ | exact ⟨congrArg (fun b => Ending.returned (.bool b)) qno2, HDD.out _ _ _⟩ | exact ⟨congrArg (fun b => Ending.returned (.bool b)) qna2, HD.out _ _⟩
  obtain ⟨qm1, qm2⟩ := nil_facts qm
  subst qm
  by_cases qna : na = 0
  rotate_left
  · have qna1 : ((na : Int) == 0) = false := by simp; omega
    obtain rfl : f = false := by rw [hf]; first | rfl | (simp [qna]; done) | (simp [qna]; omega)
    clear hf
    go_enter Tryd.func75, Tryd.ntmps75
    go_wp2_with fail
    repeat (go_quiet (fail); go_wp2_with fail)
    go_ret
    first | exact ⟨rfl, HB.out _⟩ | exact ⟨rfl, HD.out _ _⟩ | exact ⟨rfl, HDD.out _ _ _⟩ | exact ⟨rfl, HD3.out _ _ _ _⟩ | exact ⟨congrArg (fun b => Ending.returned (.bool b)) qno2, HD.out _ _⟩ | exact ⟨congrArg (fun b => Ending.returned (.bool b)) qno2, HDD.out _ _ _⟩ | exact ⟨congrArg (fun b => Ending.returned (.bool b)) qna2, HD.out _ _⟩
  subst qna
  by_cases qno : no = 0
  rotate_left
  · have qno1 : ((no : Int) == 0) = false := by simp; omega
    obtain rfl : f = false := by rw [hf]; first | rfl | (simp [qno]; done) | (simp [qno]; omega)
    clear hf
    go_enter Tryd.func75, Tryd.ntmps75
    go_wp2_with fail
    repeat (go_quiet (fail); go_wp2_with fail)
    go_ret
    first | exact ⟨rfl, HB.out _⟩ | exact ⟨rfl, HD.out _ _⟩ | exact ⟨rfl, HDD.out _ _ _⟩ | exact ⟨rfl, HD3.out _ _ _ _⟩ | exact ⟨congrArg (fun b => Ending.returned (.bool b)) qno2, HD.out _ _⟩ | exact ⟨congrArg (fun b => Ending.returned (.bool b)) qno2, HDD.out _ _ _⟩ | exact ⟨congrArg (fun b => Ending.returned (.bool b)) qna2, HD.out _ _⟩
  subst qno
  obtain rfl : f = true := by rw [hf]; first | rfl | (simp []; done) | (simp []; omega)
  clear hf
  go_enter Tryd.func75, Tryd.ntmps75
  go_wp2_with fail
  repeat (go_quiet (fail); go_wp2_with fail)
  go_ret
  first | exact ⟨rfl, HB.out _⟩ | exact ⟨rfl, HD.out _ _⟩ | exact ⟨rfl, HDD.out _ _ _⟩ | exact ⟨rfl, HD3.out _ _ _ _⟩ | exact ⟨congrArg (fun b => Ending.returned (.bool b)) qno2, HD.out _ _⟩ | exact ⟨congrArg (fun b => Ending.returned (.bool b)) qno2, HDD.out _ _ _⟩ | exact ⟨congrArg (fun b => Ending.returned (.bool b)) qna2, HD.out _ _⟩
set_option maxRecDepth 100000 in
set_option maxHeartbeats 12800000 in
theorem rform1_any (n : Int) (s m : Str) (A : Option Addr) (na ca : Nat) (O : Option Addr) (no co : Nat) (a o : List Ex) (w : World) (ha : na = a.length) (ho : no = o.length) :
    Calls Tryd.prog 75 #[.agg (exC 1 n s m A na ca O no co).toArray] w fun e w' => e = .returned (.bool (formE (.mk 1 n s m a o))) ∧ Below w.heap.size w w' := by
  have HB := Lib.hid (fun X => (Below.refl w.heap.size w).alloc (Nat.le_refl _) X)
  have HD := Lib.hid (fun X k => (show Below w.heap.size w ((w.alloc X).drewN k) from ⟨(HB.out X).os, (HB.out X).tape, (HB.out X).output, (HB.out X).size, (HB.out X).block⟩))
  have HD3 := Lib.hid (fun X k j i => (show Below w.heap.size w ((((w.alloc X).drewN k).drewN j).drewN i) from ⟨(HB.out X).os, (HB.out X).tape, (HB.out X).output, (HB.out X).size, (HB.out X).block⟩))
  have HDD := Lib.hid (fun X k j => (show Below w.heap.size w (((w.alloc X).drewN k).drewN j) from ⟨(HB.out X).os, (HB.out X).tape, (HB.out X).output, (HB.out X).size, (HB.out X).block⟩))
  obtain ⟨f, hf⟩ : ∃ f, f = formE (.mk 1 n s m a o) := ⟨_, rfl⟩
  rw [← hf]
  rw [formE_mk, ← ha, ← ho] at hf
  simp (config := { decide := true }) only [if_true, if_false, or_true, true_or, or_false, false_or] at hf
  unfold exC
  clear ha ho
  by_cases qs : s = []
  rotate_left
  · obtain ⟨qs1, qs2⟩ := cons_facts qs
    have qs3 := beq_nil qs
    obtain rfl : f = false := by rw [hf]; first | rfl | (simp [qs]; done) | (simp [qs]; omega)
    clear hf
    go_enter Tryd.func75, Tryd.ntmps75
    go_wp2_with fail
    repeat (go_quiet (fail); go_wp2_with fail)
    go_ret
    first | exact ⟨rfl, HB.out _⟩ | exact ⟨rfl, HD.out _ _⟩ | exact ⟨rfl, HDD.out _ _ _⟩ | exact ⟨rfl, HD3.out _ _ _ _⟩ | exact ⟨congrArg (fun b => Ending.returned (.bool b)) qno2, HD.out _ _⟩ | exact ⟨congrArg (fun b => Ending.returned (.bool b)) qno2, HDD.out _ _ _⟩ | exact ⟨congrArg (fun b => Ending.returned (.bool b)) qna2, HD.out _ _⟩
  obtain ⟨qs1, qs2⟩ := nil_facts qs
  subst qs
  by_cases qm : m = []
  rotate_left
  · obtain ⟨qm1, qm2⟩ := cons_facts qm
    have qm3 := beq_nil qm
    obtain rfl : f = false := by rw [hf]; first | rfl | (simp [qm]; done) | (simp [qm]; omega)
    clear hf
    go_enter Tryd.func75, Tryd.ntmps75
    go_wp2_with fail
    repeat (go_quiet (fail); go_wp2_with fail)
    go_ret
    first | exact ⟨rfl, HB.out _⟩ | exact ⟨rfl, HD.out _ _⟩ | exact ⟨rfl, HDD.out _ _ _⟩ | exact ⟨rfl, HD3.out _ _ _ _⟩ | exact ⟨congrArg (fun b => Ending.returned (.bool b)) qno2, HD.out _ _⟩ | exact ⟨congrArg (fun b => Ending.returned (.bool b)) qno2, HDD.out _ _ _⟩ | exact ⟨congrArg (fun b => Ending.returned (.bool b)) qna2, HD.out _ _⟩
  obtain ⟨qm1, qm2⟩ := nil_facts qm
  subst qm
  by_cases qna : na = 0
  rotate_left
  · have qna1 : ((na : Int) == 0) = false := by simp; omega
    obtain rfl : f = false := by rw [hf]; first | rfl | (simp [qna]; done) | (simp [qna]; omega)
    clear hf
    go_enter Tryd.func75, Tryd.ntmps75
    go_wp2_with fail
    repeat (go_quiet (fail); go_wp2_with fail)
    go_ret
    first | exact ⟨rfl, HB.out _⟩ | exact ⟨rfl, HD.out _ _⟩ | exact ⟨rfl, HDD.out _ _ _⟩ | exact ⟨rfl, HD3.out _ _ _ _⟩ | exact ⟨congrArg (fun b => Ending.returned (.bool b)) qno2, HD.out _ _⟩ | exact ⟨congrArg (fun b => Ending.returned (.bool b)) qno2, HDD.out _ _ _⟩ | exact ⟨congrArg (fun b => Ending.returned (.bool b)) qna2, HD.out _ _⟩
  subst qna
  by_cases qno : no = 0
  rotate_left
  · have qno1 : ((no : Int) == 0) = false := by simp; omega
    obtain rfl : f = false := by rw [hf]; first | rfl | (simp [qno]; done) | (simp [qno]; omega)
    clear hf
    go_enter Tryd.func75, Tryd.ntmps75
    go_wp2_with fail
    repeat (go_quiet (fail); go_wp2_with fail)
    go_ret
    first | exact ⟨rfl, HB.out _⟩ | exact ⟨rfl, HD.out _ _⟩ | exact ⟨rfl, HDD.out _ _ _⟩ | exact ⟨rfl, HD3.out _ _ _ _⟩ | exact ⟨congrArg (fun b => Ending.returned (.bool b)) qno2, HD.out _ _⟩ | exact ⟨congrArg (fun b => Ending.returned (.bool b)) qno2, HDD.out _ _ _⟩ | exact ⟨congrArg (fun b => Ending.returned (.bool b)) qna2, HD.out _ _⟩
  subst qno
  obtain rfl : f = true := by rw [hf]; first | rfl | (simp []; done) | (simp []; omega)
  clear hf
  go_enter Tryd.func75, Tryd.ntmps75
  go_wp2_with fail
  repeat (go_quiet (fail); go_wp2_with fail)
  go_ret
  first | exact ⟨rfl, HB.out _⟩ | exact ⟨rfl, HD.out _ _⟩ | exact ⟨rfl, HDD.out _ _ _⟩ | exact ⟨rfl, HD3.out _ _ _ _⟩ | exact ⟨congrArg (fun b => Ending.returned (.bool b)) qno2, HD.out _ _⟩ | exact ⟨congrArg (fun b => Ending.returned (.bool b)) qno2, HDD.out _ _ _⟩ | exact ⟨congrArg (fun b => Ending.returned (.bool b)) qna2, HD.out _ _⟩
set_option maxRecDepth 100000 in
set_option maxHeartbeats 12800000 in
theorem rform2_any (n : Int) (s m : Str) (A : Option Addr) (na ca : Nat) (O : Option Addr) (no co : Nat) (a o : List Ex) (w : World) (ha : na = a.length) (ho : no = o.length) :
    Calls Tryd.prog 75 #[.agg (exC 2 n s m A na ca O no co).toArray] w fun e w' => e = .returned (.bool (formE (.mk 2 n s m a o))) ∧ Below w.heap.size w w' := by
  have HB := Lib.hid (fun X => (Below.refl w.heap.size w).alloc (Nat.le_refl _) X)
  have HD := Lib.hid (fun X k => (show Below w.heap.size w ((w.alloc X).drewN k) from ⟨(HB.out X).os, (HB.out X).tape, (HB.out X).output, (HB.out X).size, (HB.out X).block⟩))
  have HD3 := Lib.hid (fun X k j i => (show Below w.heap.size w ((((w.alloc X).drewN k).drewN j).drewN i) from ⟨(HB.out X).os, (HB.out X).tape, (HB.out X).output, (HB.out X).size, (HB.out X).block⟩))
  have HDD := Lib.hid (fun X k j => (show Below w.heap.size w (((w.alloc X).drewN k).drewN j) from ⟨(HB.out X).os, (HB.out X).tape, (HB.out X).output, (HB.out X).size, (HB.out X).block⟩))
  obtain ⟨f, hf⟩ : ∃ f, f = formE (.mk 2 n s m a o) := ⟨_, rfl⟩
  rw [← hf]
  rw [formE_mk, ← ha, ← ho] at hf
  simp (config := { decide := true }) only [if_true, if_false, or_true, true_or, or_false, false_or] at hf
  unfold exC
  clear ha ho
  by_cases qn : n = 0
  rotate_left
  · have qn1 : (n == 0) = false := by simp [qn]
    obtain rfl : f = false := by rw [hf]; first | rfl | (simp [qn]; done) | (simp [qn]; omega)
    clear hf
    go_enter Tryd.func75, Tryd.ntmps75
    go_wp2_with fail
    repeat (go_quiet (fail); go_wp2_with fail)
    go_ret
    first | exact ⟨rfl, HB.out _⟩ | exact ⟨rfl, HD.out _ _⟩ | exact ⟨rfl, HDD.out _ _ _⟩ | exact ⟨rfl, HD3.out _ _ _ _⟩ | exact ⟨congrArg (fun b => Ending.returned (.bool b)) qno2, HD.out _ _⟩ | exact ⟨congrArg (fun b => Ending.returned (.bool b)) qno2, HDD.out _ _ _⟩ | exact ⟨congrArg (fun b => Ending.returned (.bool b)) qna2, HD.out _ _⟩
  subst qn
  by_cases qm : m = []
  rotate_left
  · obtain ⟨qm1, qm2⟩ := cons_facts qm
    have qm3 := beq_nil qm
    obtain rfl : f = false := by rw [hf]; first | rfl | (simp [qm]; done) | (simp [qm]; omega)
    clear hf
    go_enter Tryd.func75, Tryd.ntmps75
    go_wp2_with fail
    repeat (go_quiet (fail); go_wp2_with fail)
    go_ret
    first | exact ⟨rfl, HB.out _⟩ | exact ⟨rfl, HD.out _ _⟩ | exact ⟨rfl, HDD.out _ _ _⟩ | exact ⟨rfl, HD3.out _ _ _ _⟩ | exact ⟨congrArg (fun b => Ending.returned (.bool b)) qno2, HD.out _ _⟩ | exact ⟨congrArg (fun b => Ending.returned (.bool b)) qno2, HDD.out _ _ _⟩ | exact ⟨congrArg (fun b => Ending.returned (.bool b)) qna2, HD.out _ _⟩
  obtain ⟨qm1, qm2⟩ := nil_facts qm
  subst qm
  by_cases qna : na = 0
  rotate_left
  · have qna1 : ((na : Int) == 0) = false := by simp; omega
    obtain rfl : f = false := by rw [hf]; first | rfl | (simp [qna]; done) | (simp [qna]; omega)
    clear hf
    go_enter Tryd.func75, Tryd.ntmps75
    go_wp2_with fail
    repeat (go_quiet (fail); go_wp2_with fail)
    go_ret
    first | exact ⟨rfl, HB.out _⟩ | exact ⟨rfl, HD.out _ _⟩ | exact ⟨rfl, HDD.out _ _ _⟩ | exact ⟨rfl, HD3.out _ _ _ _⟩ | exact ⟨congrArg (fun b => Ending.returned (.bool b)) qno2, HD.out _ _⟩ | exact ⟨congrArg (fun b => Ending.returned (.bool b)) qno2, HDD.out _ _ _⟩ | exact ⟨congrArg (fun b => Ending.returned (.bool b)) qna2, HD.out _ _⟩
  subst qna
  by_cases qno : no = 0
  rotate_left
  · have qno1 : ((no : Int) == 0) = false := by simp; omega
    obtain rfl : f = false := by rw [hf]; first | rfl | (simp [qno]; done) | (simp [qno]; omega)
    clear hf
    go_enter Tryd.func75, Tryd.ntmps75
    go_wp2_with fail
    repeat (go_quiet (fail); go_wp2_with fail)
    go_ret
    first | exact ⟨rfl, HB.out _⟩ | exact ⟨rfl, HD.out _ _⟩ | exact ⟨rfl, HDD.out _ _ _⟩ | exact ⟨rfl, HD3.out _ _ _ _⟩ | exact ⟨congrArg (fun b => Ending.returned (.bool b)) qno2, HD.out _ _⟩ | exact ⟨congrArg (fun b => Ending.returned (.bool b)) qno2, HDD.out _ _ _⟩ | exact ⟨congrArg (fun b => Ending.returned (.bool b)) qna2, HD.out _ _⟩
  subst qno
  obtain rfl : f = true := by rw [hf]; first | rfl | (simp []; done) | (simp []; omega)
  clear hf
  go_enter Tryd.func75, Tryd.ntmps75
  go_wp2_with fail
  repeat (go_quiet (fail); go_wp2_with fail)
  go_ret
  first | exact ⟨rfl, HB.out _⟩ | exact ⟨rfl, HD.out _ _⟩ | exact ⟨rfl, HDD.out _ _ _⟩ | exact ⟨rfl, HD3.out _ _ _ _⟩ | exact ⟨congrArg (fun b => Ending.returned (.bool b)) qno2, HD.out _ _⟩ | exact ⟨congrArg (fun b => Ending.returned (.bool b)) qno2, HDD.out _ _ _⟩ | exact ⟨congrArg (fun b => Ending.returned (.bool b)) qna2, HD.out _ _⟩
set_option maxRecDepth 100000 in
set_option maxHeartbeats 12800000 in
theorem rform3_any (n : Int) (s m : Str) (A : Option Addr) (na ca : Nat) (O : Option Addr) (no co : Nat) (a o : List Ex) (w : World) (ha : na = a.length) (ho : no = o.length) :
    Calls Tryd.prog 75 #[.agg (exC 3 n s m A na ca O no co).toArray] w fun e w' => e = .returned (.bool (formE (.mk 3 n s m a o))) ∧ Below w.heap.size w w' := by
  have HB := Lib.hid (fun X => (Below.refl w.heap.size w).alloc (Nat.le_refl _) X)
  have HD := Lib.hid (fun X k => (show Below w.heap.size w ((w.alloc X).drewN k) from ⟨(HB.out X).os, (HB.out X).tape, (HB.out X).output, (HB.out X).size, (HB.out X).block⟩))
  have HD3 := Lib.hid (fun X k j i => (show Below w.heap.size w ((((w.alloc X).drewN k).drewN j).drewN i) from ⟨(HB.out X).os, (HB.out X).tape, (HB.out X).output, (HB.out X).size, (HB.out X).block⟩))
  have HDD := Lib.hid (fun X k j => (show Below w.heap.size w (((w.alloc X).drewN k).drewN j) from ⟨(HB.out X).os, (HB.out X).tape, (HB.out X).output, (HB.out X).size, (HB.out X).block⟩))
  obtain ⟨f, hf⟩ : ∃ f, f = formE (.mk 3 n s m a o) := ⟨_, rfl⟩
  rw [← hf]
  rw [formE_mk, ← ha, ← ho] at hf
  simp (config := { decide := true }) only [if_true, if_false, or_true, true_or, or_false, false_or] at hf
  unfold exC
  clear ha ho
  by_cases qn : n = 0
  rotate_left
  · have qn1 : (n == 0) = false := by simp [qn]
    obtain rfl : f = false := by rw [hf]; first | rfl | (simp [qn]; done) | (simp [qn]; omega)
    clear hf
    go_enter Tryd.func75, Tryd.ntmps75
    go_wp2_with fail
    repeat (go_quiet (fail); go_wp2_with fail)
    go_ret
    first | exact ⟨rfl, HB.out _⟩ | exact ⟨rfl, HD.out _ _⟩ | exact ⟨rfl, HDD.out _ _ _⟩ | exact ⟨rfl, HD3.out _ _ _ _⟩ | exact ⟨congrArg (fun b => Ending.returned (.bool b)) qno2, HD.out _ _⟩ | exact ⟨congrArg (fun b => Ending.returned (.bool b)) qno2, HDD.out _ _ _⟩ | exact ⟨congrArg (fun b => Ending.returned (.bool b)) qna2, HD.out _ _⟩
  subst qn
  by_cases qs : s = []
  rotate_left
  · obtain ⟨qs1, qs2⟩ := cons_facts qs
    have qs3 := beq_nil qs
    obtain rfl : f = false := by rw [hf]; first | rfl | (simp [qs]; done) | (simp [qs]; omega)
    clear hf
    go_enter Tryd.func75, Tryd.ntmps75
    go_wp2_with fail
    repeat (go_quiet (fail); go_wp2_with fail)
    go_ret
    first | exact ⟨rfl, HB.out _⟩ | exact ⟨rfl, HD.out _ _⟩ | exact ⟨rfl, HDD.out _ _ _⟩ | exact ⟨rfl, HD3.out _ _ _ _⟩ | exact ⟨congrArg (fun b => Ending.returned (.bool b)) qno2, HD.out _ _⟩ | exact ⟨congrArg (fun b => Ending.returned (.bool b)) qno2, HDD.out _ _ _⟩ | exact ⟨congrArg (fun b => Ending.returned (.bool b)) qna2, HD.out _ _⟩
  obtain ⟨qs1, qs2⟩ := nil_facts qs
  subst qs
  by_cases qm : m = []
  rotate_left
  · obtain ⟨qm1, qm2⟩ := cons_facts qm
    have qm3 := beq_nil qm
    obtain rfl : f = false := by rw [hf]; first | rfl | (simp [qm]; done) | (simp [qm]; omega)
    clear hf
    go_enter Tryd.func75, Tryd.ntmps75
    go_wp2_with fail
    repeat (go_quiet (fail); go_wp2_with fail)
    go_ret
    first | exact ⟨rfl, HB.out _⟩ | exact ⟨rfl, HD.out _ _⟩ | exact ⟨rfl, HDD.out _ _ _⟩ | exact ⟨rfl, HD3.out _ _ _ _⟩ | exact ⟨congrArg (fun b => Ending.returned (.bool b)) qno2, HD.out _ _⟩ | exact ⟨congrArg (fun b => Ending.returned (.bool b)) qno2, HDD.out _ _ _⟩ | exact ⟨congrArg (fun b => Ending.returned (.bool b)) qna2, HD.out _ _⟩
  obtain ⟨qm1, qm2⟩ := nil_facts qm
  subst qm
  by_cases qna : na = 1
  rotate_left
  · have qna1 : ((na : Int) == 1) = false := by simp; omega
    obtain rfl : f = false := by rw [hf]; first | rfl | (simp [qna]; done) | (simp [qna]; omega)
    clear hf
    go_enter Tryd.func75, Tryd.ntmps75
    go_wp2_with fail
    repeat (go_quiet (fail); go_wp2_with fail)
    go_ret
    first | exact ⟨rfl, HB.out _⟩ | exact ⟨rfl, HD.out _ _⟩ | exact ⟨rfl, HDD.out _ _ _⟩ | exact ⟨rfl, HD3.out _ _ _ _⟩ | exact ⟨congrArg (fun b => Ending.returned (.bool b)) qno2, HD.out _ _⟩ | exact ⟨congrArg (fun b => Ending.returned (.bool b)) qno2, HDD.out _ _ _⟩ | exact ⟨congrArg (fun b => Ending.returned (.bool b)) qna2, HD.out _ _⟩
  subst qna
  by_cases qno : no = 0
  rotate_left
  · have qno1 : ((no : Int) == 0) = false := by simp; omega
    obtain rfl : f = false := by rw [hf]; first | rfl | (simp [qno]; done) | (simp [qno]; omega)
    clear hf
    go_enter Tryd.func75, Tryd.ntmps75
    go_wp2_with fail
    repeat (go_quiet (fail); go_wp2_with fail)
    go_ret
    first | exact ⟨rfl, HB.out _⟩ | exact ⟨rfl, HD.out _ _⟩ | exact ⟨rfl, HDD.out _ _ _⟩ | exact ⟨rfl, HD3.out _ _ _ _⟩ | exact ⟨congrArg (fun b => Ending.returned (.bool b)) qno2, HD.out _ _⟩ | exact ⟨congrArg (fun b => Ending.returned (.bool b)) qno2, HDD.out _ _ _⟩ | exact ⟨congrArg (fun b => Ending.returned (.bool b)) qna2, HD.out _ _⟩
  subst qno
  obtain rfl : f = true := by rw [hf]; first | rfl | (simp []; done) | (simp []; omega)
  clear hf
  go_enter Tryd.func75, Tryd.ntmps75
  go_wp2_with fail
  repeat (go_quiet (fail); go_wp2_with fail)
  go_ret
  first | exact ⟨rfl, HB.out _⟩ | exact ⟨rfl, HD.out _ _⟩ | exact ⟨rfl, HDD.out _ _ _⟩ | exact ⟨rfl, HD3.out _ _ _ _⟩ | exact ⟨congrArg (fun b => Ending.returned (.bool b)) qno2, HD.out _ _⟩ | exact ⟨congrArg (fun b => Ending.returned (.bool b)) qno2, HDD.out _ _ _⟩ | exact ⟨congrArg (fun b => Ending.returned (.bool b)) qna2, HD.out _ _⟩
set_option maxRecDepth 100000 in
set_option maxHeartbeats 12800000 in
theorem rform4_any (n : Int) (s m : Str) (A : Option Addr) (na ca : Nat) (O : Option Addr) (no co : Nat) (a o : List Ex) (w : World) (ha : na = a.length) (ho : no = o.length) :
    Calls Tryd.prog 75 #[.agg (exC 4 n s m A na ca O no co).toArray] w fun e w' => e = .returned (.bool (formE (.mk 4 n s m a o))) ∧ Below w.heap.size w w' := by
  have HB := Lib.hid (fun X => (Below.refl w.heap.size w).alloc (Nat.le_refl _) X)
  have HD := Lib.hid (fun X k => (show Below w.heap.size w ((w.alloc X).drewN k) from ⟨(HB.out X).os, (HB.out X).tape, (HB.out X).output, (HB.out X).size, (HB.out X).block⟩))
  have HD3 := Lib.hid (fun X k j i => (show Below w.heap.size w ((((w.alloc X).drewN k).drewN j).drewN i) from ⟨(HB.out X).os, (HB.out X).tape, (HB.out X).output, (HB.out X).size, (HB.out X).block⟩))
  have HDD := Lib.hid (fun X k j => (show Below w.heap.size w (((w.alloc X).drewN k).drewN j) from ⟨(HB.out X).os, (HB.out X).tape, (HB.out X).output, (HB.out X).size, (HB.out X).block⟩))
  obtain ⟨f, hf⟩ : ∃ f, f = formE (.mk 4 n s m a o) := ⟨_, rfl⟩
  rw [← hf]
  rw [formE_mk, ← ha, ← ho] at hf
  simp (config := { decide := true }) only [if_true, if_false, or_true, true_or, or_false, false_or] at hf
  unfold exC
  clear ha ho
  by_cases qn : n = 0
  rotate_left
  · have qn1 : (n == 0) = false := by simp [qn]
    obtain rfl : f = false := by rw [hf]; first | rfl | (simp [qn]; done) | (simp [qn]; omega)
    clear hf
    go_enter Tryd.func75, Tryd.ntmps75
    go_wp2_with fail
    repeat (go_quiet (fail); go_wp2_with fail)
    go_ret
    first | exact ⟨rfl, HB.out _⟩ | exact ⟨rfl, HD.out _ _⟩ | exact ⟨rfl, HDD.out _ _ _⟩ | exact ⟨rfl, HD3.out _ _ _ _⟩ | exact ⟨congrArg (fun b => Ending.returned (.bool b)) qno2, HD.out _ _⟩ | exact ⟨congrArg (fun b => Ending.returned (.bool b)) qno2, HDD.out _ _ _⟩ | exact ⟨congrArg (fun b => Ending.returned (.bool b)) qna2, HD.out _ _⟩
  subst qn
  by_cases qs : s = []
  rotate_left
  · obtain ⟨qs1, qs2⟩ := cons_facts qs
    have qs3 := beq_nil qs
    obtain rfl : f = false := by rw [hf]; first | rfl | (simp [qs]; done) | (simp [qs]; omega)
    clear hf
    go_enter Tryd.func75, Tryd.ntmps75
    go_wp2_with fail
    repeat (go_quiet (fail); go_wp2_with fail)
    go_ret
    first | exact ⟨rfl, HB.out _⟩ | exact ⟨rfl, HD.out _ _⟩ | exact ⟨rfl, HDD.out _ _ _⟩ | exact ⟨rfl, HD3.out _ _ _ _⟩ | exact ⟨congrArg (fun b => Ending.returned (.bool b)) qno2, HD.out _ _⟩ | exact ⟨congrArg (fun b => Ending.returned (.bool b)) qno2, HDD.out _ _ _⟩ | exact ⟨congrArg (fun b => Ending.returned (.bool b)) qna2, HD.out _ _⟩
  obtain ⟨qs1, qs2⟩ := nil_facts qs
  subst qs
  by_cases qm : m = []
  rotate_left
  · obtain ⟨qm1, qm2⟩ := cons_facts qm
    have qm3 := beq_nil qm
    obtain rfl : f = false := by rw [hf]; first | rfl | (simp [qm]; done) | (simp [qm]; omega)
    clear hf
    go_enter Tryd.func75, Tryd.ntmps75
    go_wp2_with fail
    repeat (go_quiet (fail); go_wp2_with fail)
    go_ret
    first | exact ⟨rfl, HB.out _⟩ | exact ⟨rfl, HD.out _ _⟩ | exact ⟨rfl, HDD.out _ _ _⟩ | exact ⟨rfl, HD3.out _ _ _ _⟩ | exact ⟨congrArg (fun b => Ending.returned (.bool b)) qno2, HD.out _ _⟩ | exact ⟨congrArg (fun b => Ending.returned (.bool b)) qno2, HDD.out _ _ _⟩ | exact ⟨congrArg (fun b => Ending.returned (.bool b)) qna2, HD.out _ _⟩
  obtain ⟨qm1, qm2⟩ := nil_facts qm
  subst qm
  by_cases qna : na = 1
  rotate_left
  · have qna1 : ((na : Int) == 1) = false := by simp; omega
    obtain rfl : f = false := by rw [hf]; first | rfl | (simp [qna]; done) | (simp [qna]; omega)
    clear hf
    go_enter Tryd.func75, Tryd.ntmps75
    go_wp2_with fail
    repeat (go_quiet (fail); go_wp2_with fail)
    go_ret
    first | exact ⟨rfl, HB.out _⟩ | exact ⟨rfl, HD.out _ _⟩ | exact ⟨rfl, HDD.out _ _ _⟩ | exact ⟨rfl, HD3.out _ _ _ _⟩ | exact ⟨congrArg (fun b => Ending.returned (.bool b)) qno2, HD.out _ _⟩ | exact ⟨congrArg (fun b => Ending.returned (.bool b)) qno2, HDD.out _ _ _⟩ | exact ⟨congrArg (fun b => Ending.returned (.bool b)) qna2, HD.out _ _⟩
  subst qna
  by_cases qno : no = 0
  rotate_left
  · have qno1 : ((no : Int) == 0) = false := by simp; omega
    obtain rfl : f = false := by rw [hf]; first | rfl | (simp [qno]; done) | (simp [qno]; omega)
    clear hf
    go_enter Tryd.func75, Tryd.ntmps75
    go_wp2_with fail
    repeat (go_quiet (fail); go_wp2_with fail)
    go_ret
    first | exact ⟨rfl, HB.out _⟩ | exact ⟨rfl, HD.out _ _⟩ | exact ⟨rfl, HDD.out _ _ _⟩ | exact ⟨rfl, HD3.out _ _ _ _⟩ | exact ⟨congrArg (fun b => Ending.returned (.bool b)) qno2, HD.out _ _⟩ | exact ⟨congrArg (fun b => Ending.returned (.bool b)) qno2, HDD.out _ _ _⟩ | exact ⟨congrArg (fun b => Ending.returned (.bool b)) qna2, HD.out _ _⟩
  subst qno
  obtain rfl : f = true := by rw [hf]; first | rfl | (simp []; done) | (simp []; omega)
  clear hf
  go_enter Tryd.func75, Tryd.ntmps75
  go_wp2_with fail
  repeat (go_quiet (fail); go_wp2_with fail)
  go_ret
  first | exact ⟨rfl, HB.out _⟩ | exact ⟨rfl, HD.out _ _⟩ | exact ⟨rfl, HDD.out _ _ _⟩ | exact ⟨rfl, HD3.out _ _ _ _⟩ | exact ⟨congrArg (fun b => Ending.returned (.bool b)) qno2, HD.out _ _⟩ | exact ⟨congrArg (fun b => Ending.returned (.bool b)) qno2, HDD.out _ _ _⟩ | exact ⟨congrArg (fun b => Ending.returned (.bool b)) qna2, HD.out _ _⟩
set_option maxRecDepth 100000 in
set_option maxHeartbeats 12800000 in
theorem rform5_any (n : Int) (s m : Str) (A : Option Addr) (na ca : Nat) (O : Option Addr) (no co : Nat) (a o : List Ex) (w : World) (ha : na = a.length) (ho : no = o.length) :
    Calls Tryd.prog 75 #[.agg (exC 5 n s m A na ca O no co).toArray] w fun e w' => e = .returned (.bool (formE (.mk 5 n s m a o))) ∧ Below w.heap.size w w' := by
  have HB := Lib.hid (fun X => (Below.refl w.heap.size w).alloc (Nat.le_refl _) X)
  have HD := Lib.hid (fun X k => (show Below w.heap.size w ((w.alloc X).drewN k) from ⟨(HB.out X).os, (HB.out X).tape, (HB.out X).output, (HB.out X).size, (HB.out X).block⟩))
  have HD3 := Lib.hid (fun X k j i => (show Below w.heap.size w ((((w.alloc X).drewN k).drewN j).drewN i) from ⟨(HB.out X).os, (HB.out X).tape, (HB.out X).output, (HB.out X).size, (HB.out X).block⟩))
  have HDD := Lib.hid (fun X k j => (show Below w.heap.size w (((w.alloc X).drewN k).drewN j) from ⟨(HB.out X).os, (HB.out X).tape, (HB.out X).output, (HB.out X).size, (HB.out X).block⟩))
  obtain ⟨f, hf⟩ : ∃ f, f = formE (.mk 5 n s m a o) := ⟨_, rfl⟩
  rw [← hf]
  rw [formE_mk, ← ha, ← ho] at hf
  simp (config := { decide := true }) only [if_true, if_false, or_true, true_or, or_false, false_or] at hf
  unfold exC
  clear ha ho
  have KG := Lib.hid (fun W => rsigns_any W)
  have KI := Lib.hid (fun A' c' W (h : RS W A' sgns.length sgns) => in_any A' sgns.length c' sgns m W h (by decide))
  obtain ⟨g, hg⟩ : ∃ g, g = sgns.contains m := ⟨_, rfl⟩
  rw [← hg] at KI hf
  clear hg
  by_cases qn : n = 0
  rotate_left
  · have qn1 : (n == 0) = false := by simp [qn]
    obtain rfl : f = false := by rw [hf]; first | rfl | (simp [qn]; done) | (simp [qn]; omega)
    clear hf
    go_enter Tryd.func75, Tryd.ntmps75
    go_wp2_with fail
    repeat (go_quiet (fail); go_wp2_with fail)
    go_ret
    first | exact ⟨rfl, HB.out _⟩ | exact ⟨rfl, HD.out _ _⟩ | exact ⟨rfl, HDD.out _ _ _⟩ | exact ⟨rfl, HD3.out _ _ _ _⟩ | exact ⟨congrArg (fun b => Ending.returned (.bool b)) qno2, HD.out _ _⟩ | exact ⟨congrArg (fun b => Ending.returned (.bool b)) qno2, HDD.out _ _ _⟩ | exact ⟨congrArg (fun b => Ending.returned (.bool b)) qna2, HD.out _ _⟩
  subst qn
  by_cases qs : s = []
  rotate_left
  · obtain ⟨qs1, qs2⟩ := cons_facts qs
    have qs3 := beq_nil qs
    obtain rfl : f = false := by rw [hf]; first | rfl | (simp [qs]; done) | (simp [qs]; omega)
    clear hf
    go_enter Tryd.func75, Tryd.ntmps75
    go_wp2_with fail
    repeat (go_quiet (fail); go_wp2_with fail)
    go_ret
    first | exact ⟨rfl, HB.out _⟩ | exact ⟨rfl, HD.out _ _⟩ | exact ⟨rfl, HDD.out _ _ _⟩ | exact ⟨rfl, HD3.out _ _ _ _⟩ | exact ⟨congrArg (fun b => Ending.returned (.bool b)) qno2, HD.out _ _⟩ | exact ⟨congrArg (fun b => Ending.returned (.bool b)) qno2, HDD.out _ _ _⟩ | exact ⟨congrArg (fun b => Ending.returned (.bool b)) qna2, HD.out _ _⟩
  obtain ⟨qs1, qs2⟩ := nil_facts qs
  subst qs
  cases g with
  | false =>
    obtain rfl : f = false := by rw [hf]; first | rfl | (simp []; done) | (simp []; omega)
    clear hf
    go_enter Tryd.func75, Tryd.ntmps75
    go_wp2_with fail
    go_quiet (fail)
    go_wp2_with fail
    have HBZ := Lib.hid (show ∀ W, Bz ((w.alloc (.cells #[.int .i64 5, .int .i64 0, .string (bs []), .string (bs m), .slice A na ca, .slice O no co] 83)).drewN nq) W → (W.cell? ⟨w.heap.size, 1, none⟩ = some (.int .i64 0) ∧ W.cell? ⟨w.heap.size, 2, none⟩ = some (.string (bs [])) ∧ W.cell? ⟨w.heap.size, 3, none⟩ = some (.string (bs m))) ∧ Below w.heap.size w W from fun W h => by
      have hn : ((w.alloc (.cells #[.int .i64 5, .int .i64 0, .string (bs []), .string (bs m), .slice A na ca, .slice O no co] 83)).drewN nq).heap[w.heap.size]? = some (.cells #[.int .i64 5, .int .i64 0, .string (bs []), .string (bs m), .slice A na ca, .slice O no co] 83 (0, 0)) := heap_alloc_new w _
      exact ⟨⟨cell_of_Bz h (by rw [cell_of_row _ _ _ _ _ _ hn]; rfl) (lt_of_block hn), cell_of_Bz h (by rw [cell_of_row _ _ _ _ _ _ hn]; rfl) (lt_of_block hn), cell_of_Bz h (by rw [cell_of_row _ _ _ _ _ _ hn]; rfl) (lt_of_block hn)⟩, (HD.out _ nq).trans (h.b.mono (HD.out _ nq).size)⟩)
    have z0 : Bz ((w.alloc (.cells #[.int .i64 5, .int .i64 0, .string (bs []), .string (bs m), .slice A na ca, .slice O no co] 83)).drewN nq) ((w.alloc (.cells #[.int .i64 5, .int .i64 0, .string (bs []), .string (bs m), .slice A na ca, .slice O no co] 83)).drewN nq) := ⟨Below.refl _ _⟩
    have z1 := z0.drew
    refine wp_region_held_drew (S := fun W => (W.cell? ⟨w.heap.size, 1, none⟩ = some (.int .i64 0) ∧ W.cell? ⟨w.heap.size, 2, none⟩ = some (.string (bs [])) ∧ W.cell? ⟨w.heap.size, 3, none⟩ = some (.string (bs m)))) (by kernel_rfl) ((HBZ.out _ z1).1) (fun hHeld => ?_)
    refine wpAnyH_take (i := 0) (oi := ⟨some 76, _, _, _, _, _⟩) (v := .pointer (some ⟨w.heap.size, 1, none⟩)) rfl (by kernel_rfl) (by kernel_rfl) (by kernel_rfl) (fun _ _ _ h => h) (Or.inl ⟨by rfl, ?_⟩) hHeld ?_
    · intro W hW
      obtain ⟨h1, h2, h3⟩ := hW
      go_simp
    try simp only [Act.put, List.setIfInBounds_toArray, List.set_cons_zero, List.set_cons_succ]
    refine wpAnyH_take (i := 1) (oi := ⟨some 77, _, _, _, _, _⟩) (v := .int .i64 0) rfl (by kernel_rfl) (by kernel_rfl) (by kernel_rfl) (fun _ _ _ h => h) (Or.inl ⟨by rfl, ?_⟩) hHeld ?_
    · intro W hW
      obtain ⟨h1, h2, h3⟩ := hW
      go_simp
    try simp only [Act.put, List.setIfInBounds_toArray, List.set_cons_zero, List.set_cons_succ]
    refine wpAnyH_take (i := 2) (oi := ⟨some 78, _, _, _, _, _⟩) (v := .bool true) rfl (by kernel_rfl) (by kernel_rfl) (by kernel_rfl) (fun _ _ _ h => h) (Or.inl ⟨by rfl, ?_⟩) hHeld ?_
    · intro W hW
      obtain ⟨h1, h2, h3⟩ := hW
      go_simp
    try simp only [Act.put, List.setIfInBounds_toArray, List.set_cons_zero, List.set_cons_succ]
    refine wpAnyH_take (i := 3) (oi := ⟨some 79, _, _, _, _, _⟩) (v := .bool true) rfl (by kernel_rfl) (by kernel_rfl) (by kernel_rfl) (fun _ _ _ h => h) (Or.inl ⟨by rfl, ?_⟩) hHeld ?_
    · intro W hW
      obtain ⟨h1, h2, h3⟩ := hW
      go_simp
    try simp only [Act.put, List.setIfInBounds_toArray, List.set_cons_zero, List.set_cons_succ]
    refine wpAnyH_take (i := 4) (oi := ⟨some 80, _, _, _, _, _⟩) (v := .pointer (some ⟨w.heap.size, 2, none⟩)) rfl (by kernel_rfl) (by kernel_rfl) (by kernel_rfl) (fun _ _ _ h => h) (Or.inl ⟨by rfl, ?_⟩) hHeld ?_
    · intro W hW
      obtain ⟨h1, h2, h3⟩ := hW
      go_simp
    try simp only [Act.put, List.setIfInBounds_toArray, List.set_cons_zero, List.set_cons_succ]
    refine wpAnyH_take (i := 5) (oi := ⟨some 81, _, _, _, _, _⟩) (v := .string (bs [])) rfl (by kernel_rfl) (by kernel_rfl) (by kernel_rfl) (fun _ _ _ h => h) (Or.inl ⟨by rfl, ?_⟩) hHeld ?_
    · intro W hW
      obtain ⟨h1, h2, h3⟩ := hW
      go_simp
    try simp only [Act.put, List.setIfInBounds_toArray, List.set_cons_zero, List.set_cons_succ]
    refine wpAnyH_take (i := 6) (oi := ⟨some 82, _, _, _, _, _⟩) (v := .bool true) rfl (by kernel_rfl) (by kernel_rfl) (by kernel_rfl) (fun _ _ _ h => h) (Or.inl ⟨by rfl, ?_⟩) hHeld ?_
    · intro W hW
      obtain ⟨h1, h2, h3⟩ := hW
      go_simp
    try simp only [Act.put, List.setIfInBounds_toArray, List.set_cons_zero, List.set_cons_succ]
    refine wpAnyH_take (i := 7) (oi := ⟨some 83, _, _, _, _, _⟩) (v := .bool true) rfl (by kernel_rfl) (by kernel_rfl) (by kernel_rfl) (fun _ _ _ h => h) (Or.inl ⟨by rfl, ?_⟩) hHeld ?_
    · intro W hW
      obtain ⟨h1, h2, h3⟩ := hW
      go_simp
    try simp only [Act.put, List.setIfInBounds_toArray, List.set_cons_zero, List.set_cons_succ]
    refine wpAnyH_take (i := 8) (oi := ⟨some 84, _, _, _, _, _⟩) (v := .bool true) rfl (by kernel_rfl) (by kernel_rfl) (by kernel_rfl) (fun _ _ _ h => h) (Or.inl ⟨by rfl, ?_⟩) hHeld ?_
    · intro W hW
      obtain ⟨h1, h2, h3⟩ := hW
      go_simp
    try simp only [Act.put, List.setIfInBounds_toArray, List.set_cons_zero, List.set_cons_succ]
    refine wpAnyH_take (i := 10) (oi := ⟨some 86, _, _, _, _, _⟩) (v := .pointer (some ⟨w.heap.size, 3, none⟩)) rfl (by kernel_rfl) (by kernel_rfl) (by kernel_rfl) (fun _ _ _ h => h) (Or.inl ⟨by rfl, ?_⟩) hHeld ?_
    · intro W hW
      obtain ⟨h1, h2, h3⟩ := hW
      go_simp
    try simp only [Act.put, List.setIfInBounds_toArray, List.set_cons_zero, List.set_cons_succ]
    refine wpAnyH_take (i := 11) (oi := ⟨some 87, _, _, _, _, _⟩) (v := .string (bs m)) rfl (by kernel_rfl) (by kernel_rfl) (by kernel_rfl) (fun _ _ _ h => h) (Or.inl ⟨by rfl, ?_⟩) hHeld ?_
    · intro W hW
      obtain ⟨h1, h2, h3⟩ := hW
      go_simp
    try simp only [Act.put, List.setIfInBounds_toArray, List.set_cons_zero, List.set_cons_succ]
    refine wpAnyH_ready (rs := [9]) (by kernel_rfl) (by simp) ?_
    refine AllReadyH.cons (o := ⟨some 85, _, _, _, _, _⟩) rfl (fun K hK => ?_) AllReadyH.nil
    go_simp
    refine (KG.out _).mono ?_
    rintro e w1 ⟨v, rfl, ho1, hb1⟩
    obtain ⟨A', c', rfl, hrs⟩ := own_rs ho1
    have z2 := Bz.next z1 hb1
    refine hK.out _ _ ((HBZ.out _ z2).1) (fun hHeld2 => ?_)
    clear hK
    try simp only [Act.put, List.setIfInBounds_toArray, List.set_cons_zero, List.set_cons_succ]
    refine wpAnyH_ready (rs := [12]) (by kernel_rfl) (by simp) ?_
    refine AllReadyH.cons (o := ⟨some 88, _, _, _, _, _⟩) rfl (fun K hK => ?_) AllReadyH.nil
    go_simp
    refine (KI.out _ _ _ hrs).mono ?_
    rintro e w2 ⟨rfl, h⟩
    subst w2
    refine hK.out _ _ ((HBZ.out _ z2).1) (fun hHeld3 => ?_)
    clear hK
    try simp only [Act.put, List.setIfInBounds_toArray, List.set_cons_zero, List.set_cons_succ]
    refine wpAnyH_take (i := 13) (oi := ⟨some 89, _, _, _, _, _⟩) (v := .bool false) rfl (by kernel_rfl) (by kernel_rfl) (by kernel_rfl) (fun _ _ _ h => h) (Or.inl ⟨by rfl, ?_⟩) hHeld3 ?_
    · intro W hW
      obtain ⟨h1, h2, h3⟩ := hW
      go_simp
    try simp only [Act.put, List.setIfInBounds_toArray, List.set_cons_zero, List.set_cons_succ]
    refine wpAnyH_take (i := 14) (oi := ⟨some 90, _, _, _, _, _⟩) (v := .bool false) rfl (by kernel_rfl) (by kernel_rfl) (by kernel_rfl) (fun _ _ _ h => h) (Or.inl ⟨by rfl, ?_⟩) hHeld3 ?_
    · intro W hW
      obtain ⟨h1, h2, h3⟩ := hW
      go_simp
    try simp only [Act.put, List.setIfInBounds_toArray, List.set_cons_zero, List.set_cons_succ]
    refine wpAnyH_take (i := 15) (oi := ⟨some 91, _, _, _, _, _⟩) (v := undef) rfl (by kernel_rfl) (by kernel_rfl) (by kernel_rfl) (fun _ _ _ h => h) (Or.inr ⟨by rfl, rfl⟩) hHeld3 ?_
    try simp only [Act.put, List.setIfInBounds_toArray, List.set_cons_zero, List.set_cons_succ]
    refine wpAnyH_take (i := 16) (oi := ⟨some 92, _, _, _, _, _⟩) (v := undef) rfl (by kernel_rfl) (by kernel_rfl) (by kernel_rfl) (fun _ _ _ h => h) (Or.inr ⟨by rfl, rfl⟩) hHeld3 ?_
    try simp only [Act.put, List.setIfInBounds_toArray, List.set_cons_zero, List.set_cons_succ]
    refine wpAnyH_take (i := 17) (oi := ⟨some 93, _, _, _, _, _⟩) (v := .bool false) rfl (by kernel_rfl) (by kernel_rfl) (by kernel_rfl) (fun _ _ _ h => h) (Or.inl ⟨by rfl, ?_⟩) hHeld3 ?_
    · intro W hW
      obtain ⟨h1, h2, h3⟩ := hW
      go_simp
    try simp only [Act.put, List.setIfInBounds_toArray, List.set_cons_zero, List.set_cons_succ]
    refine wpAnyH_take (i := 18) (oi := ⟨some 94, _, _, _, _, _⟩) (v := .bool false) rfl (by kernel_rfl) (by kernel_rfl) (by kernel_rfl) (fun _ _ _ h => h) (Or.inl ⟨by rfl, ?_⟩) hHeld3 ?_
    · intro W hW
      obtain ⟨h1, h2, h3⟩ := hW
      go_simp
    try simp only [Act.put, List.setIfInBounds_toArray, List.set_cons_zero, List.set_cons_succ]
    refine wpAnyH_take (i := 19) (oi := ⟨some 95, _, _, _, _, _⟩) (v := undef) rfl (by kernel_rfl) (by kernel_rfl) (by kernel_rfl) (fun _ _ _ h => h) (Or.inr ⟨by rfl, rfl⟩) hHeld3 ?_
    try simp only [Act.put, List.setIfInBounds_toArray, List.set_cons_zero, List.set_cons_succ]
    refine wpAnyH_take (i := 20) (oi := ⟨some 96, _, _, _, _, _⟩) (v := undef) rfl (by kernel_rfl) (by kernel_rfl) (by kernel_rfl) (fun _ _ _ h => h) (Or.inr ⟨by rfl, rfl⟩) hHeld3 ?_
    try simp only [Act.put, List.setIfInBounds_toArray, List.set_cons_zero, List.set_cons_succ]
    refine wpAnyH_take (i := 21) (oi := ⟨some 97, _, _, _, _, _⟩) (v := .bool false) rfl (by kernel_rfl) (by kernel_rfl) (by kernel_rfl) (fun _ _ _ h => h) (Or.inl ⟨by rfl, ?_⟩) hHeld3 ?_
    · intro W hW
      obtain ⟨h1, h2, h3⟩ := hW
      go_simp
    try simp only [Act.put, List.setIfInBounds_toArray, List.set_cons_zero, List.set_cons_succ]
    refine wpAnyH_take (i := 22) (oi := ⟨some 2, _, _, _, _, _⟩) (v := .bool false) rfl (by kernel_rfl) (by kernel_rfl) (by kernel_rfl) (fun _ _ _ h => h) (Or.inl ⟨by rfl, ?_⟩) hHeld3 ?_
    · intro W hW
      obtain ⟨h1, h2, h3⟩ := hW
      go_simp
    try simp only [Act.put, List.setIfInBounds_toArray, List.set_cons_zero, List.set_cons_succ]
    refine wpAnyH_done (by kernel_rfl) ?_ _
    go_wp2
    go_ret
    exact ⟨rfl, (HBZ.out _ z2).2⟩
  | true =>
    by_cases qna : na = 2
    rotate_left
    · have qna1 : ((na : Int) == 2) = false := by simp; omega
      obtain rfl : f = false := by rw [hf]; first | rfl | (simp [qna]; done) | (simp [qna]; omega)
      clear hf
      go_enter Tryd.func75, Tryd.ntmps75
      go_wp2_with fail
      go_quiet (fail)
      go_wp2_with fail
      have HBZ := Lib.hid (show ∀ W, Bz ((w.alloc (.cells #[.int .i64 5, .int .i64 0, .string (bs []), .string (bs m), .slice A na ca, .slice O no co] 83)).drewN nq) W → (W.cell? ⟨w.heap.size, 1, none⟩ = some (.int .i64 0) ∧ W.cell? ⟨w.heap.size, 2, none⟩ = some (.string (bs [])) ∧ W.cell? ⟨w.heap.size, 3, none⟩ = some (.string (bs m))) ∧ Below w.heap.size w W from fun W h => by
        have hn : ((w.alloc (.cells #[.int .i64 5, .int .i64 0, .string (bs []), .string (bs m), .slice A na ca, .slice O no co] 83)).drewN nq).heap[w.heap.size]? = some (.cells #[.int .i64 5, .int .i64 0, .string (bs []), .string (bs m), .slice A na ca, .slice O no co] 83 (0, 0)) := heap_alloc_new w _
        exact ⟨⟨cell_of_Bz h (by rw [cell_of_row _ _ _ _ _ _ hn]; rfl) (lt_of_block hn), cell_of_Bz h (by rw [cell_of_row _ _ _ _ _ _ hn]; rfl) (lt_of_block hn), cell_of_Bz h (by rw [cell_of_row _ _ _ _ _ _ hn]; rfl) (lt_of_block hn)⟩, (HD.out _ nq).trans (h.b.mono (HD.out _ nq).size)⟩)
      have z0 : Bz ((w.alloc (.cells #[.int .i64 5, .int .i64 0, .string (bs []), .string (bs m), .slice A na ca, .slice O no co] 83)).drewN nq) ((w.alloc (.cells #[.int .i64 5, .int .i64 0, .string (bs []), .string (bs m), .slice A na ca, .slice O no co] 83)).drewN nq) := ⟨Below.refl _ _⟩
      have z1 := z0.drew
      refine wp_region_held_drew (S := fun W => (W.cell? ⟨w.heap.size, 1, none⟩ = some (.int .i64 0) ∧ W.cell? ⟨w.heap.size, 2, none⟩ = some (.string (bs [])) ∧ W.cell? ⟨w.heap.size, 3, none⟩ = some (.string (bs m)))) (by kernel_rfl) ((HBZ.out _ z1).1) (fun hHeld => ?_)
      refine wpAnyH_take (i := 0) (oi := ⟨some 76, _, _, _, _, _⟩) (v := .pointer (some ⟨w.heap.size, 1, none⟩)) rfl (by kernel_rfl) (by kernel_rfl) (by kernel_rfl) (fun _ _ _ h => h) (Or.inl ⟨by rfl, ?_⟩) hHeld ?_
      · intro W hW
        obtain ⟨h1, h2, h3⟩ := hW
        go_simp
      try simp only [Act.put, List.setIfInBounds_toArray, List.set_cons_zero, List.set_cons_succ]
      refine wpAnyH_take (i := 1) (oi := ⟨some 77, _, _, _, _, _⟩) (v := .int .i64 0) rfl (by kernel_rfl) (by kernel_rfl) (by kernel_rfl) (fun _ _ _ h => h) (Or.inl ⟨by rfl, ?_⟩) hHeld ?_
      · intro W hW
        obtain ⟨h1, h2, h3⟩ := hW
        go_simp
      try simp only [Act.put, List.setIfInBounds_toArray, List.set_cons_zero, List.set_cons_succ]
      refine wpAnyH_take (i := 2) (oi := ⟨some 78, _, _, _, _, _⟩) (v := .bool true) rfl (by kernel_rfl) (by kernel_rfl) (by kernel_rfl) (fun _ _ _ h => h) (Or.inl ⟨by rfl, ?_⟩) hHeld ?_
      · intro W hW
        obtain ⟨h1, h2, h3⟩ := hW
        go_simp
      try simp only [Act.put, List.setIfInBounds_toArray, List.set_cons_zero, List.set_cons_succ]
      refine wpAnyH_take (i := 3) (oi := ⟨some 79, _, _, _, _, _⟩) (v := .bool true) rfl (by kernel_rfl) (by kernel_rfl) (by kernel_rfl) (fun _ _ _ h => h) (Or.inl ⟨by rfl, ?_⟩) hHeld ?_
      · intro W hW
        obtain ⟨h1, h2, h3⟩ := hW
        go_simp
      try simp only [Act.put, List.setIfInBounds_toArray, List.set_cons_zero, List.set_cons_succ]
      refine wpAnyH_take (i := 4) (oi := ⟨some 80, _, _, _, _, _⟩) (v := .pointer (some ⟨w.heap.size, 2, none⟩)) rfl (by kernel_rfl) (by kernel_rfl) (by kernel_rfl) (fun _ _ _ h => h) (Or.inl ⟨by rfl, ?_⟩) hHeld ?_
      · intro W hW
        obtain ⟨h1, h2, h3⟩ := hW
        go_simp
      try simp only [Act.put, List.setIfInBounds_toArray, List.set_cons_zero, List.set_cons_succ]
      refine wpAnyH_take (i := 5) (oi := ⟨some 81, _, _, _, _, _⟩) (v := .string (bs [])) rfl (by kernel_rfl) (by kernel_rfl) (by kernel_rfl) (fun _ _ _ h => h) (Or.inl ⟨by rfl, ?_⟩) hHeld ?_
      · intro W hW
        obtain ⟨h1, h2, h3⟩ := hW
        go_simp
      try simp only [Act.put, List.setIfInBounds_toArray, List.set_cons_zero, List.set_cons_succ]
      refine wpAnyH_take (i := 6) (oi := ⟨some 82, _, _, _, _, _⟩) (v := .bool true) rfl (by kernel_rfl) (by kernel_rfl) (by kernel_rfl) (fun _ _ _ h => h) (Or.inl ⟨by rfl, ?_⟩) hHeld ?_
      · intro W hW
        obtain ⟨h1, h2, h3⟩ := hW
        go_simp
      try simp only [Act.put, List.setIfInBounds_toArray, List.set_cons_zero, List.set_cons_succ]
      refine wpAnyH_take (i := 7) (oi := ⟨some 83, _, _, _, _, _⟩) (v := .bool true) rfl (by kernel_rfl) (by kernel_rfl) (by kernel_rfl) (fun _ _ _ h => h) (Or.inl ⟨by rfl, ?_⟩) hHeld ?_
      · intro W hW
        obtain ⟨h1, h2, h3⟩ := hW
        go_simp
      try simp only [Act.put, List.setIfInBounds_toArray, List.set_cons_zero, List.set_cons_succ]
      refine wpAnyH_take (i := 8) (oi := ⟨some 84, _, _, _, _, _⟩) (v := .bool true) rfl (by kernel_rfl) (by kernel_rfl) (by kernel_rfl) (fun _ _ _ h => h) (Or.inl ⟨by rfl, ?_⟩) hHeld ?_
      · intro W hW
        obtain ⟨h1, h2, h3⟩ := hW
        go_simp
      try simp only [Act.put, List.setIfInBounds_toArray, List.set_cons_zero, List.set_cons_succ]
      refine wpAnyH_take (i := 10) (oi := ⟨some 86, _, _, _, _, _⟩) (v := .pointer (some ⟨w.heap.size, 3, none⟩)) rfl (by kernel_rfl) (by kernel_rfl) (by kernel_rfl) (fun _ _ _ h => h) (Or.inl ⟨by rfl, ?_⟩) hHeld ?_
      · intro W hW
        obtain ⟨h1, h2, h3⟩ := hW
        go_simp
      try simp only [Act.put, List.setIfInBounds_toArray, List.set_cons_zero, List.set_cons_succ]
      refine wpAnyH_take (i := 11) (oi := ⟨some 87, _, _, _, _, _⟩) (v := .string (bs m)) rfl (by kernel_rfl) (by kernel_rfl) (by kernel_rfl) (fun _ _ _ h => h) (Or.inl ⟨by rfl, ?_⟩) hHeld ?_
      · intro W hW
        obtain ⟨h1, h2, h3⟩ := hW
        go_simp
      try simp only [Act.put, List.setIfInBounds_toArray, List.set_cons_zero, List.set_cons_succ]
      refine wpAnyH_ready (rs := [9]) (by kernel_rfl) (by simp) ?_
      refine AllReadyH.cons (o := ⟨some 85, _, _, _, _, _⟩) rfl (fun K hK => ?_) AllReadyH.nil
      go_simp
      refine (KG.out _).mono ?_
      rintro e w1 ⟨v, rfl, ho1, hb1⟩
      obtain ⟨A', c', rfl, hrs⟩ := own_rs ho1
      have z2 := Bz.next z1 hb1
      refine hK.out _ _ ((HBZ.out _ z2).1) (fun hHeld2 => ?_)
      clear hK
      try simp only [Act.put, List.setIfInBounds_toArray, List.set_cons_zero, List.set_cons_succ]
      refine wpAnyH_ready (rs := [12]) (by kernel_rfl) (by simp) ?_
      refine AllReadyH.cons (o := ⟨some 88, _, _, _, _, _⟩) rfl (fun K hK => ?_) AllReadyH.nil
      go_simp
      refine (KI.out _ _ _ hrs).mono ?_
      rintro e w2 ⟨rfl, h⟩
      subst w2
      refine hK.out _ _ ((HBZ.out _ z2).1) (fun hHeld3 => ?_)
      clear hK
      try simp only [Act.put, List.setIfInBounds_toArray, List.set_cons_zero, List.set_cons_succ]
      refine wpAnyH_take (i := 13) (oi := ⟨some 89, _, _, _, _, _⟩) (v := .bool true) rfl (by kernel_rfl) (by kernel_rfl) (by kernel_rfl) (fun _ _ _ h => h) (Or.inl ⟨by rfl, ?_⟩) hHeld3 ?_
      · intro W hW
        obtain ⟨h1, h2, h3⟩ := hW
        go_simp
      try simp only [Act.put, List.setIfInBounds_toArray, List.set_cons_zero, List.set_cons_succ]
      refine wpAnyH_take (i := 14) (oi := ⟨some 90, _, _, _, _, _⟩) (v := .bool true) rfl (by kernel_rfl) (by kernel_rfl) (by kernel_rfl) (fun _ _ _ h => h) (Or.inl ⟨by rfl, ?_⟩) hHeld3 ?_
      · intro W hW
        obtain ⟨h1, h2, h3⟩ := hW
        go_simp
      try simp only [Act.put, List.setIfInBounds_toArray, List.set_cons_zero, List.set_cons_succ]
      refine wpAnyH_take (i := 15) (oi := ⟨some 91, _, _, _, _, _⟩) (v := .int .i64 (na : Nat)) rfl (by kernel_rfl) (by kernel_rfl) (by kernel_rfl) (fun _ _ _ h => h) (Or.inl ⟨by rfl, ?_⟩) hHeld3 ?_
      · intro W hW
        obtain ⟨h1, h2, h3⟩ := hW
        go_simp
      try simp only [Act.put, List.setIfInBounds_toArray, List.set_cons_zero, List.set_cons_succ]
      refine wpAnyH_take (i := 16) (oi := ⟨some 92, _, _, _, _, _⟩) (v := .bool false) rfl (by kernel_rfl) (by kernel_rfl) (by kernel_rfl) (fun _ _ _ h => h) (Or.inl ⟨by rfl, ?_⟩) hHeld3 ?_
      · intro W hW
        obtain ⟨h1, h2, h3⟩ := hW
        go_simp
      try simp only [Act.put, List.setIfInBounds_toArray, List.set_cons_zero, List.set_cons_succ]
      refine wpAnyH_take (i := 17) (oi := ⟨some 93, _, _, _, _, _⟩) (v := .bool false) rfl (by kernel_rfl) (by kernel_rfl) (by kernel_rfl) (fun _ _ _ h => h) (Or.inl ⟨by rfl, ?_⟩) hHeld3 ?_
      · intro W hW
        obtain ⟨h1, h2, h3⟩ := hW
        go_simp
      try simp only [Act.put, List.setIfInBounds_toArray, List.set_cons_zero, List.set_cons_succ]
      refine wpAnyH_take (i := 18) (oi := ⟨some 94, _, _, _, _, _⟩) (v := .bool false) rfl (by kernel_rfl) (by kernel_rfl) (by kernel_rfl) (fun _ _ _ h => h) (Or.inl ⟨by rfl, ?_⟩) hHeld3 ?_
      · intro W hW
        obtain ⟨h1, h2, h3⟩ := hW
        go_simp
      try simp only [Act.put, List.setIfInBounds_toArray, List.set_cons_zero, List.set_cons_succ]
      refine wpAnyH_take (i := 19) (oi := ⟨some 95, _, _, _, _, _⟩) (v := undef) rfl (by kernel_rfl) (by kernel_rfl) (by kernel_rfl) (fun _ _ _ h => h) (Or.inr ⟨by rfl, rfl⟩) hHeld3 ?_
      try simp only [Act.put, List.setIfInBounds_toArray, List.set_cons_zero, List.set_cons_succ]
      refine wpAnyH_take (i := 20) (oi := ⟨some 96, _, _, _, _, _⟩) (v := undef) rfl (by kernel_rfl) (by kernel_rfl) (by kernel_rfl) (fun _ _ _ h => h) (Or.inr ⟨by rfl, rfl⟩) hHeld3 ?_
      try simp only [Act.put, List.setIfInBounds_toArray, List.set_cons_zero, List.set_cons_succ]
      refine wpAnyH_take (i := 21) (oi := ⟨some 97, _, _, _, _, _⟩) (v := .bool false) rfl (by kernel_rfl) (by kernel_rfl) (by kernel_rfl) (fun _ _ _ h => h) (Or.inl ⟨by rfl, ?_⟩) hHeld3 ?_
      · intro W hW
        obtain ⟨h1, h2, h3⟩ := hW
        go_simp
      try simp only [Act.put, List.setIfInBounds_toArray, List.set_cons_zero, List.set_cons_succ]
      refine wpAnyH_take (i := 22) (oi := ⟨some 2, _, _, _, _, _⟩) (v := .bool false) rfl (by kernel_rfl) (by kernel_rfl) (by kernel_rfl) (fun _ _ _ h => h) (Or.inl ⟨by rfl, ?_⟩) hHeld3 ?_
      · intro W hW
        obtain ⟨h1, h2, h3⟩ := hW
        go_simp
      try simp only [Act.put, List.setIfInBounds_toArray, List.set_cons_zero, List.set_cons_succ]
      refine wpAnyH_done (by kernel_rfl) ?_ _
      go_wp2
      go_ret
      exact ⟨rfl, (HBZ.out _ z2).2⟩
    subst qna
    by_cases qno : no = 0
    rotate_left
    · have qno1 : ((no : Int) == 0) = false := by simp; omega
      obtain rfl : f = false := by rw [hf]; first | rfl | (simp [qno]; done) | (simp [qno]; omega)
      clear hf
      go_enter Tryd.func75, Tryd.ntmps75
      go_wp2_with fail
      go_quiet (fail)
      go_wp2_with fail
      have HBZ := Lib.hid (show ∀ W, Bz ((w.alloc (.cells #[.int .i64 5, .int .i64 0, .string (bs []), .string (bs m), .slice A 2 ca, .slice O no co] 83)).drewN nq) W → (W.cell? ⟨w.heap.size, 1, none⟩ = some (.int .i64 0) ∧ W.cell? ⟨w.heap.size, 2, none⟩ = some (.string (bs [])) ∧ W.cell? ⟨w.heap.size, 3, none⟩ = some (.string (bs m))) ∧ Below w.heap.size w W from fun W h => by
        have hn : ((w.alloc (.cells #[.int .i64 5, .int .i64 0, .string (bs []), .string (bs m), .slice A 2 ca, .slice O no co] 83)).drewN nq).heap[w.heap.size]? = some (.cells #[.int .i64 5, .int .i64 0, .string (bs []), .string (bs m), .slice A 2 ca, .slice O no co] 83 (0, 0)) := heap_alloc_new w _
        exact ⟨⟨cell_of_Bz h (by rw [cell_of_row _ _ _ _ _ _ hn]; rfl) (lt_of_block hn), cell_of_Bz h (by rw [cell_of_row _ _ _ _ _ _ hn]; rfl) (lt_of_block hn), cell_of_Bz h (by rw [cell_of_row _ _ _ _ _ _ hn]; rfl) (lt_of_block hn)⟩, (HD.out _ nq).trans (h.b.mono (HD.out _ nq).size)⟩)
      have z0 : Bz ((w.alloc (.cells #[.int .i64 5, .int .i64 0, .string (bs []), .string (bs m), .slice A 2 ca, .slice O no co] 83)).drewN nq) ((w.alloc (.cells #[.int .i64 5, .int .i64 0, .string (bs []), .string (bs m), .slice A 2 ca, .slice O no co] 83)).drewN nq) := ⟨Below.refl _ _⟩
      have z1 := z0.drew
      refine wp_region_held_drew (S := fun W => (W.cell? ⟨w.heap.size, 1, none⟩ = some (.int .i64 0) ∧ W.cell? ⟨w.heap.size, 2, none⟩ = some (.string (bs [])) ∧ W.cell? ⟨w.heap.size, 3, none⟩ = some (.string (bs m)))) (by kernel_rfl) ((HBZ.out _ z1).1) (fun hHeld => ?_)
      refine wpAnyH_take (i := 0) (oi := ⟨some 76, _, _, _, _, _⟩) (v := .pointer (some ⟨w.heap.size, 1, none⟩)) rfl (by kernel_rfl) (by kernel_rfl) (by kernel_rfl) (fun _ _ _ h => h) (Or.inl ⟨by rfl, ?_⟩) hHeld ?_
      · intro W hW
        obtain ⟨h1, h2, h3⟩ := hW
        go_simp
      try simp only [Act.put, List.setIfInBounds_toArray, List.set_cons_zero, List.set_cons_succ]
      refine wpAnyH_take (i := 1) (oi := ⟨some 77, _, _, _, _, _⟩) (v := .int .i64 0) rfl (by kernel_rfl) (by kernel_rfl) (by kernel_rfl) (fun _ _ _ h => h) (Or.inl ⟨by rfl, ?_⟩) hHeld ?_
      · intro W hW
        obtain ⟨h1, h2, h3⟩ := hW
        go_simp
      try simp only [Act.put, List.setIfInBounds_toArray, List.set_cons_zero, List.set_cons_succ]
      refine wpAnyH_take (i := 2) (oi := ⟨some 78, _, _, _, _, _⟩) (v := .bool true) rfl (by kernel_rfl) (by kernel_rfl) (by kernel_rfl) (fun _ _ _ h => h) (Or.inl ⟨by rfl, ?_⟩) hHeld ?_
      · intro W hW
        obtain ⟨h1, h2, h3⟩ := hW
        go_simp
      try simp only [Act.put, List.setIfInBounds_toArray, List.set_cons_zero, List.set_cons_succ]
      refine wpAnyH_take (i := 3) (oi := ⟨some 79, _, _, _, _, _⟩) (v := .bool true) rfl (by kernel_rfl) (by kernel_rfl) (by kernel_rfl) (fun _ _ _ h => h) (Or.inl ⟨by rfl, ?_⟩) hHeld ?_
      · intro W hW
        obtain ⟨h1, h2, h3⟩ := hW
        go_simp
      try simp only [Act.put, List.setIfInBounds_toArray, List.set_cons_zero, List.set_cons_succ]
      refine wpAnyH_take (i := 4) (oi := ⟨some 80, _, _, _, _, _⟩) (v := .pointer (some ⟨w.heap.size, 2, none⟩)) rfl (by kernel_rfl) (by kernel_rfl) (by kernel_rfl) (fun _ _ _ h => h) (Or.inl ⟨by rfl, ?_⟩) hHeld ?_
      · intro W hW
        obtain ⟨h1, h2, h3⟩ := hW
        go_simp
      try simp only [Act.put, List.setIfInBounds_toArray, List.set_cons_zero, List.set_cons_succ]
      refine wpAnyH_take (i := 5) (oi := ⟨some 81, _, _, _, _, _⟩) (v := .string (bs [])) rfl (by kernel_rfl) (by kernel_rfl) (by kernel_rfl) (fun _ _ _ h => h) (Or.inl ⟨by rfl, ?_⟩) hHeld ?_
      · intro W hW
        obtain ⟨h1, h2, h3⟩ := hW
        go_simp
      try simp only [Act.put, List.setIfInBounds_toArray, List.set_cons_zero, List.set_cons_succ]
      refine wpAnyH_take (i := 6) (oi := ⟨some 82, _, _, _, _, _⟩) (v := .bool true) rfl (by kernel_rfl) (by kernel_rfl) (by kernel_rfl) (fun _ _ _ h => h) (Or.inl ⟨by rfl, ?_⟩) hHeld ?_
      · intro W hW
        obtain ⟨h1, h2, h3⟩ := hW
        go_simp
      try simp only [Act.put, List.setIfInBounds_toArray, List.set_cons_zero, List.set_cons_succ]
      refine wpAnyH_take (i := 7) (oi := ⟨some 83, _, _, _, _, _⟩) (v := .bool true) rfl (by kernel_rfl) (by kernel_rfl) (by kernel_rfl) (fun _ _ _ h => h) (Or.inl ⟨by rfl, ?_⟩) hHeld ?_
      · intro W hW
        obtain ⟨h1, h2, h3⟩ := hW
        go_simp
      try simp only [Act.put, List.setIfInBounds_toArray, List.set_cons_zero, List.set_cons_succ]
      refine wpAnyH_take (i := 8) (oi := ⟨some 84, _, _, _, _, _⟩) (v := .bool true) rfl (by kernel_rfl) (by kernel_rfl) (by kernel_rfl) (fun _ _ _ h => h) (Or.inl ⟨by rfl, ?_⟩) hHeld ?_
      · intro W hW
        obtain ⟨h1, h2, h3⟩ := hW
        go_simp
      try simp only [Act.put, List.setIfInBounds_toArray, List.set_cons_zero, List.set_cons_succ]
      refine wpAnyH_take (i := 10) (oi := ⟨some 86, _, _, _, _, _⟩) (v := .pointer (some ⟨w.heap.size, 3, none⟩)) rfl (by kernel_rfl) (by kernel_rfl) (by kernel_rfl) (fun _ _ _ h => h) (Or.inl ⟨by rfl, ?_⟩) hHeld ?_
      · intro W hW
        obtain ⟨h1, h2, h3⟩ := hW
        go_simp
      try simp only [Act.put, List.setIfInBounds_toArray, List.set_cons_zero, List.set_cons_succ]
      refine wpAnyH_take (i := 11) (oi := ⟨some 87, _, _, _, _, _⟩) (v := .string (bs m)) rfl (by kernel_rfl) (by kernel_rfl) (by kernel_rfl) (fun _ _ _ h => h) (Or.inl ⟨by rfl, ?_⟩) hHeld ?_
      · intro W hW
        obtain ⟨h1, h2, h3⟩ := hW
        go_simp
      try simp only [Act.put, List.setIfInBounds_toArray, List.set_cons_zero, List.set_cons_succ]
      refine wpAnyH_ready (rs := [9]) (by kernel_rfl) (by simp) ?_
      refine AllReadyH.cons (o := ⟨some 85, _, _, _, _, _⟩) rfl (fun K hK => ?_) AllReadyH.nil
      go_simp
      refine (KG.out _).mono ?_
      rintro e w1 ⟨v, rfl, ho1, hb1⟩
      obtain ⟨A', c', rfl, hrs⟩ := own_rs ho1
      have z2 := Bz.next z1 hb1
      refine hK.out _ _ ((HBZ.out _ z2).1) (fun hHeld2 => ?_)
      clear hK
      try simp only [Act.put, List.setIfInBounds_toArray, List.set_cons_zero, List.set_cons_succ]
      refine wpAnyH_ready (rs := [12]) (by kernel_rfl) (by simp) ?_
      refine AllReadyH.cons (o := ⟨some 88, _, _, _, _, _⟩) rfl (fun K hK => ?_) AllReadyH.nil
      go_simp
      refine (KI.out _ _ _ hrs).mono ?_
      rintro e w2 ⟨rfl, h⟩
      subst w2
      refine hK.out _ _ ((HBZ.out _ z2).1) (fun hHeld3 => ?_)
      clear hK
      try simp only [Act.put, List.setIfInBounds_toArray, List.set_cons_zero, List.set_cons_succ]
      refine wpAnyH_take (i := 13) (oi := ⟨some 89, _, _, _, _, _⟩) (v := .bool true) rfl (by kernel_rfl) (by kernel_rfl) (by kernel_rfl) (fun _ _ _ h => h) (Or.inl ⟨by rfl, ?_⟩) hHeld3 ?_
      · intro W hW
        obtain ⟨h1, h2, h3⟩ := hW
        go_simp
      try simp only [Act.put, List.setIfInBounds_toArray, List.set_cons_zero, List.set_cons_succ]
      refine wpAnyH_take (i := 14) (oi := ⟨some 90, _, _, _, _, _⟩) (v := .bool true) rfl (by kernel_rfl) (by kernel_rfl) (by kernel_rfl) (fun _ _ _ h => h) (Or.inl ⟨by rfl, ?_⟩) hHeld3 ?_
      · intro W hW
        obtain ⟨h1, h2, h3⟩ := hW
        go_simp
      try simp only [Act.put, List.setIfInBounds_toArray, List.set_cons_zero, List.set_cons_succ]
      refine wpAnyH_take (i := 15) (oi := ⟨some 91, _, _, _, _, _⟩) (v := .int .i64 2) rfl (by kernel_rfl) (by kernel_rfl) (by kernel_rfl) (fun _ _ _ h => h) (Or.inl ⟨by rfl, ?_⟩) hHeld3 ?_
      · intro W hW
        obtain ⟨h1, h2, h3⟩ := hW
        go_simp
      try simp only [Act.put, List.setIfInBounds_toArray, List.set_cons_zero, List.set_cons_succ]
      refine wpAnyH_take (i := 16) (oi := ⟨some 92, _, _, _, _, _⟩) (v := .bool true) rfl (by kernel_rfl) (by kernel_rfl) (by kernel_rfl) (fun _ _ _ h => h) (Or.inl ⟨by rfl, ?_⟩) hHeld3 ?_
      · intro W hW
        obtain ⟨h1, h2, h3⟩ := hW
        go_simp
      try simp only [Act.put, List.setIfInBounds_toArray, List.set_cons_zero, List.set_cons_succ]
      refine wpAnyH_take (i := 17) (oi := ⟨some 93, _, _, _, _, _⟩) (v := .bool true) rfl (by kernel_rfl) (by kernel_rfl) (by kernel_rfl) (fun _ _ _ h => h) (Or.inl ⟨by rfl, ?_⟩) hHeld3 ?_
      · intro W hW
        obtain ⟨h1, h2, h3⟩ := hW
        go_simp
      try simp only [Act.put, List.setIfInBounds_toArray, List.set_cons_zero, List.set_cons_succ]
      refine wpAnyH_take (i := 18) (oi := ⟨some 94, _, _, _, _, _⟩) (v := .bool true) rfl (by kernel_rfl) (by kernel_rfl) (by kernel_rfl) (fun _ _ _ h => h) (Or.inl ⟨by rfl, ?_⟩) hHeld3 ?_
      · intro W hW
        obtain ⟨h1, h2, h3⟩ := hW
        go_simp
      try simp only [Act.put, List.setIfInBounds_toArray, List.set_cons_zero, List.set_cons_succ]
      refine wpAnyH_take (i := 19) (oi := ⟨some 95, _, _, _, _, _⟩) (v := .int .i64 (no : Nat)) rfl (by kernel_rfl) (by kernel_rfl) (by kernel_rfl) (fun _ _ _ h => h) (Or.inl ⟨by rfl, ?_⟩) hHeld3 ?_
      · intro W hW
        obtain ⟨h1, h2, h3⟩ := hW
        go_simp
      try simp only [Act.put, List.setIfInBounds_toArray, List.set_cons_zero, List.set_cons_succ]
      refine wpAnyH_take (i := 20) (oi := ⟨some 96, _, _, _, _, _⟩) (v := .bool false) rfl (by kernel_rfl) (by kernel_rfl) (by kernel_rfl) (fun _ _ _ h => h) (Or.inl ⟨by rfl, ?_⟩) hHeld3 ?_
      · intro W hW
        obtain ⟨h1, h2, h3⟩ := hW
        go_simp
      try simp only [Act.put, List.setIfInBounds_toArray, List.set_cons_zero, List.set_cons_succ]
      refine wpAnyH_take (i := 21) (oi := ⟨some 97, _, _, _, _, _⟩) (v := .bool false) rfl (by kernel_rfl) (by kernel_rfl) (by kernel_rfl) (fun _ _ _ h => h) (Or.inl ⟨by rfl, ?_⟩) hHeld3 ?_
      · intro W hW
        obtain ⟨h1, h2, h3⟩ := hW
        go_simp
      try simp only [Act.put, List.setIfInBounds_toArray, List.set_cons_zero, List.set_cons_succ]
      refine wpAnyH_take (i := 22) (oi := ⟨some 2, _, _, _, _, _⟩) (v := .bool false) rfl (by kernel_rfl) (by kernel_rfl) (by kernel_rfl) (fun _ _ _ h => h) (Or.inl ⟨by rfl, ?_⟩) hHeld3 ?_
      · intro W hW
        obtain ⟨h1, h2, h3⟩ := hW
        go_simp
      try simp only [Act.put, List.setIfInBounds_toArray, List.set_cons_zero, List.set_cons_succ]
      refine wpAnyH_done (by kernel_rfl) ?_ _
      go_wp2
      go_ret
      exact ⟨rfl, (HBZ.out _ z2).2⟩
    subst qno
    obtain rfl : f = true := by rw [hf]; first | rfl | (simp []; done) | (simp []; omega)
    clear hf
    go_enter Tryd.func75, Tryd.ntmps75
    go_wp2_with fail
    go_quiet (fail)
    go_wp2_with fail
    have HBZ := Lib.hid (show ∀ W, Bz ((w.alloc (.cells #[.int .i64 5, .int .i64 0, .string (bs []), .string (bs m), .slice A 2 ca, .slice O 0 co] 83)).drewN nq) W → (W.cell? ⟨w.heap.size, 1, none⟩ = some (.int .i64 0) ∧ W.cell? ⟨w.heap.size, 2, none⟩ = some (.string (bs [])) ∧ W.cell? ⟨w.heap.size, 3, none⟩ = some (.string (bs m))) ∧ Below w.heap.size w W from fun W h => by
      have hn : ((w.alloc (.cells #[.int .i64 5, .int .i64 0, .string (bs []), .string (bs m), .slice A 2 ca, .slice O 0 co] 83)).drewN nq).heap[w.heap.size]? = some (.cells #[.int .i64 5, .int .i64 0, .string (bs []), .string (bs m), .slice A 2 ca, .slice O 0 co] 83 (0, 0)) := heap_alloc_new w _
      exact ⟨⟨cell_of_Bz h (by rw [cell_of_row _ _ _ _ _ _ hn]; rfl) (lt_of_block hn), cell_of_Bz h (by rw [cell_of_row _ _ _ _ _ _ hn]; rfl) (lt_of_block hn), cell_of_Bz h (by rw [cell_of_row _ _ _ _ _ _ hn]; rfl) (lt_of_block hn)⟩, (HD.out _ nq).trans (h.b.mono (HD.out _ nq).size)⟩)
    have z0 : Bz ((w.alloc (.cells #[.int .i64 5, .int .i64 0, .string (bs []), .string (bs m), .slice A 2 ca, .slice O 0 co] 83)).drewN nq) ((w.alloc (.cells #[.int .i64 5, .int .i64 0, .string (bs []), .string (bs m), .slice A 2 ca, .slice O 0 co] 83)).drewN nq) := ⟨Below.refl _ _⟩
    have z1 := z0.drew
    refine wp_region_held_drew (S := fun W => (W.cell? ⟨w.heap.size, 1, none⟩ = some (.int .i64 0) ∧ W.cell? ⟨w.heap.size, 2, none⟩ = some (.string (bs [])) ∧ W.cell? ⟨w.heap.size, 3, none⟩ = some (.string (bs m)))) (by kernel_rfl) ((HBZ.out _ z1).1) (fun hHeld => ?_)
    refine wpAnyH_take (i := 0) (oi := ⟨some 76, _, _, _, _, _⟩) (v := .pointer (some ⟨w.heap.size, 1, none⟩)) rfl (by kernel_rfl) (by kernel_rfl) (by kernel_rfl) (fun _ _ _ h => h) (Or.inl ⟨by rfl, ?_⟩) hHeld ?_
    · intro W hW
      obtain ⟨h1, h2, h3⟩ := hW
      go_simp
    try simp only [Act.put, List.setIfInBounds_toArray, List.set_cons_zero, List.set_cons_succ]
    refine wpAnyH_take (i := 1) (oi := ⟨some 77, _, _, _, _, _⟩) (v := .int .i64 0) rfl (by kernel_rfl) (by kernel_rfl) (by kernel_rfl) (fun _ _ _ h => h) (Or.inl ⟨by rfl, ?_⟩) hHeld ?_
    · intro W hW
      obtain ⟨h1, h2, h3⟩ := hW
      go_simp
    try simp only [Act.put, List.setIfInBounds_toArray, List.set_cons_zero, List.set_cons_succ]
    refine wpAnyH_take (i := 2) (oi := ⟨some 78, _, _, _, _, _⟩) (v := .bool true) rfl (by kernel_rfl) (by kernel_rfl) (by kernel_rfl) (fun _ _ _ h => h) (Or.inl ⟨by rfl, ?_⟩) hHeld ?_
    · intro W hW
      obtain ⟨h1, h2, h3⟩ := hW
      go_simp
    try simp only [Act.put, List.setIfInBounds_toArray, List.set_cons_zero, List.set_cons_succ]
    refine wpAnyH_take (i := 3) (oi := ⟨some 79, _, _, _, _, _⟩) (v := .bool true) rfl (by kernel_rfl) (by kernel_rfl) (by kernel_rfl) (fun _ _ _ h => h) (Or.inl ⟨by rfl, ?_⟩) hHeld ?_
    · intro W hW
      obtain ⟨h1, h2, h3⟩ := hW
      go_simp
    try simp only [Act.put, List.setIfInBounds_toArray, List.set_cons_zero, List.set_cons_succ]
    refine wpAnyH_take (i := 4) (oi := ⟨some 80, _, _, _, _, _⟩) (v := .pointer (some ⟨w.heap.size, 2, none⟩)) rfl (by kernel_rfl) (by kernel_rfl) (by kernel_rfl) (fun _ _ _ h => h) (Or.inl ⟨by rfl, ?_⟩) hHeld ?_
    · intro W hW
      obtain ⟨h1, h2, h3⟩ := hW
      go_simp
    try simp only [Act.put, List.setIfInBounds_toArray, List.set_cons_zero, List.set_cons_succ]
    refine wpAnyH_take (i := 5) (oi := ⟨some 81, _, _, _, _, _⟩) (v := .string (bs [])) rfl (by kernel_rfl) (by kernel_rfl) (by kernel_rfl) (fun _ _ _ h => h) (Or.inl ⟨by rfl, ?_⟩) hHeld ?_
    · intro W hW
      obtain ⟨h1, h2, h3⟩ := hW
      go_simp
    try simp only [Act.put, List.setIfInBounds_toArray, List.set_cons_zero, List.set_cons_succ]
    refine wpAnyH_take (i := 6) (oi := ⟨some 82, _, _, _, _, _⟩) (v := .bool true) rfl (by kernel_rfl) (by kernel_rfl) (by kernel_rfl) (fun _ _ _ h => h) (Or.inl ⟨by rfl, ?_⟩) hHeld ?_
    · intro W hW
      obtain ⟨h1, h2, h3⟩ := hW
      go_simp
    try simp only [Act.put, List.setIfInBounds_toArray, List.set_cons_zero, List.set_cons_succ]
    refine wpAnyH_take (i := 7) (oi := ⟨some 83, _, _, _, _, _⟩) (v := .bool true) rfl (by kernel_rfl) (by kernel_rfl) (by kernel_rfl) (fun _ _ _ h => h) (Or.inl ⟨by rfl, ?_⟩) hHeld ?_
    · intro W hW
      obtain ⟨h1, h2, h3⟩ := hW
      go_simp
    try simp only [Act.put, List.setIfInBounds_toArray, List.set_cons_zero, List.set_cons_succ]
    refine wpAnyH_take (i := 8) (oi := ⟨some 84, _, _, _, _, _⟩) (v := .bool true) rfl (by kernel_rfl) (by kernel_rfl) (by kernel_rfl) (fun _ _ _ h => h) (Or.inl ⟨by rfl, ?_⟩) hHeld ?_
    · intro W hW
      obtain ⟨h1, h2, h3⟩ := hW
      go_simp
    try simp only [Act.put, List.setIfInBounds_toArray, List.set_cons_zero, List.set_cons_succ]
    refine wpAnyH_take (i := 10) (oi := ⟨some 86, _, _, _, _, _⟩) (v := .pointer (some ⟨w.heap.size, 3, none⟩)) rfl (by kernel_rfl) (by kernel_rfl) (by kernel_rfl) (fun _ _ _ h => h) (Or.inl ⟨by rfl, ?_⟩) hHeld ?_
    · intro W hW
      obtain ⟨h1, h2, h3⟩ := hW
      go_simp
    try simp only [Act.put, List.setIfInBounds_toArray, List.set_cons_zero, List.set_cons_succ]
    refine wpAnyH_take (i := 11) (oi := ⟨some 87, _, _, _, _, _⟩) (v := .string (bs m)) rfl (by kernel_rfl) (by kernel_rfl) (by kernel_rfl) (fun _ _ _ h => h) (Or.inl ⟨by rfl, ?_⟩) hHeld ?_
    · intro W hW
      obtain ⟨h1, h2, h3⟩ := hW
      go_simp
    try simp only [Act.put, List.setIfInBounds_toArray, List.set_cons_zero, List.set_cons_succ]
    refine wpAnyH_ready (rs := [9]) (by kernel_rfl) (by simp) ?_
    refine AllReadyH.cons (o := ⟨some 85, _, _, _, _, _⟩) rfl (fun K hK => ?_) AllReadyH.nil
    go_simp
    refine (KG.out _).mono ?_
    rintro e w1 ⟨v, rfl, ho1, hb1⟩
    obtain ⟨A', c', rfl, hrs⟩ := own_rs ho1
    have z2 := Bz.next z1 hb1
    refine hK.out _ _ ((HBZ.out _ z2).1) (fun hHeld2 => ?_)
    clear hK
    try simp only [Act.put, List.setIfInBounds_toArray, List.set_cons_zero, List.set_cons_succ]
    refine wpAnyH_ready (rs := [12]) (by kernel_rfl) (by simp) ?_
    refine AllReadyH.cons (o := ⟨some 88, _, _, _, _, _⟩) rfl (fun K hK => ?_) AllReadyH.nil
    go_simp
    refine (KI.out _ _ _ hrs).mono ?_
    rintro e w2 ⟨rfl, h⟩
    subst w2
    refine hK.out _ _ ((HBZ.out _ z2).1) (fun hHeld3 => ?_)
    clear hK
    try simp only [Act.put, List.setIfInBounds_toArray, List.set_cons_zero, List.set_cons_succ]
    refine wpAnyH_take (i := 13) (oi := ⟨some 89, _, _, _, _, _⟩) (v := .bool true) rfl (by kernel_rfl) (by kernel_rfl) (by kernel_rfl) (fun _ _ _ h => h) (Or.inl ⟨by rfl, ?_⟩) hHeld3 ?_
    · intro W hW
      obtain ⟨h1, h2, h3⟩ := hW
      go_simp
    try simp only [Act.put, List.setIfInBounds_toArray, List.set_cons_zero, List.set_cons_succ]
    refine wpAnyH_take (i := 14) (oi := ⟨some 90, _, _, _, _, _⟩) (v := .bool true) rfl (by kernel_rfl) (by kernel_rfl) (by kernel_rfl) (fun _ _ _ h => h) (Or.inl ⟨by rfl, ?_⟩) hHeld3 ?_
    · intro W hW
      obtain ⟨h1, h2, h3⟩ := hW
      go_simp
    try simp only [Act.put, List.setIfInBounds_toArray, List.set_cons_zero, List.set_cons_succ]
    refine wpAnyH_take (i := 15) (oi := ⟨some 91, _, _, _, _, _⟩) (v := .int .i64 2) rfl (by kernel_rfl) (by kernel_rfl) (by kernel_rfl) (fun _ _ _ h => h) (Or.inl ⟨by rfl, ?_⟩) hHeld3 ?_
    · intro W hW
      obtain ⟨h1, h2, h3⟩ := hW
      go_simp
    try simp only [Act.put, List.setIfInBounds_toArray, List.set_cons_zero, List.set_cons_succ]
    refine wpAnyH_take (i := 16) (oi := ⟨some 92, _, _, _, _, _⟩) (v := .bool true) rfl (by kernel_rfl) (by kernel_rfl) (by kernel_rfl) (fun _ _ _ h => h) (Or.inl ⟨by rfl, ?_⟩) hHeld3 ?_
    · intro W hW
      obtain ⟨h1, h2, h3⟩ := hW
      go_simp
    try simp only [Act.put, List.setIfInBounds_toArray, List.set_cons_zero, List.set_cons_succ]
    refine wpAnyH_take (i := 17) (oi := ⟨some 93, _, _, _, _, _⟩) (v := .bool true) rfl (by kernel_rfl) (by kernel_rfl) (by kernel_rfl) (fun _ _ _ h => h) (Or.inl ⟨by rfl, ?_⟩) hHeld3 ?_
    · intro W hW
      obtain ⟨h1, h2, h3⟩ := hW
      go_simp
    try simp only [Act.put, List.setIfInBounds_toArray, List.set_cons_zero, List.set_cons_succ]
    refine wpAnyH_take (i := 18) (oi := ⟨some 94, _, _, _, _, _⟩) (v := .bool true) rfl (by kernel_rfl) (by kernel_rfl) (by kernel_rfl) (fun _ _ _ h => h) (Or.inl ⟨by rfl, ?_⟩) hHeld3 ?_
    · intro W hW
      obtain ⟨h1, h2, h3⟩ := hW
      go_simp
    try simp only [Act.put, List.setIfInBounds_toArray, List.set_cons_zero, List.set_cons_succ]
    refine wpAnyH_take (i := 19) (oi := ⟨some 95, _, _, _, _, _⟩) (v := .int .i64 0) rfl (by kernel_rfl) (by kernel_rfl) (by kernel_rfl) (fun _ _ _ h => h) (Or.inl ⟨by rfl, ?_⟩) hHeld3 ?_
    · intro W hW
      obtain ⟨h1, h2, h3⟩ := hW
      go_simp
    try simp only [Act.put, List.setIfInBounds_toArray, List.set_cons_zero, List.set_cons_succ]
    refine wpAnyH_take (i := 20) (oi := ⟨some 96, _, _, _, _, _⟩) (v := .bool true) rfl (by kernel_rfl) (by kernel_rfl) (by kernel_rfl) (fun _ _ _ h => h) (Or.inl ⟨by rfl, ?_⟩) hHeld3 ?_
    · intro W hW
      obtain ⟨h1, h2, h3⟩ := hW
      go_simp
    try simp only [Act.put, List.setIfInBounds_toArray, List.set_cons_zero, List.set_cons_succ]
    refine wpAnyH_take (i := 21) (oi := ⟨some 97, _, _, _, _, _⟩) (v := .bool true) rfl (by kernel_rfl) (by kernel_rfl) (by kernel_rfl) (fun _ _ _ h => h) (Or.inl ⟨by rfl, ?_⟩) hHeld3 ?_
    · intro W hW
      obtain ⟨h1, h2, h3⟩ := hW
      go_simp
    try simp only [Act.put, List.setIfInBounds_toArray, List.set_cons_zero, List.set_cons_succ]
    refine wpAnyH_take (i := 22) (oi := ⟨some 2, _, _, _, _, _⟩) (v := .bool true) rfl (by kernel_rfl) (by kernel_rfl) (by kernel_rfl) (fun _ _ _ h => h) (Or.inl ⟨by rfl, ?_⟩) hHeld3 ?_
    · intro W hW
      obtain ⟨h1, h2, h3⟩ := hW
      go_simp
    try simp only [Act.put, List.setIfInBounds_toArray, List.set_cons_zero, List.set_cons_succ]
    refine wpAnyH_done (by kernel_rfl) ?_ _
    go_wp2
    go_ret
    exact ⟨rfl, (HBZ.out _ z2).2⟩
set_option maxRecDepth 100000 in
set_option maxHeartbeats 12800000 in
theorem rform6_any (n : Int) (s m : Str) (A : Option Addr) (na ca : Nat) (O : Option Addr) (no co : Nat) (a o : List Ex) (w : World) (ha : na = a.length) (ho : no = o.length) :
    Calls Tryd.prog 75 #[.agg (exC 6 n s m A na ca O no co).toArray] w fun e w' => e = .returned (.bool (formE (.mk 6 n s m a o))) ∧ Below w.heap.size w w' := by
  have HB := Lib.hid (fun X => (Below.refl w.heap.size w).alloc (Nat.le_refl _) X)
  have HD := Lib.hid (fun X k => (show Below w.heap.size w ((w.alloc X).drewN k) from ⟨(HB.out X).os, (HB.out X).tape, (HB.out X).output, (HB.out X).size, (HB.out X).block⟩))
  have HD3 := Lib.hid (fun X k j i => (show Below w.heap.size w ((((w.alloc X).drewN k).drewN j).drewN i) from ⟨(HB.out X).os, (HB.out X).tape, (HB.out X).output, (HB.out X).size, (HB.out X).block⟩))
  have HDD := Lib.hid (fun X k j => (show Below w.heap.size w (((w.alloc X).drewN k).drewN j) from ⟨(HB.out X).os, (HB.out X).tape, (HB.out X).output, (HB.out X).size, (HB.out X).block⟩))
  obtain ⟨f, hf⟩ : ∃ f, f = formE (.mk 6 n s m a o) := ⟨_, rfl⟩
  rw [← hf]
  rw [formE_mk, ← ha, ← ho] at hf
  simp (config := { decide := true }) only [if_true, if_false, or_true, true_or, or_false, false_or] at hf
  unfold exC
  clear ha ho
  by_cases qn : n = 0
  rotate_left
  · have qn1 : (n == 0) = false := by simp [qn]
    obtain rfl : f = false := by rw [hf]; first | rfl | (simp [qn]; done) | (simp [qn]; omega)
    clear hf
    go_enter Tryd.func75, Tryd.ntmps75
    go_wp2_with fail
    repeat (go_quiet (fail); go_wp2_with fail)
    go_ret
    first | exact ⟨rfl, HB.out _⟩ | exact ⟨rfl, HD.out _ _⟩ | exact ⟨rfl, HDD.out _ _ _⟩ | exact ⟨rfl, HD3.out _ _ _ _⟩ | exact ⟨congrArg (fun b => Ending.returned (.bool b)) qno2, HD.out _ _⟩ | exact ⟨congrArg (fun b => Ending.returned (.bool b)) qno2, HDD.out _ _ _⟩ | exact ⟨congrArg (fun b => Ending.returned (.bool b)) qna2, HD.out _ _⟩
  subst qn
  by_cases qna : (na : Int) ≤ 4
  rotate_left
  · have qna1 : ¬ na ≤ 4 := by omega
    have qna2 : decide ((na : Int) ≤ 4) = false := decide_eq_false qna
    obtain rfl : f = false := by rw [hf]; first | rfl | (simp [qna1]; done) | (simp [qna1]; omega)
    clear hf
    go_enter Tryd.func75, Tryd.ntmps75
    go_wp2_with fail
    repeat (go_quiet (fail); go_wp2_with fail)
    go_ret
    first | exact ⟨rfl, HB.out _⟩ | exact ⟨rfl, HD.out _ _⟩ | exact ⟨rfl, HDD.out _ _ _⟩ | exact ⟨rfl, HD3.out _ _ _ _⟩ | exact ⟨congrArg (fun b => Ending.returned (.bool b)) qno2, HD.out _ _⟩ | exact ⟨congrArg (fun b => Ending.returned (.bool b)) qno2, HDD.out _ _ _⟩ | exact ⟨congrArg (fun b => Ending.returned (.bool b)) qna2, HD.out _ _⟩
  have qna1 : na ≤ 4 := by omega
  by_cases qno : (no : Int) ≤ 1
  rotate_left
  · have qno1 : ¬ no ≤ 1 := by omega
    have qno2 : decide ((no : Int) ≤ 1) = false := decide_eq_false qno
    obtain rfl : f = false := by rw [hf]; first | rfl | (simp [qna1, qno1]; done) | (simp [qna1, qno1]; omega)
    clear hf
    go_enter Tryd.func75, Tryd.ntmps75
    go_wp2_with fail
    repeat (go_quiet (fail); go_wp2_with fail)
    go_ret
    first | exact ⟨rfl, HB.out _⟩ | exact ⟨rfl, HD.out _ _⟩ | exact ⟨rfl, HDD.out _ _ _⟩ | exact ⟨rfl, HD3.out _ _ _ _⟩ | exact ⟨congrArg (fun b => Ending.returned (.bool b)) qno2, HD.out _ _⟩ | exact ⟨congrArg (fun b => Ending.returned (.bool b)) qno2, HDD.out _ _ _⟩ | exact ⟨congrArg (fun b => Ending.returned (.bool b)) qna2, HD.out _ _⟩
  have qno1 : no ≤ 1 := by omega
  obtain rfl : f = true := by rw [hf]; first | rfl | (simp [qna1, qno1]; done) | (simp [qna1, qno1]; omega)
  clear hf
  go_enter Tryd.func75, Tryd.ntmps75
  go_wp2_with fail
  repeat (go_quiet (fail); go_wp2_with fail)
  go_ret
  first | exact ⟨rfl, HB.out _⟩ | exact ⟨rfl, HD.out _ _⟩ | exact ⟨rfl, HDD.out _ _ _⟩ | exact ⟨rfl, HD3.out _ _ _ _⟩ | exact ⟨congrArg (fun b => Ending.returned (.bool b)) qno2, HD.out _ _⟩ | exact ⟨congrArg (fun b => Ending.returned (.bool b)) qno2, HDD.out _ _ _⟩ | exact ⟨congrArg (fun b => Ending.returned (.bool b)) qna2, HD.out _ _⟩
set_option maxRecDepth 100000 in
set_option maxHeartbeats 12800000 in
theorem rform7_any (n : Int) (s m : Str) (A : Option Addr) (na ca : Nat) (O : Option Addr) (no co : Nat) (a o : List Ex) (w : World) (ha : na = a.length) (ho : no = o.length) :
    Calls Tryd.prog 75 #[.agg (exC 7 n s m A na ca O no co).toArray] w fun e w' => e = .returned (.bool (formE (.mk 7 n s m a o))) ∧ Below w.heap.size w w' := by
  have HB := Lib.hid (fun X => (Below.refl w.heap.size w).alloc (Nat.le_refl _) X)
  have HD := Lib.hid (fun X k => (show Below w.heap.size w ((w.alloc X).drewN k) from ⟨(HB.out X).os, (HB.out X).tape, (HB.out X).output, (HB.out X).size, (HB.out X).block⟩))
  have HD3 := Lib.hid (fun X k j i => (show Below w.heap.size w ((((w.alloc X).drewN k).drewN j).drewN i) from ⟨(HB.out X).os, (HB.out X).tape, (HB.out X).output, (HB.out X).size, (HB.out X).block⟩))
  have HDD := Lib.hid (fun X k j => (show Below w.heap.size w (((w.alloc X).drewN k).drewN j) from ⟨(HB.out X).os, (HB.out X).tape, (HB.out X).output, (HB.out X).size, (HB.out X).block⟩))
  obtain ⟨f, hf⟩ : ∃ f, f = formE (.mk 7 n s m a o) := ⟨_, rfl⟩
  rw [← hf]
  rw [formE_mk, ← ha, ← ho] at hf
  simp (config := { decide := true }) only [if_true, if_false, or_true, true_or, or_false, false_or] at hf
  unfold exC
  clear ha ho
  by_cases qn : n = 0
  rotate_left
  · have qn1 : (n == 0) = false := by simp [qn]
    obtain rfl : f = false := by rw [hf]; first | rfl | (simp [qn]; done) | (simp [qn]; omega)
    clear hf
    go_enter Tryd.func75, Tryd.ntmps75
    go_wp2_with fail
    repeat (go_quiet (fail); go_wp2_with fail)
    go_ret
    first | exact ⟨rfl, HB.out _⟩ | exact ⟨rfl, HD.out _ _⟩ | exact ⟨rfl, HDD.out _ _ _⟩ | exact ⟨rfl, HD3.out _ _ _ _⟩ | exact ⟨congrArg (fun b => Ending.returned (.bool b)) qno2, HD.out _ _⟩ | exact ⟨congrArg (fun b => Ending.returned (.bool b)) qno2, HDD.out _ _ _⟩ | exact ⟨congrArg (fun b => Ending.returned (.bool b)) qna2, HD.out _ _⟩
  subst qn
  by_cases qm : m = []
  rotate_left
  · obtain ⟨qm1, qm2⟩ := cons_facts qm
    have qm3 := beq_nil qm
    obtain rfl : f = false := by rw [hf]; first | rfl | (simp [qm]; done) | (simp [qm]; omega)
    clear hf
    go_enter Tryd.func75, Tryd.ntmps75
    go_wp2_with fail
    repeat (go_quiet (fail); go_wp2_with fail)
    go_ret
    first | exact ⟨rfl, HB.out _⟩ | exact ⟨rfl, HD.out _ _⟩ | exact ⟨rfl, HDD.out _ _ _⟩ | exact ⟨rfl, HD3.out _ _ _ _⟩ | exact ⟨congrArg (fun b => Ending.returned (.bool b)) qno2, HD.out _ _⟩ | exact ⟨congrArg (fun b => Ending.returned (.bool b)) qno2, HDD.out _ _ _⟩ | exact ⟨congrArg (fun b => Ending.returned (.bool b)) qna2, HD.out _ _⟩
  obtain ⟨qm1, qm2⟩ := nil_facts qm
  subst qm
  by_cases qna : (na : Int) ≤ 4
  rotate_left
  · have qna1 : ¬ na ≤ 4 := by omega
    have qna2 : decide ((na : Int) ≤ 4) = false := decide_eq_false qna
    obtain rfl : f = false := by rw [hf]; first | rfl | (simp [qna1]; done) | (simp [qna1]; omega)
    clear hf
    go_enter Tryd.func75, Tryd.ntmps75
    go_wp2_with fail
    repeat (go_quiet (fail); go_wp2_with fail)
    go_ret
    first | exact ⟨rfl, HB.out _⟩ | exact ⟨rfl, HD.out _ _⟩ | exact ⟨rfl, HDD.out _ _ _⟩ | exact ⟨rfl, HD3.out _ _ _ _⟩ | exact ⟨congrArg (fun b => Ending.returned (.bool b)) qno2, HD.out _ _⟩ | exact ⟨congrArg (fun b => Ending.returned (.bool b)) qno2, HDD.out _ _ _⟩ | exact ⟨congrArg (fun b => Ending.returned (.bool b)) qna2, HD.out _ _⟩
  have qna1 : na ≤ 4 := by omega
  by_cases qno : no = 0
  rotate_left
  · have qno1 : ((no : Int) == 0) = false := by simp; omega
    obtain rfl : f = false := by rw [hf]; first | rfl | (simp [qna1, qno]; done) | (simp [qna1, qno]; omega)
    clear hf
    go_enter Tryd.func75, Tryd.ntmps75
    go_wp2_with fail
    repeat (go_quiet (fail); go_wp2_with fail)
    go_ret
    first | exact ⟨rfl, HB.out _⟩ | exact ⟨rfl, HD.out _ _⟩ | exact ⟨rfl, HDD.out _ _ _⟩ | exact ⟨rfl, HD3.out _ _ _ _⟩ | exact ⟨congrArg (fun b => Ending.returned (.bool b)) qno2, HD.out _ _⟩ | exact ⟨congrArg (fun b => Ending.returned (.bool b)) qno2, HDD.out _ _ _⟩ | exact ⟨congrArg (fun b => Ending.returned (.bool b)) qna2, HD.out _ _⟩
  subst qno
  obtain rfl : f = true := by rw [hf]; first | rfl | (simp [qna1]; done) | (simp [qna1]; omega)
  clear hf
  go_enter Tryd.func75, Tryd.ntmps75
  go_wp2_with fail
  repeat (go_quiet (fail); go_wp2_with fail)
  go_ret
  first | exact ⟨rfl, HB.out _⟩ | exact ⟨rfl, HD.out _ _⟩ | exact ⟨rfl, HDD.out _ _ _⟩ | exact ⟨rfl, HD3.out _ _ _ _⟩ | exact ⟨congrArg (fun b => Ending.returned (.bool b)) qno2, HD.out _ _⟩ | exact ⟨congrArg (fun b => Ending.returned (.bool b)) qno2, HDD.out _ _ _⟩ | exact ⟨congrArg (fun b => Ending.returned (.bool b)) qna2, HD.out _ _⟩
theorem rform_any (j : Nat) (hj : j < 8) (n : Int) (s m : Str) (A : Option Addr) (na ca : Nat) (O : Option Addr) (no co : Nat) (a o : List Ex) (w : World) (ha : na = a.length) (ho : no = o.length) :
    Calls Tryd.prog 75 #[.agg (exC (j : Int) n s m A na ca O no co).toArray] w fun e w' => e = .returned (.bool (formE (.mk (j : Int) n s m a o))) ∧ Below w.heap.size w w' := by
  match j, hj with
  | 0, _ => exact rform0_any n s m A na ca O no co a o w ha ho
  | 1, _ => exact rform1_any n s m A na ca O no co a o w ha ho
  | 2, _ => exact rform2_any n s m A na ca O no co a o w ha ho
  | 3, _ => exact rform3_any n s m A na ca O no co a o w ha ho
  | 4, _ => exact rform4_any n s m A na ca O no co a o w ha ho
  | 5, _ => exact rform5_any n s m A na ca O no co a o w ha ho
  | 6, _ => exact rform6_any n s m A na ca O no co a o w ha ho
  | 7, _ => exact rform7_any n s m A na ca O no co a o w ha ho
set_option maxRecDepth 100000 in
set_option maxHeartbeats 12800000 in
theorem rempty_any (k n : Int) (s m : Str) (A : Option Addr) (na ca : Nat) (O : Option Addr) (no co : Nat) (a o : List Ex) (w : World) (ha : na = a.length) (ho : no = o.length) :
    Calls Tryd.prog 59 #[.agg (exC k n s m A na ca O no co).toArray] w fun e w' => e = .returned (.bool (emptyE (.mk k n s m a o))) ∧ Below w.heap.size w w' := by
  have HB := Lib.hid (fun X => ((Below.refl w.heap.size w).alloc (Nat.le_refl _) X))
  have HD := Lib.hid (fun X k => (show Below w.heap.size w ((w.alloc X).drewN k) from ⟨(HB.out X).os, (HB.out X).tape, (HB.out X).output, (HB.out X).size, (HB.out X).block⟩))
  obtain ⟨f, hf⟩ : ∃ f, f = emptyE (.mk k n s m a o) := ⟨_, rfl⟩
  rw [← hf]
  unfold emptyE at hf
  simp only [Ex.kind, Ex.num, Ex.name, Ex.meth, Ex.args, Ex.orr, ← ha, ← ho] at hf
  unfold exC
  clear ha ho
  by_cases qk : k = 0
  rotate_left
  · have qk1 : (k == 0) = false := by simp [qk]
    obtain rfl : f = false := by rw [hf]; simp [qk]
    clear hf
    go_enter Tryd.func59, Tryd.ntmps59
    go_wp2
    repeat (go_quiet (fail); go_wp2)
    go_ret
    first | exact ⟨rfl, HB.out _⟩ | exact ⟨rfl, HD.out _ _⟩
  subst qk
  by_cases qn : n = 0
  rotate_left
  · have qn1 : (n == 0) = false := by simp [qn]
    obtain rfl : f = false := by rw [hf]; simp [qn]
    clear hf
    go_enter Tryd.func59, Tryd.ntmps59
    go_wp2
    repeat (go_quiet (fail); go_wp2)
    go_ret
    first | exact ⟨rfl, HB.out _⟩ | exact ⟨rfl, HD.out _ _⟩
  subst qn
  by_cases qs : s = []
  rotate_left
  · obtain ⟨qs1, qs2⟩ := cons_facts qs
    have qs3 := beq_nil qs
    obtain rfl : f = false := by rw [hf]; simp [qs]
    clear hf
    go_enter Tryd.func59, Tryd.ntmps59
    go_wp2
    repeat (go_quiet (fail); go_wp2)
    go_ret
    first | exact ⟨rfl, HB.out _⟩ | exact ⟨rfl, HD.out _ _⟩
  obtain ⟨qs1, qs2⟩ := nil_facts qs
  subst qs
  by_cases qm : m = []
  rotate_left
  · obtain ⟨qm1, qm2⟩ := cons_facts qm
    have qm3 := beq_nil qm
    obtain rfl : f = false := by rw [hf]; simp [qm]
    clear hf
    go_enter Tryd.func59, Tryd.ntmps59
    go_wp2
    repeat (go_quiet (fail); go_wp2)
    go_ret
    first | exact ⟨rfl, HB.out _⟩ | exact ⟨rfl, HD.out _ _⟩
  obtain ⟨qm1, qm2⟩ := nil_facts qm
  subst qm
  by_cases qna : na = 0
  rotate_left
  · have qna1 : ((na : Int) == 0) = false := by simp [qna]
    obtain rfl : f = false := by rw [hf]; simp [qna]
    clear hf
    go_enter Tryd.func59, Tryd.ntmps59
    go_wp2
    repeat (go_quiet (fail); go_wp2)
    go_ret
    first | exact ⟨rfl, HB.out _⟩ | exact ⟨rfl, HD.out _ _⟩
  subst qna
  by_cases qno : no = 0
  rotate_left
  · have qno1 : ((no : Int) == 0) = false := by simp [qno]
    obtain rfl : f = false := by rw [hf]; simp [qno]
    clear hf
    go_enter Tryd.func59, Tryd.ntmps59
    go_wp2
    repeat (go_quiet (fail); go_wp2)
    go_ret
    first | exact ⟨rfl, HB.out _⟩ | exact ⟨rfl, HD.out _ _⟩
  subst qno
  obtain rfl : f = true := by rw [hf]; simp []
  clear hf
  go_enter Tryd.func59, Tryd.ntmps59
  go_wp2
  repeat (go_quiet (fail); go_wp2)
  go_ret
  first | exact ⟨rfl, HB.out _⟩ | exact ⟨rfl, HD.out _ _⟩
end Go.Proofs.YthfjkdgaiaokdaaDoor
