/- The walk of syntax.Stmt.form (printed by wip/gensxi.py). No condition. -/
import Derived.Test.YthfjkdgaiaokdaaDoorSxH
set_option linter.unusedVariables false
set_option linter.unusedSimpArgs false
namespace Go.Proofs.YthfjkdgaiaokdaaDoor
open Go.RowKit

/-- A statement has exactly the fields of its kind. -/
def formS (k : Int) (s : Str) (n : Int) (e : Ex) (nb nl : Nat) : Bool := decide (¬ ((¬ k ≤ 1 ∧ s ≠ []) ∨ (¬ (k = 4 ∨ k = 6) ∧ n ≠ 0) ∨ (k ≠ 3 ∧ 0 < nl) ∨ (k ≠ 3 ∧ k ≠ 4 ∧ 0 < nb) ∨ (hasX k = false ∧ emptyE e = false) ∨ (k = 2 ∧ e.kind ≠ 6 ∧ e.kind ≠ 7)))
theorem st_cells {w w1 : World} {t : TypeId} {v0 v1 v2 v3 v4 v5 v6 v7 v8 v9 v10 : Value} (h : w1.heap[w.heap.size]? = some (.cells #[v0, v1, v2, v3, v4, v5, v6, v7, v8, v9, v10] t (0, 0))) :
    w1.cell? ⟨w.heap.size, 0, none⟩ = some v0 ∧ w1.cell? ⟨w.heap.size, 1, none⟩ = some v1 ∧ w1.cell? ⟨w.heap.size, 2, none⟩ = some v2 ∧ w1.cell? ⟨w.heap.size, 3, none⟩ = some v3 ∧ w1.cell? ⟨w.heap.size, 4, none⟩ = some v4 ∧ w1.cell? ⟨w.heap.size, 5, none⟩ = some v5 ∧ w1.cell? ⟨w.heap.size, 6, none⟩ = some v6 ∧ w1.cell? ⟨w.heap.size, 7, none⟩ = some v7 ∧ w1.cell? ⟨w.heap.size, 8, none⟩ = some v8 ∧ w1.cell? ⟨w.heap.size, 9, none⟩ = some v9 ∧ w1.cell? ⟨w.heap.size, 10, none⟩ = some v10 := by
  refine ⟨?_, ?_, ?_, ?_, ?_, ?_, ?_, ?_, ?_, ?_, ?_⟩ <;> (rw [cell_of_row _ _ _ _ _ _ h]; rfl)

set_option maxRecDepth 100000 in
set_option maxHeartbeats 12800000 in
theorem formS0_any (s : Str) (n ek en : Int) (es em : Str) (A : Option Addr) (na ca : Nat) (O : Option Addr) (no co : Nat) (B : Option Addr) (nb cb : Nat) (L : Option Addr) (nl cl : Nat) (a o : List Ex) (w : World) (ha : na = a.length) (ho : no = o.length) :
    Calls Tryd.prog 72 #[.agg #[.int .i64 0, .string (bs s), .int .i64 n, .int .i64 ek, .int .i64 en, .string (bs es), .string (bs em), .slice A na ca, .slice O no co, .slice B nb cb, .slice L nl cl]] w fun e w' => e = .returned (.bool (formS 0 s n (.mk ek en es em a o) nb nl)) ∧ Below w.heap.size w w' := by
  have HB := Lib.hid (fun X => (Below.refl w.heap.size w).alloc (Nat.le_refl _) X)
  obtain ⟨f, hf⟩ : ∃ f, f = formS 0 s n (.mk ek en es em a o) nb nl := ⟨_, rfl⟩
  rw [← hf]
  have KN := Lib.hid (show ∀ W, Calls Tryd.prog 73 #[.int .i64 0] W fun e w' => e = .returned (.bool true) ∧ w' = W from fun W => hasName_any 0 W)
  have KM := Lib.hid (show ∀ W, Calls Tryd.prog 86 #[.int .i64 0] W fun e w' => e = .returned (.bool false) ∧ w' = W from fun W => hasNum_any 0 W)
  have KX := Lib.hid (show ∀ W, Calls Tryd.prog 48 #[.int .i64 0] W fun e w' => e = .returned (.bool true) ∧ w' = W from fun W => hasExpr_any 0 W)
  have KE := Lib.hid (fun W => empty_any ek en es em A na ca O no co a o W ha ho)
  obtain ⟨q, hq⟩ : ∃ q, q = emptyE (.mk ek en es em a o) := ⟨_, rfl⟩
  rw [← hq] at KE
  unfold formS hasX at hf
  rw [← hq] at hf
  simp only [Ex.kind] at hf
  clear hq ha ho
  by_cases qn : n = 0
  rotate_left
  · have qn1 : (n != 0) = true := by simp [qn]
    obtain rfl : f = false := by rw [hf]; simp [qn]
    clear hf
    go_enter Tryd.func72, Tryd.ntmps72
    go_wp2_with (first | (go_at_call 73; refine (KN.out _).mono ?_; rintro e w1 ⟨rfl, rfl⟩) | (go_at_call 86; refine (KM.out _).mono ?_; rintro e w1 ⟨rfl, rfl⟩) | (go_at_call 48; refine (KX.out _).mono ?_; rintro e w1 ⟨rfl, rfl⟩))
    go_ret
    exact ⟨rfl, HB.out _⟩
  subst qn
  by_cases ql : nl = 0
  rotate_left
  · have ql1 : 0 < (nl : Int) := by omega
    have ql2 : 0 < nl := by omega
    obtain rfl : f = false := by rw [hf]; simp [ql, ql2]
    clear hf
    go_enter Tryd.func72, Tryd.ntmps72
    go_wp2_with (first | (go_at_call 73; refine (KN.out _).mono ?_; rintro e w1 ⟨rfl, rfl⟩) | (go_at_call 86; refine (KM.out _).mono ?_; rintro e w1 ⟨rfl, rfl⟩) | (go_at_call 48; refine (KX.out _).mono ?_; rintro e w1 ⟨rfl, rfl⟩))
    go_ret
    exact ⟨rfl, HB.out _⟩
  subst ql
  by_cases qb : nb = 0
  rotate_left
  · have qb1 : 0 < (nb : Int) := by omega
    have qb2 : 0 < nb := by omega
    obtain rfl : f = false := by rw [hf]; simp [qb, qb2]
    clear hf
    go_enter Tryd.func72, Tryd.ntmps72
    go_wp2_with (first | (go_at_call 73; refine (KN.out _).mono ?_; rintro e w1 ⟨rfl, rfl⟩) | (go_at_call 86; refine (KM.out _).mono ?_; rintro e w1 ⟨rfl, rfl⟩) | (go_at_call 48; refine (KX.out _).mono ?_; rintro e w1 ⟨rfl, rfl⟩))
    go_ret
    exact ⟨rfl, HB.out _⟩
  subst qb
  obtain rfl : f = true := by rw [hf]; simp []
  clear hf
  go_enter Tryd.func72, Tryd.ntmps72
  go_wp2_with (first | (go_at_call 73; refine (KN.out _).mono ?_; rintro e w1 ⟨rfl, rfl⟩) | (go_at_call 86; refine (KM.out _).mono ?_; rintro e w1 ⟨rfl, rfl⟩) | (go_at_call 48; refine (KX.out _).mono ?_; rintro e w1 ⟨rfl, rfl⟩))
  go_ret
  exact ⟨rfl, HB.out _⟩
set_option maxRecDepth 100000 in
set_option maxHeartbeats 12800000 in
theorem formS1_any (s : Str) (n ek en : Int) (es em : Str) (A : Option Addr) (na ca : Nat) (O : Option Addr) (no co : Nat) (B : Option Addr) (nb cb : Nat) (L : Option Addr) (nl cl : Nat) (a o : List Ex) (w : World) (ha : na = a.length) (ho : no = o.length) :
    Calls Tryd.prog 72 #[.agg #[.int .i64 1, .string (bs s), .int .i64 n, .int .i64 ek, .int .i64 en, .string (bs es), .string (bs em), .slice A na ca, .slice O no co, .slice B nb cb, .slice L nl cl]] w fun e w' => e = .returned (.bool (formS 1 s n (.mk ek en es em a o) nb nl)) ∧ Below w.heap.size w w' := by
  have HB := Lib.hid (fun X => (Below.refl w.heap.size w).alloc (Nat.le_refl _) X)
  obtain ⟨f, hf⟩ : ∃ f, f = formS 1 s n (.mk ek en es em a o) nb nl := ⟨_, rfl⟩
  rw [← hf]
  have KN := Lib.hid (show ∀ W, Calls Tryd.prog 73 #[.int .i64 1] W fun e w' => e = .returned (.bool true) ∧ w' = W from fun W => hasName_any 1 W)
  have KM := Lib.hid (show ∀ W, Calls Tryd.prog 86 #[.int .i64 1] W fun e w' => e = .returned (.bool false) ∧ w' = W from fun W => hasNum_any 1 W)
  have KX := Lib.hid (show ∀ W, Calls Tryd.prog 48 #[.int .i64 1] W fun e w' => e = .returned (.bool true) ∧ w' = W from fun W => hasExpr_any 1 W)
  have KE := Lib.hid (fun W => empty_any ek en es em A na ca O no co a o W ha ho)
  obtain ⟨q, hq⟩ : ∃ q, q = emptyE (.mk ek en es em a o) := ⟨_, rfl⟩
  rw [← hq] at KE
  unfold formS hasX at hf
  rw [← hq] at hf
  simp only [Ex.kind] at hf
  clear hq ha ho
  by_cases qn : n = 0
  rotate_left
  · have qn1 : (n != 0) = true := by simp [qn]
    obtain rfl : f = false := by rw [hf]; simp [qn]
    clear hf
    go_enter Tryd.func72, Tryd.ntmps72
    go_wp2_with (first | (go_at_call 73; refine (KN.out _).mono ?_; rintro e w1 ⟨rfl, rfl⟩) | (go_at_call 86; refine (KM.out _).mono ?_; rintro e w1 ⟨rfl, rfl⟩) | (go_at_call 48; refine (KX.out _).mono ?_; rintro e w1 ⟨rfl, rfl⟩))
    go_ret
    exact ⟨rfl, HB.out _⟩
  subst qn
  by_cases ql : nl = 0
  rotate_left
  · have ql1 : 0 < (nl : Int) := by omega
    have ql2 : 0 < nl := by omega
    obtain rfl : f = false := by rw [hf]; simp [ql, ql2]
    clear hf
    go_enter Tryd.func72, Tryd.ntmps72
    go_wp2_with (first | (go_at_call 73; refine (KN.out _).mono ?_; rintro e w1 ⟨rfl, rfl⟩) | (go_at_call 86; refine (KM.out _).mono ?_; rintro e w1 ⟨rfl, rfl⟩) | (go_at_call 48; refine (KX.out _).mono ?_; rintro e w1 ⟨rfl, rfl⟩))
    go_ret
    exact ⟨rfl, HB.out _⟩
  subst ql
  by_cases qb : nb = 0
  rotate_left
  · have qb1 : 0 < (nb : Int) := by omega
    have qb2 : 0 < nb := by omega
    obtain rfl : f = false := by rw [hf]; simp [qb, qb2]
    clear hf
    go_enter Tryd.func72, Tryd.ntmps72
    go_wp2_with (first | (go_at_call 73; refine (KN.out _).mono ?_; rintro e w1 ⟨rfl, rfl⟩) | (go_at_call 86; refine (KM.out _).mono ?_; rintro e w1 ⟨rfl, rfl⟩) | (go_at_call 48; refine (KX.out _).mono ?_; rintro e w1 ⟨rfl, rfl⟩))
    go_ret
    exact ⟨rfl, HB.out _⟩
  subst qb
  obtain rfl : f = true := by rw [hf]; simp []
  clear hf
  go_enter Tryd.func72, Tryd.ntmps72
  go_wp2_with (first | (go_at_call 73; refine (KN.out _).mono ?_; rintro e w1 ⟨rfl, rfl⟩) | (go_at_call 86; refine (KM.out _).mono ?_; rintro e w1 ⟨rfl, rfl⟩) | (go_at_call 48; refine (KX.out _).mono ?_; rintro e w1 ⟨rfl, rfl⟩))
  go_ret
  exact ⟨rfl, HB.out _⟩
set_option maxRecDepth 100000 in
set_option maxHeartbeats 12800000 in
theorem formS2_any (s : Str) (n ek en : Int) (es em : Str) (A : Option Addr) (na ca : Nat) (O : Option Addr) (no co : Nat) (B : Option Addr) (nb cb : Nat) (L : Option Addr) (nl cl : Nat) (a o : List Ex) (w : World) (ha : na = a.length) (ho : no = o.length) :
    Calls Tryd.prog 72 #[.agg #[.int .i64 2, .string (bs s), .int .i64 n, .int .i64 ek, .int .i64 en, .string (bs es), .string (bs em), .slice A na ca, .slice O no co, .slice B nb cb, .slice L nl cl]] w fun e w' => e = .returned (.bool (formS 2 s n (.mk ek en es em a o) nb nl)) ∧ Below w.heap.size w w' := by
  have HB := Lib.hid (fun X => (Below.refl w.heap.size w).alloc (Nat.le_refl _) X)
  obtain ⟨f, hf⟩ : ∃ f, f = formS 2 s n (.mk ek en es em a o) nb nl := ⟨_, rfl⟩
  rw [← hf]
  have KN := Lib.hid (show ∀ W, Calls Tryd.prog 73 #[.int .i64 2] W fun e w' => e = .returned (.bool false) ∧ w' = W from fun W => hasName_any 2 W)
  have KM := Lib.hid (show ∀ W, Calls Tryd.prog 86 #[.int .i64 2] W fun e w' => e = .returned (.bool false) ∧ w' = W from fun W => hasNum_any 2 W)
  have KX := Lib.hid (show ∀ W, Calls Tryd.prog 48 #[.int .i64 2] W fun e w' => e = .returned (.bool true) ∧ w' = W from fun W => hasExpr_any 2 W)
  have KE := Lib.hid (fun W => empty_any ek en es em A na ca O no co a o W ha ho)
  obtain ⟨q, hq⟩ : ∃ q, q = emptyE (.mk ek en es em a o) := ⟨_, rfl⟩
  rw [← hq] at KE
  unfold formS hasX at hf
  rw [← hq] at hf
  simp only [Ex.kind] at hf
  clear hq ha ho
  by_cases qs : s = []
  rotate_left
  · obtain ⟨qs1, qs2⟩ := cons_facts qs
    have qs3 := beq_nil qs
    obtain rfl : f = false := by rw [hf]; simp [qs]
    clear hf
    go_enter Tryd.func72, Tryd.ntmps72
    go_wp2_with (first | (go_at_call 73; refine (KN.out _).mono ?_; rintro e w1 ⟨rfl, rfl⟩) | (go_at_call 86; refine (KM.out _).mono ?_; rintro e w1 ⟨rfl, rfl⟩) | (go_at_call 48; refine (KX.out _).mono ?_; rintro e w1 ⟨rfl, rfl⟩))
    go_ret
    exact ⟨rfl, HB.out _⟩
  obtain ⟨qs1, qs2⟩ := nil_facts qs
  subst qs
  by_cases qn : n = 0
  rotate_left
  · have qn1 : (n != 0) = true := by simp [qn]
    obtain rfl : f = false := by rw [hf]; simp [qn]
    clear hf
    go_enter Tryd.func72, Tryd.ntmps72
    go_wp2_with (first | (go_at_call 73; refine (KN.out _).mono ?_; rintro e w1 ⟨rfl, rfl⟩) | (go_at_call 86; refine (KM.out _).mono ?_; rintro e w1 ⟨rfl, rfl⟩) | (go_at_call 48; refine (KX.out _).mono ?_; rintro e w1 ⟨rfl, rfl⟩))
    go_ret
    exact ⟨rfl, HB.out _⟩
  subst qn
  by_cases ql : nl = 0
  rotate_left
  · have ql1 : 0 < (nl : Int) := by omega
    have ql2 : 0 < nl := by omega
    obtain rfl : f = false := by rw [hf]; simp [ql, ql2]
    clear hf
    go_enter Tryd.func72, Tryd.ntmps72
    go_wp2_with (first | (go_at_call 73; refine (KN.out _).mono ?_; rintro e w1 ⟨rfl, rfl⟩) | (go_at_call 86; refine (KM.out _).mono ?_; rintro e w1 ⟨rfl, rfl⟩) | (go_at_call 48; refine (KX.out _).mono ?_; rintro e w1 ⟨rfl, rfl⟩))
    go_ret
    exact ⟨rfl, HB.out _⟩
  subst ql
  by_cases qb : nb = 0
  rotate_left
  · have qb1 : 0 < (nb : Int) := by omega
    have qb2 : 0 < nb := by omega
    obtain rfl : f = false := by rw [hf]; simp [qb, qb2]
    clear hf
    go_enter Tryd.func72, Tryd.ntmps72
    go_wp2_with (first | (go_at_call 73; refine (KN.out _).mono ?_; rintro e w1 ⟨rfl, rfl⟩) | (go_at_call 86; refine (KM.out _).mono ?_; rintro e w1 ⟨rfl, rfl⟩) | (go_at_call 48; refine (KX.out _).mono ?_; rintro e w1 ⟨rfl, rfl⟩))
    go_ret
    exact ⟨rfl, HB.out _⟩
  subst qb
  by_cases q6 : ek = 6
  · subst q6
    obtain rfl : f = true := by rw [hf]; simp []
    clear hf
    go_enter Tryd.func72, Tryd.ntmps72
    go_wp2_with (first | (go_at_call 73; refine (KN.out _).mono ?_; rintro e w1 ⟨rfl, rfl⟩) | (go_at_call 86; refine (KM.out _).mono ?_; rintro e w1 ⟨rfl, rfl⟩) | (go_at_call 48; refine (KX.out _).mono ?_; rintro e w1 ⟨rfl, rfl⟩))
    go_ret
    exact ⟨rfl, HB.out _⟩
  have q61 : (ek == 6) = false := by simp [q6]
  by_cases q7 : ek = 7
  · subst q7
    obtain rfl : f = true := by rw [hf]; simp []
    clear hf
    go_enter Tryd.func72, Tryd.ntmps72
    go_wp2_with (first | (go_at_call 73; refine (KN.out _).mono ?_; rintro e w1 ⟨rfl, rfl⟩) | (go_at_call 86; refine (KM.out _).mono ?_; rintro e w1 ⟨rfl, rfl⟩) | (go_at_call 48; refine (KX.out _).mono ?_; rintro e w1 ⟨rfl, rfl⟩))
    go_ret
    exact ⟨rfl, HB.out _⟩
  have q71 : (ek == 7) = false := by simp [q7]
  obtain rfl : f = false := by rw [hf]; simp [q6, q7]
  clear hf
  go_enter Tryd.func72, Tryd.ntmps72
  go_wp2_with (first | (go_at_call 73; refine (KN.out _).mono ?_; rintro e w1 ⟨rfl, rfl⟩) | (go_at_call 86; refine (KM.out _).mono ?_; rintro e w1 ⟨rfl, rfl⟩) | (go_at_call 48; refine (KX.out _).mono ?_; rintro e w1 ⟨rfl, rfl⟩))
  go_ret
  exact ⟨rfl, HB.out _⟩
set_option maxRecDepth 100000 in
set_option maxHeartbeats 12800000 in
theorem formS3_any (s : Str) (n ek en : Int) (es em : Str) (A : Option Addr) (na ca : Nat) (O : Option Addr) (no co : Nat) (B : Option Addr) (nb cb : Nat) (L : Option Addr) (nl cl : Nat) (a o : List Ex) (w : World) (ha : na = a.length) (ho : no = o.length) :
    Calls Tryd.prog 72 #[.agg #[.int .i64 3, .string (bs s), .int .i64 n, .int .i64 ek, .int .i64 en, .string (bs es), .string (bs em), .slice A na ca, .slice O no co, .slice B nb cb, .slice L nl cl]] w fun e w' => e = .returned (.bool (formS 3 s n (.mk ek en es em a o) nb nl)) ∧ Below w.heap.size w w' := by
  have HB := Lib.hid (fun X => (Below.refl w.heap.size w).alloc (Nat.le_refl _) X)
  obtain ⟨f, hf⟩ : ∃ f, f = formS 3 s n (.mk ek en es em a o) nb nl := ⟨_, rfl⟩
  rw [← hf]
  have KN := Lib.hid (show ∀ W, Calls Tryd.prog 73 #[.int .i64 3] W fun e w' => e = .returned (.bool false) ∧ w' = W from fun W => hasName_any 3 W)
  have KM := Lib.hid (show ∀ W, Calls Tryd.prog 86 #[.int .i64 3] W fun e w' => e = .returned (.bool false) ∧ w' = W from fun W => hasNum_any 3 W)
  have KX := Lib.hid (show ∀ W, Calls Tryd.prog 48 #[.int .i64 3] W fun e w' => e = .returned (.bool true) ∧ w' = W from fun W => hasExpr_any 3 W)
  have KE := Lib.hid (fun W => empty_any ek en es em A na ca O no co a o W ha ho)
  obtain ⟨q, hq⟩ : ∃ q, q = emptyE (.mk ek en es em a o) := ⟨_, rfl⟩
  rw [← hq] at KE
  unfold formS hasX at hf
  rw [← hq] at hf
  simp only [Ex.kind] at hf
  clear hq ha ho
  by_cases qs : s = []
  rotate_left
  · obtain ⟨qs1, qs2⟩ := cons_facts qs
    have qs3 := beq_nil qs
    obtain rfl : f = false := by rw [hf]; simp [qs]
    clear hf
    go_enter Tryd.func72, Tryd.ntmps72
    go_wp2_with (first | (go_at_call 73; refine (KN.out _).mono ?_; rintro e w1 ⟨rfl, rfl⟩) | (go_at_call 86; refine (KM.out _).mono ?_; rintro e w1 ⟨rfl, rfl⟩) | (go_at_call 48; refine (KX.out _).mono ?_; rintro e w1 ⟨rfl, rfl⟩))
    go_ret
    exact ⟨rfl, HB.out _⟩
  obtain ⟨qs1, qs2⟩ := nil_facts qs
  subst qs
  by_cases qn : n = 0
  rotate_left
  · have qn1 : (n != 0) = true := by simp [qn]
    obtain rfl : f = false := by rw [hf]; simp [qn]
    clear hf
    go_enter Tryd.func72, Tryd.ntmps72
    go_wp2_with (first | (go_at_call 73; refine (KN.out _).mono ?_; rintro e w1 ⟨rfl, rfl⟩) | (go_at_call 86; refine (KM.out _).mono ?_; rintro e w1 ⟨rfl, rfl⟩) | (go_at_call 48; refine (KX.out _).mono ?_; rintro e w1 ⟨rfl, rfl⟩))
    go_ret
    exact ⟨rfl, HB.out _⟩
  subst qn
  obtain rfl : f = true := by rw [hf]; simp []
  clear hf
  go_enter Tryd.func72, Tryd.ntmps72
  go_wp2_with (first | (go_at_call 73; refine (KN.out _).mono ?_; rintro e w1 ⟨rfl, rfl⟩) | (go_at_call 86; refine (KM.out _).mono ?_; rintro e w1 ⟨rfl, rfl⟩) | (go_at_call 48; refine (KX.out _).mono ?_; rintro e w1 ⟨rfl, rfl⟩))
  go_ret
  exact ⟨rfl, HB.out _⟩
set_option maxRecDepth 100000 in
set_option maxHeartbeats 12800000 in
theorem formS4_any (s : Str) (n ek en : Int) (es em : Str) (A : Option Addr) (na ca : Nat) (O : Option Addr) (no co : Nat) (B : Option Addr) (nb cb : Nat) (L : Option Addr) (nl cl : Nat) (a o : List Ex) (w : World) (ha : na = a.length) (ho : no = o.length) :
    Calls Tryd.prog 72 #[.agg #[.int .i64 4, .string (bs s), .int .i64 n, .int .i64 ek, .int .i64 en, .string (bs es), .string (bs em), .slice A na ca, .slice O no co, .slice B nb cb, .slice L nl cl]] w fun e w' => e = .returned (.bool (formS 4 s n (.mk ek en es em a o) nb nl)) ∧ Below w.heap.size w w' := by
  have HB := Lib.hid (fun X => (Below.refl w.heap.size w).alloc (Nat.le_refl _) X)
  obtain ⟨f, hf⟩ : ∃ f, f = formS 4 s n (.mk ek en es em a o) nb nl := ⟨_, rfl⟩
  rw [← hf]
  have KN := Lib.hid (show ∀ W, Calls Tryd.prog 73 #[.int .i64 4] W fun e w' => e = .returned (.bool false) ∧ w' = W from fun W => hasName_any 4 W)
  have KM := Lib.hid (show ∀ W, Calls Tryd.prog 86 #[.int .i64 4] W fun e w' => e = .returned (.bool true) ∧ w' = W from fun W => hasNum_any 4 W)
  have KX := Lib.hid (show ∀ W, Calls Tryd.prog 48 #[.int .i64 4] W fun e w' => e = .returned (.bool false) ∧ w' = W from fun W => hasExpr_any 4 W)
  have KE := Lib.hid (fun W => empty_any ek en es em A na ca O no co a o W ha ho)
  obtain ⟨q, hq⟩ : ∃ q, q = emptyE (.mk ek en es em a o) := ⟨_, rfl⟩
  rw [← hq] at KE
  unfold formS hasX at hf
  rw [← hq] at hf
  simp only [Ex.kind] at hf
  clear hq ha ho
  by_cases qs : s = []
  rotate_left
  · obtain ⟨qs1, qs2⟩ := cons_facts qs
    have qs3 := beq_nil qs
    obtain rfl : f = false := by rw [hf]; simp [qs]
    clear hf
    go_enter Tryd.func72, Tryd.ntmps72
    go_wp2_with (first | (go_at_call 73; refine (KN.out _).mono ?_; rintro e w1 ⟨rfl, rfl⟩) | (go_at_call 86; refine (KM.out _).mono ?_; rintro e w1 ⟨rfl, rfl⟩) | (go_at_call 48; refine (KX.out _).mono ?_; rintro e w1 ⟨rfl, rfl⟩))
    go_ret
    exact ⟨rfl, HB.out _⟩
  obtain ⟨qs1, qs2⟩ := nil_facts qs
  subst qs
  cases q with
  | false =>
    obtain rfl : f = false := by rw [hf]; simp []
    clear hf
    go_enter Tryd.func72, Tryd.ntmps72
    go_wp2_with (first | (go_at_call 73; refine (KN.out _).mono ?_; rintro e w1 ⟨rfl, rfl⟩) | (go_at_call 86; refine (KM.out _).mono ?_; rintro e w1 ⟨rfl, rfl⟩) | (go_at_call 48; refine (KX.out _).mono ?_; rintro e w1 ⟨rfl, rfl⟩))
    refine (KE.out _).mono ?_
    rintro e w1 ⟨rfl, hb⟩
    obtain ⟨c0, c1, c2, c3, c4, c5, c6, c7, c8, c9, c10⟩ := st_cells ((hb.block w.heap.size (lt_alloc w _)).trans (heap_alloc_new w _))
    have HZ := Lib.hid (below_new hb)
    clear hb
    go_wp2_with (first | (go_at_call 73; refine (KN.out _).mono ?_; rintro e w1 ⟨rfl, rfl⟩) | (go_at_call 86; refine (KM.out _).mono ?_; rintro e w1 ⟨rfl, rfl⟩) | (go_at_call 48; refine (KX.out _).mono ?_; rintro e w1 ⟨rfl, rfl⟩))
    go_ret
    exact ⟨rfl, HZ.out⟩
  | true =>
    by_cases ql : nl = 0
    rotate_left
    · have ql1 : 0 < (nl : Int) := by omega
      have ql2 : 0 < nl := by omega
      obtain rfl : f = false := by rw [hf]; simp [ql, ql2]
      clear hf
      go_enter Tryd.func72, Tryd.ntmps72
      go_wp2_with (first | (go_at_call 73; refine (KN.out _).mono ?_; rintro e w1 ⟨rfl, rfl⟩) | (go_at_call 86; refine (KM.out _).mono ?_; rintro e w1 ⟨rfl, rfl⟩) | (go_at_call 48; refine (KX.out _).mono ?_; rintro e w1 ⟨rfl, rfl⟩))
      refine (KE.out _).mono ?_
      rintro e w1 ⟨rfl, hb⟩
      obtain ⟨c0, c1, c2, c3, c4, c5, c6, c7, c8, c9, c10⟩ := st_cells ((hb.block w.heap.size (lt_alloc w _)).trans (heap_alloc_new w _))
      have HZ := Lib.hid (below_new hb)
      clear hb
      go_wp2_with (first | (go_at_call 73; refine (KN.out _).mono ?_; rintro e w1 ⟨rfl, rfl⟩) | (go_at_call 86; refine (KM.out _).mono ?_; rintro e w1 ⟨rfl, rfl⟩) | (go_at_call 48; refine (KX.out _).mono ?_; rintro e w1 ⟨rfl, rfl⟩))
      go_ret
      exact ⟨rfl, HZ.out⟩
    subst ql
    obtain rfl : f = true := by rw [hf]; simp []
    clear hf
    go_enter Tryd.func72, Tryd.ntmps72
    go_wp2_with (first | (go_at_call 73; refine (KN.out _).mono ?_; rintro e w1 ⟨rfl, rfl⟩) | (go_at_call 86; refine (KM.out _).mono ?_; rintro e w1 ⟨rfl, rfl⟩) | (go_at_call 48; refine (KX.out _).mono ?_; rintro e w1 ⟨rfl, rfl⟩))
    refine (KE.out _).mono ?_
    rintro e w1 ⟨rfl, hb⟩
    obtain ⟨c0, c1, c2, c3, c4, c5, c6, c7, c8, c9, c10⟩ := st_cells ((hb.block w.heap.size (lt_alloc w _)).trans (heap_alloc_new w _))
    have HZ := Lib.hid (below_new hb)
    clear hb
    go_wp2_with (first | (go_at_call 73; refine (KN.out _).mono ?_; rintro e w1 ⟨rfl, rfl⟩) | (go_at_call 86; refine (KM.out _).mono ?_; rintro e w1 ⟨rfl, rfl⟩) | (go_at_call 48; refine (KX.out _).mono ?_; rintro e w1 ⟨rfl, rfl⟩))
    go_ret
    exact ⟨rfl, HZ.out⟩
set_option maxRecDepth 100000 in
set_option maxHeartbeats 12800000 in
theorem formS5_any (s : Str) (n ek en : Int) (es em : Str) (A : Option Addr) (na ca : Nat) (O : Option Addr) (no co : Nat) (B : Option Addr) (nb cb : Nat) (L : Option Addr) (nl cl : Nat) (a o : List Ex) (w : World) (ha : na = a.length) (ho : no = o.length) :
    Calls Tryd.prog 72 #[.agg #[.int .i64 5, .string (bs s), .int .i64 n, .int .i64 ek, .int .i64 en, .string (bs es), .string (bs em), .slice A na ca, .slice O no co, .slice B nb cb, .slice L nl cl]] w fun e w' => e = .returned (.bool (formS 5 s n (.mk ek en es em a o) nb nl)) ∧ Below w.heap.size w w' := by
  have HB := Lib.hid (fun X => (Below.refl w.heap.size w).alloc (Nat.le_refl _) X)
  obtain ⟨f, hf⟩ : ∃ f, f = formS 5 s n (.mk ek en es em a o) nb nl := ⟨_, rfl⟩
  rw [← hf]
  have KN := Lib.hid (show ∀ W, Calls Tryd.prog 73 #[.int .i64 5] W fun e w' => e = .returned (.bool false) ∧ w' = W from fun W => hasName_any 5 W)
  have KM := Lib.hid (show ∀ W, Calls Tryd.prog 86 #[.int .i64 5] W fun e w' => e = .returned (.bool false) ∧ w' = W from fun W => hasNum_any 5 W)
  have KX := Lib.hid (show ∀ W, Calls Tryd.prog 48 #[.int .i64 5] W fun e w' => e = .returned (.bool true) ∧ w' = W from fun W => hasExpr_any 5 W)
  have KE := Lib.hid (fun W => empty_any ek en es em A na ca O no co a o W ha ho)
  obtain ⟨q, hq⟩ : ∃ q, q = emptyE (.mk ek en es em a o) := ⟨_, rfl⟩
  rw [← hq] at KE
  unfold formS hasX at hf
  rw [← hq] at hf
  simp only [Ex.kind] at hf
  clear hq ha ho
  by_cases qs : s = []
  rotate_left
  · obtain ⟨qs1, qs2⟩ := cons_facts qs
    have qs3 := beq_nil qs
    obtain rfl : f = false := by rw [hf]; simp [qs]
    clear hf
    go_enter Tryd.func72, Tryd.ntmps72
    go_wp2_with (first | (go_at_call 73; refine (KN.out _).mono ?_; rintro e w1 ⟨rfl, rfl⟩) | (go_at_call 86; refine (KM.out _).mono ?_; rintro e w1 ⟨rfl, rfl⟩) | (go_at_call 48; refine (KX.out _).mono ?_; rintro e w1 ⟨rfl, rfl⟩))
    go_ret
    exact ⟨rfl, HB.out _⟩
  obtain ⟨qs1, qs2⟩ := nil_facts qs
  subst qs
  by_cases qn : n = 0
  rotate_left
  · have qn1 : (n != 0) = true := by simp [qn]
    obtain rfl : f = false := by rw [hf]; simp [qn]
    clear hf
    go_enter Tryd.func72, Tryd.ntmps72
    go_wp2_with (first | (go_at_call 73; refine (KN.out _).mono ?_; rintro e w1 ⟨rfl, rfl⟩) | (go_at_call 86; refine (KM.out _).mono ?_; rintro e w1 ⟨rfl, rfl⟩) | (go_at_call 48; refine (KX.out _).mono ?_; rintro e w1 ⟨rfl, rfl⟩))
    go_ret
    exact ⟨rfl, HB.out _⟩
  subst qn
  by_cases ql : nl = 0
  rotate_left
  · have ql1 : 0 < (nl : Int) := by omega
    have ql2 : 0 < nl := by omega
    obtain rfl : f = false := by rw [hf]; simp [ql, ql2]
    clear hf
    go_enter Tryd.func72, Tryd.ntmps72
    go_wp2_with (first | (go_at_call 73; refine (KN.out _).mono ?_; rintro e w1 ⟨rfl, rfl⟩) | (go_at_call 86; refine (KM.out _).mono ?_; rintro e w1 ⟨rfl, rfl⟩) | (go_at_call 48; refine (KX.out _).mono ?_; rintro e w1 ⟨rfl, rfl⟩))
    go_ret
    exact ⟨rfl, HB.out _⟩
  subst ql
  by_cases qb : nb = 0
  rotate_left
  · have qb1 : 0 < (nb : Int) := by omega
    have qb2 : 0 < nb := by omega
    obtain rfl : f = false := by rw [hf]; simp [qb, qb2]
    clear hf
    go_enter Tryd.func72, Tryd.ntmps72
    go_wp2_with (first | (go_at_call 73; refine (KN.out _).mono ?_; rintro e w1 ⟨rfl, rfl⟩) | (go_at_call 86; refine (KM.out _).mono ?_; rintro e w1 ⟨rfl, rfl⟩) | (go_at_call 48; refine (KX.out _).mono ?_; rintro e w1 ⟨rfl, rfl⟩))
    go_ret
    exact ⟨rfl, HB.out _⟩
  subst qb
  obtain rfl : f = true := by rw [hf]; simp []
  clear hf
  go_enter Tryd.func72, Tryd.ntmps72
  go_wp2_with (first | (go_at_call 73; refine (KN.out _).mono ?_; rintro e w1 ⟨rfl, rfl⟩) | (go_at_call 86; refine (KM.out _).mono ?_; rintro e w1 ⟨rfl, rfl⟩) | (go_at_call 48; refine (KX.out _).mono ?_; rintro e w1 ⟨rfl, rfl⟩))
  go_ret
  exact ⟨rfl, HB.out _⟩
set_option maxRecDepth 100000 in
set_option maxHeartbeats 12800000 in
theorem formS6_any (s : Str) (n ek en : Int) (es em : Str) (A : Option Addr) (na ca : Nat) (O : Option Addr) (no co : Nat) (B : Option Addr) (nb cb : Nat) (L : Option Addr) (nl cl : Nat) (a o : List Ex) (w : World) (ha : na = a.length) (ho : no = o.length) :
    Calls Tryd.prog 72 #[.agg #[.int .i64 6, .string (bs s), .int .i64 n, .int .i64 ek, .int .i64 en, .string (bs es), .string (bs em), .slice A na ca, .slice O no co, .slice B nb cb, .slice L nl cl]] w fun e w' => e = .returned (.bool (formS 6 s n (.mk ek en es em a o) nb nl)) ∧ Below w.heap.size w w' := by
  have HB := Lib.hid (fun X => (Below.refl w.heap.size w).alloc (Nat.le_refl _) X)
  obtain ⟨f, hf⟩ : ∃ f, f = formS 6 s n (.mk ek en es em a o) nb nl := ⟨_, rfl⟩
  rw [← hf]
  have KN := Lib.hid (show ∀ W, Calls Tryd.prog 73 #[.int .i64 6] W fun e w' => e = .returned (.bool false) ∧ w' = W from fun W => hasName_any 6 W)
  have KM := Lib.hid (show ∀ W, Calls Tryd.prog 86 #[.int .i64 6] W fun e w' => e = .returned (.bool true) ∧ w' = W from fun W => hasNum_any 6 W)
  have KX := Lib.hid (show ∀ W, Calls Tryd.prog 48 #[.int .i64 6] W fun e w' => e = .returned (.bool false) ∧ w' = W from fun W => hasExpr_any 6 W)
  have KE := Lib.hid (fun W => empty_any ek en es em A na ca O no co a o W ha ho)
  obtain ⟨q, hq⟩ : ∃ q, q = emptyE (.mk ek en es em a o) := ⟨_, rfl⟩
  rw [← hq] at KE
  unfold formS hasX at hf
  rw [← hq] at hf
  simp only [Ex.kind] at hf
  clear hq ha ho
  by_cases qs : s = []
  rotate_left
  · obtain ⟨qs1, qs2⟩ := cons_facts qs
    have qs3 := beq_nil qs
    obtain rfl : f = false := by rw [hf]; simp [qs]
    clear hf
    go_enter Tryd.func72, Tryd.ntmps72
    go_wp2_with (first | (go_at_call 73; refine (KN.out _).mono ?_; rintro e w1 ⟨rfl, rfl⟩) | (go_at_call 86; refine (KM.out _).mono ?_; rintro e w1 ⟨rfl, rfl⟩) | (go_at_call 48; refine (KX.out _).mono ?_; rintro e w1 ⟨rfl, rfl⟩))
    go_ret
    exact ⟨rfl, HB.out _⟩
  obtain ⟨qs1, qs2⟩ := nil_facts qs
  subst qs
  cases q with
  | false =>
    obtain rfl : f = false := by rw [hf]; simp []
    clear hf
    go_enter Tryd.func72, Tryd.ntmps72
    go_wp2_with (first | (go_at_call 73; refine (KN.out _).mono ?_; rintro e w1 ⟨rfl, rfl⟩) | (go_at_call 86; refine (KM.out _).mono ?_; rintro e w1 ⟨rfl, rfl⟩) | (go_at_call 48; refine (KX.out _).mono ?_; rintro e w1 ⟨rfl, rfl⟩))
    refine (KE.out _).mono ?_
    rintro e w1 ⟨rfl, hb⟩
    obtain ⟨c0, c1, c2, c3, c4, c5, c6, c7, c8, c9, c10⟩ := st_cells ((hb.block w.heap.size (lt_alloc w _)).trans (heap_alloc_new w _))
    have HZ := Lib.hid (below_new hb)
    clear hb
    go_wp2_with (first | (go_at_call 73; refine (KN.out _).mono ?_; rintro e w1 ⟨rfl, rfl⟩) | (go_at_call 86; refine (KM.out _).mono ?_; rintro e w1 ⟨rfl, rfl⟩) | (go_at_call 48; refine (KX.out _).mono ?_; rintro e w1 ⟨rfl, rfl⟩))
    go_ret
    exact ⟨rfl, HZ.out⟩
  | true =>
    by_cases ql : nl = 0
    rotate_left
    · have ql1 : 0 < (nl : Int) := by omega
      have ql2 : 0 < nl := by omega
      obtain rfl : f = false := by rw [hf]; simp [ql, ql2]
      clear hf
      go_enter Tryd.func72, Tryd.ntmps72
      go_wp2_with (first | (go_at_call 73; refine (KN.out _).mono ?_; rintro e w1 ⟨rfl, rfl⟩) | (go_at_call 86; refine (KM.out _).mono ?_; rintro e w1 ⟨rfl, rfl⟩) | (go_at_call 48; refine (KX.out _).mono ?_; rintro e w1 ⟨rfl, rfl⟩))
      refine (KE.out _).mono ?_
      rintro e w1 ⟨rfl, hb⟩
      obtain ⟨c0, c1, c2, c3, c4, c5, c6, c7, c8, c9, c10⟩ := st_cells ((hb.block w.heap.size (lt_alloc w _)).trans (heap_alloc_new w _))
      have HZ := Lib.hid (below_new hb)
      clear hb
      go_wp2_with (first | (go_at_call 73; refine (KN.out _).mono ?_; rintro e w1 ⟨rfl, rfl⟩) | (go_at_call 86; refine (KM.out _).mono ?_; rintro e w1 ⟨rfl, rfl⟩) | (go_at_call 48; refine (KX.out _).mono ?_; rintro e w1 ⟨rfl, rfl⟩))
      go_ret
      exact ⟨rfl, HZ.out⟩
    subst ql
    by_cases qb : nb = 0
    rotate_left
    · have qb1 : 0 < (nb : Int) := by omega
      have qb2 : 0 < nb := by omega
      obtain rfl : f = false := by rw [hf]; simp [qb, qb2]
      clear hf
      go_enter Tryd.func72, Tryd.ntmps72
      go_wp2_with (first | (go_at_call 73; refine (KN.out _).mono ?_; rintro e w1 ⟨rfl, rfl⟩) | (go_at_call 86; refine (KM.out _).mono ?_; rintro e w1 ⟨rfl, rfl⟩) | (go_at_call 48; refine (KX.out _).mono ?_; rintro e w1 ⟨rfl, rfl⟩))
      refine (KE.out _).mono ?_
      rintro e w1 ⟨rfl, hb⟩
      obtain ⟨c0, c1, c2, c3, c4, c5, c6, c7, c8, c9, c10⟩ := st_cells ((hb.block w.heap.size (lt_alloc w _)).trans (heap_alloc_new w _))
      have HZ := Lib.hid (below_new hb)
      clear hb
      go_wp2_with (first | (go_at_call 73; refine (KN.out _).mono ?_; rintro e w1 ⟨rfl, rfl⟩) | (go_at_call 86; refine (KM.out _).mono ?_; rintro e w1 ⟨rfl, rfl⟩) | (go_at_call 48; refine (KX.out _).mono ?_; rintro e w1 ⟨rfl, rfl⟩))
      go_ret
      exact ⟨rfl, HZ.out⟩
    subst qb
    obtain rfl : f = true := by rw [hf]; simp []
    clear hf
    go_enter Tryd.func72, Tryd.ntmps72
    go_wp2_with (first | (go_at_call 73; refine (KN.out _).mono ?_; rintro e w1 ⟨rfl, rfl⟩) | (go_at_call 86; refine (KM.out _).mono ?_; rintro e w1 ⟨rfl, rfl⟩) | (go_at_call 48; refine (KX.out _).mono ?_; rintro e w1 ⟨rfl, rfl⟩))
    refine (KE.out _).mono ?_
    rintro e w1 ⟨rfl, hb⟩
    obtain ⟨c0, c1, c2, c3, c4, c5, c6, c7, c8, c9, c10⟩ := st_cells ((hb.block w.heap.size (lt_alloc w _)).trans (heap_alloc_new w _))
    have HZ := Lib.hid (below_new hb)
    clear hb
    go_wp2_with (first | (go_at_call 73; refine (KN.out _).mono ?_; rintro e w1 ⟨rfl, rfl⟩) | (go_at_call 86; refine (KM.out _).mono ?_; rintro e w1 ⟨rfl, rfl⟩) | (go_at_call 48; refine (KX.out _).mono ?_; rintro e w1 ⟨rfl, rfl⟩))
    go_ret
    exact ⟨rfl, HZ.out⟩
theorem formS_any (j : Nat) (hj : j < 7) (s : Str) (n ek en : Int) (es em : Str) (A : Option Addr) (na ca : Nat) (O : Option Addr) (no co : Nat) (B : Option Addr) (nb cb : Nat) (L : Option Addr) (nl cl : Nat) (a o : List Ex) (w : World) (ha : na = a.length) (ho : no = o.length) :
    Calls Tryd.prog 72 #[.agg #[.int .i64 (j : Int), .string (bs s), .int .i64 n, .int .i64 ek, .int .i64 en, .string (bs es), .string (bs em), .slice A na ca, .slice O no co, .slice B nb cb, .slice L nl cl]] w fun e w' => e = .returned (.bool (formS j s n (.mk ek en es em a o) nb nl)) ∧ Below w.heap.size w w' := by
  match j, hj with
  | 0, _ => exact formS0_any s n ek en es em A na ca O no co B nb cb L nl cl a o w ha ho
  | 1, _ => exact formS1_any s n ek en es em A na ca O no co B nb cb L nl cl a o w ha ho
  | 2, _ => exact formS2_any s n ek en es em A na ca O no co B nb cb L nl cl a o w ha ho
  | 3, _ => exact formS3_any s n ek en es em A na ca O no co B nb cb L nl cl a o w ha ho
  | 4, _ => exact formS4_any s n ek en es em A na ca O no co B nb cb L nl cl a o w ha ho
  | 5, _ => exact formS5_any s n ek en es em A na ca O no co B nb cb L nl cl a o w ha ho
  | 6, _ => exact formS6_any s n ek en es em A na ca O no co B nb cb L nl cl a o w ha ho
end Go.Proofs.YthfjkdgaiaokdaaDoor
