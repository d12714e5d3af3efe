/- The walks of word.kind, word.Plain, word.Install, word.Release. No condition but that a number is of its kind. -/
import Derived.Test.YtkccaadhjodhlaaDoorWordA
set_option linter.unusedVariables false
namespace Go.Proofs.YtkccaadhjodhlaaDoor
open Go.RowKit

/-- A word. -/
def wd (v n r : Int) : Value := .agg #[.int .i64 v, .int .u32 n, .int .u32 r]
/-- The word in memory. -/
def wdO (v n r : Int) : Obj := .cells #[.int .i64 v, .int .u32 n, .int .u32 r] 33
/-- A word's kind: plain 0, held 1, broken 2. -/
def kindV (r : Int) : Int := if r = 0 then 0 else if 0 < whoA r then 1 else 2

theorem whoA_zero : whoA 0 = 0 := by decide
theorem whoB_zero : whoB 0 = 0 := by decide

set_option maxRecDepth 100000 in
set_option maxHeartbeats 1600000 in
theorem kind_any (v n r : Int) (w : World) (h0 : 0 ≤ r) (h1 : r < 4294967296) :
    Calls Tryd.prog 21 #[wd v n r] w fun e w' => e = .returned (.int .i64 (kindV r)) ∧ w' = w.alloc (wdO v n r) := by
  unfold wd wdO
  obtain ⟨k, hk⟩ : ∃ k, k = kindV r := ⟨_, rfl⟩
  rw [← hk]
  by_cases hr : r = 0
  · subst hr
    obtain rfl : k = 0 := by rw [hk]; rfl
    clear hk
    go_enter Tryd.func21, Tryd.ntmps21
    go_wp2_with fail
    refine (who_any _ _ h0 h1).mono ?_
    rintro e w1 ⟨rfl, rfl⟩
    go_wp2
    go_ret
    exact ⟨rfl, rfl⟩
  · by_cases hw : 0 < whoA r
    · obtain rfl : k = 1 := by rw [hk]; simp only [kindV, if_neg hr, if_pos hw]
      clear hk
      have HW := Lib.hid (who_any r)
      generalize whoA r = a at *
      go_enter Tryd.func21, Tryd.ntmps21
      go_wp2_with fail
      refine (HW.out _ h0 h1).mono ?_
      rintro e w1 ⟨rfl, rfl⟩
      go_wp2
      go_ret
      exact ⟨rfl, rfl⟩
    · obtain rfl : k = 2 := by rw [hk]; simp only [kindV, if_neg hr, if_neg hw]
      clear hk
      have HW := Lib.hid (who_any r)
      generalize whoA r = a at *
      go_enter Tryd.func21, Tryd.ntmps21
      go_wp2_with fail
      refine (HW.out _ h0 h1).mono ?_
      rintro e w1 ⟨rfl, rfl⟩
      go_wp2
      go_ret
      exact ⟨rfl, rfl⟩

set_option maxRecDepth 100000 in
set_option maxHeartbeats 1600000 in
theorem plain_any (v n r : Int) (w : World) (h0 : 0 ≤ r) (h1 : r < 4294967296) :
    Calls Tryd.prog 15 #[wd v n r] w fun e w' => e = .returned (.bool (decide (r = 0))) ∧ w' = (w.alloc (wdO v n r)).alloc (wdO v n r) := by
  have HK := Lib.hid (kind_any v n r)
  have hk : (kindV r = 0) = (r = 0) := by
    unfold kindV
    split
    · simp [*]
    · split <;> simp [*]
  have hd : decide (r = 0) = decide (kindV r = 0) := by simp only [hk]
  rw [hd]
  unfold wd wdO at *
  generalize kindV r = k at *
  clear hk hd
  go_enter Tryd.func15, Tryd.ntmps15
  go_wp2_with fail
  refine (HK.out _ h0 h1).mono ?_
  rintro e w1 ⟨rfl, rfl⟩
  go_wp2
  go_ret
  exact ⟨rfl, rfl⟩

/-- Install's answer. -/
def insE (s r : Int) : Int := if s = 0 then (if kindV r = 1 then 0 else 3) else 13
def insR (s r : Int) : Int := if s = 0 ∧ kindV r = 1 then r else s

set_option maxRecDepth 100000 in
set_option maxHeartbeats 3200000 in
theorem install_any (v n s r : Int) (w : World) (h0 : 0 ≤ s) (h1 : s < 4294967296) (h2 : 0 ≤ r) (h3 : r < 4294967296) :
    Calls Tryd.prog 14 #[wd v n s, .int .u32 r] w fun e w' => e = .returned (.tuple #[wd v n (insR s r), .int .i64 (insE s r)]) ∧ Below w.heap.size w w' := by
  obtain ⟨er, her⟩ : ∃ k, k = insE s r := ⟨_, rfl⟩
  obtain ⟨rr, hrr⟩ : ∃ k, k = insR s r := ⟨_, rfl⟩
  rw [← her, ← hrr]
  have HP := Lib.hid (plain_any v n s)
  have HK := Lib.hid (kind_any v n r)
  by_cases hs : s = 0
  · subst hs
    by_cases hk : kindV r = 1
    · obtain rfl : er = 0 := by simp [her, insE, hk]
      obtain rfl : rr = r := by simp [hrr, insR, hk]
      rw [hk] at HK
      clear her hrr hk
      unfold wd wdO at *
      go_enter Tryd.func14, Tryd.ntmps14
      go_wp2_with fail
      refine (HP.out _ h0 h1).mono ?_
      rintro e w1 ⟨rfl, rfl⟩
      go_wp2_with fail
      refine (HK.out _ h2 h3).mono ?_
      rintro e w1 ⟨rfl, rfl⟩
      go_wp2
      refine bodyPost_ret (v := .tuple #[.agg #[.int .i64 v, .int .u32 n, .int .u32 rr], .int .i64 0]) ?_ rfl ⟨rfl, ?_⟩
      · simp [results, Tryd.results14, go_sem]
      · repeat refine Below.alloc ?_ (by simp; try omega) _
        exact Below.refl _ _
    · obtain rfl : er = 3 := by simp [her, insE, hk]
      obtain rfl : rr = 0 := by simp [hrr, insR, hk]
      generalize kindV r = k at *
      clear her hrr
      unfold wd wdO at *
      go_enter Tryd.func14, Tryd.ntmps14
      go_wp2_with fail
      refine (HP.out _ h0 h1).mono ?_
      rintro e w1 ⟨rfl, rfl⟩
      go_wp2_with fail
      refine (HK.out _ h2 h3).mono ?_
      rintro e w1 ⟨rfl, rfl⟩
      go_wp2
      refine bodyPost_ret (v := .tuple #[.agg #[.int .i64 v, .int .u32 n, .int .u32 0], .int .i64 3]) ?_ rfl ⟨rfl, ?_⟩
      · simp [results, Tryd.results14, go_sem]
      · repeat refine Below.alloc ?_ (by simp; try omega) _
        exact Below.refl _ _
  · have hd : decide (s = 0) = false := by simp [hs]
    rw [hd] at HP
    · obtain rfl : er = 13 := by simp [her, insE, hs]
      obtain rfl : rr = s := by simp [hrr, insR, hs]
      clear her hrr hd hs
      unfold wd wdO at *
      go_enter Tryd.func14, Tryd.ntmps14
      go_wp2_with fail
      refine (HP.out _ h0 h1).mono ?_
      rintro e w1 ⟨rfl, rfl⟩
      go_wp2
      refine bodyPost_ret (v := .tuple #[.agg #[.int .i64 v, .int .u32 n, .int .u32 rr], .int .i64 13]) ?_ rfl ⟨rfl, ?_⟩
      · simp [results, Tryd.results14, go_sem]
      · repeat refine Below.alloc ?_ (by simp; try omega) _
        exact Below.refl _ _

/-- Release's answer. -/
def relE (n s : Int) (b : Bool) : Int := if kindV s = 1 then (if b = true ∧ n = 4294967295 then 9 else 0) else 13
def relV (v n s x : Int) (b : Bool) : Int := if relE n s b = 0 ∧ b = true then x else v
def relN (n s : Int) (b : Bool) : Int := if relE n s b = 0 ∧ b = true then n + 1 else n
def relR (n s : Int) (b : Bool) : Int := if relE n s b = 0 then 0 else s

set_option maxRecDepth 100000 in
set_option maxHeartbeats 3200000 in
theorem release_any (v n s x : Int) (b : Bool) (w : World) (h0 : 0 ≤ s) (h1 : s < 4294967296) (h2 : 0 ≤ n) (h3 : n < 4294967296) :
    Calls Tryd.prog 16 #[wd v n s, .int .i64 x, .bool b] w fun e w' => e = .returned (.tuple #[wd (relV v n s x b) (relN n s b) (relR n s b), .int .i64 (relE n s b)]) ∧ Below w.heap.size w w' := by
  have HK := Lib.hid (kind_any v n s)
  by_cases hk : kindV s = 1
  · rw [hk] at HK
    cases b with
    | true =>
      by_cases hn : n = 4294967295
      · have e1 : relE n s true = 9 := by simp [relE, hk, hn]
        rw [show relV v n s x true = v by simp [relV, e1], show relN n s true = n by simp [relN, e1], show relR n s true = s by simp [relR, e1], e1]
        clear e1 hk
        subst hn
        unfold wd wdO at *
        go_enter Tryd.func16, Tryd.ntmps16
        go_wp2_with fail
        refine (HK.out _ h0 h1).mono ?_
        rintro e w1 ⟨rfl, rfl⟩
        go_wp2
        refine bodyPost_ret (v := .tuple #[.agg #[.int .i64 v, .int .u32 4294967295, .int .u32 s], .int .i64 9]) ?_ rfl ⟨rfl, ?_⟩
        · simp [results, Tryd.results16, go_sem]
        · repeat refine Below.alloc ?_ (by simp; try omega) _
          exact Below.refl _ _
      · have e1 : relE n s true = 0 := by simp [relE, hk, hn]
        rw [show relV v n s x true = x by simp [relV, e1], show relN n s true = n + 1 by simp [relN, e1], show relR n s true = 0 by simp [relR, e1], e1]
        clear e1 hk
        have hn' : (n == 4294967295) = false := by simp [hn]
        unfold wd wdO at *
        go_enter Tryd.func16, Tryd.ntmps16
        go_wp2_with fail
        refine (HK.out _ h0 h1).mono ?_
        rintro e w1 ⟨rfl, rfl⟩
        go_wp2
        refine bodyPost_ret (v := .tuple #[.agg #[.int .i64 x, .int .u32 (n + 1), .int .u32 0], .int .i64 0]) ?_ rfl ⟨rfl, ?_⟩
        · simp [results, Tryd.results16, go_sem]
        · repeat refine Below.alloc ?_ (by simp; try omega) _
          exact Below.refl _ _
    | false =>
      have e1 : relE n s false = 0 := by simp [relE, hk]
      rw [show relV v n s x false = v by simp [relV, e1], show relN n s false = n by simp [relN, e1], show relR n s false = 0 by simp [relR, e1], e1]
      clear e1 hk
      unfold wd wdO at *
      go_enter Tryd.func16, Tryd.ntmps16
      go_wp2_with fail
      refine (HK.out _ h0 h1).mono ?_
      rintro e w1 ⟨rfl, rfl⟩
      go_wp2
      refine bodyPost_ret (v := .tuple #[.agg #[.int .i64 v, .int .u32 n, .int .u32 0], .int .i64 0]) ?_ rfl ⟨rfl, ?_⟩
      · simp [results, Tryd.results16, go_sem]
      · repeat refine Below.alloc ?_ (by simp; try omega) _
        exact Below.refl _ _
  · have e1 : relE n s b = 13 := by simp [relE, hk]
    rw [show relV v n s x b = v by simp [relV, e1], show relN n s b = n by simp [relN, e1], show relR n s b = s by simp [relR, e1], e1]
    clear e1
    generalize kindV s = k at *
    have hk' : (k == 1) = false := by simp [hk]
    unfold wd wdO at *
    go_enter Tryd.func16, Tryd.ntmps16
    go_wp2_with fail
    refine (HK.out _ h0 h1).mono ?_
    rintro e w1 ⟨rfl, rfl⟩
    go_wp2
    refine bodyPost_ret (v := .tuple #[.agg #[.int .i64 v, .int .u32 n, .int .u32 s], .int .i64 13]) ?_ rfl ⟨rfl, ?_⟩
    · simp [results, Tryd.results16, go_sem]
    · repeat refine Below.alloc ?_ (by simp; try omega) _
      exact Below.refl _ _
end Go.Proofs.YtkccaadhjodhlaaDoor
