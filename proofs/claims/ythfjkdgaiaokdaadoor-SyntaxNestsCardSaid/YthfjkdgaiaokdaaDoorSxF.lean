/- syntax.Binaries, and rule.form at a binary operator. No condition. -/
import Derived.Test.YthfjkdgaiaokdaaDoorSxE
import Derived.Deep.RegionHeld3
set_option linter.unusedVariables false
set_option linter.unusedSimpArgs false
namespace Go.Proofs.YthfjkdgaiaokdaaDoor
open Go.RowKit

set_option maxRecDepth 100000 in
theorem binaries_any (w : World) : Calls Tryd.prog 96 #[] w fun e w' => ∃ v, e = .returned v ∧ w'.ownsRow w.heap.size 9 1 v 13 ((sgns.map bs).map Value.string) ∧ Below w.heap.size w w' := by
  go_enter Tryd.func96, Tryd.ntmps96
  go_wp2
  go_ret
  exact ⟨_, rfl, ⟨rfl, .inr ⟨w.heap.size, 13, _, rfl, Nat.le_refl _, heap_alloc_new w _, by decide, by decide, rfl, rfl⟩⟩, (Below.refl _ _).alloc (Nat.le_refl _) _⟩

/-- A later world. -/
structure Bz (w0 w : World) : Prop where
  b : Below w0.heap.size w0 w
theorem Bz.next {w0 w w' : World} (h : Bz w0 w) (h' : Below w.heap.size w w') : Bz w0 w' := ⟨h.b.trans (h'.mono h.b.size)⟩
theorem Bz.drew {w0 w : World} (h : Bz w0 w) : Bz w0 w.drew := ⟨⟨h.b.os, h.b.tape, h.b.output, h.b.size, h.b.block⟩⟩
theorem Bz.drewN {w0 w : World} (h : Bz w0 w) (k : Nat) : Bz w0 (w.drewN k) := ⟨⟨h.b.os, h.b.tape, h.b.output, h.b.size, h.b.block⟩⟩
theorem cell_of_Bz {w0 w : World} (h : Bz w0 w) {g j : Nat} {v : Value} (hv : w0.cell? ⟨g, j, none⟩ = some v) (hg : g < w0.heap.size) : w.cell? ⟨g, j, none⟩ = some v := by
  rw [World.cell?_of_block (a := ⟨g, j, none⟩) (h.b.block g hg)]; exact hv

theorem form5_cases (q : Bool) (na no : Nat) (f : Bool) (hf : f = (decide ((0 : Int) = 0) && ([] : Str) == [] && q && decide (na = 2) && decide (no = 0))) :
    (q = false ∧ f = false) ∨ (q = true ∧ f = false ∧ (na : Int) < 2 ∧ True) ∨ (q = true ∧ f = false ∧ ¬ (na : Int) < 2 ∧ 2 < (na : Int)) ∨ (q = true ∧ f = true ∧ ¬ (na : Int) < 2 ∧ ¬ 2 < (na : Int) ∧ ((no : Int) == 0) = true) ∨ (q = true ∧ f = false ∧ ¬ (na : Int) < 2 ∧ ¬ 2 < (na : Int) ∧ ((no : Int) == 0) = false ∧ ¬ (no : Int) = 0) := by
  cases q with
  | false => exact .inl ⟨rfl, by rw [hf]; simp⟩
  | true =>
    right
    by_cases h1 : (na : Int) < 2
    · exact .inl ⟨rfl, by rw [hf, decide_eq_false (show ¬ na = 2 by omega)]; simp, h1, trivial⟩
    · right
      by_cases h2 : 2 < (na : Int)
      · exact .inl ⟨rfl, by rw [hf, decide_eq_false (show ¬ na = 2 by omega)]; simp, h1, h2⟩
      · right
        by_cases h3 : no = 0
        · exact .inl ⟨rfl, by rw [hf, decide_eq_true (show na = 2 by omega), h3]; simp, h1, h2, by simp [h3]⟩
        · exact .inr ⟨rfl, by rw [hf, decide_eq_false h3]; simp, h1, h2, by simp [h3], by omega⟩
set_option maxRecDepth 100000 in
set_option maxHeartbeats 12800000 in
theorem form5_any (n : Int) (s m : Str) (A : Option Addr) (na ca : Nat) (O : Option Addr) (no co : Nat) (a o : List Ex) (w : World) (ha : na = a.length) (ho : no = o.length) :
    Calls Tryd.prog 89 #[.agg (ruleC 5), .agg (exC 5 n s m A na ca O no co).toArray] w fun e w' => e = .returned (.bool (formE (.mk 5 n s m a o))) ∧ Below w.heap.size w w' := by
  have HB := Lib.hid (fun X Y => (((Below.refl w.heap.size w).alloc (Nat.le_refl _) X).alloc (by show _ ≤ (w.heap.push X).size; simp) Y))
  have HD := Lib.hid (fun X Y k => (show Below w.heap.size w (((w.alloc X).alloc Y).drewN k) from ⟨(HB.out X Y).os, (HB.out X Y).tape, (HB.out X Y).output, (HB.out X Y).size, (HB.out X Y).block⟩))
  obtain ⟨f, hf⟩ : ∃ f, f = formE (.mk 5 n s m a o) := ⟨_, rfl⟩
  rw [← hf]
  unfold formE at hf
  simp only [Ex.kind, Ex.num, Ex.name, Ex.meth, Ex.args, Ex.orr, ← ha, ← ho] at hf
  simp (config := { decide := true }) only [if_true, if_false, or_true, true_or, or_false, false_or] at hf
  rw [ruleC5]
  unfold exC
  clear ha ho
  by_cases qn : n = 0
  rotate_left
  · have qn1 : (n != 0) = true := by simp [qn]
    obtain rfl : f = false := by rw [hf]; simp [qn]
    clear hf
    go_enter Tryd.func89, Tryd.ntmps89
    go_wp2
    repeat (go_quiet (fail); go_wp2)
    go_ret
    first | exact ⟨rfl, HB.out _ _⟩ | exact ⟨rfl, HD.out _ _ _⟩
  subst qn
  by_cases qs : s = []
  rotate_left
  · obtain ⟨qs1, qs2⟩ := cons_facts qs
    have qs3 := beq_nil qs
    obtain rfl : f = false := by rw [hf]; simp [qs]
    clear hf
    go_enter Tryd.func89, Tryd.ntmps89
    go_wp2
    repeat (go_quiet (fail); go_wp2)
    go_ret
    first | exact ⟨rfl, HB.out _ _⟩ | exact ⟨rfl, HD.out _ _ _⟩
  obtain ⟨qs1, qs2⟩ := nil_facts qs
  subst qs
  have K1 := Lib.hid (fun W => binaries_any W)
  have K2 := Lib.hid (fun (W : World) base v (h : W.ownsRow base 9 1 v 13 ((sgns.map bs).map Value.string)) => contains_own h m rfl (by decide) (by decide))
  obtain ⟨q, hq⟩ : ∃ q, q = sgns.contains m := ⟨_, rfl⟩
  rw [← hq] at K2 hf
  clear hq
  have HW := Lib.hid (fun X Y (W : World) (h : Bz ((w.alloc (.cells X 133)).alloc (.cells Y 44)) W) => (show (∀ j v, X[j]? = some v → W.cell? ⟨w.heap.size, j, none⟩ = some v) ∧ (∀ j v, Y[j]? = some v → W.cell? ⟨w.heap.size + 1, j, none⟩ = some v) from by
    have e1 : ((w.alloc (.cells X 133)).alloc (.cells Y 44)).heap[w.heap.size]? = some (.cells X 133) := by
      rw [heap_alloc_old _ _ (by show _ < (w.heap.push _).size; simp)]; exact heap_alloc_new w _
    refine ⟨fun j v hv => cell_of_Bz h (by rw [cell_of_row _ _ _ _ _ _ e1]; exact hv) (lt_of_block e1), fun j v hv => cell_of_Bz h (by rw [cell_of_row _ _ _ _ _ _ (heap_alloc2_new w _ _)]; exact hv) (lt_of_block (heap_alloc2_new w _ _))⟩))
  go_enter Tryd.func89, Tryd.ntmps89
  go_wp2
  obtain ⟨W0, hW0⟩ : ∃ W0 : World, W0 = (w.alloc (.cells #[.bool false, .bool false, .bool false, .bool true, .bool false, .int .i64 0, .int .i64 2, .int .i64 2] 133)).alloc (.cells #[.int .i64 5, .int .i64 0, .string (bs []), .string (bs m), .slice A na ca, .slice O no co] 44) := ⟨_, rfl⟩
  have HF := Lib.hid (show ∀ W, Bz W0 W → (W.cell? ⟨w.heap.size, 4, none⟩ = some (.bool false) ∧ W.cell? ⟨w.heap.size, 6, none⟩ = some (.int .i64 2) ∧ W.cell? ⟨w.heap.size, 7, none⟩ = some (.int .i64 2) ∧ W.cell? ⟨w.heap.size + 1, 3, none⟩ = some (.string (bs m)) ∧ W.cell? ⟨w.heap.size + 1, 4, none⟩ = some (.slice A na ca) ∧ W.cell? ⟨w.heap.size + 1, 5, none⟩ = some (.slice O no co) ∧ W.cell? ⟨w.heap.size, 3, none⟩ = some (.bool true)) from fun W h => by
    subst hW0
    have h2 := HW.out _ _ W h
    exact ⟨h2.1 4 _ rfl, h2.1 6 _ rfl, h2.1 7 _ rfl, h2.2 3 _ rfl, h2.2 4 _ rfl, h2.2 5 _ rfl, h2.1 3 _ rfl⟩)
  have HG := Lib.hid (show ∀ W, Bz W0 W → Below w.heap.size w W from fun W h => by
    subst hW0
    exact (HB.out _ _).trans (h.b.mono (HB.out _ _).size))
  rw [← hW0]
  clear hW0 HW HB HD
  rcases form5_cases q na no f hf with ⟨rfl, rfl⟩ | ⟨rfl, rfl, h1, h2⟩ | ⟨rfl, rfl, h1, h2⟩ | ⟨rfl, rfl, h1, h2, h3⟩ | ⟨rfl, rfl, h1, h2, h3, h4⟩
  all_goals
    clear hf
    have z0 : Bz W0 W0 := ⟨Below.refl _ _⟩
    have z1 := z0.drew
    go_region_held3 (fun W => (W.cell? ⟨w.heap.size, 4, none⟩ = some (.bool false) ∧ W.cell? ⟨w.heap.size, 6, none⟩ = some (.int .i64 2) ∧ W.cell? ⟨w.heap.size, 7, none⟩ = some (.int .i64 2) ∧ W.cell? ⟨w.heap.size + 1, 3, none⟩ = some (.string (bs m)) ∧ W.cell? ⟨w.heap.size + 1, 4, none⟩ = some (.slice A na ca) ∧ W.cell? ⟨w.heap.size + 1, 5, none⟩ = some (.slice O no co) ∧ W.cell? ⟨w.heap.size, 3, none⟩ = some (.bool true))) (exact HF.out _ (by assumption)) (first
      | (go_at_call 96; refine (K1.out _).mono ?_; rintro e w1 ⟨v, rfl, ho, hb⟩; have z2 := Bz.next (by assumption) hb; have HO := Lib.hid ho; clear ho hb)
      | (go_at_call 54; refine (K2.out _ _ _ (by exact HO.out)).mono ?_; rintro e w2 ⟨rfl, rfl⟩))
    all_goals
      first
        | (go_ret; exact ⟨rfl, HG.out _ (by assumption)⟩)
        | (go_wp2; go_ret; exact ⟨rfl, HG.out _ (by assumption)⟩)
end Go.Proofs.YthfjkdgaiaokdaaDoor
