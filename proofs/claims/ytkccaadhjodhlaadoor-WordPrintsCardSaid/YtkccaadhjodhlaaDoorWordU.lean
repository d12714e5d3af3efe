/- The walk of the law's awake: true. No condition. -/
import Derived.Test.YtkccaadhjodhlaaDoorWordT
import Derived.Deep.RegionHeld3
set_option linter.unusedVariables false
namespace Go.Proofs.YtkccaadhjodhlaaDoor
open Go.RowKit

theorem word_cells {w : World} {b : Nat} {v n r : Int} (h : w.heap[b]? = some (wdO v n r)) :
    w.cell? ⟨b, 0, none⟩ = some (.int .i64 v) ∧ w.cell? ⟨b, 1, none⟩ = some (.int .u32 n) ∧ w.cell? ⟨b, 2, none⟩ = some (.int .u32 r) := by
  refine ⟨?_, ?_, ?_⟩ <;> (unfold World.cell?; simp [h, wdO])

set_option maxRecDepth 100000 in
set_option maxHeartbeats 3200000 in
theorem awake_any (w : World) :
    Calls Tryd.prog 13 #[] w fun e w' => e = .returned (.bool true) ∧ Below w.heap.size w w' := by
  have c1 := fun w => ref_any 1 7 w
  rw [show rVal 1 7 = 16777223 by decide, show rErr 1 7 = 0 by decide] at c1
  have c2 := fun w => who_any 16777223 w (by decide) (by decide)
  rw [show whoA 16777223 = 1 by decide, show whoB 16777223 = 7 by decide] at c2
  have c3 := fun w => install_any 5 2 0 16777223 w (by decide) (by decide) (by decide) (by decide)
  rw [show insR 0 16777223 = 16777223 by decide, show insE 0 16777223 = 0 by decide] at c3
  have c4 := fun w => release_any 5 2 16777223 9 true w (by decide) (by decide) (by decide) (by decide)
  rw [show relV 5 2 16777223 9 true = 9 by decide, show relN 2 16777223 true = 3 by decide, show relR 2 16777223 true = 0 by decide, show relE 2 16777223 true = 0 by decide] at c4
  have c5 := fun w => release_any 5 2 16777223 9 false w (by decide) (by decide) (by decide) (by decide)
  rw [show relV 5 2 16777223 9 false = 5 by decide, show relN 2 16777223 false = 2 by decide, show relR 2 16777223 false = 0 by decide, show relE 2 16777223 false = 0 by decide] at c5
  have C1 := Lib.hid c1
  have C2 := Lib.hid c2
  have C3 := Lib.hid c3
  have C4 := Lib.hid c4
  have C5 := Lib.hid c5
  clear c1 c2 c3 c4 c5
  unfold wd at *
  go_enter Tryd.func13, Tryd.ntmps13
  go_wp2_with fail
  refine (C1.out _).mono ?_
  rintro e w1 ⟨rfl, hh⟩
  subst w1
  go_wp2_with fail
  refine (C2.out _).mono ?_
  rintro e w1 ⟨rfl, hh⟩
  subst w1
  go_wp2_with fail
  refine (C3.out _).mono ?_
  rintro e w1 ⟨rfl, hb1⟩
  go_wp2_with fail
  refine (C4.out _).mono ?_
  rintro e w2 ⟨rfl, hb2⟩
  have p1 : w2.heap[w1.heap.size]? = some (wdO 5 2 16777223) := by rw [hb2.block _ (by simp)]; exact heap_alloc_new _ _
  have hw1 : Below w.heap.size w w1 := hb1
  have hw2 : Below w.heap.size w w2 := hw1.trans ((below_new hb2).mono hw1.size)
  have lt1 : w1.heap.size < w2.heap.size := by have := hb2.size; simp at this; omega
  obtain ⟨q0, q1, q2⟩ := word_cells p1
  have z1 := fun o => World.cell?_alloc_lt w2 o ⟨w1.heap.size, 0, none⟩ lt1
  have z2 := fun o => World.cell?_alloc_lt w2 o ⟨w1.heap.size, 1, none⟩ lt1
  have z3 := fun o => World.cell?_alloc_lt w2 o ⟨w1.heap.size, 2, none⟩ lt1
  rw [q0] at z1
  rw [q1] at z2
  rw [q2] at z3
  clear hb1 hb2
  go_wp2_with fail
  refine (C5.out _).mono ?_
  rintro e w3 ⟨rfl, hb3⟩
  have p2 : w3.heap[w2.heap.size]? = some (wdO 9 3 0) := by rw [hb3.block _ (by simp)]; exact heap_alloc_new _ _
  have hb3' := below_new hb3
  have p3 : w3.heap[w1.heap.size]? = some (wdO 5 2 16777223) := (hb3'.block _ lt1).trans p1
  have lt2 : w2.heap.size < w3.heap.size := by have := hb3.size; simp at this; omega
  have hw3 : Below w.heap.size w w3 := hw2.trans (hb3'.mono hw2.size)
  have T1 := Lib.hid text_a
  have T2 := Lib.hid text_b
  have T3 := Lib.hid text_c
  have key : ∀ w4, Below (w3.alloc (wdO 5 2 0)).heap.size (w3.alloc (wdO 5 2 0)) w4 → ∀ o,
      (w4.cell? ⟨w1.heap.size, o, none⟩ = w3.cell? ⟨w1.heap.size, o, none⟩) ∧ (w4.cell? ⟨w2.heap.size, o, none⟩ = w3.cell? ⟨w2.heap.size, o, none⟩) ∧ (w4.cell? ⟨w3.heap.size, o, none⟩ = (w3.alloc (wdO 5 2 0)).cell? ⟨w3.heap.size, o, none⟩) := by
    intro w4 h4 o
    have h5 := below_new h4
    exact ⟨h5.cell (show w1.heap.size < _ by omega), h5.cell (show w2.heap.size < _ from lt2), h4.cell (show w3.heap.size < _ by simp)⟩
  have KEY := Lib.hid key
  obtain ⟨a0, a1, a2⟩ := word_cells p3
  obtain ⟨b0, b1, b2⟩ := word_cells p2
  obtain ⟨d0, d1, d2⟩ := word_cells (heap_alloc_new w3 (wdO 5 2 0))
  have g0 := key _ (Below.refl _ _) 0
  have g1 := key _ (Below.refl _ _) 1
  have g2 := key _ (Below.refl _ _) 2
  have D := Lib.hid (And.intro a0 (And.intro a1 (And.intro a2 (And.intro b0 (And.intro b1 (And.intro b2 (And.intro d0 (And.intro d1 d2))))))))
  rw [a0, b0, d0] at g0
  rw [a1, b1, d1] at g1
  rw [a2, b2, d2] at g2
  obtain ⟨e0, e1, e2⟩ := g0
  obtain ⟨e3, e4, e5⟩ := g1
  obtain ⟨e6, e7, e8⟩ := g2
  have HW3 := Lib.hid hw3
  clear q0 q1 q2 z1 z2 z3 a0 a1 a2 b0 b1 b2 d0 d1 d2 lt1 lt2 hb3 hb3' p1 p2 p3 hw1 hw2 hw3 key C1 C2 C3 C4 C5
  unfold wdO wd at *
  go_wp2_with fail
  refine (T1.out _).mono ?_
  rintro e w4 ⟨rfl, h4⟩
  have B4 := Lib.hid (show Below _ _ w4 by rw [h4]; exact ((Below.refl _ _).alloc (Nat.le_refl _) _).alloc (by simp) _)
  have g0 := KEY.out w4 B4.out 0
  have g1 := KEY.out w4 B4.out 1
  have g2 := KEY.out w4 B4.out 2
  obtain ⟨a0, a1, a2, b0, b1, b2, d0, d1, d2⟩ := D.out
  rw [a0, b0, d0] at g0
  rw [a1, b1, d1] at g1
  rw [a2, b2, d2] at g2
  clear e0 e1 e2 e3 e4 e5 e6 e7 e8 a0 a1 a2 b0 b1 b2 d0 d1 d2 T1 h4
  obtain ⟨e0, e1, e2⟩ := g0
  obtain ⟨e3, e4, e5⟩ := g1
  obtain ⟨e6, e7, e8⟩ := g2
  go_wp2_with fail
  refine (T2.out _).mono ?_
  rintro e w5 ⟨rfl, h5⟩
  have B5 := Lib.hid (B4.out.trans (show Below _ w4 w5 by rw [h5]; exact ((Below.refl _ _).alloc (B4.out.size) _).alloc (by have := B4.out.size; simp at this ⊢; omega) _))
  have g0 := KEY.out w5 B5.out 0
  have g1 := KEY.out w5 B5.out 1
  have g2 := KEY.out w5 B5.out 2
  obtain ⟨a0, a1, a2, b0, b1, b2, d0, d1, d2⟩ := D.out
  rw [a0, b0, d0] at g0
  rw [a1, b1, d1] at g1
  rw [a2, b2, d2] at g2
  clear e0 e1 e2 e3 e4 e5 e6 e7 e8 a0 a1 a2 b0 b1 b2 d0 d1 d2 T2 h5
  obtain ⟨e0, e1, e2⟩ := g0
  obtain ⟨e3, e4, e5⟩ := g1
  obtain ⟨e6, e7, e8⟩ := g2
  go_wp2_with fail
  refine (T3.out _).mono ?_
  rintro e w6 ⟨rfl, h6⟩
  have B6 := Lib.hid (B5.out.trans (show Below _ w5 w6 by rw [h6]; exact ((Below.refl _ _).alloc (B5.out.size) _).alloc (by have := B5.out.size; simp at this ⊢; omega) _))
  clear e0 e1 e2 e3 e4 e5 e6 e7 e8 T3 h6
  go_wp2
  go_ret
  exact ⟨rfl, HW3.out.trans ((below_new B6.out).mono HW3.out.size)⟩
end Go.Proofs.YtkccaadhjodhlaaDoor
