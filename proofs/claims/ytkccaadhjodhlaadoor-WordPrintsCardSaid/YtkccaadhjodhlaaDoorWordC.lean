/- The walk of the law WordBack: true. Condition: the numbers are of their kinds. -/
import Derived.Test.YtkccaadhjodhlaaDoorWordU
set_option linter.unusedVariables false
namespace Go.Proofs.YtkccaadhjodhlaaDoor
open Go.RowKit

/-- Block b holds a word. -/
def WBox (w : World) (b : Nat) (v n r : Int) : Prop := w.heap[b]? = some (wdO v n r)
section
variable {w w' : World} {b : Nat} {v n r : Int}
theorem WBox.lt (h : WBox w b v n r) : b < w.heap.size := by
  unfold WBox at h
  exact (Array.getElem?_eq_some_iff.1 h).1
theorem WBox.below (h : WBox w b v n r) (hb : Below w.heap.size w w') : WBox w' b v n r := (hb.block _ h.lt).trans h
theorem WBox.alloc (h : WBox w b v n r) (o : Obj) : WBox (w.alloc o) b v n r := by
  have := h.lt
  unfold WBox at *
  unfold World.alloc
  rw [Array.getElem?_push_lt this, ← h, Array.getElem?_eq_getElem this]
theorem WBox.new : WBox (w.alloc (wdO v n r)) w.heap.size v n r := heap_alloc_new _ _
theorem WBox.c0 (h : WBox w b v n r) : w.cell? ⟨b, 0, none⟩ = some (.int .i64 v) := (word_cells h).1
theorem WBox.c1 (h : WBox w b v n r) : w.cell? ⟨b, 1, none⟩ = some (.int .u32 n) := (word_cells h).2.1
theorem WBox.c2 (h : WBox w b v n r) : w.cell? ⟨b, 2, none⟩ = some (.int .u32 r) := (word_cells h).2.2
theorem WBox.fz (h : WBox w b v n r) (o : Nat) : w.frozen? ⟨b, o, none⟩ = false := by simp [World.frozen?, show w.heap[b]? = _ from h, wdO]
theorem WBox.at (h : w.heap[b]? = some (.cells #[.int .i64 v, .int .u32 n, .int .u32 r] 33)) : WBox w b v n r := h
end
theorem of_allocs2 {w w' : World} {o p : Obj} (h : w' = (w.alloc o).alloc p) : Below w.heap.size w w' := by
  rw [h]
  exact ((Below.refl _ _).alloc (Nat.le_refl _) _).alloc (by simp) _
theorem allocs2 (w : World) (o p : Obj) : Below w.heap.size w ((w.alloc o).alloc p) := ((Below.refl _ _).alloc (Nat.le_refl _) _).alloc (by simp) _

set_option maxRecDepth 100000 in
set_option maxHeartbeats 6400000 in
theorem back_no (v n s x r : Int) (w : World) (h2 : 0 ≤ r) (h3 : r < 4294967296) (h4 : 0 ≤ n) (h5 : n < 4294967296) (hk : kindV r ≠ 1) :
    Calls Tryd.prog 5 #[wd v n s, .int .i64 x, .int .u32 r] w fun e w' => e = .returned (.bool true) ∧ Below w.heap.size w w' := by
  have c1 := fun w => install_any v n 0 r w (by decide) (by decide) h2 h3
  rw [show insR 0 r = 0 by simp [insR, hk], show insE 0 r = 3 by simp [insE, hk]] at c1
  have C1 := Lib.hid c1
  have W0 := Lib.hid (WBox.new (w := w) (v := v) (n := n) (r := 0))
  have HW := Lib.hid (Below.refl w.heap.size w)
  clear c1 hk h2 h3 h4 h5
  unfold wd at *
  go_enter Tryd.func5, Tryd.ntmps5
  go_wp2_with fail
  refine (C1.out _).mono ?_
  rintro e w1 ⟨rfl, hb⟩
  have B0 := Lib.hid ((WBox.new (v := v) (n := n) (r := 0)).below hb)
  have HW1 := Lib.hid (HW.out.trans (below_new hb))
  clear HW hb
  have HW := HW1
  clear HW1
  have f00 := B0.out.c0
  have g00 := fun o => (B0.out.alloc o).c0
  have f01 := B0.out.c1
  have g01 := fun o => (B0.out.alloc o).c1
  have f02 := B0.out.c2
  have g02 := fun o => (B0.out.alloc o).c2
  go_wp2_with fail
  refine (awake_any _).mono ?_
  rintro e w2 ⟨rfl, hb⟩
  have HW2 := Lib.hid (HW.out.trans ((below_new hb).mono HW.out.size))
  go_wp2
  go_ret
  exact ⟨rfl, HW2.out⟩

set_option maxRecDepth 100000 in
set_option maxHeartbeats 6400000 in
theorem back_full (v n s x r : Int) (w : World) (h2 : 0 ≤ r) (h3 : r < 4294967296) (h4 : 0 ≤ n) (h5 : n < 4294967296) (hk : kindV r = 1) (hn : n = 4294967295) :
    Calls Tryd.prog 5 #[wd v n s, .int .i64 x, .int .u32 r] w fun e w' => e = .returned (.bool true) ∧ Below w.heap.size w w' := by
  have hr : r ≠ 0 := by rintro rfl; exact absurd hk (by decide)
  have c1 := fun w => install_any v n 0 r w (by decide) (by decide) h2 h3
  rw [show insR 0 r = r by simp [insR, hk], show insE 0 r = 0 by simp [insE, hk]] at c1
  have c2 := fun w => install_any v n r r w h2 h3 h2 h3
  rw [show insR r r = r by simp [insR, hr], show insE r r = 13 by simp [insE, hr]] at c2
  have c3 := fun w => release_any v n r x false w h2 h3 h4 h5
  rw [show relE n r false = 0 by simp [relE, hk], show relV v n r x false = v by simp [relV], show relN n r false = n by simp [relN], show relR n r false = 0 by simp [relR, relE, hk]] at c3
  have c4 := fun w => release_any v n r x true w h2 h3 h4 h5
  rw [show relE n r true = 9 by simp [relE, hk, hn], show relV v n r x true = v by simp [relV, relE, hk, hn], show relN n r true = n by simp [relN, relE, hk, hn], show relR n r true = r by simp [relR, relE, hk, hn]] at c4
  have c5 := fun w => plain_any v n r w h2 h3
  rw [show decide (r = 0) = false by simp [hr]] at c5
  have c6 := fun w => plain_any v n 0 w (by decide) (by decide)
  rw [show decide ((0 : Int) = 0) = true by decide] at c6
  have C1 := Lib.hid c1
  have C2 := Lib.hid c2
  have C3 := Lib.hid c3
  have C4 := Lib.hid c4
  have C5 := Lib.hid c5
  have C6 := Lib.hid c6
  have W0 := Lib.hid (WBox.new (w := w) (v := v) (n := n) (r := 0))
  have HW := Lib.hid (Below.refl w.heap.size w)
  clear c1 c2 c3 c4 c5 c6 hk hr h2 h3
  subst hn
  clear h4 h5
  unfold wd at *
  go_enter Tryd.func5, Tryd.ntmps5
  go_wp2_with fail
  refine (C1.out _).mono ?_
  rintro e w1 ⟨rfl, hb⟩
  have B0 := Lib.hid ((WBox.new (v := v) (n := 4294967295) (r := 0)).below hb)
  have HW1 := Lib.hid (HW.out.trans (below_new hb))
  clear HW hb
  have HW := HW1
  clear HW1
  have f00 := B0.out.c0
  have g00 := fun o => (B0.out.alloc o).c0
  have f01 := B0.out.c1
  have g01 := fun o => (B0.out.alloc o).c1
  have f02 := B0.out.c2
  have g02 := fun o => (B0.out.alloc o).c2
  go_wp2_with fail
  refine (C2.out _).mono ?_
  clear f00 g00 f01 g01 f02 g02
  rintro e w2 ⟨rfl, hb⟩
  have B1 := Lib.hid ((B0.out.alloc _).below hb)
  have B2 := Lib.hid ((WBox.new (v := v) (n := 4294967295) (r := r)).below hb)
  have HW102 := Lib.hid (HW.out.trans ((below_new hb).mono HW.out.size))
  clear hb HW B0
  have HW := HW102
  clear HW102
  have f00 := B1.out.c0
  have g00 := fun o => (B1.out.alloc o).c0
  have f01 := B1.out.c1
  have g01 := fun o => (B1.out.alloc o).c1
  have f02 := B1.out.c2
  have g02 := fun o => (B1.out.alloc o).c2
  have f10 := B2.out.c0
  have g10 := fun o => (B2.out.alloc o).c0
  have f11 := B2.out.c1
  have g11 := fun o => (B2.out.alloc o).c1
  have f12 := B2.out.c2
  have g12 := fun o => (B2.out.alloc o).c2
  go_wp2_with fail
  refine (C3.out _).mono ?_
  clear f00 g00 f01 g01 f02 g02 f10 g10 f11 g11 f12 g12
  rintro e w3 ⟨rfl, hb⟩
  have B3 := Lib.hid ((B1.out.alloc _).below hb)
  have B4 := Lib.hid ((B2.out.alloc _).below hb)
  have B5 := Lib.hid ((WBox.new (v := v) (n := 4294967295) (r := r)).below hb)
  have HW105 := Lib.hid (HW.out.trans ((below_new hb).mono HW.out.size))
  clear hb HW B1 B2
  have HW := HW105
  clear HW105
  have f00 := B3.out.c0
  have g00 := fun o => (B3.out.alloc o).c0
  have f01 := B3.out.c1
  have g01 := fun o => (B3.out.alloc o).c1
  have f02 := B3.out.c2
  have g02 := fun o => (B3.out.alloc o).c2
  have f10 := B4.out.c0
  have g10 := fun o => (B4.out.alloc o).c0
  have f11 := B4.out.c1
  have g11 := fun o => (B4.out.alloc o).c1
  have f12 := B4.out.c2
  have g12 := fun o => (B4.out.alloc o).c2
  have f20 := B5.out.c0
  have g20 := fun o => (B5.out.alloc o).c0
  have f21 := B5.out.c1
  have g21 := fun o => (B5.out.alloc o).c1
  have f22 := B5.out.c2
  have g22 := fun o => (B5.out.alloc o).c2
  go_wp2_with fail
  refine (C4.out _).mono ?_
  clear f00 g00 f01 g01 f02 g02 f10 g10 f11 g11 f12 g12 f20 g20 f21 g21 f22 g22
  rintro e w4 ⟨rfl, hb⟩
  have B6 := Lib.hid ((B3.out.alloc _).below hb)
  have B7 := Lib.hid ((B4.out.alloc _).below hb)
  have B8 := Lib.hid ((B5.out.alloc _).below hb)
  have B9 := Lib.hid ((WBox.new (v := v) (n := 4294967295) (r := 0)).below hb)
  have HW109 := Lib.hid (HW.out.trans ((below_new hb).mono HW.out.size))
  clear hb HW B3 B4 B5
  have HW := HW109
  clear HW109
  have f00 := B6.out.c0
  have g00 := fun o => (B6.out.alloc o).c0
  have f01 := B6.out.c1
  have g01 := fun o => (B6.out.alloc o).c1
  have f02 := B6.out.c2
  have g02 := fun o => (B6.out.alloc o).c2
  have f10 := B7.out.c0
  have g10 := fun o => (B7.out.alloc o).c0
  have f11 := B7.out.c1
  have g11 := fun o => (B7.out.alloc o).c1
  have f12 := B7.out.c2
  have g12 := fun o => (B7.out.alloc o).c2
  have f20 := B8.out.c0
  have g20 := fun o => (B8.out.alloc o).c0
  have f21 := B8.out.c1
  have g21 := fun o => (B8.out.alloc o).c1
  have f22 := B8.out.c2
  have g22 := fun o => (B8.out.alloc o).c2
  have f30 := B9.out.c0
  have g30 := fun o => (B9.out.alloc o).c0
  have f31 := B9.out.c1
  have g31 := fun o => (B9.out.alloc o).c1
  have f32 := B9.out.c2
  have g32 := fun o => (B9.out.alloc o).c2
  go_wp2_with fail
  refine (C5.out _).mono ?_
  clear f00 g00 f01 g01 f02 g02 f10 g10 f11 g11 f12 g12 f20 g20 f21 g21 f22 g22 f30 g30 f31 g31 f32 g32
  rintro e w5 ⟨rfl, hx⟩
  have hb := of_allocs2 hx
  clear hx
  have B10 := Lib.hid ((B6.out.alloc _).below hb)
  have B11 := Lib.hid ((B7.out.alloc _).below hb)
  have B12 := Lib.hid ((B8.out.alloc _).below hb)
  have B13 := Lib.hid ((B9.out.alloc _).below hb)
  have B14 := Lib.hid ((WBox.new (v := v) (n := 4294967295) (r := r)).below hb)
  have HW114 := Lib.hid (HW.out.trans ((below_new hb).mono HW.out.size))
  clear hb HW B6 B7 B8 B9
  have HW := HW114
  clear HW114
  have f00 := B10.out.c0
  have g00 := fun o => (B10.out.alloc o).c0
  have f01 := B10.out.c1
  have g01 := fun o => (B10.out.alloc o).c1
  have f02 := B10.out.c2
  have g02 := fun o => (B10.out.alloc o).c2
  have f10 := B11.out.c0
  have g10 := fun o => (B11.out.alloc o).c0
  have f11 := B11.out.c1
  have g11 := fun o => (B11.out.alloc o).c1
  have f12 := B11.out.c2
  have g12 := fun o => (B11.out.alloc o).c2
  have f20 := B12.out.c0
  have g20 := fun o => (B12.out.alloc o).c0
  have f21 := B12.out.c1
  have g21 := fun o => (B12.out.alloc o).c1
  have f22 := B12.out.c2
  have g22 := fun o => (B12.out.alloc o).c2
  have f30 := B13.out.c0
  have g30 := fun o => (B13.out.alloc o).c0
  have f31 := B13.out.c1
  have g31 := fun o => (B13.out.alloc o).c1
  have f32 := B13.out.c2
  have g32 := fun o => (B13.out.alloc o).c2
  have f40 := B14.out.c0
  have g40 := fun o => (B14.out.alloc o).c0
  have f41 := B14.out.c1
  have g41 := fun o => (B14.out.alloc o).c1
  have f42 := B14.out.c2
  have g42 := fun o => (B14.out.alloc o).c2
  go_wp2_with fail
  refine (C6.out _).mono ?_
  clear f00 g00 f01 g01 f02 g02 f10 g10 f11 g11 f12 g12 f20 g20 f21 g21 f22 g22 f30 g30 f31 g31 f32 g32 f40 g40 f41 g41 f42 g42
  rintro e w6 ⟨rfl, hx⟩
  have hb := of_allocs2 hx
  clear hx
  have B15 := Lib.hid (B10.out.below hb)
  have B16 := Lib.hid (B11.out.below hb)
  have B17 := Lib.hid (B12.out.below hb)
  have B18 := Lib.hid (B13.out.below hb)
  have B19 := Lib.hid (B14.out.below hb)
  have HW119 := Lib.hid (HW.out.trans (hb.mono HW.out.size))
  clear hb HW B10 B11 B12 B13 B14
  have HW := HW119
  clear HW119
  have f00 := B15.out.c0
  have g00 := fun o => (B15.out.alloc o).c0
  have f01 := B15.out.c1
  have g01 := fun o => (B15.out.alloc o).c1
  have f02 := B15.out.c2
  have g02 := fun o => (B15.out.alloc o).c2
  have f10 := B16.out.c0
  have g10 := fun o => (B16.out.alloc o).c0
  have f11 := B16.out.c1
  have g11 := fun o => (B16.out.alloc o).c1
  have f12 := B16.out.c2
  have g12 := fun o => (B16.out.alloc o).c2
  have f20 := B17.out.c0
  have g20 := fun o => (B17.out.alloc o).c0
  have f21 := B17.out.c1
  have g21 := fun o => (B17.out.alloc o).c1
  have f22 := B17.out.c2
  have g22 := fun o => (B17.out.alloc o).c2
  have f30 := B18.out.c0
  have g30 := fun o => (B18.out.alloc o).c0
  have f31 := B18.out.c1
  have g31 := fun o => (B18.out.alloc o).c1
  have f32 := B18.out.c2
  have g32 := fun o => (B18.out.alloc o).c2
  have f40 := B19.out.c0
  have g40 := fun o => (B19.out.alloc o).c0
  have f41 := B19.out.c1
  have g41 := fun o => (B19.out.alloc o).c1
  have f42 := B19.out.c2
  have g42 := fun o => (B19.out.alloc o).c2
  go_wp2_with fail
  refine (awake_any _).mono ?_
  clear f00 g00 f01 g01 f02 g02 f10 g10 f11 g11 f12 g12 f20 g20 f21 g21 f22 g22 f30 g30 f31 g31 f32 g32 f40 g40 f41 g41 f42 g42
  rintro e w7 ⟨rfl, hb⟩
  have HW2 := Lib.hid (HW.out.trans (hb.mono HW.out.size))
  go_wp2
  go_ret
  exact ⟨rfl, HW2.out⟩

set_option maxRecDepth 100000 in
set_option maxHeartbeats 6400000 in
theorem back_ok (v n s x r : Int) (w : World) (h2 : 0 ≤ r) (h3 : r < 4294967296) (h4 : 0 ≤ n) (h5 : n < 4294967296) (hk : kindV r = 1) (hn : n ≠ 4294967295) :
    Calls Tryd.prog 5 #[wd v n s, .int .i64 x, .int .u32 r] w fun e w' => e = .returned (.bool true) ∧ Below w.heap.size w w' := by
  have hr : r ≠ 0 := by rintro rfl; exact absurd hk (by decide)
  have c1 := fun w => install_any v n 0 r w (by decide) (by decide) h2 h3
  rw [show insR 0 r = r by simp [insR, hk], show insE 0 r = 0 by simp [insE, hk]] at c1
  have c2 := fun w => install_any v n r r w h2 h3 h2 h3
  rw [show insR r r = r by simp [insR, hr], show insE r r = 13 by simp [insE, hr]] at c2
  have c3 := fun w => release_any v n r x false w h2 h3 h4 h5
  rw [show relE n r false = 0 by simp [relE, hk], show relV v n r x false = v by simp [relV], show relN n r false = n by simp [relN], show relR n r false = 0 by simp [relR, relE, hk]] at c3
  have c4 := fun w => release_any v n r x true w h2 h3 h4 h5
  rw [show relE n r true = 0 by simp [relE, hk, hn], show relV v n r x true = x by simp [relV, relE, hk, hn], show relN n r true = n + 1 by simp [relN, relE, hk, hn], show relR n r true = 0 by simp [relR, relE, hk, hn]] at c4
  have c5 := fun w => plain_any v n r w h2 h3
  rw [show decide (r = 0) = false by simp [hr]] at c5
  have c6 := fun w => plain_any v n 0 w (by decide) (by decide)
  rw [show decide ((0 : Int) = 0) = true by decide] at c6
  have C1 := Lib.hid c1
  have C2 := Lib.hid c2
  have C3 := Lib.hid c3
  have C4 := Lib.hid c4
  have C5 := Lib.hid c5
  have C6 := Lib.hid c6
  have W0 := Lib.hid (WBox.new (w := w) (v := v) (n := n) (r := 0))
  have HW := Lib.hid (Below.refl w.heap.size w)
  clear c1 c2 c3 c4 c5 c6 hk hr h2 h3
  have hn2 : (n == 4294967295) = false := beq_eq_false_iff_ne.2 hn
  have hn3 : IntKind.u32.wrap (n + 1) = n + 1 := wraps_u32 _ (by omega) (by omega)
  clear hn h4 h5
  unfold wd at *
  go_enter Tryd.func5, Tryd.ntmps5
  go_wp2_with fail
  refine (C1.out _).mono ?_
  rintro e w1 ⟨rfl, hb⟩
  have B0 := Lib.hid ((WBox.new (v := v) (n := n) (r := 0)).below hb)
  have HW1 := Lib.hid (HW.out.trans (below_new hb))
  clear HW hb
  have HW := HW1
  clear HW1
  have f00 := B0.out.c0
  have g00 := fun o => (B0.out.alloc o).c0
  have f01 := B0.out.c1
  have g01 := fun o => (B0.out.alloc o).c1
  have f02 := B0.out.c2
  have g02 := fun o => (B0.out.alloc o).c2
  go_wp2_with fail
  refine (C2.out _).mono ?_
  clear f00 g00 f01 g01 f02 g02
  rintro e w2 ⟨rfl, hb⟩
  have B1 := Lib.hid ((B0.out.alloc _).below hb)
  have B2 := Lib.hid ((WBox.new (v := v) (n := n) (r := r)).below hb)
  have HW102 := Lib.hid (HW.out.trans ((below_new hb).mono HW.out.size))
  clear hb HW B0
  have HW := HW102
  clear HW102
  have f00 := B1.out.c0
  have g00 := fun o => (B1.out.alloc o).c0
  have f01 := B1.out.c1
  have g01 := fun o => (B1.out.alloc o).c1
  have f02 := B1.out.c2
  have g02 := fun o => (B1.out.alloc o).c2
  have f10 := B2.out.c0
  have g10 := fun o => (B2.out.alloc o).c0
  have f11 := B2.out.c1
  have g11 := fun o => (B2.out.alloc o).c1
  have f12 := B2.out.c2
  have g12 := fun o => (B2.out.alloc o).c2
  go_wp2_with fail
  refine (C3.out _).mono ?_
  clear f00 g00 f01 g01 f02 g02 f10 g10 f11 g11 f12 g12
  rintro e w3 ⟨rfl, hb⟩
  have B3 := Lib.hid ((B1.out.alloc _).below hb)
  have B4 := Lib.hid ((B2.out.alloc _).below hb)
  have B5 := Lib.hid ((WBox.new (v := v) (n := n) (r := r)).below hb)
  have HW105 := Lib.hid (HW.out.trans ((below_new hb).mono HW.out.size))
  clear hb HW B1 B2
  have HW := HW105
  clear HW105
  have f00 := B3.out.c0
  have g00 := fun o => (B3.out.alloc o).c0
  have f01 := B3.out.c1
  have g01 := fun o => (B3.out.alloc o).c1
  have f02 := B3.out.c2
  have g02 := fun o => (B3.out.alloc o).c2
  have f10 := B4.out.c0
  have g10 := fun o => (B4.out.alloc o).c0
  have f11 := B4.out.c1
  have g11 := fun o => (B4.out.alloc o).c1
  have f12 := B4.out.c2
  have g12 := fun o => (B4.out.alloc o).c2
  have f20 := B5.out.c0
  have g20 := fun o => (B5.out.alloc o).c0
  have f21 := B5.out.c1
  have g21 := fun o => (B5.out.alloc o).c1
  have f22 := B5.out.c2
  have g22 := fun o => (B5.out.alloc o).c2
  go_wp2_with fail
  refine (C4.out _).mono ?_
  clear f00 g00 f01 g01 f02 g02 f10 g10 f11 g11 f12 g12 f20 g20 f21 g21 f22 g22
  rintro e w4 ⟨rfl, hb⟩
  have B6 := Lib.hid ((B3.out.alloc _).below hb)
  have B7 := Lib.hid ((B4.out.alloc _).below hb)
  have B8 := Lib.hid ((B5.out.alloc _).below hb)
  have B9 := Lib.hid ((WBox.new (v := v) (n := n) (r := 0)).below hb)
  have HW109 := Lib.hid (HW.out.trans ((below_new hb).mono HW.out.size))
  clear hb HW B3 B4 B5
  have HW := HW109
  clear HW109
  have f00 := B6.out.c0
  have g00 := fun o => (B6.out.alloc o).c0
  have f01 := B6.out.c1
  have g01 := fun o => (B6.out.alloc o).c1
  have f02 := B6.out.c2
  have g02 := fun o => (B6.out.alloc o).c2
  have f10 := B7.out.c0
  have g10 := fun o => (B7.out.alloc o).c0
  have f11 := B7.out.c1
  have g11 := fun o => (B7.out.alloc o).c1
  have f12 := B7.out.c2
  have g12 := fun o => (B7.out.alloc o).c2
  have f20 := B8.out.c0
  have g20 := fun o => (B8.out.alloc o).c0
  have f21 := B8.out.c1
  have g21 := fun o => (B8.out.alloc o).c1
  have f22 := B8.out.c2
  have g22 := fun o => (B8.out.alloc o).c2
  have f30 := B9.out.c0
  have g30 := fun o => (B9.out.alloc o).c0
  have f31 := B9.out.c1
  have g31 := fun o => (B9.out.alloc o).c1
  have f32 := B9.out.c2
  have g32 := fun o => (B9.out.alloc o).c2
  go_wp2_with fail
  refine (C5.out _).mono ?_
  clear f00 g00 f01 g01 f02 g02 f10 g10 f11 g11 f12 g12 f20 g20 f21 g21 f22 g22 f30 g30 f31 g31 f32 g32
  rintro e w5 ⟨rfl, hx⟩
  have hb := of_allocs2 hx
  clear hx
  have B10 := Lib.hid ((B6.out.alloc _).below hb)
  have B11 := Lib.hid ((B7.out.alloc _).below hb)
  have B12 := Lib.hid ((B8.out.alloc _).below hb)
  have B13 := Lib.hid ((B9.out.alloc _).below hb)
  have B14 := Lib.hid ((WBox.new (v := x) (n := (n + 1)) (r := 0)).below hb)
  have HW114 := Lib.hid (HW.out.trans ((below_new hb).mono HW.out.size))
  clear hb HW B6 B7 B8 B9
  have HW := HW114
  clear HW114
  have f00 := B10.out.c0
  have g00 := fun o => (B10.out.alloc o).c0
  have f01 := B10.out.c1
  have g01 := fun o => (B10.out.alloc o).c1
  have f02 := B10.out.c2
  have g02 := fun o => (B10.out.alloc o).c2
  have f10 := B11.out.c0
  have g10 := fun o => (B11.out.alloc o).c0
  have f11 := B11.out.c1
  have g11 := fun o => (B11.out.alloc o).c1
  have f12 := B11.out.c2
  have g12 := fun o => (B11.out.alloc o).c2
  have f20 := B12.out.c0
  have g20 := fun o => (B12.out.alloc o).c0
  have f21 := B12.out.c1
  have g21 := fun o => (B12.out.alloc o).c1
  have f22 := B12.out.c2
  have g22 := fun o => (B12.out.alloc o).c2
  have f30 := B13.out.c0
  have g30 := fun o => (B13.out.alloc o).c0
  have f31 := B13.out.c1
  have g31 := fun o => (B13.out.alloc o).c1
  have f32 := B13.out.c2
  have g32 := fun o => (B13.out.alloc o).c2
  have f40 := B14.out.c0
  have g40 := fun o => (B14.out.alloc o).c0
  have f41 := B14.out.c1
  have g41 := fun o => (B14.out.alloc o).c1
  have f42 := B14.out.c2
  have g42 := fun o => (B14.out.alloc o).c2
  go_wp2_with fail
  refine (C6.out _).mono ?_
  clear f00 g00 f01 g01 f02 g02 f10 g10 f11 g11 f12 g12 f20 g20 f21 g21 f22 g22 f30 g30 f31 g31 f32 g32 f40 g40 f41 g41 f42 g42
  rintro e w6 ⟨rfl, hx⟩
  have hb := of_allocs2 hx
  clear hx
  have B15 := Lib.hid (B10.out.below hb)
  have B16 := Lib.hid (B11.out.below hb)
  have B17 := Lib.hid (B12.out.below hb)
  have B18 := Lib.hid (B13.out.below hb)
  have B19 := Lib.hid (B14.out.below hb)
  have HW119 := Lib.hid (HW.out.trans (hb.mono HW.out.size))
  clear hb HW B10 B11 B12 B13 B14
  have HW := HW119
  clear HW119
  have f00 := B15.out.c0
  have g00 := fun o => (B15.out.alloc o).c0
  have f01 := B15.out.c1
  have g01 := fun o => (B15.out.alloc o).c1
  have f02 := B15.out.c2
  have g02 := fun o => (B15.out.alloc o).c2
  have f10 := B16.out.c0
  have g10 := fun o => (B16.out.alloc o).c0
  have f11 := B16.out.c1
  have g11 := fun o => (B16.out.alloc o).c1
  have f12 := B16.out.c2
  have g12 := fun o => (B16.out.alloc o).c2
  have f20 := B17.out.c0
  have g20 := fun o => (B17.out.alloc o).c0
  have f21 := B17.out.c1
  have g21 := fun o => (B17.out.alloc o).c1
  have f22 := B17.out.c2
  have g22 := fun o => (B17.out.alloc o).c2
  have f30 := B18.out.c0
  have g30 := fun o => (B18.out.alloc o).c0
  have f31 := B18.out.c1
  have g31 := fun o => (B18.out.alloc o).c1
  have f32 := B18.out.c2
  have g32 := fun o => (B18.out.alloc o).c2
  have f40 := B19.out.c0
  have g40 := fun o => (B19.out.alloc o).c0
  have f41 := B19.out.c1
  have g41 := fun o => (B19.out.alloc o).c1
  have f42 := B19.out.c2
  have g42 := fun o => (B19.out.alloc o).c2
  go_wp2_with fail
  refine (awake_any _).mono ?_
  clear f00 g00 f01 g01 f02 g02 f10 g10 f11 g11 f12 g12 f20 g20 f21 g21 f22 g22 f30 g30 f31 g31 f32 g32 f40 g40 f41 g41 f42 g42
  rintro e w7 ⟨rfl, hb⟩
  have HW2 := Lib.hid (HW.out.trans (hb.mono HW.out.size))
  go_wp2
  go_ret
  exact ⟨rfl, HW2.out⟩

theorem back_any (v n s x r : Int) (w : World) (h2 : 0 ≤ r) (h3 : r < 4294967296) (h4 : 0 ≤ n) (h5 : n < 4294967296) :
    Calls Tryd.prog 5 #[wd v n s, .int .i64 x, .int .u32 r] w fun e w' => e = .returned (.bool true) ∧ Below w.heap.size w w' := by
  by_cases hk : kindV r = 1
  · by_cases hn : n = 4294967295
    · exact back_full v n s x r w h2 h3 h4 h5 hk hn
    · exact back_ok v n s x r w h2 h3 h4 h5 hk hn
  · exact back_no v n s x r w h2 h3 h4 h5 hk
end Go.Proofs.YtkccaadhjodhlaaDoor
