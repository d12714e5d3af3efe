/- The walk of the law WordHolds: true. Condition: the numbers are of their kinds. -/
import Derived.Test.YtkccaadhjodhlaaDoorWordC
import Derived.Test.YtkccaadhjodhlaaDoorWordV
import Derived.Deep.RegionHeld3
import Derived.Great.BuildSlice
import Derived.Laws.CopyOwn
set_option linter.unusedVariables false
namespace Go.Proofs.YtkccaadhjodhlaaDoor
open Go.RowKit

theorem kindV_one (r : Int) : kindV r = 1 ↔ 1 ≤ whoA r := by
  by_cases hr : r = 0
  · subst hr; decide
  · unfold kindV
    rw [if_neg hr]
    split <;> omega
theorem whoA_pos (r : Int) : whoA r = 0 ∨ 1 ≤ whoA r := by
  by_cases h : wOk (r / 16777216) (r % 16777216)
  · rw [whoA_ok h]; exact .inr h.1
  · rw [whoA_no h]; exact .inl rfl
theorem WBox.set {w : World} {b : Nat} {v n r : Int} (h : WBox w b v n r) (x : Int) : WBox (w.setCell ⟨b, 0, none⟩ (.int .i64 x)) b x n r ∧ WBox (w.setCell ⟨b, 1, none⟩ (.int .u32 x)) b v x r ∧ WBox (w.setCell ⟨b, 2, none⟩ (.int .u32 x)) b v n x :=
  ⟨heap_setCell_same w b 0 _ _ _ h, heap_setCell_same w b 1 _ _ _ h, heap_setCell_same w b 2 _ _ _ h⟩
theorem WBox.far {w : World} {b b' : Nat} {v n r : Int} (h : WBox w b v n r) (hn : b ≠ b') (o : Nat) (u : Value) : WBox (w.setCell ⟨b', o, none⟩ u) b v n r :=
  (heap_setCell_other w ⟨b', o, none⟩ b u hn).trans h
theorem WBox.row {w : World} {b : Nat} {v n r : Int} (h : WBox w b v n r) (v' n' r' : Int) : WBox (w.setRow b #[.int .i64 v', .int .u32 n', .int .u32 r']) b v' n' r' := setRow_heap w b _ _ _ _ h
theorem WBox.rowFar {w : World} {b b' : Nat} {v n r : Int} (h : WBox w b v n r) (hn : b ≠ b') (cs : Array Value) : WBox (w.setRow b' cs) b v n r := (setRow_other w b' b cs hn).trans h
theorem at_store_ {P : Program} {ops : Array Oper} {rest : List Oper} {a : Act} {w : World} {Q : Exit → Act → World → Prop} {d : Option Tmp} {ty t : TypeId} {pos : String} {x y : Operand} {aft} {g}
    (h : wpList P ops Q (⟨d, .store t x y, ty, pos, aft, g⟩ :: rest) a w) : wpList P ops Q (⟨d, .store t x y, ty, pos, aft, g⟩ :: rest) a w := h
theorem ones_word (v n r : Int) : (#[Value.int .i64 v, .int .u32 n, .int .u32 r]).all (·.oneCell') = true := by simp [Value.oneCell']
theorem size_word : (Tryd.prog.info? 33).map (·.size) = some 3 := by kernel_rfl
theorem WBox.all {w : World} {b : Nat} {v n r : Int} (h : WBox w b v n r) : w.cell? ⟨b, 0, none⟩ = some (.int .i64 v) ∧ w.cell? ⟨b, 1, none⟩ = some (.int .u32 n) ∧ w.cell? ⟨b, 2, none⟩ = some (.int .u32 r) := word_cells h
theorem WBox.drew {w : World} {b : Nat} {v n r : Int} (h : WBox w b v n r) : WBox w.drew b v n r := h

set_option maxRecDepth 100000 in
set_option maxHeartbeats 12800000 in
theorem holds_a (v n s x r : Int) (w : World) (h0 : (0 : Int) ≤ s) (h1 : (s : Int) < 4294967296) (h2 : 0 ≤ r) (h3 : r < 4294967296) (h4 : 0 ≤ n) (h5 : n < 4294967296) (hs : s ≠ 0) (hh : whoA s = 0) :
    Calls Tryd.prog 4 #[wd v n s, .int .u32 r, .int .i64 x] w fun e w' => e = .returned (.bool true) ∧ Below w.heap.size w w' := by
  have c1 := fun w => refWho_any r w h2 h3
  have c2 := fun w => install_any v n s r w h0 h1 h2 h3
  have c3 := fun w => plain_any v n s w h0 h1
  have c4 := fun w => refWho_any s w h0 h1
  have c5 := fun w => release_any v n s x false w h0 h1 h4 h5
  have c6 := fun w => release_any v n s x true w h0 h1 h4 h5
  rw [show insR s r = s by simp [insR, hs], show insE s r = 13 by simp [insE, hs]] at c2
  rw [show decide (s = 0) = false by simp [hs]] at c3
  have hk0 : kindV s ≠ 1 := fun h => by have := (kindV_one s).1 h; omega
  rw [hh] at c4
  have hsb : (s == 0) = false := beq_eq_false_iff_ne.2 hs
  rw [show relE n s false = 13 by simp [relE, hk0], show relV v n s x false = v by simp [relV, relE, hk0], show relN n s false = n by simp [relN, relE, hk0], show relR n s false = s by simp [relR, relE, hk0]] at c5
  rw [show relE n s true = 13 by simp [relE, hk0], show relV v n s x true = v by simp [relV, relE, hk0], show relN n s true = n by simp [relN, relE, hk0], show relR n s true = s by simp [relR, relE, hk0]] at c6
  have C1 := Lib.hid c1
  have C2 := Lib.hid c2
  have C3 := Lib.hid c3
  have C4 := Lib.hid c4
  have C5 := Lib.hid c5
  have C6 := Lib.hid c6
  clear c1 c2 c3 c4 c5 c6 hk0
  clear h4 h5
  clear hs hh
  clear h0 h1 h2 h3
  generalize whoB r = Yr at *
  generalize whoB s = Ys at *
  generalize whoA r = Xr at *
  unfold wd at *
  go_enter Tryd.func4, Tryd.ntmps4
  go_wp2_with fail
  refine (C1.out _).mono ?_
  rintro e w1 ⟨rfl, hx⟩
  subst w1
  clear C1
  go_wp2_with fail
  refine (C2.out _).mono ?_
  rintro e w1 ⟨rfl, hb⟩
  have B3 := (WBox.new (w := w) (v := v) (n := n) (r := s)).below hb
  have HW := Lib.hid (below_new hb)
  clear hb C2
  have f0 := B3.c0
  have f1 := B3.c1
  have f2 := B3.c2
  have g0 := fun o => (B3.alloc o).c0
  have g1 := fun o => (B3.alloc o).c1
  have g2 := fun o => (B3.alloc o).c2
  have h0 := fun o p => ((B3.alloc o).alloc p).c0
  have h1 := fun o p => ((B3.alloc o).alloc p).c1
  have h2 := fun o p => ((B3.alloc o).alloc p).c2
  go_wp2_with fail
  clear f0 f1 f2 g0 g1 g2 h0 h1 h2
  generalize hw2 : (w1.alloc (.cells _ _)).alloc (.cells _ _) = w2
  have LT := Lib.hid B3.lt
  have D3 := (B3.alloc (wdO v n s)).alloc (wdO v n s)
  have D9 := (WBox.new (w := w1) (v := v) (n := n) (r := s)).alloc (wdO v n s)
  have D11 := WBox.new (w := w1.alloc (wdO v n s)) (v := v) (n := n) (r := s)
  have hsz : w2.heap.size = w1.heap.size + 2 := by rw [← hw2]; simp
  rw [show (w1.alloc (wdO v n s)).alloc (wdO v n s) = w2 from hw2] at D3 D9 D11
  rw [show (w1.alloc (wdO v n s)).heap.size = w1.heap.size + 1 by simp] at D11
  have HW2 := Lib.hid (show Below w.heap.size w w2 by rw [← hw2]; exact (HW.out.alloc HW.out.size _).alloc (by have := HW.out.size; simp; omega) _)
  clear hw2 B3 HW
  have E3 := Lib.hid D3
  have E9 := Lib.hid D9
  have E11 := Lib.hid D11
  have HSZ := Lib.hid hsz
  clear hsz
  have y2 := And.intro D3.drew.all (And.intro D9.drew.all D11.drew.all)
  clear D3 D9 D11
  go_region_held3 (fun W => (W.cell? ⟨w.heap.size, 0, none⟩ = some (.int .i64 v) ∧ W.cell? ⟨w.heap.size, 1, none⟩ = some (.int .u32 n) ∧ W.cell? ⟨w.heap.size, 2, none⟩ = some (.int .u32 s)) ∧ (W.cell? ⟨w1.heap.size, 0, none⟩ = some (.int .i64 v) ∧ W.cell? ⟨w1.heap.size, 1, none⟩ = some (.int .u32 n) ∧ W.cell? ⟨w1.heap.size, 2, none⟩ = some (.int .u32 s)) ∧ (W.cell? ⟨w1.heap.size + 1, 0, none⟩ = some (.int .i64 v) ∧ W.cell? ⟨w1.heap.size + 1, 1, none⟩ = some (.int .u32 n) ∧ W.cell? ⟨w1.heap.size + 1, 2, none⟩ = some (.int .u32 s))) (first | exact y2 | exact y3) (first
    | (go_at_call 15; refine (C3.out _).mono ?_; rintro e w3 ⟨rfl, hx⟩; have hb3 := of_allocs2 hx; clear hx; have B33 := E3.out.drew.below hb3; have B39 := E9.out.drew.below hb3; have B311 := E11.out.drew.below hb3; have y3 := And.intro B33.all (And.intro B39.all B311.all); have E33 := Lib.hid B33; have E39 := Lib.hid B39; have E311 := Lib.hid B311; have HB3 := Lib.hid hb3; clear B33 B39 B311 hb3))


  clear y2
  clear y3 C3 E3 E9 E11 E39
  have HW3 := Lib.hid (HW2.out.drew.trans (HB3.out.mono HW2.out.size))
  have hne1 : w.heap.size ≠ w1.heap.size + 1 := by have := LT.out; omega
  have HP := Lib.hid (show w.heap.size ≤ w1.heap.size + 1 by have := LT.out; omega)
  clear HW2 HB3 LT HSZ
  generalize w1.heap.size + 1 = p at *
  have hne2 := hne1.symm
  have f0 := E33.out.c0
  have f1 := E33.out.c1
  have f2 := E33.out.c2
  go_wp2_with fail
  clear f0 f1 f2
  refine (C4.out _).mono ?_
  rintro e w4 ⟨rfl, hx⟩
  subst w4
  clear C4
  go_wp2
  go_loopw [15] (fun i wr => ∃ k : Nat, k ≤ 2 ∧ i = .int .i64 k ∧ WBox wr w.heap.size v n s ∧ (∃ a b c, WBox wr p a b c) ∧ Below w.heap.size w wr) (fun i _ => 2 - (intOf i).toNat)
  case atStart => exact ⟨0, by omega, rfl, E33.out, ⟨_, _, _, E311.out⟩, HW3.out⟩
  case round =>
    clear E33 E311 HW3
    obtain ⟨k, hk, rfl, hr3, ⟨a, b, c, hr11⟩, hrb⟩ := hrel
    have E3r := Lib.hid hr3
    have E11r := Lib.hid hr11
    have HBr := Lib.hid hrb
    clear hr3 hr11 hrb
    obtain rfl | rfl | rfl : k = 0 ∨ k = 1 ∨ k = 2 := by omega
    · have f0 := E3r.out.c0
      have f1 := E3r.out.c1
      have f2 := E3r.out.c2
      go_wp2_with fail
      clear f0 f1 f2
      refine (C5.out _).mono ?_
      rintro e w4 ⟨rfl, hb⟩
      have E3a := Lib.hid (E3r.out.below hb)
      have E11a := Lib.hid (E11r.out.below hb)
      have HBa := Lib.hid (HBr.out.trans (hb.mono HBr.out.size))
      clear hb E3r E11r HBr C5 C6
      have g0 := fun o => (E3a.out.alloc o).c0
      have g1 := fun o => (E3a.out.alloc o).c1
      have g2 := fun o => (E3a.out.alloc o).c2
      go_wp2_with (with_reducible refine at_store_ (x := .tmp 11) (y := .tmp 71) ?_; refine Hid.out ?_)
      refine Lib.hid ?_
      clear g0 g1 g2
      generalize hw5 : w4.alloc (.cells _ _) = w5
      have E3b := Lib.hid (show WBox w5 w.heap.size v n s by rw [← hw5]; exact E3a.out.alloc _)
      have E11b := Lib.hid (show WBox w5 p a b c by rw [← hw5]; exact E11a.out.alloc _)
      have E16b := Lib.hid (show WBox w5 w4.heap.size (v) (n) (s) by rw [← hw5]; exact WBox.new)
      have HBb := Lib.hid (show Below w.heap.size w w5 by rw [← hw5]; exact HBa.out.alloc HBa.out.size _)
      have hne3 : p ≠ w4.heap.size := by have := E11a.out.lt; omega
      have hne4 : w.heap.size ≠ w4.heap.size := by have := E3a.out.lt; omega
      clear hw5 E3a E11a HBa
      generalize w4.heap.size = q at *
      have hne5 := hne3.symm
      have hne6 := hne4.symm
      refine wpList_store_rowTo rfl 33 (.tmp 11) (.tmp 71) rfl rfl p _ rfl rfl 33 _ E11b.out size_word rfl (ones_word _ _ _) ?_
      generalize hw6 : w5.setRow p _ = w6
      have E3c := Lib.hid (show WBox w6 w.heap.size v n s by rw [← hw6]; exact E3b.out.rowFar hne1 _)
      have E11c := Lib.hid (show WBox w6 p v n s by rw [← hw6]; exact E11b.out.row _ _ _)
      have E16c := Lib.hid (show WBox w6 q (v) (n) (s) by rw [← hw6]; exact E16b.out.rowFar hne5 _)
      have HBc := Lib.hid (show Below w.heap.size w w6 by rw [← hw6]; exact below_setRow HBb.out HP.out _)
      clear hw6 E3b E11b E16b HBb
      have f0 := E3c.out.c0
      have f1 := E3c.out.c1
      have f2 := E3c.out.c2
      have a0 := E11c.out.c0
      have a1 := E11c.out.c1
      have a2 := E11c.out.c2
      have b0 := E16c.out.c0
      have b1 := E16c.out.c1
      have b2 := E16c.out.c2
      have fz := E11c.out.fz
      go_wp2
      go_roundw
      case rel => exact ⟨1, by omega, rfl, E3c.out, ⟨_, _, _, E11c.out⟩, HBc.out⟩
      case measure => simp [intOf]
    · have f0 := E3r.out.c0
      have f1 := E3r.out.c1
      have f2 := E3r.out.c2
      go_wp2_with fail
      clear f0 f1 f2
      refine (C6.out _).mono ?_
      rintro e w4 ⟨rfl, hb⟩
      have E3a := Lib.hid (E3r.out.below hb)
      have E11a := Lib.hid (E11r.out.below hb)
      have HBa := Lib.hid (HBr.out.trans (hb.mono HBr.out.size))
      clear hb E3r E11r HBr C5 C6
      have g0 := fun o => (E3a.out.alloc o).c0
      have g1 := fun o => (E3a.out.alloc o).c1
      have g2 := fun o => (E3a.out.alloc o).c2
      go_wp2_with (with_reducible refine at_store_ (x := .tmp 11) (y := .tmp 71) ?_; refine Hid.out ?_)
      refine Lib.hid ?_
      clear g0 g1 g2
      generalize hw5 : w4.alloc (.cells _ _) = w5
      have E3b := Lib.hid (show WBox w5 w.heap.size v n s by rw [← hw5]; exact E3a.out.alloc _)
      have E11b := Lib.hid (show WBox w5 p a b c by rw [← hw5]; exact E11a.out.alloc _)
      have E16b := Lib.hid (show WBox w5 w4.heap.size (v) (n) (s) by rw [← hw5]; exact WBox.new)
      have HBb := Lib.hid (show Below w.heap.size w w5 by rw [← hw5]; exact HBa.out.alloc HBa.out.size _)
      have hne3 : p ≠ w4.heap.size := by have := E11a.out.lt; omega
      have hne4 : w.heap.size ≠ w4.heap.size := by have := E3a.out.lt; omega
      clear hw5 E3a E11a HBa
      generalize w4.heap.size = q at *
      have hne5 := hne3.symm
      have hne6 := hne4.symm
      refine wpList_store_rowTo rfl 33 (.tmp 11) (.tmp 71) rfl rfl p _ rfl rfl 33 _ E11b.out size_word rfl (ones_word _ _ _) ?_
      generalize hw6 : w5.setRow p _ = w6
      have E3c := Lib.hid (show WBox w6 w.heap.size v n s by rw [← hw6]; exact E3b.out.rowFar hne1 _)
      have E11c := Lib.hid (show WBox w6 p v n s by rw [← hw6]; exact E11b.out.row _ _ _)
      have E16c := Lib.hid (show WBox w6 q (v) (n) (s) by rw [← hw6]; exact E16b.out.rowFar hne5 _)
      have HBc := Lib.hid (show Below w.heap.size w w6 by rw [← hw6]; exact below_setRow HBb.out HP.out _)
      clear hw6 E3b E11b E16b HBb
      have f0 := E3c.out.c0
      have f1 := E3c.out.c1
      have f2 := E3c.out.c2
      have a0 := E11c.out.c0
      have a1 := E11c.out.c1
      have a2 := E11c.out.c2
      have b0 := E16c.out.c0
      have b1 := E16c.out.c1
      have b2 := E16c.out.c2
      have fz := E11c.out.fz
      go_wp2
      go_roundw
      case rel => exact ⟨2, by omega, rfl, E3c.out, ⟨_, _, _, E11c.out⟩, HBc.out⟩
      case measure => simp [intOf]
    · go_wp2_with fail
      refine (awake_any _).mono ?_
      rintro e w4 ⟨rfl, hb⟩
      have HBa := Lib.hid (HBr.out.trans (hb.mono HBr.out.size))
      go_wp2
      go_ret
      exact ⟨rfl, HBa.out⟩

set_option maxRecDepth 100000 in
set_option maxHeartbeats 12800000 in
theorem holds_b (v n s x r : Int) (w : World) (h0 : (0 : Int) ≤ s) (h1 : (s : Int) < 4294967296) (h2 : 0 ≤ r) (h3 : r < 4294967296) (h4 : 0 ≤ n) (h5 : n < 4294967296) (hs : s ≠ 0) (hh : 1 ≤ whoA s) (hn : n = 4294967295) :
    Calls Tryd.prog 4 #[wd v n s, .int .u32 r, .int .i64 x] w fun e w' => e = .returned (.bool true) ∧ Below w.heap.size w w' := by
  have c1 := fun w => refWho_any r w h2 h3
  have c2 := fun w => install_any v n s r w h0 h1 h2 h3
  have c3 := fun w => plain_any v n s w h0 h1
  have c4 := fun w => refWho_any s w h0 h1
  have c5 := fun w => release_any v n s x false w h0 h1 h4 h5
  have c6 := fun w => release_any v n s x true w h0 h1 h4 h5
  rw [show insR s r = s by simp [insR, hs], show insE s r = 13 by simp [insE, hs]] at c2
  rw [show decide (s = 0) = false by simp [hs]] at c3
  have hk0 : kindV s = 1 := (kindV_one s).2 hh
  have hhb : (whoA s == 0) = false := beq_eq_false_iff_ne.2 (by omega)
  have hsb : (s == 0) = false := beq_eq_false_iff_ne.2 hs
  rw [show relE n s false = 0 by simp [relE, hk0], show relV v n s x false = v by simp [relV], show relN n s false = n by simp [relN], show relR n s false = 0 by simp [relR, relE, hk0]] at c5
  rw [show relE n s true = 9 by simp [relE, hk0, hn], show relV v n s x true = v by simp [relV, relE, hk0, hn], show relN n s true = n by simp [relN, relE, hk0, hn], show relR n s true = s by simp [relR, relE, hk0, hn]] at c6
  have C1 := Lib.hid c1
  have C2 := Lib.hid c2
  have C3 := Lib.hid c3
  have C4 := Lib.hid c4
  have C5 := Lib.hid c5
  have C6 := Lib.hid c6
  clear c1 c2 c3 c4 c5 c6 hk0
  subst hn
  clear h4 h5
  clear hs hh
  clear h0 h1 h2 h3
  generalize whoB r = Yr at *
  generalize whoB s = Ys at *
  generalize whoA r = Xr at *
  generalize whoA s = Xs at *
  unfold wd at *
  go_enter Tryd.func4, Tryd.ntmps4
  go_wp2_with fail
  refine (C1.out _).mono ?_
  rintro e w1 ⟨rfl, hx⟩
  subst w1
  clear C1
  go_wp2_with fail
  refine (C2.out _).mono ?_
  rintro e w1 ⟨rfl, hb⟩
  have B3 := (WBox.new (w := w) (v := v) (n := 4294967295) (r := s)).below hb
  have HW := Lib.hid (below_new hb)
  clear hb C2
  have f0 := B3.c0
  have f1 := B3.c1
  have f2 := B3.c2
  have g0 := fun o => (B3.alloc o).c0
  have g1 := fun o => (B3.alloc o).c1
  have g2 := fun o => (B3.alloc o).c2
  have h0 := fun o p => ((B3.alloc o).alloc p).c0
  have h1 := fun o p => ((B3.alloc o).alloc p).c1
  have h2 := fun o p => ((B3.alloc o).alloc p).c2
  go_wp2_with fail
  clear f0 f1 f2 g0 g1 g2 h0 h1 h2
  generalize hw2 : (w1.alloc (.cells _ _)).alloc (.cells _ _) = w2
  have LT := Lib.hid B3.lt
  have D3 := (B3.alloc (wdO v 4294967295 s)).alloc (wdO v 4294967295 s)
  have D9 := (WBox.new (w := w1) (v := v) (n := 4294967295) (r := s)).alloc (wdO v 4294967295 s)
  have D11 := WBox.new (w := w1.alloc (wdO v 4294967295 s)) (v := v) (n := 4294967295) (r := s)
  have hsz : w2.heap.size = w1.heap.size + 2 := by rw [← hw2]; simp
  rw [show (w1.alloc (wdO v 4294967295 s)).alloc (wdO v 4294967295 s) = w2 from hw2] at D3 D9 D11
  rw [show (w1.alloc (wdO v 4294967295 s)).heap.size = w1.heap.size + 1 by simp] at D11
  have HW2 := Lib.hid (show Below w.heap.size w w2 by rw [← hw2]; exact (HW.out.alloc HW.out.size _).alloc (by have := HW.out.size; simp; omega) _)
  clear hw2 B3 HW
  have E3 := Lib.hid D3
  have E9 := Lib.hid D9
  have E11 := Lib.hid D11
  have HSZ := Lib.hid hsz
  clear hsz
  have y2 := And.intro D3.drew.all (And.intro D9.drew.all D11.drew.all)
  clear D3 D9 D11
  go_region_held3 (fun W => (W.cell? ⟨w.heap.size, 0, none⟩ = some (.int .i64 v) ∧ W.cell? ⟨w.heap.size, 1, none⟩ = some (.int .u32 4294967295) ∧ W.cell? ⟨w.heap.size, 2, none⟩ = some (.int .u32 s)) ∧ (W.cell? ⟨w1.heap.size, 0, none⟩ = some (.int .i64 v) ∧ W.cell? ⟨w1.heap.size, 1, none⟩ = some (.int .u32 4294967295) ∧ W.cell? ⟨w1.heap.size, 2, none⟩ = some (.int .u32 s)) ∧ (W.cell? ⟨w1.heap.size + 1, 0, none⟩ = some (.int .i64 v) ∧ W.cell? ⟨w1.heap.size + 1, 1, none⟩ = some (.int .u32 4294967295) ∧ W.cell? ⟨w1.heap.size + 1, 2, none⟩ = some (.int .u32 s))) (first | exact y2 | exact y3) (first
    | (go_at_call 15; refine (C3.out _).mono ?_; rintro e w3 ⟨rfl, hx⟩; have hb3 := of_allocs2 hx; clear hx; have B33 := E3.out.drew.below hb3; have B39 := E9.out.drew.below hb3; have B311 := E11.out.drew.below hb3; have y3 := And.intro B33.all (And.intro B39.all B311.all); have E33 := Lib.hid B33; have E39 := Lib.hid B39; have E311 := Lib.hid B311; have HB3 := Lib.hid hb3; clear B33 B39 B311 hb3))


  clear y2
  clear y3 C3 E3 E9 E11 E39
  have HW3 := Lib.hid (HW2.out.drew.trans (HB3.out.mono HW2.out.size))
  have hne1 : w.heap.size ≠ w1.heap.size + 1 := by have := LT.out; omega
  have HP := Lib.hid (show w.heap.size ≤ w1.heap.size + 1 by have := LT.out; omega)
  clear HW2 HB3 LT HSZ
  generalize w1.heap.size + 1 = p at *
  have hne2 := hne1.symm
  have f0 := E33.out.c0
  have f1 := E33.out.c1
  have f2 := E33.out.c2
  go_wp2_with fail
  clear f0 f1 f2
  refine (C4.out _).mono ?_
  rintro e w4 ⟨rfl, hx⟩
  subst w4
  clear C4
  go_wp2
  go_loopw [15] (fun i wr => ∃ k : Nat, k ≤ 2 ∧ i = .int .i64 k ∧ WBox wr w.heap.size v 4294967295 s ∧ (∃ a b c, WBox wr p a b c) ∧ Below w.heap.size w wr) (fun i _ => 2 - (intOf i).toNat)
  case atStart => exact ⟨0, by omega, rfl, E33.out, ⟨_, _, _, E311.out⟩, HW3.out⟩
  case round =>
    clear E33 E311 HW3
    obtain ⟨k, hk, rfl, hr3, ⟨a, b, c, hr11⟩, hrb⟩ := hrel
    have E3r := Lib.hid hr3
    have E11r := Lib.hid hr11
    have HBr := Lib.hid hrb
    clear hr3 hr11 hrb
    obtain rfl | rfl | rfl : k = 0 ∨ k = 1 ∨ k = 2 := by omega
    · have f0 := E3r.out.c0
      have f1 := E3r.out.c1
      have f2 := E3r.out.c2
      go_wp2_with fail
      clear f0 f1 f2
      refine (C5.out _).mono ?_
      rintro e w4 ⟨rfl, hb⟩
      have E3a := Lib.hid (E3r.out.below hb)
      have E11a := Lib.hid (E11r.out.below hb)
      have HBa := Lib.hid (HBr.out.trans (hb.mono HBr.out.size))
      clear hb E3r E11r HBr C5 C6
      have g0 := fun o => (E3a.out.alloc o).c0
      have g1 := fun o => (E3a.out.alloc o).c1
      have g2 := fun o => (E3a.out.alloc o).c2
      go_wp2_with (with_reducible refine at_store_ (x := .tmp 11) (y := .tmp 71) ?_; refine Hid.out ?_)
      refine Lib.hid ?_
      clear g0 g1 g2
      generalize hw5 : w4.alloc (.cells _ _) = w5
      have E3b := Lib.hid (show WBox w5 w.heap.size v 4294967295 s by rw [← hw5]; exact E3a.out.alloc _)
      have E11b := Lib.hid (show WBox w5 p a b c by rw [← hw5]; exact E11a.out.alloc _)
      have E16b := Lib.hid (show WBox w5 w4.heap.size (v) (4294967295) (0) by rw [← hw5]; exact WBox.new)
      have HBb := Lib.hid (show Below w.heap.size w w5 by rw [← hw5]; exact HBa.out.alloc HBa.out.size _)
      have hne3 : p ≠ w4.heap.size := by have := E11a.out.lt; omega
      have hne4 : w.heap.size ≠ w4.heap.size := by have := E3a.out.lt; omega
      clear hw5 E3a E11a HBa
      generalize w4.heap.size = q at *
      have hne5 := hne3.symm
      have hne6 := hne4.symm
      refine wpList_store_rowTo rfl 33 (.tmp 11) (.tmp 71) rfl rfl p _ rfl rfl 33 _ E11b.out size_word rfl (ones_word _ _ _) ?_
      generalize hw6 : w5.setRow p _ = w6
      have E3c := Lib.hid (show WBox w6 w.heap.size v 4294967295 s by rw [← hw6]; exact E3b.out.rowFar hne1 _)
      have E11c := Lib.hid (show WBox w6 p v 4294967295 s by rw [← hw6]; exact E11b.out.row _ _ _)
      have E16c := Lib.hid (show WBox w6 q (v) (4294967295) (0) by rw [← hw6]; exact E16b.out.rowFar hne5 _)
      have HBc := Lib.hid (show Below w.heap.size w w6 by rw [← hw6]; exact below_setRow HBb.out HP.out _)
      clear hw6 E3b E11b E16b HBb
      have f0 := E3c.out.c0
      have f1 := E3c.out.c1
      have f2 := E3c.out.c2
      have a0 := E11c.out.c0
      have a1 := E11c.out.c1
      have a2 := E11c.out.c2
      have b0 := E16c.out.c0
      have b1 := E16c.out.c1
      have b2 := E16c.out.c2
      have fz := E11c.out.fz
      go_wp2
      go_roundw
      case rel => exact ⟨1, by omega, rfl, E3c.out.far hne1 _ _, ⟨_, _, _, (E11c.out.set 0).2.2⟩, HBc.out.setCell HP.out _⟩
      case measure => simp [intOf]
    · have f0 := E3r.out.c0
      have f1 := E3r.out.c1
      have f2 := E3r.out.c2
      go_wp2_with fail
      clear f0 f1 f2
      refine (C6.out _).mono ?_
      rintro e w4 ⟨rfl, hb⟩
      have E3a := Lib.hid (E3r.out.below hb)
      have E11a := Lib.hid (E11r.out.below hb)
      have HBa := Lib.hid (HBr.out.trans (hb.mono HBr.out.size))
      clear hb E3r E11r HBr C5 C6
      have g0 := fun o => (E3a.out.alloc o).c0
      have g1 := fun o => (E3a.out.alloc o).c1
      have g2 := fun o => (E3a.out.alloc o).c2
      go_wp2_with (with_reducible refine at_store_ (x := .tmp 11) (y := .tmp 71) ?_; refine Hid.out ?_)
      refine Lib.hid ?_
      clear g0 g1 g2
      generalize hw5 : w4.alloc (.cells _ _) = w5
      have E3b := Lib.hid (show WBox w5 w.heap.size v 4294967295 s by rw [← hw5]; exact E3a.out.alloc _)
      have E11b := Lib.hid (show WBox w5 p a b c by rw [← hw5]; exact E11a.out.alloc _)
      have E16b := Lib.hid (show WBox w5 w4.heap.size (v) (4294967295) (s) by rw [← hw5]; exact WBox.new)
      have HBb := Lib.hid (show Below w.heap.size w w5 by rw [← hw5]; exact HBa.out.alloc HBa.out.size _)
      have hne3 : p ≠ w4.heap.size := by have := E11a.out.lt; omega
      have hne4 : w.heap.size ≠ w4.heap.size := by have := E3a.out.lt; omega
      clear hw5 E3a E11a HBa
      generalize w4.heap.size = q at *
      have hne5 := hne3.symm
      have hne6 := hne4.symm
      refine wpList_store_rowTo rfl 33 (.tmp 11) (.tmp 71) rfl rfl p _ rfl rfl 33 _ E11b.out size_word rfl (ones_word _ _ _) ?_
      generalize hw6 : w5.setRow p _ = w6
      have E3c := Lib.hid (show WBox w6 w.heap.size v 4294967295 s by rw [← hw6]; exact E3b.out.rowFar hne1 _)
      have E11c := Lib.hid (show WBox w6 p v 4294967295 s by rw [← hw6]; exact E11b.out.row _ _ _)
      have E16c := Lib.hid (show WBox w6 q (v) (4294967295) (s) by rw [← hw6]; exact E16b.out.rowFar hne5 _)
      have HBc := Lib.hid (show Below w.heap.size w w6 by rw [← hw6]; exact below_setRow HBb.out HP.out _)
      clear hw6 E3b E11b E16b HBb
      have f0 := E3c.out.c0
      have f1 := E3c.out.c1
      have f2 := E3c.out.c2
      have a0 := E11c.out.c0
      have a1 := E11c.out.c1
      have a2 := E11c.out.c2
      have b0 := E16c.out.c0
      have b1 := E16c.out.c1
      have b2 := E16c.out.c2
      have fz := E11c.out.fz
      go_wp2
      go_roundw
      case rel => exact ⟨2, by omega, rfl, E3c.out, ⟨_, _, _, E11c.out⟩, HBc.out⟩
      case measure => simp [intOf]
    · go_wp2_with fail
      refine (awake_any _).mono ?_
      rintro e w4 ⟨rfl, hb⟩
      have HBa := Lib.hid (HBr.out.trans (hb.mono HBr.out.size))
      go_wp2
      go_ret
      exact ⟨rfl, HBa.out⟩

set_option maxRecDepth 100000 in
set_option maxHeartbeats 12800000 in
theorem holds_c (v n s x r : Int) (w : World) (h0 : (0 : Int) ≤ s) (h1 : (s : Int) < 4294967296) (h2 : 0 ≤ r) (h3 : r < 4294967296) (h4 : 0 ≤ n) (h5 : n < 4294967296) (hs : s ≠ 0) (hh : 1 ≤ whoA s) (hn : n ≠ 4294967295) :
    Calls Tryd.prog 4 #[wd v n s, .int .u32 r, .int .i64 x] w fun e w' => e = .returned (.bool true) ∧ Below w.heap.size w w' := by
  have c1 := fun w => refWho_any r w h2 h3
  have c2 := fun w => install_any v n s r w h0 h1 h2 h3
  have c3 := fun w => plain_any v n s w h0 h1
  have c4 := fun w => refWho_any s w h0 h1
  have c5 := fun w => release_any v n s x false w h0 h1 h4 h5
  have c6 := fun w => release_any v n s x true w h0 h1 h4 h5
  rw [show insR s r = s by simp [insR, hs], show insE s r = 13 by simp [insE, hs]] at c2
  rw [show decide (s = 0) = false by simp [hs]] at c3
  have hk0 : kindV s = 1 := (kindV_one s).2 hh
  have hhb : (whoA s == 0) = false := beq_eq_false_iff_ne.2 (by omega)
  have hsb : (s == 0) = false := beq_eq_false_iff_ne.2 hs
  rw [show relE n s false = 0 by simp [relE, hk0], show relV v n s x false = v by simp [relV], show relN n s false = n by simp [relN], show relR n s false = 0 by simp [relR, relE, hk0]] at c5
  rw [show relE n s true = 0 by simp [relE, hk0, hn], show relV v n s x true = x by simp [relV, relE, hk0, hn], show relN n s true = n + 1 by simp [relN, relE, hk0, hn], show relR n s true = 0 by simp [relR, relE, hk0, hn]] at c6
  have C1 := Lib.hid c1
  have C2 := Lib.hid c2
  have C3 := Lib.hid c3
  have C4 := Lib.hid c4
  have C5 := Lib.hid c5
  have C6 := Lib.hid c6
  clear c1 c2 c3 c4 c5 c6 hk0
  have hnb : (n == 4294967295) = false := beq_eq_false_iff_ne.2 hn
  have hnw : IntKind.u32.wrap (n + 1) = n + 1 := wraps_u32 _ (by omega) (by omega)
  clear hn h4 h5
  clear hs hh
  clear h0 h1 h2 h3
  generalize whoB r = Yr at *
  generalize whoB s = Ys at *
  generalize whoA r = Xr at *
  generalize whoA s = Xs at *
  unfold wd at *
  go_enter Tryd.func4, Tryd.ntmps4
  go_wp2_with fail
  refine (C1.out _).mono ?_
  rintro e w1 ⟨rfl, hx⟩
  subst w1
  clear C1
  go_wp2_with fail
  refine (C2.out _).mono ?_
  rintro e w1 ⟨rfl, hb⟩
  have B3 := (WBox.new (w := w) (v := v) (n := n) (r := s)).below hb
  have HW := Lib.hid (below_new hb)
  clear hb C2
  have f0 := B3.c0
  have f1 := B3.c1
  have f2 := B3.c2
  have g0 := fun o => (B3.alloc o).c0
  have g1 := fun o => (B3.alloc o).c1
  have g2 := fun o => (B3.alloc o).c2
  have h0 := fun o p => ((B3.alloc o).alloc p).c0
  have h1 := fun o p => ((B3.alloc o).alloc p).c1
  have h2 := fun o p => ((B3.alloc o).alloc p).c2
  go_wp2_with fail
  clear f0 f1 f2 g0 g1 g2 h0 h1 h2
  generalize hw2 : (w1.alloc (.cells _ _)).alloc (.cells _ _) = w2
  have LT := Lib.hid B3.lt
  have D3 := (B3.alloc (wdO v n s)).alloc (wdO v n s)
  have D9 := (WBox.new (w := w1) (v := v) (n := n) (r := s)).alloc (wdO v n s)
  have D11 := WBox.new (w := w1.alloc (wdO v n s)) (v := v) (n := n) (r := s)
  have hsz : w2.heap.size = w1.heap.size + 2 := by rw [← hw2]; simp
  rw [show (w1.alloc (wdO v n s)).alloc (wdO v n s) = w2 from hw2] at D3 D9 D11
  rw [show (w1.alloc (wdO v n s)).heap.size = w1.heap.size + 1 by simp] at D11
  have HW2 := Lib.hid (show Below w.heap.size w w2 by rw [← hw2]; exact (HW.out.alloc HW.out.size _).alloc (by have := HW.out.size; simp; omega) _)
  clear hw2 B3 HW
  have E3 := Lib.hid D3
  have E9 := Lib.hid D9
  have E11 := Lib.hid D11
  have HSZ := Lib.hid hsz
  clear hsz
  have y2 := And.intro D3.drew.all (And.intro D9.drew.all D11.drew.all)
  clear D3 D9 D11
  go_region_held3 (fun W => (W.cell? ⟨w.heap.size, 0, none⟩ = some (.int .i64 v) ∧ W.cell? ⟨w.heap.size, 1, none⟩ = some (.int .u32 n) ∧ W.cell? ⟨w.heap.size, 2, none⟩ = some (.int .u32 s)) ∧ (W.cell? ⟨w1.heap.size, 0, none⟩ = some (.int .i64 v) ∧ W.cell? ⟨w1.heap.size, 1, none⟩ = some (.int .u32 n) ∧ W.cell? ⟨w1.heap.size, 2, none⟩ = some (.int .u32 s)) ∧ (W.cell? ⟨w1.heap.size + 1, 0, none⟩ = some (.int .i64 v) ∧ W.cell? ⟨w1.heap.size + 1, 1, none⟩ = some (.int .u32 n) ∧ W.cell? ⟨w1.heap.size + 1, 2, none⟩ = some (.int .u32 s))) (first | exact y2 | exact y3) (first
    | (go_at_call 15; refine (C3.out _).mono ?_; rintro e w3 ⟨rfl, hx⟩; have hb3 := of_allocs2 hx; clear hx; have B33 := E3.out.drew.below hb3; have B39 := E9.out.drew.below hb3; have B311 := E11.out.drew.below hb3; have y3 := And.intro B33.all (And.intro B39.all B311.all); have E33 := Lib.hid B33; have E39 := Lib.hid B39; have E311 := Lib.hid B311; have HB3 := Lib.hid hb3; clear B33 B39 B311 hb3))


  clear y2
  clear y3 C3 E3 E9 E11 E39
  have HW3 := Lib.hid (HW2.out.drew.trans (HB3.out.mono HW2.out.size))
  have hne1 : w.heap.size ≠ w1.heap.size + 1 := by have := LT.out; omega
  have HP := Lib.hid (show w.heap.size ≤ w1.heap.size + 1 by have := LT.out; omega)
  clear HW2 HB3 LT HSZ
  generalize w1.heap.size + 1 = p at *
  have hne2 := hne1.symm
  have f0 := E33.out.c0
  have f1 := E33.out.c1
  have f2 := E33.out.c2
  go_wp2_with fail
  clear f0 f1 f2
  refine (C4.out _).mono ?_
  rintro e w4 ⟨rfl, hx⟩
  subst w4
  clear C4
  go_wp2
  go_loopw [15] (fun i wr => ∃ k : Nat, k ≤ 2 ∧ i = .int .i64 k ∧ WBox wr w.heap.size v n s ∧ (∃ a b c, WBox wr p a b c) ∧ Below w.heap.size w wr) (fun i _ => 2 - (intOf i).toNat)
  case atStart => exact ⟨0, by omega, rfl, E33.out, ⟨_, _, _, E311.out⟩, HW3.out⟩
  case round =>
    clear E33 E311 HW3
    obtain ⟨k, hk, rfl, hr3, ⟨a, b, c, hr11⟩, hrb⟩ := hrel
    have E3r := Lib.hid hr3
    have E11r := Lib.hid hr11
    have HBr := Lib.hid hrb
    clear hr3 hr11 hrb
    obtain rfl | rfl | rfl : k = 0 ∨ k = 1 ∨ k = 2 := by omega
    · have f0 := E3r.out.c0
      have f1 := E3r.out.c1
      have f2 := E3r.out.c2
      go_wp2_with fail
      clear f0 f1 f2
      refine (C5.out _).mono ?_
      rintro e w4 ⟨rfl, hb⟩
      have E3a := Lib.hid (E3r.out.below hb)
      have E11a := Lib.hid (E11r.out.below hb)
      have HBa := Lib.hid (HBr.out.trans (hb.mono HBr.out.size))
      clear hb E3r E11r HBr C5 C6
      have g0 := fun o => (E3a.out.alloc o).c0
      have g1 := fun o => (E3a.out.alloc o).c1
      have g2 := fun o => (E3a.out.alloc o).c2
      go_wp2_with (with_reducible refine at_store_ (x := .tmp 11) (y := .tmp 71) ?_; refine Hid.out ?_)
      refine Lib.hid ?_
      clear g0 g1 g2
      generalize hw5 : w4.alloc (.cells _ _) = w5
      have E3b := Lib.hid (show WBox w5 w.heap.size v n s by rw [← hw5]; exact E3a.out.alloc _)
      have E11b := Lib.hid (show WBox w5 p a b c by rw [← hw5]; exact E11a.out.alloc _)
      have E16b := Lib.hid (show WBox w5 w4.heap.size (v) (n) (0) by rw [← hw5]; exact WBox.new)
      have HBb := Lib.hid (show Below w.heap.size w w5 by rw [← hw5]; exact HBa.out.alloc HBa.out.size _)
      have hne3 : p ≠ w4.heap.size := by have := E11a.out.lt; omega
      have hne4 : w.heap.size ≠ w4.heap.size := by have := E3a.out.lt; omega
      clear hw5 E3a E11a HBa
      generalize w4.heap.size = q at *
      have hne5 := hne3.symm
      have hne6 := hne4.symm
      refine wpList_store_rowTo rfl 33 (.tmp 11) (.tmp 71) rfl rfl p _ rfl rfl 33 _ E11b.out size_word rfl (ones_word _ _ _) ?_
      generalize hw6 : w5.setRow p _ = w6
      have E3c := Lib.hid (show WBox w6 w.heap.size v n s by rw [← hw6]; exact E3b.out.rowFar hne1 _)
      have E11c := Lib.hid (show WBox w6 p v n s by rw [← hw6]; exact E11b.out.row _ _ _)
      have E16c := Lib.hid (show WBox w6 q (v) (n) (0) by rw [← hw6]; exact E16b.out.rowFar hne5 _)
      have HBc := Lib.hid (show Below w.heap.size w w6 by rw [← hw6]; exact below_setRow HBb.out HP.out _)
      clear hw6 E3b E11b E16b HBb
      have f0 := E3c.out.c0
      have f1 := E3c.out.c1
      have f2 := E3c.out.c2
      have a0 := E11c.out.c0
      have a1 := E11c.out.c1
      have a2 := E11c.out.c2
      have b0 := E16c.out.c0
      have b1 := E16c.out.c1
      have b2 := E16c.out.c2
      have fz := E11c.out.fz
      go_wp2
      go_roundw
      case rel => exact ⟨1, by omega, rfl, E3c.out.far hne1 _ _, ⟨_, _, _, (E11c.out.set 0).2.2⟩, HBc.out.setCell HP.out _⟩
      case measure => simp [intOf]
    · have f0 := E3r.out.c0
      have f1 := E3r.out.c1
      have f2 := E3r.out.c2
      go_wp2_with fail
      clear f0 f1 f2
      refine (C6.out _).mono ?_
      rintro e w4 ⟨rfl, hb⟩
      have E3a := Lib.hid (E3r.out.below hb)
      have E11a := Lib.hid (E11r.out.below hb)
      have HBa := Lib.hid (HBr.out.trans (hb.mono HBr.out.size))
      clear hb E3r E11r HBr C5 C6
      have g0 := fun o => (E3a.out.alloc o).c0
      have g1 := fun o => (E3a.out.alloc o).c1
      have g2 := fun o => (E3a.out.alloc o).c2
      go_wp2_with (with_reducible refine at_store_ (x := .tmp 11) (y := .tmp 71) ?_; refine Hid.out ?_)
      refine Lib.hid ?_
      clear g0 g1 g2
      generalize hw5 : w4.alloc (.cells _ _) = w5
      have E3b := Lib.hid (show WBox w5 w.heap.size v n s by rw [← hw5]; exact E3a.out.alloc _)
      have E11b := Lib.hid (show WBox w5 p a b c by rw [← hw5]; exact E11a.out.alloc _)
      have E16b := Lib.hid (show WBox w5 w4.heap.size (x) ((n + 1)) (0) by rw [← hw5]; exact WBox.new)
      have HBb := Lib.hid (show Below w.heap.size w w5 by rw [← hw5]; exact HBa.out.alloc HBa.out.size _)
      have hne3 : p ≠ w4.heap.size := by have := E11a.out.lt; omega
      have hne4 : w.heap.size ≠ w4.heap.size := by have := E3a.out.lt; omega
      clear hw5 E3a E11a HBa
      generalize w4.heap.size = q at *
      have hne5 := hne3.symm
      have hne6 := hne4.symm
      refine wpList_store_rowTo rfl 33 (.tmp 11) (.tmp 71) rfl rfl p _ rfl rfl 33 _ E11b.out size_word rfl (ones_word _ _ _) ?_
      generalize hw6 : w5.setRow p _ = w6
      have E3c := Lib.hid (show WBox w6 w.heap.size v n s by rw [← hw6]; exact E3b.out.rowFar hne1 _)
      have E11c := Lib.hid (show WBox w6 p v n s by rw [← hw6]; exact E11b.out.row _ _ _)
      have E16c := Lib.hid (show WBox w6 q (x) ((n + 1)) (0) by rw [← hw6]; exact E16b.out.rowFar hne5 _)
      have HBc := Lib.hid (show Below w.heap.size w w6 by rw [← hw6]; exact below_setRow HBb.out HP.out _)
      clear hw6 E3b E11b E16b HBb
      have f0 := E3c.out.c0
      have f1 := E3c.out.c1
      have f2 := E3c.out.c2
      have a0 := E11c.out.c0
      have a1 := E11c.out.c1
      have a2 := E11c.out.c2
      have b0 := E16c.out.c0
      have b1 := E16c.out.c1
      have b2 := E16c.out.c2
      have fz := E11c.out.fz
      go_wp2_with fail
      clear f0 f1 f2 a0 a1 a2 b0 b1 b2 fz
      generalize hw7 : w6.setCell ⟨p, 2, none⟩ _ = w7
      have E3d := Lib.hid (show WBox w7 w.heap.size v n s by rw [← hw7]; exact E3c.out.far hne1 _ _)
      have E11d := Lib.hid (show WBox w7 p v n 0 by rw [← hw7]; exact (E11c.out.set 0).2.2)
      have E16d := Lib.hid (show WBox w7 q x (n + 1) 0 by rw [← hw7]; exact E16c.out.far hne5 _ _)
      have HBd := Lib.hid (show Below w.heap.size w w7 by rw [← hw7]; exact HBc.out.setCell HP.out _)
      clear hw7 E3c E11c E16c HBc
      have f1 := E3d.out.c1
      have a0 := E11d.out.c0
      have a1 := E11d.out.c1
      have a2 := E11d.out.c2
      have b0 := E16d.out.c0
      have b1 := E16d.out.c1
      have b2 := E16d.out.c2
      have fz := E11d.out.fz
      go_region
      all_goals
        go_wp2
        go_roundw
        case rel =>
          first
            | exact ⟨2, by omega, rfl, (E3d.out.drew.far hne1 _ _).far hne1 _ _, ⟨_, _, _, (((E11d.out.drew.set x).1).set (n + 1)).2.1⟩, (HBd.out.drew.setCell HP.out _).setCell HP.out _⟩
            | exact ⟨2, by omega, rfl, (E3d.out.drew.far hne1 _ _).far hne1 _ _, ⟨_, _, _, (((E11d.out.drew.set (n + 1)).2.1).set x).1⟩, (HBd.out.drew.setCell HP.out _).setCell HP.out _⟩
        case measure => simp [intOf]
    · go_wp2_with fail
      refine (awake_any _).mono ?_
      rintro e w4 ⟨rfl, hb⟩
      have HBa := Lib.hid (HBr.out.trans (hb.mono HBr.out.size))
      go_wp2
      go_ret
      exact ⟨rfl, HBa.out⟩

set_option maxRecDepth 100000 in
set_option maxHeartbeats 12800000 in
theorem holds_d (v n s x r : Int) (w : World) (h0 : (0 : Int) ≤ 0) (h1 : (0 : Int) < 4294967296) (h2 : 0 ≤ r) (h3 : r < 4294967296) (h4 : 0 ≤ n) (h5 : n < 4294967296) (hk : whoA r = 0) :
    Calls Tryd.prog 4 #[wd v n 0, .int .u32 r, .int .i64 x] w fun e w' => e = .returned (.bool true) ∧ Below w.heap.size w w' := by
  have c1 := fun w => refWho_any r w h2 h3
  have c2 := fun w => install_any v n 0 r w h0 h1 h2 h3
  have c3 := fun w => plain_any v n 0 w h0 h1
  have c4 := fun w => refWho_any 0 w h0 h1
  have c5 := fun w => release_any v n 0 x false w h0 h1 h4 h5
  have c6 := fun w => release_any v n 0 x true w h0 h1 h4 h5
  have hk1 : kindV r ≠ 1 := fun h => by have := (kindV_one r).1 h; omega
  rw [show insR 0 r = 0 by simp [insR, hk1], show insE 0 r = 3 by simp [insE, hk1]] at c2
  rw [hk] at c1
  rw [show decide ((0 : Int) = 0) = true by decide] at c3
  rw [show whoA 0 = 0 by decide] at c4
  have hk0 : kindV 0 ≠ 1 := by decide
  rw [show relE n 0 false = 13 by simp [relE, hk0], show relV v n 0 x false = v by simp [relV, relE, hk0], show relN n 0 false = n by simp [relN, relE, hk0], show relR n 0 false = 0 by simp [relR, relE, hk0]] at c5
  rw [show relE n 0 true = 13 by simp [relE, hk0], show relV v n 0 x true = v by simp [relV, relE, hk0], show relN n 0 true = n by simp [relN, relE, hk0], show relR n 0 true = 0 by simp [relR, relE, hk0]] at c6
  have C1 := Lib.hid c1
  have C2 := Lib.hid c2
  have C3 := Lib.hid c3
  have C4 := Lib.hid c4
  have C5 := Lib.hid c5
  have C6 := Lib.hid c6
  clear c1 c2 c3 c4 c5 c6 hk0
  clear hk hk1
  clear h4 h5
  clear h0 h1 h2 h3
  generalize whoB r = Yr at *
  generalize whoB 0 = Ys at *
  unfold wd at *
  go_enter Tryd.func4, Tryd.ntmps4
  go_wp2_with fail
  refine (C1.out _).mono ?_
  rintro e w1 ⟨rfl, hx⟩
  subst w1
  clear C1
  go_wp2_with fail
  refine (C2.out _).mono ?_
  rintro e w1 ⟨rfl, hb⟩
  have B3 := (WBox.new (w := w) (v := v) (n := n) (r := 0)).below hb
  have HW := Lib.hid (below_new hb)
  clear hb C2
  have f0 := B3.c0
  have f1 := B3.c1
  have f2 := B3.c2
  have g0 := fun o => (B3.alloc o).c0
  have g1 := fun o => (B3.alloc o).c1
  have g2 := fun o => (B3.alloc o).c2
  have h0 := fun o p => ((B3.alloc o).alloc p).c0
  have h1 := fun o p => ((B3.alloc o).alloc p).c1
  have h2 := fun o p => ((B3.alloc o).alloc p).c2
  go_wp2_with fail
  clear f0 f1 f2 g0 g1 g2 h0 h1 h2
  generalize hw2 : (w1.alloc (.cells _ _)).alloc (.cells _ _) = w2
  have LT := Lib.hid B3.lt
  have D3 := (B3.alloc (wdO v n 0)).alloc (wdO v n 0)
  have D9 := (WBox.new (w := w1) (v := v) (n := n) (r := 0)).alloc (wdO v n 0)
  have D11 := WBox.new (w := w1.alloc (wdO v n 0)) (v := v) (n := n) (r := 0)
  have hsz : w2.heap.size = w1.heap.size + 2 := by rw [← hw2]; simp
  rw [show (w1.alloc (wdO v n 0)).alloc (wdO v n 0) = w2 from hw2] at D3 D9 D11
  rw [show (w1.alloc (wdO v n 0)).heap.size = w1.heap.size + 1 by simp] at D11
  have HW2 := Lib.hid (show Below w.heap.size w w2 by rw [← hw2]; exact (HW.out.alloc HW.out.size _).alloc (by have := HW.out.size; simp; omega) _)
  clear hw2 B3 HW
  have E3 := Lib.hid D3
  have E9 := Lib.hid D9
  have E11 := Lib.hid D11
  have HSZ := Lib.hid hsz
  clear hsz
  have y2 := And.intro D3.drew.all (And.intro D9.drew.all D11.drew.all)
  clear D3 D9 D11
  go_region_held3 (fun W => (W.cell? ⟨w.heap.size, 0, none⟩ = some (.int .i64 v) ∧ W.cell? ⟨w.heap.size, 1, none⟩ = some (.int .u32 n) ∧ W.cell? ⟨w.heap.size, 2, none⟩ = some (.int .u32 0)) ∧ (W.cell? ⟨w1.heap.size, 0, none⟩ = some (.int .i64 v) ∧ W.cell? ⟨w1.heap.size, 1, none⟩ = some (.int .u32 n) ∧ W.cell? ⟨w1.heap.size, 2, none⟩ = some (.int .u32 0)) ∧ (W.cell? ⟨w1.heap.size + 1, 0, none⟩ = some (.int .i64 v) ∧ W.cell? ⟨w1.heap.size + 1, 1, none⟩ = some (.int .u32 n) ∧ W.cell? ⟨w1.heap.size + 1, 2, none⟩ = some (.int .u32 0))) (first | exact y2 | exact y3) (first
    | (go_at_call 15; refine (C3.out _).mono ?_; rintro e w3 ⟨rfl, hx⟩; have hb3 := of_allocs2 hx; clear hx; have B33 := E3.out.drew.below hb3; have B39 := E9.out.drew.below hb3; have B311 := E11.out.drew.below hb3; have y3 := And.intro B33.all (And.intro B39.all B311.all); have E33 := Lib.hid B33; have E39 := Lib.hid B39; have E311 := Lib.hid B311; have HB3 := Lib.hid hb3; clear B33 B39 B311 hb3))


  clear y2
  clear y3 C3 E3 E9 E11 E39
  have HW3 := Lib.hid (HW2.out.drew.trans (HB3.out.mono HW2.out.size))
  have hne1 : w.heap.size ≠ w1.heap.size + 1 := by have := LT.out; omega
  have HP := Lib.hid (show w.heap.size ≤ w1.heap.size + 1 by have := LT.out; omega)
  clear HW2 HB3 LT HSZ
  generalize w1.heap.size + 1 = p at *
  have hne2 := hne1.symm
  have f0 := E33.out.c0
  have f1 := E33.out.c1
  have f2 := E33.out.c2
  go_wp2_with fail
  clear f0 f1 f2
  refine (C4.out _).mono ?_
  rintro e w4 ⟨rfl, hx⟩
  subst w4
  clear C4
  go_wp2
  go_loopw [15] (fun i wr => ∃ k : Nat, k ≤ 2 ∧ i = .int .i64 k ∧ WBox wr w.heap.size v n 0 ∧ (∃ a b c, WBox wr p a b c) ∧ Below w.heap.size w wr) (fun i _ => 2 - (intOf i).toNat)
  case atStart => exact ⟨0, by omega, rfl, E33.out, ⟨_, _, _, E311.out⟩, HW3.out⟩
  case round =>
    clear E33 E311 HW3
    obtain ⟨k, hk, rfl, hr3, ⟨a, b, c, hr11⟩, hrb⟩ := hrel
    have E3r := Lib.hid hr3
    have E11r := Lib.hid hr11
    have HBr := Lib.hid hrb
    clear hr3 hr11 hrb
    obtain rfl | rfl | rfl : k = 0 ∨ k = 1 ∨ k = 2 := by omega
    · have f0 := E3r.out.c0
      have f1 := E3r.out.c1
      have f2 := E3r.out.c2
      go_wp2_with fail
      clear f0 f1 f2
      refine (C5.out _).mono ?_
      rintro e w4 ⟨rfl, hb⟩
      have E3a := Lib.hid (E3r.out.below hb)
      have E11a := Lib.hid (E11r.out.below hb)
      have HBa := Lib.hid (HBr.out.trans (hb.mono HBr.out.size))
      clear hb E3r E11r HBr C5 C6
      have g0 := fun o => (E3a.out.alloc o).c0
      have g1 := fun o => (E3a.out.alloc o).c1
      have g2 := fun o => (E3a.out.alloc o).c2
      go_wp2_with (with_reducible refine at_store_ (x := .tmp 11) (y := .tmp 71) ?_; refine Hid.out ?_)
      refine Lib.hid ?_
      clear g0 g1 g2
      generalize hw5 : w4.alloc (.cells _ _) = w5
      have E3b := Lib.hid (show WBox w5 w.heap.size v n 0 by rw [← hw5]; exact E3a.out.alloc _)
      have E11b := Lib.hid (show WBox w5 p a b c by rw [← hw5]; exact E11a.out.alloc _)
      have E16b := Lib.hid (show WBox w5 w4.heap.size (v) (n) (0) by rw [← hw5]; exact WBox.new)
      have HBb := Lib.hid (show Below w.heap.size w w5 by rw [← hw5]; exact HBa.out.alloc HBa.out.size _)
      have hne3 : p ≠ w4.heap.size := by have := E11a.out.lt; omega
      have hne4 : w.heap.size ≠ w4.heap.size := by have := E3a.out.lt; omega
      clear hw5 E3a E11a HBa
      generalize w4.heap.size = q at *
      have hne5 := hne3.symm
      have hne6 := hne4.symm
      refine wpList_store_rowTo rfl 33 (.tmp 11) (.tmp 71) rfl rfl p _ rfl rfl 33 _ E11b.out size_word rfl (ones_word _ _ _) ?_
      generalize hw6 : w5.setRow p _ = w6
      have E3c := Lib.hid (show WBox w6 w.heap.size v n 0 by rw [← hw6]; exact E3b.out.rowFar hne1 _)
      have E11c := Lib.hid (show WBox w6 p v n 0 by rw [← hw6]; exact E11b.out.row _ _ _)
      have E16c := Lib.hid (show WBox w6 q (v) (n) (0) by rw [← hw6]; exact E16b.out.rowFar hne5 _)
      have HBc := Lib.hid (show Below w.heap.size w w6 by rw [← hw6]; exact below_setRow HBb.out HP.out _)
      clear hw6 E3b E11b E16b HBb
      have f0 := E3c.out.c0
      have f1 := E3c.out.c1
      have f2 := E3c.out.c2
      have a0 := E11c.out.c0
      have a1 := E11c.out.c1
      have a2 := E11c.out.c2
      have b0 := E16c.out.c0
      have b1 := E16c.out.c1
      have b2 := E16c.out.c2
      have fz := E11c.out.fz
      go_wp2
      go_roundw
      case rel => exact ⟨1, by omega, rfl, E3c.out, ⟨_, _, _, E11c.out⟩, HBc.out⟩
      case measure => simp [intOf]
    · have f0 := E3r.out.c0
      have f1 := E3r.out.c1
      have f2 := E3r.out.c2
      go_wp2_with fail
      clear f0 f1 f2
      refine (C6.out _).mono ?_
      rintro e w4 ⟨rfl, hb⟩
      have E3a := Lib.hid (E3r.out.below hb)
      have E11a := Lib.hid (E11r.out.below hb)
      have HBa := Lib.hid (HBr.out.trans (hb.mono HBr.out.size))
      clear hb E3r E11r HBr C5 C6
      have g0 := fun o => (E3a.out.alloc o).c0
      have g1 := fun o => (E3a.out.alloc o).c1
      have g2 := fun o => (E3a.out.alloc o).c2
      go_wp2_with (with_reducible refine at_store_ (x := .tmp 11) (y := .tmp 71) ?_; refine Hid.out ?_)
      refine Lib.hid ?_
      clear g0 g1 g2
      generalize hw5 : w4.alloc (.cells _ _) = w5
      have E3b := Lib.hid (show WBox w5 w.heap.size v n 0 by rw [← hw5]; exact E3a.out.alloc _)
      have E11b := Lib.hid (show WBox w5 p a b c by rw [← hw5]; exact E11a.out.alloc _)
      have E16b := Lib.hid (show WBox w5 w4.heap.size (v) (n) (0) by rw [← hw5]; exact WBox.new)
      have HBb := Lib.hid (show Below w.heap.size w w5 by rw [← hw5]; exact HBa.out.alloc HBa.out.size _)
      have hne3 : p ≠ w4.heap.size := by have := E11a.out.lt; omega
      have hne4 : w.heap.size ≠ w4.heap.size := by have := E3a.out.lt; omega
      clear hw5 E3a E11a HBa
      generalize w4.heap.size = q at *
      have hne5 := hne3.symm
      have hne6 := hne4.symm
      refine wpList_store_rowTo rfl 33 (.tmp 11) (.tmp 71) rfl rfl p _ rfl rfl 33 _ E11b.out size_word rfl (ones_word _ _ _) ?_
      generalize hw6 : w5.setRow p _ = w6
      have E3c := Lib.hid (show WBox w6 w.heap.size v n 0 by rw [← hw6]; exact E3b.out.rowFar hne1 _)
      have E11c := Lib.hid (show WBox w6 p v n 0 by rw [← hw6]; exact E11b.out.row _ _ _)
      have E16c := Lib.hid (show WBox w6 q (v) (n) (0) by rw [← hw6]; exact E16b.out.rowFar hne5 _)
      have HBc := Lib.hid (show Below w.heap.size w w6 by rw [← hw6]; exact below_setRow HBb.out HP.out _)
      clear hw6 E3b E11b E16b HBb
      have f0 := E3c.out.c0
      have f1 := E3c.out.c1
      have f2 := E3c.out.c2
      have a0 := E11c.out.c0
      have a1 := E11c.out.c1
      have a2 := E11c.out.c2
      have b0 := E16c.out.c0
      have b1 := E16c.out.c1
      have b2 := E16c.out.c2
      have fz := E11c.out.fz
      go_wp2
      go_roundw
      case rel => exact ⟨2, by omega, rfl, E3c.out, ⟨_, _, _, E11c.out⟩, HBc.out⟩
      case measure => simp [intOf]
    · go_wp2_with fail
      refine (awake_any _).mono ?_
      rintro e w4 ⟨rfl, hb⟩
      have HBa := Lib.hid (HBr.out.trans (hb.mono HBr.out.size))
      go_wp2
      go_ret
      exact ⟨rfl, HBa.out⟩

set_option maxRecDepth 100000 in
set_option maxHeartbeats 12800000 in
theorem holds_e (v n s x r : Int) (w : World) (h0 : (0 : Int) ≤ 0) (h1 : (0 : Int) < 4294967296) (h2 : 0 ≤ r) (h3 : r < 4294967296) (h4 : 0 ≤ n) (h5 : n < 4294967296) (hk : 1 ≤ whoA r) :
    Calls Tryd.prog 4 #[wd v n 0, .int .u32 r, .int .i64 x] w fun e w' => e = .returned (.bool true) ∧ Below w.heap.size w w' := by
  have c1 := fun w => refWho_any r w h2 h3
  have c2 := fun w => install_any v n 0 r w h0 h1 h2 h3
  have c3 := fun w => plain_any v n 0 w h0 h1
  have c4 := fun w => refWho_any 0 w h0 h1
  have c5 := fun w => release_any v n 0 x false w h0 h1 h4 h5
  have c6 := fun w => release_any v n 0 x true w h0 h1 h4 h5
  have hk1 : kindV r = 1 := (kindV_one r).2 hk
  rw [show insR 0 r = r by simp [insR, hk1], show insE 0 r = 0 by simp [insE, hk1]] at c2
  have hkb : (whoA r == 0) = false := beq_eq_false_iff_ne.2 (by omega)
  rw [show decide ((0 : Int) = 0) = true by decide] at c3
  rw [show whoA 0 = 0 by decide] at c4
  have hk0 : kindV 0 ≠ 1 := by decide
  rw [show relE n 0 false = 13 by simp [relE, hk0], show relV v n 0 x false = v by simp [relV, relE, hk0], show relN n 0 false = n by simp [relN, relE, hk0], show relR n 0 false = 0 by simp [relR, relE, hk0]] at c5
  rw [show relE n 0 true = 13 by simp [relE, hk0], show relV v n 0 x true = v by simp [relV, relE, hk0], show relN n 0 true = n by simp [relN, relE, hk0], show relR n 0 true = 0 by simp [relR, relE, hk0]] at c6
  have C1 := Lib.hid c1
  have C2 := Lib.hid c2
  have C3 := Lib.hid c3
  have C4 := Lib.hid c4
  have C5 := Lib.hid c5
  have C6 := Lib.hid c6
  clear c1 c2 c3 c4 c5 c6 hk0
  clear hk hk1
  clear h4 h5
  clear h0 h1 h2 h3
  generalize whoB r = Yr at *
  generalize whoB 0 = Ys at *
  generalize whoA r = Xr at *
  unfold wd at *
  go_enter Tryd.func4, Tryd.ntmps4
  go_wp2_with fail
  refine (C1.out _).mono ?_
  rintro e w1 ⟨rfl, hx⟩
  subst w1
  clear C1
  go_wp2_with fail
  refine (C2.out _).mono ?_
  rintro e w1 ⟨rfl, hb⟩
  have B3 := (WBox.new (w := w) (v := v) (n := n) (r := 0)).below hb
  have HW := Lib.hid (below_new hb)
  clear hb C2
  have f0 := B3.c0
  have f1 := B3.c1
  have f2 := B3.c2
  have g0 := fun o => (B3.alloc o).c0
  have g1 := fun o => (B3.alloc o).c1
  have g2 := fun o => (B3.alloc o).c2
  have h0 := fun o p => ((B3.alloc o).alloc p).c0
  have h1 := fun o p => ((B3.alloc o).alloc p).c1
  have h2 := fun o p => ((B3.alloc o).alloc p).c2
  go_wp2_with fail
  clear f0 f1 f2 g0 g1 g2 h0 h1 h2
  generalize hw2 : (w1.alloc (.cells _ _)).alloc (.cells _ _) = w2
  have LT := Lib.hid B3.lt
  have D3 := (B3.alloc (wdO v n r)).alloc (wdO v n r)
  have D9 := (WBox.new (w := w1) (v := v) (n := n) (r := r)).alloc (wdO v n r)
  have D11 := WBox.new (w := w1.alloc (wdO v n r)) (v := v) (n := n) (r := r)
  have hsz : w2.heap.size = w1.heap.size + 2 := by rw [← hw2]; simp
  rw [show (w1.alloc (wdO v n r)).alloc (wdO v n r) = w2 from hw2] at D3 D9 D11
  rw [show (w1.alloc (wdO v n r)).heap.size = w1.heap.size + 1 by simp] at D11
  have HW2 := Lib.hid (show Below w.heap.size w w2 by rw [← hw2]; exact (HW.out.alloc HW.out.size _).alloc (by have := HW.out.size; simp; omega) _)
  clear hw2 B3 HW
  have E3 := Lib.hid D3
  have E9 := Lib.hid D9
  have E11 := Lib.hid D11
  have HSZ := Lib.hid hsz
  clear hsz
  have y2 := And.intro D3.drew.all (And.intro D9.drew.all D11.drew.all)
  clear D3 D9 D11
  go_region_held3 (fun W => (W.cell? ⟨w.heap.size, 0, none⟩ = some (.int .i64 v) ∧ W.cell? ⟨w.heap.size, 1, none⟩ = some (.int .u32 n) ∧ W.cell? ⟨w.heap.size, 2, none⟩ = some (.int .u32 0)) ∧ (W.cell? ⟨w1.heap.size, 0, none⟩ = some (.int .i64 v) ∧ W.cell? ⟨w1.heap.size, 1, none⟩ = some (.int .u32 n) ∧ W.cell? ⟨w1.heap.size, 2, none⟩ = some (.int .u32 r)) ∧ (W.cell? ⟨w1.heap.size + 1, 0, none⟩ = some (.int .i64 v) ∧ W.cell? ⟨w1.heap.size + 1, 1, none⟩ = some (.int .u32 n) ∧ W.cell? ⟨w1.heap.size + 1, 2, none⟩ = some (.int .u32 r))) (first | exact y2 | exact y3) (first
    | (go_at_call 15; refine (C3.out _).mono ?_; rintro e w3 ⟨rfl, hx⟩; have hb3 := of_allocs2 hx; clear hx; have B33 := E3.out.drew.below hb3; have B39 := E9.out.drew.below hb3; have B311 := E11.out.drew.below hb3; have y3 := And.intro B33.all (And.intro B39.all B311.all); have E33 := Lib.hid B33; have E39 := Lib.hid B39; have E311 := Lib.hid B311; have HB3 := Lib.hid hb3; clear B33 B39 B311 hb3))


  clear y2
  clear y3 C3 E3 E9 E11 E39
  have HW3 := Lib.hid (HW2.out.drew.trans (HB3.out.mono HW2.out.size))
  have hne1 : w.heap.size ≠ w1.heap.size + 1 := by have := LT.out; omega
  have HP := Lib.hid (show w.heap.size ≤ w1.heap.size + 1 by have := LT.out; omega)
  clear HW2 HB3 LT HSZ
  generalize w1.heap.size + 1 = p at *
  have hne2 := hne1.symm
  have f0 := E33.out.c0
  have f1 := E33.out.c1
  have f2 := E33.out.c2
  go_wp2_with fail
  clear f0 f1 f2
  refine (C4.out _).mono ?_
  rintro e w4 ⟨rfl, hx⟩
  subst w4
  clear C4
  go_wp2
  go_loopw [15] (fun i wr => ∃ k : Nat, k ≤ 2 ∧ i = .int .i64 k ∧ WBox wr w.heap.size v n 0 ∧ (∃ a b c, WBox wr p a b c) ∧ Below w.heap.size w wr) (fun i _ => 2 - (intOf i).toNat)
  case atStart => exact ⟨0, by omega, rfl, E33.out, ⟨_, _, _, E311.out⟩, HW3.out⟩
  case round =>
    clear E33 E311 HW3
    obtain ⟨k, hk, rfl, hr3, ⟨a, b, c, hr11⟩, hrb⟩ := hrel
    have E3r := Lib.hid hr3
    have E11r := Lib.hid hr11
    have HBr := Lib.hid hrb
    clear hr3 hr11 hrb
    obtain rfl | rfl | rfl : k = 0 ∨ k = 1 ∨ k = 2 := by omega
    · have f0 := E3r.out.c0
      have f1 := E3r.out.c1
      have f2 := E3r.out.c2
      go_wp2_with fail
      clear f0 f1 f2
      refine (C5.out _).mono ?_
      rintro e w4 ⟨rfl, hb⟩
      have E3a := Lib.hid (E3r.out.below hb)
      have E11a := Lib.hid (E11r.out.below hb)
      have HBa := Lib.hid (HBr.out.trans (hb.mono HBr.out.size))
      clear hb E3r E11r HBr C5 C6
      have g0 := fun o => (E3a.out.alloc o).c0
      have g1 := fun o => (E3a.out.alloc o).c1
      have g2 := fun o => (E3a.out.alloc o).c2
      go_wp2_with (with_reducible refine at_store_ (x := .tmp 11) (y := .tmp 71) ?_; refine Hid.out ?_)
      refine Lib.hid ?_
      clear g0 g1 g2
      generalize hw5 : w4.alloc (.cells _ _) = w5
      have E3b := Lib.hid (show WBox w5 w.heap.size v n 0 by rw [← hw5]; exact E3a.out.alloc _)
      have E11b := Lib.hid (show WBox w5 p a b c by rw [← hw5]; exact E11a.out.alloc _)
      have E16b := Lib.hid (show WBox w5 w4.heap.size (v) (n) (0) by rw [← hw5]; exact WBox.new)
      have HBb := Lib.hid (show Below w.heap.size w w5 by rw [← hw5]; exact HBa.out.alloc HBa.out.size _)
      have hne3 : p ≠ w4.heap.size := by have := E11a.out.lt; omega
      have hne4 : w.heap.size ≠ w4.heap.size := by have := E3a.out.lt; omega
      clear hw5 E3a E11a HBa
      generalize w4.heap.size = q at *
      have hne5 := hne3.symm
      have hne6 := hne4.symm
      refine wpList_store_rowTo rfl 33 (.tmp 11) (.tmp 71) rfl rfl p _ rfl rfl 33 _ E11b.out size_word rfl (ones_word _ _ _) ?_
      generalize hw6 : w5.setRow p _ = w6
      have E3c := Lib.hid (show WBox w6 w.heap.size v n 0 by rw [← hw6]; exact E3b.out.rowFar hne1 _)
      have E11c := Lib.hid (show WBox w6 p v n 0 by rw [← hw6]; exact E11b.out.row _ _ _)
      have E16c := Lib.hid (show WBox w6 q (v) (n) (0) by rw [← hw6]; exact E16b.out.rowFar hne5 _)
      have HBc := Lib.hid (show Below w.heap.size w w6 by rw [← hw6]; exact below_setRow HBb.out HP.out _)
      clear hw6 E3b E11b E16b HBb
      have f0 := E3c.out.c0
      have f1 := E3c.out.c1
      have f2 := E3c.out.c2
      have a0 := E11c.out.c0
      have a1 := E11c.out.c1
      have a2 := E11c.out.c2
      have b0 := E16c.out.c0
      have b1 := E16c.out.c1
      have b2 := E16c.out.c2
      have fz := E11c.out.fz
      go_wp2
      go_roundw
      case rel => exact ⟨1, by omega, rfl, E3c.out, ⟨_, _, _, E11c.out⟩, HBc.out⟩
      case measure => simp [intOf]
    · have f0 := E3r.out.c0
      have f1 := E3r.out.c1
      have f2 := E3r.out.c2
      go_wp2_with fail
      clear f0 f1 f2
      refine (C6.out _).mono ?_
      rintro e w4 ⟨rfl, hb⟩
      have E3a := Lib.hid (E3r.out.below hb)
      have E11a := Lib.hid (E11r.out.below hb)
      have HBa := Lib.hid (HBr.out.trans (hb.mono HBr.out.size))
      clear hb E3r E11r HBr C5 C6
      have g0 := fun o => (E3a.out.alloc o).c0
      have g1 := fun o => (E3a.out.alloc o).c1
      have g2 := fun o => (E3a.out.alloc o).c2
      go_wp2_with (with_reducible refine at_store_ (x := .tmp 11) (y := .tmp 71) ?_; refine Hid.out ?_)
      refine Lib.hid ?_
      clear g0 g1 g2
      generalize hw5 : w4.alloc (.cells _ _) = w5
      have E3b := Lib.hid (show WBox w5 w.heap.size v n 0 by rw [← hw5]; exact E3a.out.alloc _)
      have E11b := Lib.hid (show WBox w5 p a b c by rw [← hw5]; exact E11a.out.alloc _)
      have E16b := Lib.hid (show WBox w5 w4.heap.size (v) (n) (0) by rw [← hw5]; exact WBox.new)
      have HBb := Lib.hid (show Below w.heap.size w w5 by rw [← hw5]; exact HBa.out.alloc HBa.out.size _)
      have hne3 : p ≠ w4.heap.size := by have := E11a.out.lt; omega
      have hne4 : w.heap.size ≠ w4.heap.size := by have := E3a.out.lt; omega
      clear hw5 E3a E11a HBa
      generalize w4.heap.size = q at *
      have hne5 := hne3.symm
      have hne6 := hne4.symm
      refine wpList_store_rowTo rfl 33 (.tmp 11) (.tmp 71) rfl rfl p _ rfl rfl 33 _ E11b.out size_word rfl (ones_word _ _ _) ?_
      generalize hw6 : w5.setRow p _ = w6
      have E3c := Lib.hid (show WBox w6 w.heap.size v n 0 by rw [← hw6]; exact E3b.out.rowFar hne1 _)
      have E11c := Lib.hid (show WBox w6 p v n 0 by rw [← hw6]; exact E11b.out.row _ _ _)
      have E16c := Lib.hid (show WBox w6 q (v) (n) (0) by rw [← hw6]; exact E16b.out.rowFar hne5 _)
      have HBc := Lib.hid (show Below w.heap.size w w6 by rw [← hw6]; exact below_setRow HBb.out HP.out _)
      clear hw6 E3b E11b E16b HBb
      have f0 := E3c.out.c0
      have f1 := E3c.out.c1
      have f2 := E3c.out.c2
      have a0 := E11c.out.c0
      have a1 := E11c.out.c1
      have a2 := E11c.out.c2
      have b0 := E16c.out.c0
      have b1 := E16c.out.c1
      have b2 := E16c.out.c2
      have fz := E11c.out.fz
      go_wp2
      go_roundw
      case rel => exact ⟨2, by omega, rfl, E3c.out, ⟨_, _, _, E11c.out⟩, HBc.out⟩
      case measure => simp [intOf]
    · go_wp2_with fail
      refine (awake_any _).mono ?_
      rintro e w4 ⟨rfl, hb⟩
      have HBa := Lib.hid (HBr.out.trans (hb.mono HBr.out.size))
      go_wp2
      go_ret
      exact ⟨rfl, HBa.out⟩

theorem holds_any (v n s x r : Int) (w : World) (h0 : 0 ≤ s) (h1 : s < 4294967296) (h2 : 0 ≤ r) (h3 : r < 4294967296) (h4 : 0 ≤ n) (h5 : n < 4294967296) :
    Calls Tryd.prog 4 #[wd v n s, .int .u32 r, .int .i64 x] w fun e w' => e = .returned (.bool true) ∧ Below w.heap.size w w' := by
  by_cases hs : s = 0
  · subst hs
    rcases whoA_pos r with hk | hk
    · exact holds_d v n 0 x r w h0 h1 h2 h3 h4 h5 hk
    · exact holds_e v n 0 x r w h0 h1 h2 h3 h4 h5 hk
  · rcases whoA_pos s with hk | hk
    · exact holds_a v n s x r w h0 h1 h2 h3 h4 h5 hs hk
    · by_cases hn : n = 4294967295
      · exact holds_b v n s x r w h0 h1 h2 h3 h4 h5 hs hk hn
      · exact holds_c v n s x r w h0 h1 h2 h3 h4 h5 hs hk hn
end Go.Proofs.YtkccaadhjodhlaaDoor
