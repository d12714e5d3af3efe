/- The walks of the stack's undo, Push and Pop at the pool and the root of the laws. Condition: at most 80000 writes. -/
import Derived.Test.YtkloaopjlbinpaaGreatTeD
set_option linter.unusedVariables false
set_option linter.unusedSimpArgs false
namespace Go.Proofs.YtkloaopjlbinpaaGreat
open Go.RowKit Go.MapKept

set_option maxRecDepth 100000 in
theorem undo_zero (sb eb : Nat) (m : Int) (u : FrameMode) (w : World) (h : w.cell? ⟨eb, 0, none⟩ = some (.int .i64 0)) :
    CallsD Tryz.prog 56 #[.pointer (some ⟨sb, 0, none⟩), .int .i64 m, .pointer (some ⟨eb, 0, none⟩)] u w fun e u' w' => u' = u ∧ (e = .returned (.tuple #[]) ∧ w' = w) := by
  go_enter_d Tryz.func56, Tryz.ntmps56
  go_wp2
  go_end0
  exact ⟨rfl, rfl⟩
set_option maxRecDepth 100000 in
theorem undo_err (sb eb : Nat) (er : Int) (he : er ≠ 0) (u : FrameMode) (w : World) (h : w.cell? ⟨eb, 0, none⟩ = some (.int .i64 er)) {X : Nat → Prop} {base : Nat} {g : Mem} (hs : SpE w X base sb g []) :
    CallsD Tryz.prog 56 #[.pointer (some ⟨sb, 0, none⟩), .int .i64 0, .pointer (some ⟨eb, 0, none⟩)] u w fun e u' w' => u' = u ∧ (e = .returned (.tuple #[]) ∧ w' = w) := by
  have KB := Lib.hid (show Calls Tryz.prog 42 #[.pointer (some ⟨sb, 0, none⟩), .int .i64 0] w fun e w' => e = .returned (.tuple #[]) ∧ w' = w from by obtain ⟨R, hs⟩ := hs; exact back_zero hs)
  have e1 : (er != 0) = true := by simpa using he
  have e2 : decide (er = 0) = false := by simpa using he
  clear hs he
  go_enter_d Tryz.func56, Tryz.ntmps56
  go_wp2_with fail
  refine KB.out.mono ?_
  rintro e w1 ⟨rfl, hw⟩
  subst hw
  go_wp2
  first | go_end0 | go_ret
  exact ⟨rfl, rfl⟩
set_option maxRecDepth 100000 in
set_option maxHeartbeats 6400000 in
theorem push_any {X : Nat → Prop} {w : World} {base sb : Nat} {g : Mem} {P : List (Int × Int)} (h : SpE w X base sb g P) (hX : ∀ b, w.heap.size ≤ b → X b) (hn : P.length ≤ 80000) (v a : Int) (P1 : List (Int × Int)) (hp1 : P1.length ≤ 2) (ha : inM a ∧ inM (a + 1)) (t s z : Int) (h16 : cur g (P ++ P1) 16 = t) (h17 : cur g (P ++ P1) 17 = s) (h23 : cur g (P ++ P1) 23 = z) (had : 96 ≤ a)
    (hT : ∀ (W : World) (Y : Nat → Prop), SpE W Y base sb g P → (∀ b, W.heap.size ≤ b → Y b) → Calls Tryz.prog 57 #[.agg #[.int .i64 1, .int .i64 96, .int .i64 128], .pointer (some ⟨sb, 0, none⟩)] W fun e W' => e = .returned (.tuple #[.int .i64 a, .int .i64 0]) ∧ SpE W' Y base sb g (P ++ P1) ∧ KX Y W W') :
    Calls Tryz.prog 26 #[.pointer (some ⟨sb, 0, none⟩), .agg #[.int .i64 1, .int .i64 96, .int .i64 128], .int .i64 16, .int .i64 v] w fun e w' => e = .returned (.int .i64 0) ∧ SpE w' X base sb g (P ++ P1 ++ [(a, t), (a + 1, v), (16, a), (17, IntKind.i64.wrap (s + 1)), (23, IntKind.i64.wrap (z + 1))]) ∧ KX X w w' := by
  obtain ⟨W0, hW0⟩ : ∃ W, W = w.alloc (.cells #[.int .i64 1, .int .i64 96, .int .i64 128] 53) := ⟨_, rfl⟩
  obtain ⟨W1, hW1⟩ : ∃ W, W = W0.alloc (.cells #[.int .i64 0] 44) := ⟨_, rfl⟩
  have hb0 : Below w.heap.size w W0 := by rw [hW0]; exact below_alloc _ _
  have hb1 : Below W0.heap.size W0 W1 := by rw [hW1]; exact below_alloc _ _
  have s0 : W0.heap.size = w.heap.size + 1 := by rw [hW0]; exact World.size_alloc ..
  have s1 : W1.heap.size = w.heap.size + 2 := by rw [hW1, World.size_alloc, s0]
  have hb : Below w.heap.size w W1 := hb0.trans (hb1.mono hb0.size)
  have PB := Lib.hid (show HB 53 W1 w.heap.size #[.int .i64 1, .int .i64 96, .int .i64 128] from HB.below (by rw [hW0]; exact HB.new _ _ _) hb1)
  have EB := Lib.hid (show HB 44 W1 (w.heap.size + 1) #[.int .i64 0] from by rw [hW1, ← s0]; exact HB.new _ _ _)
  have X1H := Lib.hid (show ∀ b, W1.heap.size ≤ b → X b ∧ b ≠ w.heap.size ∧ b ≠ w.heap.size + 1 from fun b hb2 => ⟨hX b (by omega), by omega, by omega⟩)
  have S0 := Lib.hid ((h.more (Y := fun b => X b ∧ b ≠ w.heap.size ∧ b ≠ w.heap.size + 1) fun b hb2 hx => ⟨hx, by omega, by omega⟩).below hb)
  have B := Lib.hid (KX.of_below (X := X) hb)
  rw [hW0] at hW1
  clear hb hb0 hb1 s0 s1 hW0
  have HN := Lib.hid (show P.length ≤ 80000 ∧ (P ++ P1).length ≤ 80002 from ⟨hn, by rw [List.length_append]; omega⟩)
  have HT := Lib.hid hT
  have HA := Lib.hid ha
  have HAD := Lib.hid had
  have H16 := Lib.hid h16
  have H17 := Lib.hid h17
  have H23 := Lib.hid h23
  have KM := Lib.hid (fun (W : World) (hS : SpE W (fun b => X b ∧ b ≠ w.heap.size ∧ b ≠ w.heap.size + 1) base sb g P) => (show Calls Tryz.prog 40 #[.pointer (some ⟨sb, 0, none⟩)] W fun e w' => e = .returned (.int .i64 P.length) ∧ w' = W from by obtain ⟨R, hS⟩ := hS; exact mark_any hS))
  have WA0 : IntKind.i64.wrap a = a := wrap_i64 _ (by have := ha.1.1; omega) (by have := ha.1.2; omega)
  have WA00 : wrap64 a = a := by rw [← WA0]; simp [IntKind.wrap_i64, wrap64]
  have WA1 : IntKind.i64.wrap (a + 1) = a + 1 := wrap_i64 _ (by have := ha.1.1; omega) (by have := ha.1.2; omega)
  have W16 : IntKind.i64.wrap (16 + 0) = 16 := by decide
  obtain ⟨m, hm⟩ : ∃ m, m = P.length := ⟨_, rfl⟩
  rw [← hm] at KM
  clear h hX hn hp1 ha h16 h17 h23 had hT hm
  go_enter_defers Tryz.func26, Tryz.ntmps26
  go_upto_region 1 with fail
  rw [← hW1]
  clear hW1
  go_wp2_with fail
  refine (KM.out _ S0.out).mono ?_
  rintro e w1 ⟨rfl, hw⟩
  subst hw
  clear KM
  have p0 : _ = some (Value.int .i64 1) := PB.out.cell 0
  have p1 : _ = some (Value.int .i64 96) := PB.out.cell 1
  have p2 : _ = some (Value.int .i64 128) := PB.out.cell 2
  go_wp2_with fail
  refine (HT.out _ _ S0.out X1H.out).mono ?_
  rintro e w2 ⟨rfl, hs, hk⟩
  have S1 := Lib.hid hs
  obtain h0 := B.out
  clear B
  have B := Lib.hid (h0.trans (hk.mono fun b _ hb => hb.1))
  clear h0
  obtain h0 := PB.out
  clear PB
  have PB := Lib.hid (h0.kx hk (fun hb => hb.2.1 rfl))
  clear h0
  obtain h0 := EB.out
  clear EB
  have EB := Lib.hid (h0.kx hk (fun hb => hb.2.2 rfl))
  clear h0
  obtain h0 := X1H.out
  clear X1H
  have X1H := Lib.hid (fun b hb => h0 b (Nat.le_trans hk.size hb))
  clear h0
  clear hs hk
  clear p0 p1 p2
  have p0 : _ = some (Value.int .i64 1) := PB.out.cell 0
  have p1 : _ = some (Value.int .i64 96) := PB.out.cell 1
  have p2 : _ = some (Value.int .i64 128) := PB.out.cell 2
  have c8 : _ = some (Value.int .i64 0) := EB.out.cell 0
  have f8 := EB.out.free 0
  have hsame := setCell_same EB.out 0 (.int .i64 0) rfl
  go_wp2_with fail
  refine (sget S1.out (by have := HN.out; omega) 16 t (by decide) H16.out).mono ?_
  rintro e w3 ⟨rfl, hs, hk⟩
  have S2 := Lib.hid hs
  obtain h0 := B.out
  clear B
  have B := Lib.hid (h0.trans (hk.mono fun b _ hb => hb.1))
  clear h0
  obtain h0 := PB.out
  clear PB
  have PB := Lib.hid (h0.kx hk (fun hb => hb.2.1 rfl))
  clear h0
  obtain h0 := EB.out
  clear EB
  have EB := Lib.hid (h0.kx hk (fun hb => hb.2.2 rfl))
  clear h0
  obtain h0 := X1H.out
  clear X1H
  have X1H := Lib.hid (fun b hb => h0 b (Nat.le_trans hk.size hb))
  clear h0
  clear hs hk
  clear c8 f8 hsame
  clear p0 p1 p2
  have p0 : _ = some (Value.int .i64 1) := PB.out.cell 0
  have p1 : _ = some (Value.int .i64 96) := PB.out.cell 1
  have p2 : _ = some (Value.int .i64 128) := PB.out.cell 2
  have c8 : _ = some (Value.int .i64 0) := EB.out.cell 0
  have f8 := EB.out.free 0
  have hsame := setCell_same EB.out 0 (.int .i64 0) rfl
  go_wp2_with fail
  refine (sput S2.out X1H.out (by have := HN.out; omega) a t HA.out.1).mono ?_
  rintro e w4 ⟨rfl, hs, hk⟩
  have S3 := Lib.hid hs
  obtain h0 := B.out
  clear B
  have B := Lib.hid (h0.trans (hk.mono fun b _ hb => hb.1))
  clear h0
  obtain h0 := PB.out
  clear PB
  have PB := Lib.hid (h0.kx hk (fun hb => hb.2.1 rfl))
  clear h0
  obtain h0 := EB.out
  clear EB
  have EB := Lib.hid (h0.kx hk (fun hb => hb.2.2 rfl))
  clear h0
  obtain h0 := X1H.out
  clear X1H
  have X1H := Lib.hid (fun b hb => h0 b (Nat.le_trans hk.size hb))
  clear h0
  clear hs hk
  clear c8 f8 hsame
  clear p0 p1 p2
  have p0 : _ = some (Value.int .i64 1) := PB.out.cell 0
  have p1 : _ = some (Value.int .i64 96) := PB.out.cell 1
  have p2 : _ = some (Value.int .i64 128) := PB.out.cell 2
  have c8 : _ = some (Value.int .i64 0) := EB.out.cell 0
  have f8 := EB.out.free 0
  have hsame := setCell_same EB.out 0 (.int .i64 0) rfl
  go_wp2_with fail
  refine (sput S3.out X1H.out (by have := HN.out; rw [List.length_append, List.length_singleton]; omega) (a + 1) v HA.out.2).mono ?_
  rintro e w5 ⟨rfl, hs, hk⟩
  have S4 := Lib.hid hs
  obtain h0 := B.out
  clear B
  have B := Lib.hid (h0.trans (hk.mono fun b _ hb => hb.1))
  clear h0
  obtain h0 := PB.out
  clear PB
  have PB := Lib.hid (h0.kx hk (fun hb => hb.2.1 rfl))
  clear h0
  obtain h0 := EB.out
  clear EB
  have EB := Lib.hid (h0.kx hk (fun hb => hb.2.2 rfl))
  clear h0
  obtain h0 := X1H.out
  clear X1H
  have X1H := Lib.hid (fun b hb => h0 b (Nat.le_trans hk.size hb))
  clear h0
  clear hs hk
  clear c8 f8 hsame
  clear p0 p1 p2
  have p0 : _ = some (Value.int .i64 1) := PB.out.cell 0
  have p1 : _ = some (Value.int .i64 96) := PB.out.cell 1
  have p2 : _ = some (Value.int .i64 128) := PB.out.cell 2
  have c8 : _ = some (Value.int .i64 0) := EB.out.cell 0
  have f8 := EB.out.free 0
  have hsame := setCell_same EB.out 0 (.int .i64 0) rfl
  go_wp2_with fail
  refine (sput S4.out X1H.out (by have := HN.out; rw [List.length_append, List.length_append, List.length_singleton, List.length_singleton]; omega) 16 a (by decide)).mono ?_
  rintro e w6 ⟨rfl, hs, hk⟩
  have S5 := Lib.hid hs
  obtain h0 := B.out
  clear B
  have B := Lib.hid (h0.trans (hk.mono fun b _ hb => hb.1))
  clear h0
  obtain h0 := PB.out
  clear PB
  have PB := Lib.hid (h0.kx hk (fun hb => hb.2.1 rfl))
  clear h0
  obtain h0 := EB.out
  clear EB
  have EB := Lib.hid (h0.kx hk (fun hb => hb.2.2 rfl))
  clear h0
  obtain h0 := X1H.out
  clear X1H
  have X1H := Lib.hid (fun b hb => h0 b (Nat.le_trans hk.size hb))
  clear h0
  clear hs hk
  clear c8 f8 hsame
  clear p0 p1 p2
  have p0 : _ = some (Value.int .i64 1) := PB.out.cell 0
  have p1 : _ = some (Value.int .i64 96) := PB.out.cell 1
  have p2 : _ = some (Value.int .i64 128) := PB.out.cell 2
  have c8 : _ = some (Value.int .i64 0) := EB.out.cell 0
  have f8 := EB.out.free 0
  have hsame := setCell_same EB.out 0 (.int .i64 0) rfl
  go_wp2_with fail
  refine (more_any S5.out X1H.out (by have := HN.out; simp only [List.length_append, List.length_singleton] at *; omega) 1 s z (by rw [cur_push, cur_push, cur_push]; unfold setI; rw [if_neg (by decide), if_neg (by have := HAD.out; omega), if_neg (by have := HAD.out; omega)]; exact H17.out) (by rw [cur_push, cur_push, cur_push]; unfold setI; rw [if_neg (by decide), if_neg (by have := HAD.out; omega), if_neg (by have := HAD.out; omega)]; exact H23.out)).mono ?_
  rintro e w7 ⟨rfl, hs, hk⟩
  have S6 := Lib.hid hs
  obtain h0 := B.out
  clear B
  have B := Lib.hid (h0.trans (hk.mono fun b _ hb => hb.1))
  clear h0
  obtain h0 := PB.out
  clear PB
  have PB := Lib.hid (h0.kx hk (fun hb => hb.2.1 rfl))
  clear h0
  obtain h0 := EB.out
  clear EB
  have EB := Lib.hid (h0.kx hk (fun hb => hb.2.2 rfl))
  clear h0
  obtain h0 := X1H.out
  clear X1H
  have X1H := Lib.hid (fun b hb => h0 b (Nat.le_trans hk.size hb))
  clear h0
  clear hs hk
  clear c8 f8 hsame
  clear p0 p1 p2
  have p0 : _ = some (Value.int .i64 1) := PB.out.cell 0
  have p1 : _ = some (Value.int .i64 96) := PB.out.cell 1
  have p2 : _ = some (Value.int .i64 128) := PB.out.cell 2
  have c8 : _ = some (Value.int .i64 0) := EB.out.cell 0
  have f8 := EB.out.free 0
  have hsame := setCell_same EB.out 0 (.int .i64 0) rfl
  go_wp2
  refine leaves_cons (f := 56) (args := #[.pointer (some ⟨sb, 0, none⟩), .int .i64 m, .pointer (some ⟨w.heap.size + 1, 0, none⟩)]) (by simp) (by simp [go_sem]) ?_
  refine (undo_zero sb (w.heap.size + 1) m .returning _ c8).mono ?_
  rintro e u' w'' ⟨rfl, rfl, rfl⟩
  refine ⟨.int .i64 0, by simp [results, go_sem, Tryz.f26, c8], rfl, ?_, B.out⟩
  obtain h0 := S6.out
  simp only [List.append_assoc, List.cons_append, List.nil_append] at h0 ⊢
  exact h0.more fun b _ h => h.1
set_option maxRecDepth 100000 in
set_option maxHeartbeats 6400000 in
theorem pop_empty {X : Nat → Prop} {w : World} {base sb : Nat} {g : Mem} (h : SpE w X base sb g []) (hX : ∀ b, w.heap.size ≤ b → X b) (h16 : g.val 16 = 0) :
    Calls Tryz.prog 31 #[.pointer (some ⟨sb, 0, none⟩), .agg #[.int .i64 1, .int .i64 96, .int .i64 128], .int .i64 16] w fun e w' => e = .returned (.tuple #[.int .i64 0, .int .i64 8]) ∧ SpE w' X base sb g [] ∧ KX X w w' := by
  obtain ⟨W0, hW0⟩ : ∃ W, W = w.alloc (.cells #[.int .i64 1, .int .i64 96, .int .i64 128] 53) := ⟨_, rfl⟩
  obtain ⟨W1, hW1⟩ : ∃ W, W = W0.alloc (.cells #[.int .i64 0] 44) := ⟨_, rfl⟩
  have hb0 : Below w.heap.size w W0 := by rw [hW0]; exact below_alloc _ _
  have hb1 : Below W0.heap.size W0 W1 := by rw [hW1]; exact below_alloc _ _
  have s0 : W0.heap.size = w.heap.size + 1 := by rw [hW0]; exact World.size_alloc ..
  have s1 : W1.heap.size = w.heap.size + 2 := by rw [hW1, World.size_alloc, s0]
  have hb : Below w.heap.size w W1 := hb0.trans (hb1.mono hb0.size)
  have PB := Lib.hid (show HB 53 W1 w.heap.size #[.int .i64 1, .int .i64 96, .int .i64 128] from HB.below (by rw [hW0]; exact HB.new _ _ _) hb1)
  have EB := Lib.hid (show HB 44 W1 (w.heap.size + 1) #[.int .i64 0] from by rw [hW1, ← s0]; exact HB.new _ _ _)
  have X1H := Lib.hid (show ∀ b, W1.heap.size ≤ b → X b ∧ b ≠ w.heap.size ∧ b ≠ w.heap.size + 1 from fun b hb2 => ⟨hX b (by omega), by omega, by omega⟩)
  have S0 := Lib.hid ((h.more (Y := fun b => X b ∧ b ≠ w.heap.size ∧ b ≠ w.heap.size + 1) fun b hb2 hx => ⟨hx, by omega, by omega⟩).below hb)
  have B := Lib.hid (KX.of_below (X := X) hb)
  rw [hW0] at hW1
  clear hb hb0 hb1 s0 s1 hW0
  have KM := Lib.hid (fun (W : World) (hS : SpE W (fun b => X b ∧ b ≠ w.heap.size ∧ b ≠ w.heap.size + 1) base sb g []) => (show Calls Tryz.prog 40 #[.pointer (some ⟨sb, 0, none⟩)] W fun e w' => e = .returned (.int .i64 0) ∧ w' = W from by obtain ⟨R, hS⟩ := hS; exact mark_any hS))
  have W16 : IntKind.i64.wrap (16 + 0) = 16 := by decide
  have H16 := Lib.hid (show cur g [] 16 = 0 from h16)
  clear h hX h16
  go_enter_defers Tryz.func31, Tryz.ntmps31
  go_upto_region 1 with fail
  rw [← hW1]
  clear hW1
  go_wp2_with fail
  refine (KM.out _ S0.out).mono ?_
  rintro e w1 ⟨rfl, hw⟩
  subst hw
  clear KM
  have p0 : _ = some (Value.int .i64 1) := PB.out.cell 0
  have p1 : _ = some (Value.int .i64 96) := PB.out.cell 1
  have p2 : _ = some (Value.int .i64 128) := PB.out.cell 2
  have c8 : _ = some (Value.int .i64 0) := EB.out.cell 0
  have f8 := EB.out.free 0
  have hsame := setCell_same EB.out 0 (.int .i64 0) rfl
  go_wp2_with fail
  refine (sget S0.out (by simp) 16 0 (by decide) H16.out).mono ?_
  rintro e w2 ⟨rfl, hs, hk⟩
  have S1 := Lib.hid hs
  obtain h0 := B.out
  clear B
  have B := Lib.hid (h0.trans (hk.mono fun b _ hb => hb.1))
  clear h0
  obtain h0 := PB.out
  clear PB
  have PB := Lib.hid (h0.kx hk (fun hb => hb.2.1 rfl))
  clear h0
  obtain h0 := EB.out
  clear EB
  have EB := Lib.hid (h0.kx hk (fun hb => hb.2.2 rfl))
  clear h0
  obtain h0 := X1H.out
  clear X1H
  have X1H := Lib.hid (fun b hb => h0 b (Nat.le_trans hk.size hb))
  clear h0
  clear hs hk
  clear c8 f8 hsame
  clear p0 p1 p2
  have p0 : _ = some (Value.int .i64 1) := PB.out.cell 0
  have p1 : _ = some (Value.int .i64 96) := PB.out.cell 1
  have p2 : _ = some (Value.int .i64 128) := PB.out.cell 2
  have c8 : _ = some (Value.int .i64 0) := EB.out.cell 0
  have f8 := EB.out.free 0
  have hsame := setCell_same EB.out 0 (.int .i64 0) rfl
  obtain ⟨w3, hw3⟩ : ∃ W, W = w2.setCell ⟨w.heap.size + 1, 0, none⟩ (.int .i64 8) := ⟨_, rfl⟩
  have gb := gr_put w2 (w.heap.size + 1) 0 (.int .i64 8)
  rw [← hw3] at gb
  have hk : KX (fun b => b = w.heap.size + 1) w2 w3 := KX.of_grown gb fun k e => (Option.some.inj e).symm
  have S3 := Lib.hid (S1.out.kx hk fun b _ hb e => hb.2.2 e)
  have EB3 := Lib.hid (show HB 44 w3 (w.heap.size + 1) #[.int .i64 8] from by rw [hw3]; exact EB.out.set 0 (.int .i64 8))
  have hn1 : w.heap.size ≤ w.heap.size + 1 := Nat.le_succ _
  have B3 := Lib.hid (show KX X w w3 from ⟨hk.os.trans B.out.os, hk.tape.trans B.out.tape, hk.output.trans B.out.output, Nat.le_trans B.out.size hk.size, fun b hb hx => (hk.block b (Nat.lt_of_lt_of_le hb B.out.size) (by omega)).trans (B.out.block b hb hx)⟩)
  have c83 : w3.cell? ⟨w.heap.size + 1, 0, none⟩ = some (.int .i64 8) := EB3.out.cell 0
  clear gb hk hn1 hsame
  go_wp2
  try rw [← hw3]
  clear hw3
  refine leaves_cons (f := 56) (args := #[.pointer (some ⟨sb, 0, none⟩), .int .i64 0, .pointer (some ⟨w.heap.size + 1, 0, none⟩)]) (by simp) (by simp [go_sem]) ?_
  refine ((undo_err sb (w.heap.size + 1) 8 (by decide) .returning _ c83 S3.out)).mono ?_
  rintro e u' w'' ⟨rfl, rfl, rfl⟩
  refine ⟨.tuple #[.int .i64 0, .int .i64 8], by simp [results, go_sem, Tryz.f31, c83], rfl, S3.out.more fun b _ h => h.1, B3.out⟩
set_option maxRecDepth 100000 in
set_option maxHeartbeats 6400000 in
theorem pop_any {X : Nat → Prop} {w : World} {base sb : Nat} {g : Mem} {P : List (Int × Int)} (h : SpE w X base sb g P) (hX : ∀ b, w.heap.size ≤ b → X b) (hn : P.length ≤ 70000) (k : Nat) (hk : k < 128) (a x v y f s z : Int) (ha : a = 96 + 8 * (k : Int)) (h16 : cur g P 16 = a) (hx : cur g P a = x) (hv : cur g P (a + 1) = v) (h1 : cur g P 1 = y) (h3 : cur g P 3 = f) (h17 : cur g P 17 = s) (h23 : cur g P 23 = z) :
    Calls Tryz.prog 31 #[.pointer (some ⟨sb, 0, none⟩), .agg #[.int .i64 1, .int .i64 96, .int .i64 128], .int .i64 16] w fun e w' => e = .returned (.tuple #[.int .i64 v, .int .i64 0]) ∧ SpE w' X base sb g (P ++ [(a, y), (1, a), (3, IntKind.i64.wrap (f + 1)), (16, x), (17, IntKind.i64.wrap (s + -1)), (23, IntKind.i64.wrap (z + -1))]) ∧ KX X w w' := by
  obtain ⟨W0, hW0⟩ : ∃ W, W = w.alloc (.cells #[.int .i64 1, .int .i64 96, .int .i64 128] 53) := ⟨_, rfl⟩
  obtain ⟨W1, hW1⟩ : ∃ W, W = W0.alloc (.cells #[.int .i64 0] 44) := ⟨_, rfl⟩
  have hb0 : Below w.heap.size w W0 := by rw [hW0]; exact below_alloc _ _
  have hb1 : Below W0.heap.size W0 W1 := by rw [hW1]; exact below_alloc _ _
  have s0 : W0.heap.size = w.heap.size + 1 := by rw [hW0]; exact World.size_alloc ..
  have s1 : W1.heap.size = w.heap.size + 2 := by rw [hW1, World.size_alloc, s0]
  have hb : Below w.heap.size w W1 := hb0.trans (hb1.mono hb0.size)
  have PB := Lib.hid (show HB 53 W1 w.heap.size #[.int .i64 1, .int .i64 96, .int .i64 128] from HB.below (by rw [hW0]; exact HB.new _ _ _) hb1)
  have EB := Lib.hid (show HB 44 W1 (w.heap.size + 1) #[.int .i64 0] from by rw [hW1, ← s0]; exact HB.new _ _ _)
  have X1H := Lib.hid (show ∀ b, W1.heap.size ≤ b → X b ∧ b ≠ w.heap.size ∧ b ≠ w.heap.size + 1 from fun b hb2 => ⟨hX b (by omega), by omega, by omega⟩)
  have S0 := Lib.hid ((h.more (Y := fun b => X b ∧ b ≠ w.heap.size ∧ b ≠ w.heap.size + 1) fun b hb2 hx => ⟨hx, by omega, by omega⟩).below hb)
  have B := Lib.hid (KX.of_below (X := X) hb)
  rw [hW0] at hW1
  clear hb hb0 hb1 s0 s1 hW0
  have KM := Lib.hid (fun (W : World) (hS : SpE W (fun b => X b ∧ b ≠ w.heap.size ∧ b ≠ w.heap.size + 1) base sb g P) => (show Calls Tryz.prog 40 #[.pointer (some ⟨sb, 0, none⟩)] W fun e w' => e = .returned (.int .i64 P.length) ∧ w' = W from by obtain ⟨R, hS⟩ := hS; exact mark_any hS))
  have W16 : IntKind.i64.wrap (16 + 0) = 16 := by decide
  have HN := Lib.hid hn
  have HK := Lib.hid hk
  have HA := Lib.hid ha
  have HIN := Lib.hid (show inM a ∧ inM (a + 1) from by unfold inM; omega)
  have H16 := Lib.hid h16
  have HX := Lib.hid hx
  have HV := Lib.hid hv
  have H1 := Lib.hid h1
  have H3 := Lib.hid h3
  have H17 := Lib.hid h17
  have H23 := Lib.hid h23
  have q1 : (a == 0) = false := by simp; omega
  have q2 : decide (a = 0) = false := by simp; omega
  have WA0 : IntKind.i64.wrap a = a := wrap_i64 _ (by omega) (by omega)
  have WA00 : wrap64 a = a := by rw [← WA0]; simp [IntKind.wrap_i64, wrap64]
  have WA1 : IntKind.i64.wrap (a + 1) = a + 1 := wrap_i64 _ (by omega) (by omega)
  obtain ⟨m, hm⟩ : ∃ m, m = P.length := ⟨_, rfl⟩
  rw [← hm] at KM
  clear h hX hn hk ha h16 hx hv h1 h3 h17 h23 hm
  go_enter_defers Tryz.func31, Tryz.ntmps31
  go_upto_region 1 with fail
  rw [← hW1]
  clear hW1
  go_wp2_with fail
  refine (KM.out _ S0.out).mono ?_
  rintro e w1 ⟨rfl, hw⟩
  subst hw
  clear KM
  have p0 : _ = some (Value.int .i64 1) := PB.out.cell 0
  have p1 : _ = some (Value.int .i64 96) := PB.out.cell 1
  have p2 : _ = some (Value.int .i64 128) := PB.out.cell 2
  have c8 : _ = some (Value.int .i64 0) := EB.out.cell 0
  have f8 := EB.out.free 0
  have hsame := setCell_same EB.out 0 (.int .i64 0) rfl
  go_wp2_with fail
  refine (sget S0.out (by have := HN.out; omega) 16 a (by decide) H16.out).mono ?_
  rintro e w2 ⟨rfl, hs, hk⟩
  have S1 := Lib.hid hs
  obtain h0 := B.out
  clear B
  have B := Lib.hid (h0.trans (hk.mono fun b _ hb => hb.1))
  clear h0
  obtain h0 := PB.out
  clear PB
  have PB := Lib.hid (h0.kx hk (fun hb => hb.2.1 rfl))
  clear h0
  obtain h0 := EB.out
  clear EB
  have EB := Lib.hid (h0.kx hk (fun hb => hb.2.2 rfl))
  clear h0
  obtain h0 := X1H.out
  clear X1H
  have X1H := Lib.hid (fun b hb => h0 b (Nat.le_trans hk.size hb))
  clear h0
  clear hs hk
  clear c8 f8 hsame
  clear p0 p1 p2
  have p0 : _ = some (Value.int .i64 1) := PB.out.cell 0
  have p1 : _ = some (Value.int .i64 96) := PB.out.cell 1
  have p2 : _ = some (Value.int .i64 128) := PB.out.cell 2
  have c8 : _ = some (Value.int .i64 0) := EB.out.cell 0
  have f8 := EB.out.free 0
  have hsame := setCell_same EB.out 0 (.int .i64 0) rfl
  go_wp2_with fail
  refine (node_any k HK.out a HA.out _).mono ?_
  rintro e w3 ⟨rfl, hb⟩
  have hk : KX (fun b => X b ∧ b ≠ w.heap.size ∧ b ≠ w.heap.size + 1) _ w3 := KX.of_below hb
  obtain h0 := S1.out
  clear S1
  have S1 := Lib.hid (h0.below hb)
  clear h0
  obtain h0 := B.out
  clear B
  have B := Lib.hid (h0.trans (hk.mono fun b _ hb => hb.1))
  clear h0
  obtain h0 := PB.out
  clear PB
  have PB := Lib.hid (h0.kx hk (fun hb => hb.2.1 rfl))
  clear h0
  obtain h0 := EB.out
  clear EB
  have EB := Lib.hid (h0.kx hk (fun hb => hb.2.2 rfl))
  clear h0
  obtain h0 := X1H.out
  clear X1H
  have X1H := Lib.hid (fun b hb => h0 b (Nat.le_trans hk.size hb))
  clear h0
  clear hb hk
  clear c8 f8 hsame
  clear p0 p1 p2
  have p0 : _ = some (Value.int .i64 1) := PB.out.cell 0
  have p1 : _ = some (Value.int .i64 96) := PB.out.cell 1
  have p2 : _ = some (Value.int .i64 128) := PB.out.cell 2
  have c8 : _ = some (Value.int .i64 0) := EB.out.cell 0
  have f8 := EB.out.free 0
  have hsame := setCell_same EB.out 0 (.int .i64 0) rfl
  go_wp2_with fail
  refine (sget S1.out (by have := HN.out; omega) a x HIN.out.1 HX.out).mono ?_
  rintro e w4 ⟨rfl, hs, hk⟩
  have S2 := Lib.hid hs
  obtain h0 := B.out
  clear B
  have B := Lib.hid (h0.trans (hk.mono fun b _ hb => hb.1))
  clear h0
  obtain h0 := PB.out
  clear PB
  have PB := Lib.hid (h0.kx hk (fun hb => hb.2.1 rfl))
  clear h0
  obtain h0 := EB.out
  clear EB
  have EB := Lib.hid (h0.kx hk (fun hb => hb.2.2 rfl))
  clear h0
  obtain h0 := X1H.out
  clear X1H
  have X1H := Lib.hid (fun b hb => h0 b (Nat.le_trans hk.size hb))
  clear h0
  clear hs hk
  clear c8 f8 hsame
  clear p0 p1 p2
  have p0 : _ = some (Value.int .i64 1) := PB.out.cell 0
  have p1 : _ = some (Value.int .i64 96) := PB.out.cell 1
  have p2 : _ = some (Value.int .i64 128) := PB.out.cell 2
  have c8 : _ = some (Value.int .i64 0) := EB.out.cell 0
  have f8 := EB.out.free 0
  have hsame := setCell_same EB.out 0 (.int .i64 0) rfl
  go_wp2_with fail
  refine (sget S2.out (by have := HN.out; omega) (a + 1) v HIN.out.2 HV.out).mono ?_
  rintro e w5 ⟨rfl, hs, hk⟩
  have S3 := Lib.hid hs
  obtain h0 := B.out
  clear B
  have B := Lib.hid (h0.trans (hk.mono fun b _ hb => hb.1))
  clear h0
  obtain h0 := PB.out
  clear PB
  have PB := Lib.hid (h0.kx hk (fun hb => hb.2.1 rfl))
  clear h0
  obtain h0 := EB.out
  clear EB
  have EB := Lib.hid (h0.kx hk (fun hb => hb.2.2 rfl))
  clear h0
  obtain h0 := X1H.out
  clear X1H
  have X1H := Lib.hid (fun b hb => h0 b (Nat.le_trans hk.size hb))
  clear h0
  clear hs hk
  clear c8 f8 hsame
  clear p0 p1 p2
  have p0 : _ = some (Value.int .i64 1) := PB.out.cell 0
  have p1 : _ = some (Value.int .i64 96) := PB.out.cell 1
  have p2 : _ = some (Value.int .i64 128) := PB.out.cell 2
  have c8 : _ = some (Value.int .i64 0) := EB.out.cell 0
  have f8 := EB.out.free 0
  have hsame := setCell_same EB.out 0 (.int .i64 0) rfl
  go_wp2_with fail
  refine (give_any S3.out X1H.out (by have := HN.out; omega) k HK.out a y f HA.out H1.out H3.out).mono ?_
  rintro e w6 ⟨rfl, hs, hk⟩
  have S4 := Lib.hid hs
  obtain h0 := B.out
  clear B
  have B := Lib.hid (h0.trans (hk.mono fun b _ hb => hb.1))
  clear h0
  obtain h0 := PB.out
  clear PB
  have PB := Lib.hid (h0.kx hk (fun hb => hb.2.1 rfl))
  clear h0
  obtain h0 := EB.out
  clear EB
  have EB := Lib.hid (h0.kx hk (fun hb => hb.2.2 rfl))
  clear h0
  obtain h0 := X1H.out
  clear X1H
  have X1H := Lib.hid (fun b hb => h0 b (Nat.le_trans hk.size hb))
  clear h0
  clear hs hk
  clear c8 f8 hsame
  clear p0 p1 p2
  have p0 : _ = some (Value.int .i64 1) := PB.out.cell 0
  have p1 : _ = some (Value.int .i64 96) := PB.out.cell 1
  have p2 : _ = some (Value.int .i64 128) := PB.out.cell 2
  have c8 : _ = some (Value.int .i64 0) := EB.out.cell 0
  have f8 := EB.out.free 0
  have hsame := setCell_same EB.out 0 (.int .i64 0) rfl
  go_wp2_with fail
  refine (sput S4.out X1H.out (by have := HN.out; simp; omega) 16 x (by decide)).mono ?_
  rintro e w7 ⟨rfl, hs, hk⟩
  have S5 := Lib.hid hs
  obtain h0 := B.out
  clear B
  have B := Lib.hid (h0.trans (hk.mono fun b _ hb => hb.1))
  clear h0
  obtain h0 := PB.out
  clear PB
  have PB := Lib.hid (h0.kx hk (fun hb => hb.2.1 rfl))
  clear h0
  obtain h0 := EB.out
  clear EB
  have EB := Lib.hid (h0.kx hk (fun hb => hb.2.2 rfl))
  clear h0
  obtain h0 := X1H.out
  clear X1H
  have X1H := Lib.hid (fun b hb => h0 b (Nat.le_trans hk.size hb))
  clear h0
  clear hs hk
  clear c8 f8 hsame
  clear p0 p1 p2
  have p0 : _ = some (Value.int .i64 1) := PB.out.cell 0
  have p1 : _ = some (Value.int .i64 96) := PB.out.cell 1
  have p2 : _ = some (Value.int .i64 128) := PB.out.cell 2
  have c8 : _ = some (Value.int .i64 0) := EB.out.cell 0
  have f8 := EB.out.free 0
  have hsame := setCell_same EB.out 0 (.int .i64 0) rfl
  go_wp2_with fail
  refine (more_any S5.out X1H.out (by have := HN.out; simp; omega) (-1) s z (by rw [List.append_assoc, cur_app]; simp only [List.cons_append, List.nil_append, List.foldl_cons, List.foldl_nil, setI]; rw [if_neg (by decide), if_neg (by decide), if_neg (by decide), if_neg (by have := HA.out; omega)]; exact H17.out) (by rw [List.append_assoc, cur_app]; simp only [List.cons_append, List.nil_append, List.foldl_cons, List.foldl_nil, setI]; rw [if_neg (by decide), if_neg (by decide), if_neg (by decide), if_neg (by have := HA.out; omega)]; exact H23.out)).mono ?_
  rintro e w8 ⟨rfl, hs, hk⟩
  have S6 := Lib.hid hs
  obtain h0 := B.out
  clear B
  have B := Lib.hid (h0.trans (hk.mono fun b _ hb => hb.1))
  clear h0
  obtain h0 := PB.out
  clear PB
  have PB := Lib.hid (h0.kx hk (fun hb => hb.2.1 rfl))
  clear h0
  obtain h0 := EB.out
  clear EB
  have EB := Lib.hid (h0.kx hk (fun hb => hb.2.2 rfl))
  clear h0
  obtain h0 := X1H.out
  clear X1H
  have X1H := Lib.hid (fun b hb => h0 b (Nat.le_trans hk.size hb))
  clear h0
  clear hs hk
  clear c8 f8 hsame
  clear p0 p1 p2
  have p0 : _ = some (Value.int .i64 1) := PB.out.cell 0
  have p1 : _ = some (Value.int .i64 96) := PB.out.cell 1
  have p2 : _ = some (Value.int .i64 128) := PB.out.cell 2
  have c8 : _ = some (Value.int .i64 0) := EB.out.cell 0
  have f8 := EB.out.free 0
  have hsame := setCell_same EB.out 0 (.int .i64 0) rfl
  go_wp2
  refine leaves_cons (f := 56) (args := #[.pointer (some ⟨sb, 0, none⟩), .int .i64 m, .pointer (some ⟨w.heap.size + 1, 0, none⟩)]) (by simp) (by simp [go_sem]) ?_
  refine ((undo_zero sb (w.heap.size + 1) m .returning _ c8)).mono ?_
  rintro e u' w'' ⟨rfl, rfl, rfl⟩
  refine ⟨.tuple #[.int .i64 v, .int .i64 0], by simp [results, go_sem, Tryz.f31, c8], rfl, ?_, B.out⟩
  obtain h0 := S6.out
  simp only [List.append_assoc, List.cons_append, List.nil_append] at h0 ⊢
  exact h0.more fun b _ h => h.1
end Go.Proofs.YtkloaopjlbinpaaGreat
