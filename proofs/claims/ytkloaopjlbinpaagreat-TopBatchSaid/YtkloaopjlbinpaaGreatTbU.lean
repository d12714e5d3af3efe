/- The walks of Commute and fits. Condition: a kind is one of 0 to 3. -/
import Derived.Test.YtkloaopjlbinpaaGreatTbT
set_option linter.unusedVariables false
set_option linter.unusedSimpArgs false
namespace Go.Proofs.YtkloaopjlbinpaaGreat
open Go.RowKit Go.MapKept

set_option maxRecDepth 100000 in
set_option maxHeartbeats 6400000 in
theorem comm_key (ka ya na kb yb nb : Int) (hy : ya ≠ yb) (w : World) : Calls Tryz.prog 55 #[.agg #[.int .i64 ka, .int .i64 ya, .int .i64 na], .agg #[.int .i64 kb, .int .i64 yb, .int .i64 nb]] w fun e w' => e = .returned (.bool (true)) ∧ Below w.heap.size w w' := by
  obtain ⟨X, hXd⟩ : ∃ X : Nat → Prop, X = fun b => w.heap.size ≤ b := ⟨_, rfl⟩
  have hX : ∀ b, w.heap.size ≤ b → X b := by rw [hXd]; exact fun _ h => h
  have HX := Lib.hid hXd
  clear hXd
  obtain ⟨W0, hW0⟩ : ∃ W, W = w.alloc (.cells #[.int .i64 ka, .int .i64 ya, .int .i64 na] 25) := ⟨_, rfl⟩
  obtain ⟨Y0, hY0⟩ : ∃ Y : Nat → Prop, Y = fun b => X b ∧ b ≠ w.heap.size := ⟨_, rfl⟩
  have e0 : W0.heap.size = w.heap.size + 1 := by rw [hW0, World.size_alloc]
  have F0 : Fr X Y0 w W0 := by rw [hW0, hY0]; exact (Fr.start hX).new _
  have A0 : Bx 25 X Y0 W0 (w.heap.size) #[.int .i64 ka, .int .i64 ya, .int .i64 na] := by rw [hW0, hY0]; exact Bx.new (Fr.start hX) _ _
  obtain ⟨W1, hW1⟩ : ∃ W, W = W0.alloc (.cells #[.int .i64 kb, .int .i64 yb, .int .i64 nb] 25) := ⟨_, rfl⟩
  obtain ⟨Y1, hY1⟩ : ∃ Y : Nat → Prop, Y = fun b => Y0 b ∧ b ≠ W0.heap.size := ⟨_, rfl⟩
  have e1 : W1.heap.size = w.heap.size + 2 := by rw [hW1, World.size_alloc, e0]
  have F1 : Fr X Y1 w W1 := by rw [hW1, hY1]; exact F0.new _
  have A1 : Bx 25 X Y1 W1 (w.heap.size) #[.int .i64 ka, .int .i64 ya, .int .i64 na] := by rw [hW1, hY1]; exact A0.old _
  have B1 : Bx 25 X Y1 W1 (w.heap.size + 1) #[.int .i64 kb, .int .i64 yb, .int .i64 nb] := by rw [hW1, hY1, ← e0]; exact Bx.new F0 _ _
  rw [hW0] at hW1
  have F := Lib.hid F1
  have A := Lib.hid A1
  have B := Lib.hid B1
  clear hY0 hY1 F0 F1 A0 A1 B1 e0 e1 hW0
  clear hX
  have q1 : (ya != yb) = true := by simpa using hy
  clear hy
  go_enter Tryz.func55, Tryz.ntmps55
  go_upto_region 1 with fail
  rw [← hW1]
  clear hW1
  have pA0 : _ = some (Value.int .i64 ka) := A.out.hb.cell 0
  have pA1 : _ = some (Value.int .i64 ya) := A.out.hb.cell 1
  have pA2 : _ = some (Value.int .i64 na) := A.out.hb.cell 2
  have pB0 : _ = some (Value.int .i64 kb) := B.out.hb.cell 0
  have pB1 : _ = some (Value.int .i64 yb) := B.out.hb.cell 1
  have pB2 : _ = some (Value.int .i64 nb) := B.out.hb.cell 2
  go_wp2
  go_ret
  exact ⟨rfl, (F.out.k.below (Nat.le_refl _) (fun b hb hx => by rw [HX.out] at hx; omega))⟩
set_option maxRecDepth 100000 in
set_option maxHeartbeats 6400000 in
theorem comm_ia (ka ya na kb nb : Int) (ha : kdOk ka) (h1 : idleB ⟨ka, ya, na⟩ = true) (w : World) : Calls Tryz.prog 55 #[.agg #[.int .i64 ka, .int .i64 ya, .int .i64 na], .agg #[.int .i64 kb, .int .i64 ya, .int .i64 nb]] w fun e w' => e = .returned (.bool (true)) ∧ Below w.heap.size w w' := by
  obtain ⟨X, hXd⟩ : ∃ X : Nat → Prop, X = fun b => w.heap.size ≤ b := ⟨_, rfl⟩
  have hX : ∀ b, w.heap.size ≤ b → X b := by rw [hXd]; exact fun _ h => h
  have HX := Lib.hid hXd
  clear hXd
  obtain ⟨W0, hW0⟩ : ∃ W, W = w.alloc (.cells #[.int .i64 ka, .int .i64 ya, .int .i64 na] 25) := ⟨_, rfl⟩
  obtain ⟨Y0, hY0⟩ : ∃ Y : Nat → Prop, Y = fun b => X b ∧ b ≠ w.heap.size := ⟨_, rfl⟩
  have e0 : W0.heap.size = w.heap.size + 1 := by rw [hW0, World.size_alloc]
  have F0 : Fr X Y0 w W0 := by rw [hW0, hY0]; exact (Fr.start hX).new _
  have A0 : Bx 25 X Y0 W0 (w.heap.size) #[.int .i64 ka, .int .i64 ya, .int .i64 na] := by rw [hW0, hY0]; exact Bx.new (Fr.start hX) _ _
  obtain ⟨W1, hW1⟩ : ∃ W, W = W0.alloc (.cells #[.int .i64 kb, .int .i64 ya, .int .i64 nb] 25) := ⟨_, rfl⟩
  obtain ⟨Y1, hY1⟩ : ∃ Y : Nat → Prop, Y = fun b => Y0 b ∧ b ≠ W0.heap.size := ⟨_, rfl⟩
  have e1 : W1.heap.size = w.heap.size + 2 := by rw [hW1, World.size_alloc, e0]
  have F1 : Fr X Y1 w W1 := by rw [hW1, hY1]; exact F0.new _
  have A1 : Bx 25 X Y1 W1 (w.heap.size) #[.int .i64 ka, .int .i64 ya, .int .i64 na] := by rw [hW1, hY1]; exact A0.old _
  have B1 : Bx 25 X Y1 W1 (w.heap.size + 1) #[.int .i64 kb, .int .i64 ya, .int .i64 nb] := by rw [hW1, hY1, ← e0]; exact Bx.new F0 _ _
  rw [hW0] at hW1
  have F := Lib.hid F1
  have A := Lib.hid A1
  have B := Lib.hid B1
  clear hY0 hY1 F0 F1 A0 A1 B1 e0 e1 hW0
  clear hX
  have q1 : (ya != ya) = false := by simp
  have HHA := Lib.hid ha
  have H1 := Lib.hid h1
  clear ha h1
  go_enter Tryz.func55, Tryz.ntmps55
  go_upto_region 1 with fail
  rw [← hW1]
  clear hW1
  have pA0 : _ = some (Value.int .i64 ka) := A.out.hb.cell 0
  have pA1 : _ = some (Value.int .i64 ya) := A.out.hb.cell 1
  have pA2 : _ = some (Value.int .i64 na) := A.out.hb.cell 2
  have pB0 : _ = some (Value.int .i64 kb) := B.out.hb.cell 0
  have pB1 : _ = some (Value.int .i64 ya) := B.out.hb.cell 1
  have pB2 : _ = some (Value.int .i64 nb) := B.out.hb.cell 2
  go_wp2_with fail
  refine (idle_any (ka) ya na HHA.out _).mono ?_
  rintro e v0 ⟨rfl, hb⟩
  rw [H1.out]
  clear pA0 pA1 pA2 pB0 pB1 pB2
  obtain h0 := F.out
  clear F
  have F := Lib.hid (h0.below hb)
  clear h0
  obtain h0 := A.out
  clear A
  have A := Lib.hid (h0.below hb)
  clear h0
  obtain h0 := B.out
  clear B
  have B := Lib.hid (h0.below hb)
  clear h0
  clear hb
  have pA0 : _ = some (Value.int .i64 ka) := A.out.hb.cell 0
  have pA1 : _ = some (Value.int .i64 ya) := A.out.hb.cell 1
  have pA2 : _ = some (Value.int .i64 na) := A.out.hb.cell 2
  have pB0 : _ = some (Value.int .i64 kb) := B.out.hb.cell 0
  have pB1 : _ = some (Value.int .i64 ya) := B.out.hb.cell 1
  have pB2 : _ = some (Value.int .i64 nb) := B.out.hb.cell 2
  go_wp2
  go_ret
  exact ⟨rfl, (F.out.k.below (Nat.le_refl _) (fun b hb hx => by rw [HX.out] at hx; omega))⟩
set_option maxRecDepth 100000 in
set_option maxHeartbeats 6400000 in
theorem comm_ib (ka ya na kb nb : Int) (ha : kdOk ka) (hb : kdOk kb) (h1 : idleB ⟨ka, ya, na⟩ = false) (h2 : idleB ⟨kb, ya, nb⟩ = true) (w : World) : Calls Tryz.prog 55 #[.agg #[.int .i64 ka, .int .i64 ya, .int .i64 na], .agg #[.int .i64 kb, .int .i64 ya, .int .i64 nb]] w fun e w' => e = .returned (.bool (true)) ∧ Below w.heap.size w w' := by
  obtain ⟨X, hXd⟩ : ∃ X : Nat → Prop, X = fun b => w.heap.size ≤ b := ⟨_, rfl⟩
  have hX : ∀ b, w.heap.size ≤ b → X b := by rw [hXd]; exact fun _ h => h
  have HX := Lib.hid hXd
  clear hXd
  obtain ⟨W0, hW0⟩ : ∃ W, W = w.alloc (.cells #[.int .i64 ka, .int .i64 ya, .int .i64 na] 25) := ⟨_, rfl⟩
  obtain ⟨Y0, hY0⟩ : ∃ Y : Nat → Prop, Y = fun b => X b ∧ b ≠ w.heap.size := ⟨_, rfl⟩
  have e0 : W0.heap.size = w.heap.size + 1 := by rw [hW0, World.size_alloc]
  have F0 : Fr X Y0 w W0 := by rw [hW0, hY0]; exact (Fr.start hX).new _
  have A0 : Bx 25 X Y0 W0 (w.heap.size) #[.int .i64 ka, .int .i64 ya, .int .i64 na] := by rw [hW0, hY0]; exact Bx.new (Fr.start hX) _ _
  obtain ⟨W1, hW1⟩ : ∃ W, W = W0.alloc (.cells #[.int .i64 kb, .int .i64 ya, .int .i64 nb] 25) := ⟨_, rfl⟩
  obtain ⟨Y1, hY1⟩ : ∃ Y : Nat → Prop, Y = fun b => Y0 b ∧ b ≠ W0.heap.size := ⟨_, rfl⟩
  have e1 : W1.heap.size = w.heap.size + 2 := by rw [hW1, World.size_alloc, e0]
  have F1 : Fr X Y1 w W1 := by rw [hW1, hY1]; exact F0.new _
  have A1 : Bx 25 X Y1 W1 (w.heap.size) #[.int .i64 ka, .int .i64 ya, .int .i64 na] := by rw [hW1, hY1]; exact A0.old _
  have B1 : Bx 25 X Y1 W1 (w.heap.size + 1) #[.int .i64 kb, .int .i64 ya, .int .i64 nb] := by rw [hW1, hY1, ← e0]; exact Bx.new F0 _ _
  rw [hW0] at hW1
  have F := Lib.hid F1
  have A := Lib.hid A1
  have B := Lib.hid B1
  clear hY0 hY1 F0 F1 A0 A1 B1 e0 e1 hW0
  clear hX
  have q1 : (ya != ya) = false := by simp
  have HHA := Lib.hid ha
  have HHB := Lib.hid hb
  have H1 := Lib.hid h1
  have H2 := Lib.hid h2
  clear ha hb h1 h2
  go_enter Tryz.func55, Tryz.ntmps55
  go_upto_region 1 with fail
  rw [← hW1]
  clear hW1
  have pA0 : _ = some (Value.int .i64 ka) := A.out.hb.cell 0
  have pA1 : _ = some (Value.int .i64 ya) := A.out.hb.cell 1
  have pA2 : _ = some (Value.int .i64 na) := A.out.hb.cell 2
  have pB0 : _ = some (Value.int .i64 kb) := B.out.hb.cell 0
  have pB1 : _ = some (Value.int .i64 ya) := B.out.hb.cell 1
  have pB2 : _ = some (Value.int .i64 nb) := B.out.hb.cell 2
  go_wp2_with fail
  refine (idle_any (ka) ya na HHA.out _).mono ?_
  rintro e v0 ⟨rfl, hb⟩
  rw [H1.out]
  clear pA0 pA1 pA2 pB0 pB1 pB2
  obtain h0 := F.out
  clear F
  have F := Lib.hid (h0.below hb)
  clear h0
  obtain h0 := A.out
  clear A
  have A := Lib.hid (h0.below hb)
  clear h0
  obtain h0 := B.out
  clear B
  have B := Lib.hid (h0.below hb)
  clear h0
  clear hb
  have pA0 : _ = some (Value.int .i64 ka) := A.out.hb.cell 0
  have pA1 : _ = some (Value.int .i64 ya) := A.out.hb.cell 1
  have pA2 : _ = some (Value.int .i64 na) := A.out.hb.cell 2
  have pB0 : _ = some (Value.int .i64 kb) := B.out.hb.cell 0
  have pB1 : _ = some (Value.int .i64 ya) := B.out.hb.cell 1
  have pB2 : _ = some (Value.int .i64 nb) := B.out.hb.cell 2
  go_wp2_with fail
  refine (idle_any (kb) ya nb HHB.out _).mono ?_
  rintro e v1 ⟨rfl, hb⟩
  rw [H2.out]
  clear pA0 pA1 pA2 pB0 pB1 pB2
  obtain h0 := F.out
  clear F
  have F := Lib.hid (h0.below hb)
  clear h0
  obtain h0 := A.out
  clear A
  have A := Lib.hid (h0.below hb)
  clear h0
  obtain h0 := B.out
  clear B
  have B := Lib.hid (h0.below hb)
  clear h0
  clear hb
  have pA0 : _ = some (Value.int .i64 ka) := A.out.hb.cell 0
  have pA1 : _ = some (Value.int .i64 ya) := A.out.hb.cell 1
  have pA2 : _ = some (Value.int .i64 na) := A.out.hb.cell 2
  have pB0 : _ = some (Value.int .i64 kb) := B.out.hb.cell 0
  have pB1 : _ = some (Value.int .i64 ya) := B.out.hb.cell 1
  have pB2 : _ = some (Value.int .i64 nb) := B.out.hb.cell 2
  have fa := A.out.hb.free
  have fb := B.out.hb.free
  have fa0 := fa 0
  have fb0 := fb 0
  have fa1 := fa 1
  have fb1 := fb 1
  have fa2 := fa 2
  have fb2 := fb 2
  clear fa fb
  go_wp2
  go_ret
  exact ⟨rfl, (F.out.k.below (Nat.le_refl _) (fun b hb hx => by rw [HX.out] at hx; omega))⟩
set_option maxRecDepth 100000 in
set_option maxHeartbeats 6400000 in
theorem comm_00 (ya na nb : Int) (h1 : idleB ⟨0, ya, na⟩ = false) (h2 : idleB ⟨0, ya, nb⟩ = false) (w : World) : Calls Tryz.prog 55 #[.agg #[.int .i64 0, .int .i64 ya, .int .i64 na], .agg #[.int .i64 0, .int .i64 ya, .int .i64 nb]] w fun e w' => e = .returned (.bool (true)) ∧ Below w.heap.size w w' := by
  obtain ⟨X, hXd⟩ : ∃ X : Nat → Prop, X = fun b => w.heap.size ≤ b := ⟨_, rfl⟩
  have hX : ∀ b, w.heap.size ≤ b → X b := by rw [hXd]; exact fun _ h => h
  have HX := Lib.hid hXd
  clear hXd
  obtain ⟨W0, hW0⟩ : ∃ W, W = w.alloc (.cells #[.int .i64 0, .int .i64 ya, .int .i64 na] 25) := ⟨_, rfl⟩
  obtain ⟨Y0, hY0⟩ : ∃ Y : Nat → Prop, Y = fun b => X b ∧ b ≠ w.heap.size := ⟨_, rfl⟩
  have e0 : W0.heap.size = w.heap.size + 1 := by rw [hW0, World.size_alloc]
  have F0 : Fr X Y0 w W0 := by rw [hW0, hY0]; exact (Fr.start hX).new _
  have A0 : Bx 25 X Y0 W0 (w.heap.size) #[.int .i64 0, .int .i64 ya, .int .i64 na] := by rw [hW0, hY0]; exact Bx.new (Fr.start hX) _ _
  obtain ⟨W1, hW1⟩ : ∃ W, W = W0.alloc (.cells #[.int .i64 0, .int .i64 ya, .int .i64 nb] 25) := ⟨_, rfl⟩
  obtain ⟨Y1, hY1⟩ : ∃ Y : Nat → Prop, Y = fun b => Y0 b ∧ b ≠ W0.heap.size := ⟨_, rfl⟩
  have e1 : W1.heap.size = w.heap.size + 2 := by rw [hW1, World.size_alloc, e0]
  have F1 : Fr X Y1 w W1 := by rw [hW1, hY1]; exact F0.new _
  have A1 : Bx 25 X Y1 W1 (w.heap.size) #[.int .i64 0, .int .i64 ya, .int .i64 na] := by rw [hW1, hY1]; exact A0.old _
  have B1 : Bx 25 X Y1 W1 (w.heap.size + 1) #[.int .i64 0, .int .i64 ya, .int .i64 nb] := by rw [hW1, hY1, ← e0]; exact Bx.new F0 _ _
  rw [hW0] at hW1
  have F := Lib.hid F1
  have A := Lib.hid A1
  have B := Lib.hid B1
  clear hY0 hY1 F0 F1 A0 A1 B1 e0 e1 hW0
  clear hX
  have q1 : (ya != ya) = false := by simp
  have H1 := Lib.hid h1
  have H2 := Lib.hid h2
  clear h1 h2
  go_enter Tryz.func55, Tryz.ntmps55
  go_upto_region 1 with fail
  rw [← hW1]
  clear hW1
  have pA0 : _ = some (Value.int .i64 0) := A.out.hb.cell 0
  have pA1 : _ = some (Value.int .i64 ya) := A.out.hb.cell 1
  have pA2 : _ = some (Value.int .i64 na) := A.out.hb.cell 2
  have pB0 : _ = some (Value.int .i64 0) := B.out.hb.cell 0
  have pB1 : _ = some (Value.int .i64 ya) := B.out.hb.cell 1
  have pB2 : _ = some (Value.int .i64 nb) := B.out.hb.cell 2
  go_wp2_with fail
  refine (idle_any (0) ya na (by unfold kdOk; omega) _).mono ?_
  rintro e v0 ⟨rfl, hb⟩
  rw [H1.out]
  clear pA0 pA1 pA2 pB0 pB1 pB2
  obtain h0 := F.out
  clear F
  have F := Lib.hid (h0.below hb)
  clear h0
  obtain h0 := A.out
  clear A
  have A := Lib.hid (h0.below hb)
  clear h0
  obtain h0 := B.out
  clear B
  have B := Lib.hid (h0.below hb)
  clear h0
  clear hb
  have pA0 : _ = some (Value.int .i64 0) := A.out.hb.cell 0
  have pA1 : _ = some (Value.int .i64 ya) := A.out.hb.cell 1
  have pA2 : _ = some (Value.int .i64 na) := A.out.hb.cell 2
  have pB0 : _ = some (Value.int .i64 0) := B.out.hb.cell 0
  have pB1 : _ = some (Value.int .i64 ya) := B.out.hb.cell 1
  have pB2 : _ = some (Value.int .i64 nb) := B.out.hb.cell 2
  go_wp2_with fail
  refine (idle_any (0) ya nb (by unfold kdOk; omega) _).mono ?_
  rintro e v1 ⟨rfl, hb⟩
  rw [H2.out]
  clear pA0 pA1 pA2 pB0 pB1 pB2
  obtain h0 := F.out
  clear F
  have F := Lib.hid (h0.below hb)
  clear h0
  obtain h0 := A.out
  clear A
  have A := Lib.hid (h0.below hb)
  clear h0
  obtain h0 := B.out
  clear B
  have B := Lib.hid (h0.below hb)
  clear h0
  clear hb
  have pA0 : _ = some (Value.int .i64 0) := A.out.hb.cell 0
  have pA1 : _ = some (Value.int .i64 ya) := A.out.hb.cell 1
  have pA2 : _ = some (Value.int .i64 na) := A.out.hb.cell 2
  have pB0 : _ = some (Value.int .i64 0) := B.out.hb.cell 0
  have pB1 : _ = some (Value.int .i64 ya) := B.out.hb.cell 1
  have pB2 : _ = some (Value.int .i64 nb) := B.out.hb.cell 2
  have fa := A.out.hb.free
  have fb := B.out.hb.free
  have fa0 := fa 0
  have fb0 := fb 0
  have fa1 := fa 1
  have fb1 := fb 1
  have fa2 := fa 2
  have fb2 := fb 2
  clear fa fb
  go_wp2
  go_ret
  exact ⟨by first | rfl | simp, (F.out.k.below (Nat.le_refl _) (fun b hb hx => by rw [HX.out] at hx; omega))⟩
set_option maxRecDepth 100000 in
set_option maxHeartbeats 6400000 in
theorem comm_01 (ya na nb : Int) (h1 : idleB ⟨0, ya, na⟩ = false) (h2 : idleB ⟨1, ya, nb⟩ = false) (w : World) : Calls Tryz.prog 55 #[.agg #[.int .i64 0, .int .i64 ya, .int .i64 na], .agg #[.int .i64 1, .int .i64 ya, .int .i64 nb]] w fun e w' => e = .returned (.bool (false)) ∧ Below w.heap.size w w' := by
  obtain ⟨X, hXd⟩ : ∃ X : Nat → Prop, X = fun b => w.heap.size ≤ b := ⟨_, rfl⟩
  have hX : ∀ b, w.heap.size ≤ b → X b := by rw [hXd]; exact fun _ h => h
  have HX := Lib.hid hXd
  clear hXd
  obtain ⟨W0, hW0⟩ : ∃ W, W = w.alloc (.cells #[.int .i64 0, .int .i64 ya, .int .i64 na] 25) := ⟨_, rfl⟩
  obtain ⟨Y0, hY0⟩ : ∃ Y : Nat → Prop, Y = fun b => X b ∧ b ≠ w.heap.size := ⟨_, rfl⟩
  have e0 : W0.heap.size = w.heap.size + 1 := by rw [hW0, World.size_alloc]
  have F0 : Fr X Y0 w W0 := by rw [hW0, hY0]; exact (Fr.start hX).new _
  have A0 : Bx 25 X Y0 W0 (w.heap.size) #[.int .i64 0, .int .i64 ya, .int .i64 na] := by rw [hW0, hY0]; exact Bx.new (Fr.start hX) _ _
  obtain ⟨W1, hW1⟩ : ∃ W, W = W0.alloc (.cells #[.int .i64 1, .int .i64 ya, .int .i64 nb] 25) := ⟨_, rfl⟩
  obtain ⟨Y1, hY1⟩ : ∃ Y : Nat → Prop, Y = fun b => Y0 b ∧ b ≠ W0.heap.size := ⟨_, rfl⟩
  have e1 : W1.heap.size = w.heap.size + 2 := by rw [hW1, World.size_alloc, e0]
  have F1 : Fr X Y1 w W1 := by rw [hW1, hY1]; exact F0.new _
  have A1 : Bx 25 X Y1 W1 (w.heap.size) #[.int .i64 0, .int .i64 ya, .int .i64 na] := by rw [hW1, hY1]; exact A0.old _
  have B1 : Bx 25 X Y1 W1 (w.heap.size + 1) #[.int .i64 1, .int .i64 ya, .int .i64 nb] := by rw [hW1, hY1, ← e0]; exact Bx.new F0 _ _
  rw [hW0] at hW1
  have F := Lib.hid F1
  have A := Lib.hid A1
  have B := Lib.hid B1
  clear hY0 hY1 F0 F1 A0 A1 B1 e0 e1 hW0
  clear hX
  have q1 : (ya != ya) = false := by simp
  have H1 := Lib.hid h1
  have H2 := Lib.hid h2
  clear h1 h2
  go_enter Tryz.func55, Tryz.ntmps55
  go_upto_region 1 with fail
  rw [← hW1]
  clear hW1
  have pA0 : _ = some (Value.int .i64 0) := A.out.hb.cell 0
  have pA1 : _ = some (Value.int .i64 ya) := A.out.hb.cell 1
  have pA2 : _ = some (Value.int .i64 na) := A.out.hb.cell 2
  have pB0 : _ = some (Value.int .i64 1) := B.out.hb.cell 0
  have pB1 : _ = some (Value.int .i64 ya) := B.out.hb.cell 1
  have pB2 : _ = some (Value.int .i64 nb) := B.out.hb.cell 2
  go_wp2_with fail
  refine (idle_any (0) ya na (by unfold kdOk; omega) _).mono ?_
  rintro e v0 ⟨rfl, hb⟩
  rw [H1.out]
  clear pA0 pA1 pA2 pB0 pB1 pB2
  obtain h0 := F.out
  clear F
  have F := Lib.hid (h0.below hb)
  clear h0
  obtain h0 := A.out
  clear A
  have A := Lib.hid (h0.below hb)
  clear h0
  obtain h0 := B.out
  clear B
  have B := Lib.hid (h0.below hb)
  clear h0
  clear hb
  have pA0 : _ = some (Value.int .i64 0) := A.out.hb.cell 0
  have pA1 : _ = some (Value.int .i64 ya) := A.out.hb.cell 1
  have pA2 : _ = some (Value.int .i64 na) := A.out.hb.cell 2
  have pB0 : _ = some (Value.int .i64 1) := B.out.hb.cell 0
  have pB1 : _ = some (Value.int .i64 ya) := B.out.hb.cell 1
  have pB2 : _ = some (Value.int .i64 nb) := B.out.hb.cell 2
  go_wp2_with fail
  refine (idle_any (1) ya nb (by unfold kdOk; omega) _).mono ?_
  rintro e v1 ⟨rfl, hb⟩
  rw [H2.out]
  clear pA0 pA1 pA2 pB0 pB1 pB2
  obtain h0 := F.out
  clear F
  have F := Lib.hid (h0.below hb)
  clear h0
  obtain h0 := A.out
  clear A
  have A := Lib.hid (h0.below hb)
  clear h0
  obtain h0 := B.out
  clear B
  have B := Lib.hid (h0.below hb)
  clear h0
  clear hb
  have pA0 : _ = some (Value.int .i64 0) := A.out.hb.cell 0
  have pA1 : _ = some (Value.int .i64 ya) := A.out.hb.cell 1
  have pA2 : _ = some (Value.int .i64 na) := A.out.hb.cell 2
  have pB0 : _ = some (Value.int .i64 1) := B.out.hb.cell 0
  have pB1 : _ = some (Value.int .i64 ya) := B.out.hb.cell 1
  have pB2 : _ = some (Value.int .i64 nb) := B.out.hb.cell 2
  have fa := A.out.hb.free
  have fb := B.out.hb.free
  have fa0 := fa 0
  have fb0 := fb 0
  have fa1 := fa 1
  have fb1 := fb 1
  have fa2 := fa 2
  have fb2 := fb 2
  clear fa fb
  go_wp2
  go_ret
  exact ⟨by first | rfl | simp, (F.out.k.below (Nat.le_refl _) (fun b hb hx => by rw [HX.out] at hx; omega))⟩
set_option maxRecDepth 100000 in
set_option maxHeartbeats 6400000 in
theorem comm_02 (ya na nb : Int) (h1 : idleB ⟨0, ya, na⟩ = false) (h2 : idleB ⟨2, ya, nb⟩ = false) (w : World) : Calls Tryz.prog 55 #[.agg #[.int .i64 0, .int .i64 ya, .int .i64 na], .agg #[.int .i64 2, .int .i64 ya, .int .i64 nb]] w fun e w' => e = .returned (.bool (false)) ∧ Below w.heap.size w w' := by
  obtain ⟨X, hXd⟩ : ∃ X : Nat → Prop, X = fun b => w.heap.size ≤ b := ⟨_, rfl⟩
  have hX : ∀ b, w.heap.size ≤ b → X b := by rw [hXd]; exact fun _ h => h
  have HX := Lib.hid hXd
  clear hXd
  obtain ⟨W0, hW0⟩ : ∃ W, W = w.alloc (.cells #[.int .i64 0, .int .i64 ya, .int .i64 na] 25) := ⟨_, rfl⟩
  obtain ⟨Y0, hY0⟩ : ∃ Y : Nat → Prop, Y = fun b => X b ∧ b ≠ w.heap.size := ⟨_, rfl⟩
  have e0 : W0.heap.size = w.heap.size + 1 := by rw [hW0, World.size_alloc]
  have F0 : Fr X Y0 w W0 := by rw [hW0, hY0]; exact (Fr.start hX).new _
  have A0 : Bx 25 X Y0 W0 (w.heap.size) #[.int .i64 0, .int .i64 ya, .int .i64 na] := by rw [hW0, hY0]; exact Bx.new (Fr.start hX) _ _
  obtain ⟨W1, hW1⟩ : ∃ W, W = W0.alloc (.cells #[.int .i64 2, .int .i64 ya, .int .i64 nb] 25) := ⟨_, rfl⟩
  obtain ⟨Y1, hY1⟩ : ∃ Y : Nat → Prop, Y = fun b => Y0 b ∧ b ≠ W0.heap.size := ⟨_, rfl⟩
  have e1 : W1.heap.size = w.heap.size + 2 := by rw [hW1, World.size_alloc, e0]
  have F1 : Fr X Y1 w W1 := by rw [hW1, hY1]; exact F0.new _
  have A1 : Bx 25 X Y1 W1 (w.heap.size) #[.int .i64 0, .int .i64 ya, .int .i64 na] := by rw [hW1, hY1]; exact A0.old _
  have B1 : Bx 25 X Y1 W1 (w.heap.size + 1) #[.int .i64 2, .int .i64 ya, .int .i64 nb] := by rw [hW1, hY1, ← e0]; exact Bx.new F0 _ _
  rw [hW0] at hW1
  have F := Lib.hid F1
  have A := Lib.hid A1
  have B := Lib.hid B1
  clear hY0 hY1 F0 F1 A0 A1 B1 e0 e1 hW0
  clear hX
  have q1 : (ya != ya) = false := by simp
  have H1 := Lib.hid h1
  have H2 := Lib.hid h2
  clear h1 h2
  go_enter Tryz.func55, Tryz.ntmps55
  go_upto_region 1 with fail
  rw [← hW1]
  clear hW1
  have pA0 : _ = some (Value.int .i64 0) := A.out.hb.cell 0
  have pA1 : _ = some (Value.int .i64 ya) := A.out.hb.cell 1
  have pA2 : _ = some (Value.int .i64 na) := A.out.hb.cell 2
  have pB0 : _ = some (Value.int .i64 2) := B.out.hb.cell 0
  have pB1 : _ = some (Value.int .i64 ya) := B.out.hb.cell 1
  have pB2 : _ = some (Value.int .i64 nb) := B.out.hb.cell 2
  go_wp2_with fail
  refine (idle_any (0) ya na (by unfold kdOk; omega) _).mono ?_
  rintro e v0 ⟨rfl, hb⟩
  rw [H1.out]
  clear pA0 pA1 pA2 pB0 pB1 pB2
  obtain h0 := F.out
  clear F
  have F := Lib.hid (h0.below hb)
  clear h0
  obtain h0 := A.out
  clear A
  have A := Lib.hid (h0.below hb)
  clear h0
  obtain h0 := B.out
  clear B
  have B := Lib.hid (h0.below hb)
  clear h0
  clear hb
  have pA0 : _ = some (Value.int .i64 0) := A.out.hb.cell 0
  have pA1 : _ = some (Value.int .i64 ya) := A.out.hb.cell 1
  have pA2 : _ = some (Value.int .i64 na) := A.out.hb.cell 2
  have pB0 : _ = some (Value.int .i64 2) := B.out.hb.cell 0
  have pB1 : _ = some (Value.int .i64 ya) := B.out.hb.cell 1
  have pB2 : _ = some (Value.int .i64 nb) := B.out.hb.cell 2
  go_wp2_with fail
  refine (idle_any (2) ya nb (by unfold kdOk; omega) _).mono ?_
  rintro e v1 ⟨rfl, hb⟩
  rw [H2.out]
  clear pA0 pA1 pA2 pB0 pB1 pB2
  obtain h0 := F.out
  clear F
  have F := Lib.hid (h0.below hb)
  clear h0
  obtain h0 := A.out
  clear A
  have A := Lib.hid (h0.below hb)
  clear h0
  obtain h0 := B.out
  clear B
  have B := Lib.hid (h0.below hb)
  clear h0
  clear hb
  have pA0 : _ = some (Value.int .i64 0) := A.out.hb.cell 0
  have pA1 : _ = some (Value.int .i64 ya) := A.out.hb.cell 1
  have pA2 : _ = some (Value.int .i64 na) := A.out.hb.cell 2
  have pB0 : _ = some (Value.int .i64 2) := B.out.hb.cell 0
  have pB1 : _ = some (Value.int .i64 ya) := B.out.hb.cell 1
  have pB2 : _ = some (Value.int .i64 nb) := B.out.hb.cell 2
  have fa := A.out.hb.free
  have fb := B.out.hb.free
  have fa0 := fa 0
  have fb0 := fb 0
  have fa1 := fa 1
  have fb1 := fb 1
  have fa2 := fa 2
  have fb2 := fb 2
  clear fa fb
  go_wp2
  go_ret
  exact ⟨by first | rfl | simp, (F.out.k.below (Nat.le_refl _) (fun b hb hx => by rw [HX.out] at hx; omega))⟩
set_option maxRecDepth 100000 in
set_option maxHeartbeats 6400000 in
theorem comm_03 (ya na nb : Int) (h1 : idleB ⟨0, ya, na⟩ = false) (h2 : idleB ⟨3, ya, nb⟩ = false) (w : World) : Calls Tryz.prog 55 #[.agg #[.int .i64 0, .int .i64 ya, .int .i64 na], .agg #[.int .i64 3, .int .i64 ya, .int .i64 nb]] w fun e w' => e = .returned (.bool (false)) ∧ Below w.heap.size w w' := by
  obtain ⟨X, hXd⟩ : ∃ X : Nat → Prop, X = fun b => w.heap.size ≤ b := ⟨_, rfl⟩
  have hX : ∀ b, w.heap.size ≤ b → X b := by rw [hXd]; exact fun _ h => h
  have HX := Lib.hid hXd
  clear hXd
  obtain ⟨W0, hW0⟩ : ∃ W, W = w.alloc (.cells #[.int .i64 0, .int .i64 ya, .int .i64 na] 25) := ⟨_, rfl⟩
  obtain ⟨Y0, hY0⟩ : ∃ Y : Nat → Prop, Y = fun b => X b ∧ b ≠ w.heap.size := ⟨_, rfl⟩
  have e0 : W0.heap.size = w.heap.size + 1 := by rw [hW0, World.size_alloc]
  have F0 : Fr X Y0 w W0 := by rw [hW0, hY0]; exact (Fr.start hX).new _
  have A0 : Bx 25 X Y0 W0 (w.heap.size) #[.int .i64 0, .int .i64 ya, .int .i64 na] := by rw [hW0, hY0]; exact Bx.new (Fr.start hX) _ _
  obtain ⟨W1, hW1⟩ : ∃ W, W = W0.alloc (.cells #[.int .i64 3, .int .i64 ya, .int .i64 nb] 25) := ⟨_, rfl⟩
  obtain ⟨Y1, hY1⟩ : ∃ Y : Nat → Prop, Y = fun b => Y0 b ∧ b ≠ W0.heap.size := ⟨_, rfl⟩
  have e1 : W1.heap.size = w.heap.size + 2 := by rw [hW1, World.size_alloc, e0]
  have F1 : Fr X Y1 w W1 := by rw [hW1, hY1]; exact F0.new _
  have A1 : Bx 25 X Y1 W1 (w.heap.size) #[.int .i64 0, .int .i64 ya, .int .i64 na] := by rw [hW1, hY1]; exact A0.old _
  have B1 : Bx 25 X Y1 W1 (w.heap.size + 1) #[.int .i64 3, .int .i64 ya, .int .i64 nb] := by rw [hW1, hY1, ← e0]; exact Bx.new F0 _ _
  rw [hW0] at hW1
  have F := Lib.hid F1
  have A := Lib.hid A1
  have B := Lib.hid B1
  clear hY0 hY1 F0 F1 A0 A1 B1 e0 e1 hW0
  clear hX
  have q1 : (ya != ya) = false := by simp
  have H1 := Lib.hid h1
  have H2 := Lib.hid h2
  clear h1 h2
  go_enter Tryz.func55, Tryz.ntmps55
  go_upto_region 1 with fail
  rw [← hW1]
  clear hW1
  have pA0 : _ = some (Value.int .i64 0) := A.out.hb.cell 0
  have pA1 : _ = some (Value.int .i64 ya) := A.out.hb.cell 1
  have pA2 : _ = some (Value.int .i64 na) := A.out.hb.cell 2
  have pB0 : _ = some (Value.int .i64 3) := B.out.hb.cell 0
  have pB1 : _ = some (Value.int .i64 ya) := B.out.hb.cell 1
  have pB2 : _ = some (Value.int .i64 nb) := B.out.hb.cell 2
  go_wp2_with fail
  refine (idle_any (0) ya na (by unfold kdOk; omega) _).mono ?_
  rintro e v0 ⟨rfl, hb⟩
  rw [H1.out]
  clear pA0 pA1 pA2 pB0 pB1 pB2
  obtain h0 := F.out
  clear F
  have F := Lib.hid (h0.below hb)
  clear h0
  obtain h0 := A.out
  clear A
  have A := Lib.hid (h0.below hb)
  clear h0
  obtain h0 := B.out
  clear B
  have B := Lib.hid (h0.below hb)
  clear h0
  clear hb
  have pA0 : _ = some (Value.int .i64 0) := A.out.hb.cell 0
  have pA1 : _ = some (Value.int .i64 ya) := A.out.hb.cell 1
  have pA2 : _ = some (Value.int .i64 na) := A.out.hb.cell 2
  have pB0 : _ = some (Value.int .i64 3) := B.out.hb.cell 0
  have pB1 : _ = some (Value.int .i64 ya) := B.out.hb.cell 1
  have pB2 : _ = some (Value.int .i64 nb) := B.out.hb.cell 2
  go_wp2_with fail
  refine (idle_any (3) ya nb (by unfold kdOk; omega) _).mono ?_
  rintro e v1 ⟨rfl, hb⟩
  rw [H2.out]
  clear pA0 pA1 pA2 pB0 pB1 pB2
  obtain h0 := F.out
  clear F
  have F := Lib.hid (h0.below hb)
  clear h0
  obtain h0 := A.out
  clear A
  have A := Lib.hid (h0.below hb)
  clear h0
  obtain h0 := B.out
  clear B
  have B := Lib.hid (h0.below hb)
  clear h0
  clear hb
  have pA0 : _ = some (Value.int .i64 0) := A.out.hb.cell 0
  have pA1 : _ = some (Value.int .i64 ya) := A.out.hb.cell 1
  have pA2 : _ = some (Value.int .i64 na) := A.out.hb.cell 2
  have pB0 : _ = some (Value.int .i64 3) := B.out.hb.cell 0
  have pB1 : _ = some (Value.int .i64 ya) := B.out.hb.cell 1
  have pB2 : _ = some (Value.int .i64 nb) := B.out.hb.cell 2
  have fa := A.out.hb.free
  have fb := B.out.hb.free
  have fa0 := fa 0
  have fb0 := fb 0
  have fa1 := fa 1
  have fb1 := fb 1
  have fa2 := fa 2
  have fb2 := fb 2
  clear fa fb
  go_wp2
  go_ret
  exact ⟨by first | rfl | simp, (F.out.k.below (Nat.le_refl _) (fun b hb hx => by rw [HX.out] at hx; omega))⟩
set_option maxRecDepth 100000 in
set_option maxHeartbeats 6400000 in
theorem comm_10 (ya na nb : Int) (h1 : idleB ⟨1, ya, na⟩ = false) (h2 : idleB ⟨0, ya, nb⟩ = false) (w : World) : Calls Tryz.prog 55 #[.agg #[.int .i64 1, .int .i64 ya, .int .i64 na], .agg #[.int .i64 0, .int .i64 ya, .int .i64 nb]] w fun e w' => e = .returned (.bool (false)) ∧ Below w.heap.size w w' := by
  obtain ⟨X, hXd⟩ : ∃ X : Nat → Prop, X = fun b => w.heap.size ≤ b := ⟨_, rfl⟩
  have hX : ∀ b, w.heap.size ≤ b → X b := by rw [hXd]; exact fun _ h => h
  have HX := Lib.hid hXd
  clear hXd
  obtain ⟨W0, hW0⟩ : ∃ W, W = w.alloc (.cells #[.int .i64 1, .int .i64 ya, .int .i64 na] 25) := ⟨_, rfl⟩
  obtain ⟨Y0, hY0⟩ : ∃ Y : Nat → Prop, Y = fun b => X b ∧ b ≠ w.heap.size := ⟨_, rfl⟩
  have e0 : W0.heap.size = w.heap.size + 1 := by rw [hW0, World.size_alloc]
  have F0 : Fr X Y0 w W0 := by rw [hW0, hY0]; exact (Fr.start hX).new _
  have A0 : Bx 25 X Y0 W0 (w.heap.size) #[.int .i64 1, .int .i64 ya, .int .i64 na] := by rw [hW0, hY0]; exact Bx.new (Fr.start hX) _ _
  obtain ⟨W1, hW1⟩ : ∃ W, W = W0.alloc (.cells #[.int .i64 0, .int .i64 ya, .int .i64 nb] 25) := ⟨_, rfl⟩
  obtain ⟨Y1, hY1⟩ : ∃ Y : Nat → Prop, Y = fun b => Y0 b ∧ b ≠ W0.heap.size := ⟨_, rfl⟩
  have e1 : W1.heap.size = w.heap.size + 2 := by rw [hW1, World.size_alloc, e0]
  have F1 : Fr X Y1 w W1 := by rw [hW1, hY1]; exact F0.new _
  have A1 : Bx 25 X Y1 W1 (w.heap.size) #[.int .i64 1, .int .i64 ya, .int .i64 na] := by rw [hW1, hY1]; exact A0.old _
  have B1 : Bx 25 X Y1 W1 (w.heap.size + 1) #[.int .i64 0, .int .i64 ya, .int .i64 nb] := by rw [hW1, hY1, ← e0]; exact Bx.new F0 _ _
  rw [hW0] at hW1
  have F := Lib.hid F1
  have A := Lib.hid A1
  have B := Lib.hid B1
  clear hY0 hY1 F0 F1 A0 A1 B1 e0 e1 hW0
  clear hX
  have q1 : (ya != ya) = false := by simp
  have H1 := Lib.hid h1
  have H2 := Lib.hid h2
  clear h1 h2
  go_enter Tryz.func55, Tryz.ntmps55
  go_upto_region 1 with fail
  rw [← hW1]
  clear hW1
  have pA0 : _ = some (Value.int .i64 1) := A.out.hb.cell 0
  have pA1 : _ = some (Value.int .i64 ya) := A.out.hb.cell 1
  have pA2 : _ = some (Value.int .i64 na) := A.out.hb.cell 2
  have pB0 : _ = some (Value.int .i64 0) := B.out.hb.cell 0
  have pB1 : _ = some (Value.int .i64 ya) := B.out.hb.cell 1
  have pB2 : _ = some (Value.int .i64 nb) := B.out.hb.cell 2
  go_wp2_with fail
  refine (idle_any (1) ya na (by unfold kdOk; omega) _).mono ?_
  rintro e v0 ⟨rfl, hb⟩
  rw [H1.out]
  clear pA0 pA1 pA2 pB0 pB1 pB2
  obtain h0 := F.out
  clear F
  have F := Lib.hid (h0.below hb)
  clear h0
  obtain h0 := A.out
  clear A
  have A := Lib.hid (h0.below hb)
  clear h0
  obtain h0 := B.out
  clear B
  have B := Lib.hid (h0.below hb)
  clear h0
  clear hb
  have pA0 : _ = some (Value.int .i64 1) := A.out.hb.cell 0
  have pA1 : _ = some (Value.int .i64 ya) := A.out.hb.cell 1
  have pA2 : _ = some (Value.int .i64 na) := A.out.hb.cell 2
  have pB0 : _ = some (Value.int .i64 0) := B.out.hb.cell 0
  have pB1 : _ = some (Value.int .i64 ya) := B.out.hb.cell 1
  have pB2 : _ = some (Value.int .i64 nb) := B.out.hb.cell 2
  go_wp2_with fail
  refine (idle_any (0) ya nb (by unfold kdOk; omega) _).mono ?_
  rintro e v1 ⟨rfl, hb⟩
  rw [H2.out]
  clear pA0 pA1 pA2 pB0 pB1 pB2
  obtain h0 := F.out
  clear F
  have F := Lib.hid (h0.below hb)
  clear h0
  obtain h0 := A.out
  clear A
  have A := Lib.hid (h0.below hb)
  clear h0
  obtain h0 := B.out
  clear B
  have B := Lib.hid (h0.below hb)
  clear h0
  clear hb
  have pA0 : _ = some (Value.int .i64 1) := A.out.hb.cell 0
  have pA1 : _ = some (Value.int .i64 ya) := A.out.hb.cell 1
  have pA2 : _ = some (Value.int .i64 na) := A.out.hb.cell 2
  have pB0 : _ = some (Value.int .i64 0) := B.out.hb.cell 0
  have pB1 : _ = some (Value.int .i64 ya) := B.out.hb.cell 1
  have pB2 : _ = some (Value.int .i64 nb) := B.out.hb.cell 2
  have fa := A.out.hb.free
  have fb := B.out.hb.free
  have fa0 := fa 0
  have fb0 := fb 0
  have fa1 := fa 1
  have fb1 := fb 1
  have fa2 := fa 2
  have fb2 := fb 2
  clear fa fb
  go_wp2
  go_ret
  have nAB : w.heap.size + 1 ≠ w.heap.size := by omega
  obtain ⟨z1, z2⟩ := set3 F.out A.out (.int .i64 0) (.int .i64 ya) (.int .i64 nb)
  have z3 := ((B.out.other nAB 0 (.int .i64 0)).other nAB 1 (.int .i64 ya)).other nAB 2 (.int .i64 nb)
  obtain ⟨z4, z5⟩ := set3 z1 z3 (.int .i64 1) (.int .i64 ya) (.int .i64 na)
  exact ⟨by first | rfl | simp, (z4.k.below (Nat.le_refl _) (fun b hb hx => by rw [HX.out] at hx; omega))⟩
set_option maxRecDepth 100000 in
set_option maxHeartbeats 6400000 in
theorem comm_11 (ya na nb : Int) (h1 : idleB ⟨1, ya, na⟩ = false) (h2 : idleB ⟨1, ya, nb⟩ = false) (w : World) : Calls Tryz.prog 55 #[.agg #[.int .i64 1, .int .i64 ya, .int .i64 na], .agg #[.int .i64 1, .int .i64 ya, .int .i64 nb]] w fun e w' => e = .returned (.bool (true)) ∧ Below w.heap.size w w' := by
  obtain ⟨X, hXd⟩ : ∃ X : Nat → Prop, X = fun b => w.heap.size ≤ b := ⟨_, rfl⟩
  have hX : ∀ b, w.heap.size ≤ b → X b := by rw [hXd]; exact fun _ h => h
  have HX := Lib.hid hXd
  clear hXd
  obtain ⟨W0, hW0⟩ : ∃ W, W = w.alloc (.cells #[.int .i64 1, .int .i64 ya, .int .i64 na] 25) := ⟨_, rfl⟩
  obtain ⟨Y0, hY0⟩ : ∃ Y : Nat → Prop, Y = fun b => X b ∧ b ≠ w.heap.size := ⟨_, rfl⟩
  have e0 : W0.heap.size = w.heap.size + 1 := by rw [hW0, World.size_alloc]
  have F0 : Fr X Y0 w W0 := by rw [hW0, hY0]; exact (Fr.start hX).new _
  have A0 : Bx 25 X Y0 W0 (w.heap.size) #[.int .i64 1, .int .i64 ya, .int .i64 na] := by rw [hW0, hY0]; exact Bx.new (Fr.start hX) _ _
  obtain ⟨W1, hW1⟩ : ∃ W, W = W0.alloc (.cells #[.int .i64 1, .int .i64 ya, .int .i64 nb] 25) := ⟨_, rfl⟩
  obtain ⟨Y1, hY1⟩ : ∃ Y : Nat → Prop, Y = fun b => Y0 b ∧ b ≠ W0.heap.size := ⟨_, rfl⟩
  have e1 : W1.heap.size = w.heap.size + 2 := by rw [hW1, World.size_alloc, e0]
  have F1 : Fr X Y1 w W1 := by rw [hW1, hY1]; exact F0.new _
  have A1 : Bx 25 X Y1 W1 (w.heap.size) #[.int .i64 1, .int .i64 ya, .int .i64 na] := by rw [hW1, hY1]; exact A0.old _
  have B1 : Bx 25 X Y1 W1 (w.heap.size + 1) #[.int .i64 1, .int .i64 ya, .int .i64 nb] := by rw [hW1, hY1, ← e0]; exact Bx.new F0 _ _
  rw [hW0] at hW1
  have F := Lib.hid F1
  have A := Lib.hid A1
  have B := Lib.hid B1
  clear hY0 hY1 F0 F1 A0 A1 B1 e0 e1 hW0
  clear hX
  have q1 : (ya != ya) = false := by simp
  have H1 := Lib.hid h1
  have H2 := Lib.hid h2
  clear h1 h2
  go_enter Tryz.func55, Tryz.ntmps55
  go_upto_region 1 with fail
  rw [← hW1]
  clear hW1
  have pA0 : _ = some (Value.int .i64 1) := A.out.hb.cell 0
  have pA1 : _ = some (Value.int .i64 ya) := A.out.hb.cell 1
  have pA2 : _ = some (Value.int .i64 na) := A.out.hb.cell 2
  have pB0 : _ = some (Value.int .i64 1) := B.out.hb.cell 0
  have pB1 : _ = some (Value.int .i64 ya) := B.out.hb.cell 1
  have pB2 : _ = some (Value.int .i64 nb) := B.out.hb.cell 2
  go_wp2_with fail
  refine (idle_any (1) ya na (by unfold kdOk; omega) _).mono ?_
  rintro e v0 ⟨rfl, hb⟩
  rw [H1.out]
  clear pA0 pA1 pA2 pB0 pB1 pB2
  obtain h0 := F.out
  clear F
  have F := Lib.hid (h0.below hb)
  clear h0
  obtain h0 := A.out
  clear A
  have A := Lib.hid (h0.below hb)
  clear h0
  obtain h0 := B.out
  clear B
  have B := Lib.hid (h0.below hb)
  clear h0
  clear hb
  have pA0 : _ = some (Value.int .i64 1) := A.out.hb.cell 0
  have pA1 : _ = some (Value.int .i64 ya) := A.out.hb.cell 1
  have pA2 : _ = some (Value.int .i64 na) := A.out.hb.cell 2
  have pB0 : _ = some (Value.int .i64 1) := B.out.hb.cell 0
  have pB1 : _ = some (Value.int .i64 ya) := B.out.hb.cell 1
  have pB2 : _ = some (Value.int .i64 nb) := B.out.hb.cell 2
  go_wp2_with fail
  refine (idle_any (1) ya nb (by unfold kdOk; omega) _).mono ?_
  rintro e v1 ⟨rfl, hb⟩
  rw [H2.out]
  clear pA0 pA1 pA2 pB0 pB1 pB2
  obtain h0 := F.out
  clear F
  have F := Lib.hid (h0.below hb)
  clear h0
  obtain h0 := A.out
  clear A
  have A := Lib.hid (h0.below hb)
  clear h0
  obtain h0 := B.out
  clear B
  have B := Lib.hid (h0.below hb)
  clear h0
  clear hb
  have pA0 : _ = some (Value.int .i64 1) := A.out.hb.cell 0
  have pA1 : _ = some (Value.int .i64 ya) := A.out.hb.cell 1
  have pA2 : _ = some (Value.int .i64 na) := A.out.hb.cell 2
  have pB0 : _ = some (Value.int .i64 1) := B.out.hb.cell 0
  have pB1 : _ = some (Value.int .i64 ya) := B.out.hb.cell 1
  have pB2 : _ = some (Value.int .i64 nb) := B.out.hb.cell 2
  have fa := A.out.hb.free
  have fb := B.out.hb.free
  have fa0 := fa 0
  have fb0 := fb 0
  have fa1 := fa 1
  have fb1 := fb 1
  have fa2 := fa 2
  have fb2 := fb 2
  clear fa fb
  go_wp2
  go_ret
  exact ⟨by first | rfl | simp, (F.out.k.below (Nat.le_refl _) (fun b hb hx => by rw [HX.out] at hx; omega))⟩
set_option maxRecDepth 100000 in
set_option maxHeartbeats 6400000 in
theorem comm_12 (ya na nb : Int) (h1 : idleB ⟨1, ya, na⟩ = false) (h2 : idleB ⟨2, ya, nb⟩ = false) (w : World) : Calls Tryz.prog 55 #[.agg #[.int .i64 1, .int .i64 ya, .int .i64 na], .agg #[.int .i64 2, .int .i64 ya, .int .i64 nb]] w fun e w' => e = .returned (.bool (decide (na ≤ nb))) ∧ Below w.heap.size w w' := by
  obtain ⟨X, hXd⟩ : ∃ X : Nat → Prop, X = fun b => w.heap.size ≤ b := ⟨_, rfl⟩
  have hX : ∀ b, w.heap.size ≤ b → X b := by rw [hXd]; exact fun _ h => h
  have HX := Lib.hid hXd
  clear hXd
  obtain ⟨W0, hW0⟩ : ∃ W, W = w.alloc (.cells #[.int .i64 1, .int .i64 ya, .int .i64 na] 25) := ⟨_, rfl⟩
  obtain ⟨Y0, hY0⟩ : ∃ Y : Nat → Prop, Y = fun b => X b ∧ b ≠ w.heap.size := ⟨_, rfl⟩
  have e0 : W0.heap.size = w.heap.size + 1 := by rw [hW0, World.size_alloc]
  have F0 : Fr X Y0 w W0 := by rw [hW0, hY0]; exact (Fr.start hX).new _
  have A0 : Bx 25 X Y0 W0 (w.heap.size) #[.int .i64 1, .int .i64 ya, .int .i64 na] := by rw [hW0, hY0]; exact Bx.new (Fr.start hX) _ _
  obtain ⟨W1, hW1⟩ : ∃ W, W = W0.alloc (.cells #[.int .i64 2, .int .i64 ya, .int .i64 nb] 25) := ⟨_, rfl⟩
  obtain ⟨Y1, hY1⟩ : ∃ Y : Nat → Prop, Y = fun b => Y0 b ∧ b ≠ W0.heap.size := ⟨_, rfl⟩
  have e1 : W1.heap.size = w.heap.size + 2 := by rw [hW1, World.size_alloc, e0]
  have F1 : Fr X Y1 w W1 := by rw [hW1, hY1]; exact F0.new _
  have A1 : Bx 25 X Y1 W1 (w.heap.size) #[.int .i64 1, .int .i64 ya, .int .i64 na] := by rw [hW1, hY1]; exact A0.old _
  have B1 : Bx 25 X Y1 W1 (w.heap.size + 1) #[.int .i64 2, .int .i64 ya, .int .i64 nb] := by rw [hW1, hY1, ← e0]; exact Bx.new F0 _ _
  rw [hW0] at hW1
  have F := Lib.hid F1
  have A := Lib.hid A1
  have B := Lib.hid B1
  clear hY0 hY1 F0 F1 A0 A1 B1 e0 e1 hW0
  clear hX
  have q1 : (ya != ya) = false := by simp
  have H1 := Lib.hid h1
  have H2 := Lib.hid h2
  clear h1 h2
  go_enter Tryz.func55, Tryz.ntmps55
  go_upto_region 1 with fail
  rw [← hW1]
  clear hW1
  have pA0 : _ = some (Value.int .i64 1) := A.out.hb.cell 0
  have pA1 : _ = some (Value.int .i64 ya) := A.out.hb.cell 1
  have pA2 : _ = some (Value.int .i64 na) := A.out.hb.cell 2
  have pB0 : _ = some (Value.int .i64 2) := B.out.hb.cell 0
  have pB1 : _ = some (Value.int .i64 ya) := B.out.hb.cell 1
  have pB2 : _ = some (Value.int .i64 nb) := B.out.hb.cell 2
  go_wp2_with fail
  refine (idle_any (1) ya na (by unfold kdOk; omega) _).mono ?_
  rintro e v0 ⟨rfl, hb⟩
  rw [H1.out]
  clear pA0 pA1 pA2 pB0 pB1 pB2
  obtain h0 := F.out
  clear F
  have F := Lib.hid (h0.below hb)
  clear h0
  obtain h0 := A.out
  clear A
  have A := Lib.hid (h0.below hb)
  clear h0
  obtain h0 := B.out
  clear B
  have B := Lib.hid (h0.below hb)
  clear h0
  clear hb
  have pA0 : _ = some (Value.int .i64 1) := A.out.hb.cell 0
  have pA1 : _ = some (Value.int .i64 ya) := A.out.hb.cell 1
  have pA2 : _ = some (Value.int .i64 na) := A.out.hb.cell 2
  have pB0 : _ = some (Value.int .i64 2) := B.out.hb.cell 0
  have pB1 : _ = some (Value.int .i64 ya) := B.out.hb.cell 1
  have pB2 : _ = some (Value.int .i64 nb) := B.out.hb.cell 2
  go_wp2_with fail
  refine (idle_any (2) ya nb (by unfold kdOk; omega) _).mono ?_
  rintro e v1 ⟨rfl, hb⟩
  rw [H2.out]
  clear pA0 pA1 pA2 pB0 pB1 pB2
  obtain h0 := F.out
  clear F
  have F := Lib.hid (h0.below hb)
  clear h0
  obtain h0 := A.out
  clear A
  have A := Lib.hid (h0.below hb)
  clear h0
  obtain h0 := B.out
  clear B
  have B := Lib.hid (h0.below hb)
  clear h0
  clear hb
  have pA0 : _ = some (Value.int .i64 1) := A.out.hb.cell 0
  have pA1 : _ = some (Value.int .i64 ya) := A.out.hb.cell 1
  have pA2 : _ = some (Value.int .i64 na) := A.out.hb.cell 2
  have pB0 : _ = some (Value.int .i64 2) := B.out.hb.cell 0
  have pB1 : _ = some (Value.int .i64 ya) := B.out.hb.cell 1
  have pB2 : _ = some (Value.int .i64 nb) := B.out.hb.cell 2
  have fa := A.out.hb.free
  have fb := B.out.hb.free
  have fa0 := fa 0
  have fb0 := fb 0
  have fa1 := fa 1
  have fb1 := fb 1
  have fa2 := fa 2
  have fb2 := fb 2
  clear fa fb
  go_wp2
  go_ret
  exact ⟨by first | rfl | simp, (F.out.k.below (Nat.le_refl _) (fun b hb hx => by rw [HX.out] at hx; omega))⟩
set_option maxRecDepth 100000 in
set_option maxHeartbeats 6400000 in
theorem comm_13 (ya na nb : Int) (h1 : idleB ⟨1, ya, na⟩ = false) (h2 : idleB ⟨3, ya, nb⟩ = false) (w : World) : Calls Tryz.prog 55 #[.agg #[.int .i64 1, .int .i64 ya, .int .i64 na], .agg #[.int .i64 3, .int .i64 ya, .int .i64 nb]] w fun e w' => e = .returned (.bool (decide (na ≤ nb))) ∧ Below w.heap.size w w' := by
  obtain ⟨X, hXd⟩ : ∃ X : Nat → Prop, X = fun b => w.heap.size ≤ b := ⟨_, rfl⟩
  have hX : ∀ b, w.heap.size ≤ b → X b := by rw [hXd]; exact fun _ h => h
  have HX := Lib.hid hXd
  clear hXd
  obtain ⟨W0, hW0⟩ : ∃ W, W = w.alloc (.cells #[.int .i64 1, .int .i64 ya, .int .i64 na] 25) := ⟨_, rfl⟩
  obtain ⟨Y0, hY0⟩ : ∃ Y : Nat → Prop, Y = fun b => X b ∧ b ≠ w.heap.size := ⟨_, rfl⟩
  have e0 : W0.heap.size = w.heap.size + 1 := by rw [hW0, World.size_alloc]
  have F0 : Fr X Y0 w W0 := by rw [hW0, hY0]; exact (Fr.start hX).new _
  have A0 : Bx 25 X Y0 W0 (w.heap.size) #[.int .i64 1, .int .i64 ya, .int .i64 na] := by rw [hW0, hY0]; exact Bx.new (Fr.start hX) _ _
  obtain ⟨W1, hW1⟩ : ∃ W, W = W0.alloc (.cells #[.int .i64 3, .int .i64 ya, .int .i64 nb] 25) := ⟨_, rfl⟩
  obtain ⟨Y1, hY1⟩ : ∃ Y : Nat → Prop, Y = fun b => Y0 b ∧ b ≠ W0.heap.size := ⟨_, rfl⟩
  have e1 : W1.heap.size = w.heap.size + 2 := by rw [hW1, World.size_alloc, e0]
  have F1 : Fr X Y1 w W1 := by rw [hW1, hY1]; exact F0.new _
  have A1 : Bx 25 X Y1 W1 (w.heap.size) #[.int .i64 1, .int .i64 ya, .int .i64 na] := by rw [hW1, hY1]; exact A0.old _
  have B1 : Bx 25 X Y1 W1 (w.heap.size + 1) #[.int .i64 3, .int .i64 ya, .int .i64 nb] := by rw [hW1, hY1, ← e0]; exact Bx.new F0 _ _
  rw [hW0] at hW1
  have F := Lib.hid F1
  have A := Lib.hid A1
  have B := Lib.hid B1
  clear hY0 hY1 F0 F1 A0 A1 B1 e0 e1 hW0
  clear hX
  have q1 : (ya != ya) = false := by simp
  have H1 := Lib.hid h1
  have H2 := Lib.hid h2
  clear h1 h2
  go_enter Tryz.func55, Tryz.ntmps55
  go_upto_region 1 with fail
  rw [← hW1]
  clear hW1
  have pA0 : _ = some (Value.int .i64 1) := A.out.hb.cell 0
  have pA1 : _ = some (Value.int .i64 ya) := A.out.hb.cell 1
  have pA2 : _ = some (Value.int .i64 na) := A.out.hb.cell 2
  have pB0 : _ = some (Value.int .i64 3) := B.out.hb.cell 0
  have pB1 : _ = some (Value.int .i64 ya) := B.out.hb.cell 1
  have pB2 : _ = some (Value.int .i64 nb) := B.out.hb.cell 2
  go_wp2_with fail
  refine (idle_any (1) ya na (by unfold kdOk; omega) _).mono ?_
  rintro e v0 ⟨rfl, hb⟩
  rw [H1.out]
  clear pA0 pA1 pA2 pB0 pB1 pB2
  obtain h0 := F.out
  clear F
  have F := Lib.hid (h0.below hb)
  clear h0
  obtain h0 := A.out
  clear A
  have A := Lib.hid (h0.below hb)
  clear h0
  obtain h0 := B.out
  clear B
  have B := Lib.hid (h0.below hb)
  clear h0
  clear hb
  have pA0 : _ = some (Value.int .i64 1) := A.out.hb.cell 0
  have pA1 : _ = some (Value.int .i64 ya) := A.out.hb.cell 1
  have pA2 : _ = some (Value.int .i64 na) := A.out.hb.cell 2
  have pB0 : _ = some (Value.int .i64 3) := B.out.hb.cell 0
  have pB1 : _ = some (Value.int .i64 ya) := B.out.hb.cell 1
  have pB2 : _ = some (Value.int .i64 nb) := B.out.hb.cell 2
  go_wp2_with fail
  refine (idle_any (3) ya nb (by unfold kdOk; omega) _).mono ?_
  rintro e v1 ⟨rfl, hb⟩
  rw [H2.out]
  clear pA0 pA1 pA2 pB0 pB1 pB2
  obtain h0 := F.out
  clear F
  have F := Lib.hid (h0.below hb)
  clear h0
  obtain h0 := A.out
  clear A
  have A := Lib.hid (h0.below hb)
  clear h0
  obtain h0 := B.out
  clear B
  have B := Lib.hid (h0.below hb)
  clear h0
  clear hb
  have pA0 : _ = some (Value.int .i64 1) := A.out.hb.cell 0
  have pA1 : _ = some (Value.int .i64 ya) := A.out.hb.cell 1
  have pA2 : _ = some (Value.int .i64 na) := A.out.hb.cell 2
  have pB0 : _ = some (Value.int .i64 3) := B.out.hb.cell 0
  have pB1 : _ = some (Value.int .i64 ya) := B.out.hb.cell 1
  have pB2 : _ = some (Value.int .i64 nb) := B.out.hb.cell 2
  have fa := A.out.hb.free
  have fb := B.out.hb.free
  have fa0 := fa 0
  have fb0 := fb 0
  have fa1 := fa 1
  have fb1 := fb 1
  have fa2 := fa 2
  have fb2 := fb 2
  clear fa fb
  go_wp2
  go_ret
  exact ⟨by first | rfl | simp, (F.out.k.below (Nat.le_refl _) (fun b hb hx => by rw [HX.out] at hx; omega))⟩
set_option maxRecDepth 100000 in
set_option maxHeartbeats 6400000 in
theorem comm_20 (ya na nb : Int) (h1 : idleB ⟨2, ya, na⟩ = false) (h2 : idleB ⟨0, ya, nb⟩ = false) (w : World) : Calls Tryz.prog 55 #[.agg #[.int .i64 2, .int .i64 ya, .int .i64 na], .agg #[.int .i64 0, .int .i64 ya, .int .i64 nb]] w fun e w' => e = .returned (.bool (false)) ∧ Below w.heap.size w w' := by
  obtain ⟨X, hXd⟩ : ∃ X : Nat → Prop, X = fun b => w.heap.size ≤ b := ⟨_, rfl⟩
  have hX : ∀ b, w.heap.size ≤ b → X b := by rw [hXd]; exact fun _ h => h
  have HX := Lib.hid hXd
  clear hXd
  obtain ⟨W0, hW0⟩ : ∃ W, W = w.alloc (.cells #[.int .i64 2, .int .i64 ya, .int .i64 na] 25) := ⟨_, rfl⟩
  obtain ⟨Y0, hY0⟩ : ∃ Y : Nat → Prop, Y = fun b => X b ∧ b ≠ w.heap.size := ⟨_, rfl⟩
  have e0 : W0.heap.size = w.heap.size + 1 := by rw [hW0, World.size_alloc]
  have F0 : Fr X Y0 w W0 := by rw [hW0, hY0]; exact (Fr.start hX).new _
  have A0 : Bx 25 X Y0 W0 (w.heap.size) #[.int .i64 2, .int .i64 ya, .int .i64 na] := by rw [hW0, hY0]; exact Bx.new (Fr.start hX) _ _
  obtain ⟨W1, hW1⟩ : ∃ W, W = W0.alloc (.cells #[.int .i64 0, .int .i64 ya, .int .i64 nb] 25) := ⟨_, rfl⟩
  obtain ⟨Y1, hY1⟩ : ∃ Y : Nat → Prop, Y = fun b => Y0 b ∧ b ≠ W0.heap.size := ⟨_, rfl⟩
  have e1 : W1.heap.size = w.heap.size + 2 := by rw [hW1, World.size_alloc, e0]
  have F1 : Fr X Y1 w W1 := by rw [hW1, hY1]; exact F0.new _
  have A1 : Bx 25 X Y1 W1 (w.heap.size) #[.int .i64 2, .int .i64 ya, .int .i64 na] := by rw [hW1, hY1]; exact A0.old _
  have B1 : Bx 25 X Y1 W1 (w.heap.size + 1) #[.int .i64 0, .int .i64 ya, .int .i64 nb] := by rw [hW1, hY1, ← e0]; exact Bx.new F0 _ _
  rw [hW0] at hW1
  have F := Lib.hid F1
  have A := Lib.hid A1
  have B := Lib.hid B1
  clear hY0 hY1 F0 F1 A0 A1 B1 e0 e1 hW0
  clear hX
  have q1 : (ya != ya) = false := by simp
  have H1 := Lib.hid h1
  have H2 := Lib.hid h2
  clear h1 h2
  go_enter Tryz.func55, Tryz.ntmps55
  go_upto_region 1 with fail
  rw [← hW1]
  clear hW1
  have pA0 : _ = some (Value.int .i64 2) := A.out.hb.cell 0
  have pA1 : _ = some (Value.int .i64 ya) := A.out.hb.cell 1
  have pA2 : _ = some (Value.int .i64 na) := A.out.hb.cell 2
  have pB0 : _ = some (Value.int .i64 0) := B.out.hb.cell 0
  have pB1 : _ = some (Value.int .i64 ya) := B.out.hb.cell 1
  have pB2 : _ = some (Value.int .i64 nb) := B.out.hb.cell 2
  go_wp2_with fail
  refine (idle_any (2) ya na (by unfold kdOk; omega) _).mono ?_
  rintro e v0 ⟨rfl, hb⟩
  rw [H1.out]
  clear pA0 pA1 pA2 pB0 pB1 pB2
  obtain h0 := F.out
  clear F
  have F := Lib.hid (h0.below hb)
  clear h0
  obtain h0 := A.out
  clear A
  have A := Lib.hid (h0.below hb)
  clear h0
  obtain h0 := B.out
  clear B
  have B := Lib.hid (h0.below hb)
  clear h0
  clear hb
  have pA0 : _ = some (Value.int .i64 2) := A.out.hb.cell 0
  have pA1 : _ = some (Value.int .i64 ya) := A.out.hb.cell 1
  have pA2 : _ = some (Value.int .i64 na) := A.out.hb.cell 2
  have pB0 : _ = some (Value.int .i64 0) := B.out.hb.cell 0
  have pB1 : _ = some (Value.int .i64 ya) := B.out.hb.cell 1
  have pB2 : _ = some (Value.int .i64 nb) := B.out.hb.cell 2
  go_wp2_with fail
  refine (idle_any (0) ya nb (by unfold kdOk; omega) _).mono ?_
  rintro e v1 ⟨rfl, hb⟩
  rw [H2.out]
  clear pA0 pA1 pA2 pB0 pB1 pB2
  obtain h0 := F.out
  clear F
  have F := Lib.hid (h0.below hb)
  clear h0
  obtain h0 := A.out
  clear A
  have A := Lib.hid (h0.below hb)
  clear h0
  obtain h0 := B.out
  clear B
  have B := Lib.hid (h0.below hb)
  clear h0
  clear hb
  have pA0 : _ = some (Value.int .i64 2) := A.out.hb.cell 0
  have pA1 : _ = some (Value.int .i64 ya) := A.out.hb.cell 1
  have pA2 : _ = some (Value.int .i64 na) := A.out.hb.cell 2
  have pB0 : _ = some (Value.int .i64 0) := B.out.hb.cell 0
  have pB1 : _ = some (Value.int .i64 ya) := B.out.hb.cell 1
  have pB2 : _ = some (Value.int .i64 nb) := B.out.hb.cell 2
  have fa := A.out.hb.free
  have fb := B.out.hb.free
  have fa0 := fa 0
  have fb0 := fb 0
  have fa1 := fa 1
  have fb1 := fb 1
  have fa2 := fa 2
  have fb2 := fb 2
  clear fa fb
  go_wp2
  go_ret
  have nAB : w.heap.size + 1 ≠ w.heap.size := by omega
  obtain ⟨z1, z2⟩ := set3 F.out A.out (.int .i64 0) (.int .i64 ya) (.int .i64 nb)
  have z3 := ((B.out.other nAB 0 (.int .i64 0)).other nAB 1 (.int .i64 ya)).other nAB 2 (.int .i64 nb)
  obtain ⟨z4, z5⟩ := set3 z1 z3 (.int .i64 2) (.int .i64 ya) (.int .i64 na)
  exact ⟨by first | rfl | simp, (z4.k.below (Nat.le_refl _) (fun b hb hx => by rw [HX.out] at hx; omega))⟩
set_option maxRecDepth 100000 in
set_option maxHeartbeats 6400000 in
theorem comm_21 (ya na nb : Int) (h1 : idleB ⟨2, ya, na⟩ = false) (h2 : idleB ⟨1, ya, nb⟩ = false) (w : World) : Calls Tryz.prog 55 #[.agg #[.int .i64 2, .int .i64 ya, .int .i64 na], .agg #[.int .i64 1, .int .i64 ya, .int .i64 nb]] w fun e w' => e = .returned (.bool (decide (nb ≤ na))) ∧ Below w.heap.size w w' := by
  obtain ⟨X, hXd⟩ : ∃ X : Nat → Prop, X = fun b => w.heap.size ≤ b := ⟨_, rfl⟩
  have hX : ∀ b, w.heap.size ≤ b → X b := by rw [hXd]; exact fun _ h => h
  have HX := Lib.hid hXd
  clear hXd
  obtain ⟨W0, hW0⟩ : ∃ W, W = w.alloc (.cells #[.int .i64 2, .int .i64 ya, .int .i64 na] 25) := ⟨_, rfl⟩
  obtain ⟨Y0, hY0⟩ : ∃ Y : Nat → Prop, Y = fun b => X b ∧ b ≠ w.heap.size := ⟨_, rfl⟩
  have e0 : W0.heap.size = w.heap.size + 1 := by rw [hW0, World.size_alloc]
  have F0 : Fr X Y0 w W0 := by rw [hW0, hY0]; exact (Fr.start hX).new _
  have A0 : Bx 25 X Y0 W0 (w.heap.size) #[.int .i64 2, .int .i64 ya, .int .i64 na] := by rw [hW0, hY0]; exact Bx.new (Fr.start hX) _ _
  obtain ⟨W1, hW1⟩ : ∃ W, W = W0.alloc (.cells #[.int .i64 1, .int .i64 ya, .int .i64 nb] 25) := ⟨_, rfl⟩
  obtain ⟨Y1, hY1⟩ : ∃ Y : Nat → Prop, Y = fun b => Y0 b ∧ b ≠ W0.heap.size := ⟨_, rfl⟩
  have e1 : W1.heap.size = w.heap.size + 2 := by rw [hW1, World.size_alloc, e0]
  have F1 : Fr X Y1 w W1 := by rw [hW1, hY1]; exact F0.new _
  have A1 : Bx 25 X Y1 W1 (w.heap.size) #[.int .i64 2, .int .i64 ya, .int .i64 na] := by rw [hW1, hY1]; exact A0.old _
  have B1 : Bx 25 X Y1 W1 (w.heap.size + 1) #[.int .i64 1, .int .i64 ya, .int .i64 nb] := by rw [hW1, hY1, ← e0]; exact Bx.new F0 _ _
  rw [hW0] at hW1
  have F := Lib.hid F1
  have A := Lib.hid A1
  have B := Lib.hid B1
  clear hY0 hY1 F0 F1 A0 A1 B1 e0 e1 hW0
  clear hX
  have q1 : (ya != ya) = false := by simp
  have H1 := Lib.hid h1
  have H2 := Lib.hid h2
  clear h1 h2
  go_enter Tryz.func55, Tryz.ntmps55
  go_upto_region 1 with fail
  rw [← hW1]
  clear hW1
  have pA0 : _ = some (Value.int .i64 2) := A.out.hb.cell 0
  have pA1 : _ = some (Value.int .i64 ya) := A.out.hb.cell 1
  have pA2 : _ = some (Value.int .i64 na) := A.out.hb.cell 2
  have pB0 : _ = some (Value.int .i64 1) := B.out.hb.cell 0
  have pB1 : _ = some (Value.int .i64 ya) := B.out.hb.cell 1
  have pB2 : _ = some (Value.int .i64 nb) := B.out.hb.cell 2
  go_wp2_with fail
  refine (idle_any (2) ya na (by unfold kdOk; omega) _).mono ?_
  rintro e v0 ⟨rfl, hb⟩
  rw [H1.out]
  clear pA0 pA1 pA2 pB0 pB1 pB2
  obtain h0 := F.out
  clear F
  have F := Lib.hid (h0.below hb)
  clear h0
  obtain h0 := A.out
  clear A
  have A := Lib.hid (h0.below hb)
  clear h0
  obtain h0 := B.out
  clear B
  have B := Lib.hid (h0.below hb)
  clear h0
  clear hb
  have pA0 : _ = some (Value.int .i64 2) := A.out.hb.cell 0
  have pA1 : _ = some (Value.int .i64 ya) := A.out.hb.cell 1
  have pA2 : _ = some (Value.int .i64 na) := A.out.hb.cell 2
  have pB0 : _ = some (Value.int .i64 1) := B.out.hb.cell 0
  have pB1 : _ = some (Value.int .i64 ya) := B.out.hb.cell 1
  have pB2 : _ = some (Value.int .i64 nb) := B.out.hb.cell 2
  go_wp2_with fail
  refine (idle_any (1) ya nb (by unfold kdOk; omega) _).mono ?_
  rintro e v1 ⟨rfl, hb⟩
  rw [H2.out]
  clear pA0 pA1 pA2 pB0 pB1 pB2
  obtain h0 := F.out
  clear F
  have F := Lib.hid (h0.below hb)
  clear h0
  obtain h0 := A.out
  clear A
  have A := Lib.hid (h0.below hb)
  clear h0
  obtain h0 := B.out
  clear B
  have B := Lib.hid (h0.below hb)
  clear h0
  clear hb
  have pA0 : _ = some (Value.int .i64 2) := A.out.hb.cell 0
  have pA1 : _ = some (Value.int .i64 ya) := A.out.hb.cell 1
  have pA2 : _ = some (Value.int .i64 na) := A.out.hb.cell 2
  have pB0 : _ = some (Value.int .i64 1) := B.out.hb.cell 0
  have pB1 : _ = some (Value.int .i64 ya) := B.out.hb.cell 1
  have pB2 : _ = some (Value.int .i64 nb) := B.out.hb.cell 2
  have fa := A.out.hb.free
  have fb := B.out.hb.free
  have fa0 := fa 0
  have fb0 := fb 0
  have fa1 := fa 1
  have fb1 := fb 1
  have fa2 := fa 2
  have fb2 := fb 2
  clear fa fb
  go_wp2
  go_ret
  have nAB : w.heap.size + 1 ≠ w.heap.size := by omega
  obtain ⟨z1, z2⟩ := set3 F.out A.out (.int .i64 1) (.int .i64 ya) (.int .i64 nb)
  have z3 := ((B.out.other nAB 0 (.int .i64 1)).other nAB 1 (.int .i64 ya)).other nAB 2 (.int .i64 nb)
  obtain ⟨z4, z5⟩ := set3 z1 z3 (.int .i64 2) (.int .i64 ya) (.int .i64 na)
  exact ⟨by first | rfl | simp, (z4.k.below (Nat.le_refl _) (fun b hb hx => by rw [HX.out] at hx; omega))⟩
set_option maxRecDepth 100000 in
set_option maxHeartbeats 6400000 in
theorem comm_22 (ya na nb : Int) (h1 : idleB ⟨2, ya, na⟩ = false) (h2 : idleB ⟨2, ya, nb⟩ = false) (w : World) : Calls Tryz.prog 55 #[.agg #[.int .i64 2, .int .i64 ya, .int .i64 na], .agg #[.int .i64 2, .int .i64 ya, .int .i64 nb]] w fun e w' => e = .returned (.bool (true)) ∧ Below w.heap.size w w' := by
  obtain ⟨X, hXd⟩ : ∃ X : Nat → Prop, X = fun b => w.heap.size ≤ b := ⟨_, rfl⟩
  have hX : ∀ b, w.heap.size ≤ b → X b := by rw [hXd]; exact fun _ h => h
  have HX := Lib.hid hXd
  clear hXd
  obtain ⟨W0, hW0⟩ : ∃ W, W = w.alloc (.cells #[.int .i64 2, .int .i64 ya, .int .i64 na] 25) := ⟨_, rfl⟩
  obtain ⟨Y0, hY0⟩ : ∃ Y : Nat → Prop, Y = fun b => X b ∧ b ≠ w.heap.size := ⟨_, rfl⟩
  have e0 : W0.heap.size = w.heap.size + 1 := by rw [hW0, World.size_alloc]
  have F0 : Fr X Y0 w W0 := by rw [hW0, hY0]; exact (Fr.start hX).new _
  have A0 : Bx 25 X Y0 W0 (w.heap.size) #[.int .i64 2, .int .i64 ya, .int .i64 na] := by rw [hW0, hY0]; exact Bx.new (Fr.start hX) _ _
  obtain ⟨W1, hW1⟩ : ∃ W, W = W0.alloc (.cells #[.int .i64 2, .int .i64 ya, .int .i64 nb] 25) := ⟨_, rfl⟩
  obtain ⟨Y1, hY1⟩ : ∃ Y : Nat → Prop, Y = fun b => Y0 b ∧ b ≠ W0.heap.size := ⟨_, rfl⟩
  have e1 : W1.heap.size = w.heap.size + 2 := by rw [hW1, World.size_alloc, e0]
  have F1 : Fr X Y1 w W1 := by rw [hW1, hY1]; exact F0.new _
  have A1 : Bx 25 X Y1 W1 (w.heap.size) #[.int .i64 2, .int .i64 ya, .int .i64 na] := by rw [hW1, hY1]; exact A0.old _
  have B1 : Bx 25 X Y1 W1 (w.heap.size + 1) #[.int .i64 2, .int .i64 ya, .int .i64 nb] := by rw [hW1, hY1, ← e0]; exact Bx.new F0 _ _
  rw [hW0] at hW1
  have F := Lib.hid F1
  have A := Lib.hid A1
  have B := Lib.hid B1
  clear hY0 hY1 F0 F1 A0 A1 B1 e0 e1 hW0
  clear hX
  have q1 : (ya != ya) = false := by simp
  have H1 := Lib.hid h1
  have H2 := Lib.hid h2
  clear h1 h2
  go_enter Tryz.func55, Tryz.ntmps55
  go_upto_region 1 with fail
  rw [← hW1]
  clear hW1
  have pA0 : _ = some (Value.int .i64 2) := A.out.hb.cell 0
  have pA1 : _ = some (Value.int .i64 ya) := A.out.hb.cell 1
  have pA2 : _ = some (Value.int .i64 na) := A.out.hb.cell 2
  have pB0 : _ = some (Value.int .i64 2) := B.out.hb.cell 0
  have pB1 : _ = some (Value.int .i64 ya) := B.out.hb.cell 1
  have pB2 : _ = some (Value.int .i64 nb) := B.out.hb.cell 2
  go_wp2_with fail
  refine (idle_any (2) ya na (by unfold kdOk; omega) _).mono ?_
  rintro e v0 ⟨rfl, hb⟩
  rw [H1.out]
  clear pA0 pA1 pA2 pB0 pB1 pB2
  obtain h0 := F.out
  clear F
  have F := Lib.hid (h0.below hb)
  clear h0
  obtain h0 := A.out
  clear A
  have A := Lib.hid (h0.below hb)
  clear h0
  obtain h0 := B.out
  clear B
  have B := Lib.hid (h0.below hb)
  clear h0
  clear hb
  have pA0 : _ = some (Value.int .i64 2) := A.out.hb.cell 0
  have pA1 : _ = some (Value.int .i64 ya) := A.out.hb.cell 1
  have pA2 : _ = some (Value.int .i64 na) := A.out.hb.cell 2
  have pB0 : _ = some (Value.int .i64 2) := B.out.hb.cell 0
  have pB1 : _ = some (Value.int .i64 ya) := B.out.hb.cell 1
  have pB2 : _ = some (Value.int .i64 nb) := B.out.hb.cell 2
  go_wp2_with fail
  refine (idle_any (2) ya nb (by unfold kdOk; omega) _).mono ?_
  rintro e v1 ⟨rfl, hb⟩
  rw [H2.out]
  clear pA0 pA1 pA2 pB0 pB1 pB2
  obtain h0 := F.out
  clear F
  have F := Lib.hid (h0.below hb)
  clear h0
  obtain h0 := A.out
  clear A
  have A := Lib.hid (h0.below hb)
  clear h0
  obtain h0 := B.out
  clear B
  have B := Lib.hid (h0.below hb)
  clear h0
  clear hb
  have pA0 : _ = some (Value.int .i64 2) := A.out.hb.cell 0
  have pA1 : _ = some (Value.int .i64 ya) := A.out.hb.cell 1
  have pA2 : _ = some (Value.int .i64 na) := A.out.hb.cell 2
  have pB0 : _ = some (Value.int .i64 2) := B.out.hb.cell 0
  have pB1 : _ = some (Value.int .i64 ya) := B.out.hb.cell 1
  have pB2 : _ = some (Value.int .i64 nb) := B.out.hb.cell 2
  have fa := A.out.hb.free
  have fb := B.out.hb.free
  have fa0 := fa 0
  have fb0 := fb 0
  have fa1 := fa 1
  have fb1 := fb 1
  have fa2 := fa 2
  have fb2 := fb 2
  clear fa fb
  go_wp2
  go_ret
  exact ⟨by first | rfl | simp, (F.out.k.below (Nat.le_refl _) (fun b hb hx => by rw [HX.out] at hx; omega))⟩
set_option maxRecDepth 100000 in
set_option maxHeartbeats 6400000 in
theorem comm_23 (ya na nb : Int) (h1 : idleB ⟨2, ya, na⟩ = false) (h2 : idleB ⟨3, ya, nb⟩ = false) (w : World) : Calls Tryz.prog 55 #[.agg #[.int .i64 2, .int .i64 ya, .int .i64 na], .agg #[.int .i64 3, .int .i64 ya, .int .i64 nb]] w fun e w' => e = .returned (.bool (decide (nb ≤ na))) ∧ Below w.heap.size w w' := by
  obtain ⟨X, hXd⟩ : ∃ X : Nat → Prop, X = fun b => w.heap.size ≤ b := ⟨_, rfl⟩
  have hX : ∀ b, w.heap.size ≤ b → X b := by rw [hXd]; exact fun _ h => h
  have HX := Lib.hid hXd
  clear hXd
  obtain ⟨W0, hW0⟩ : ∃ W, W = w.alloc (.cells #[.int .i64 2, .int .i64 ya, .int .i64 na] 25) := ⟨_, rfl⟩
  obtain ⟨Y0, hY0⟩ : ∃ Y : Nat → Prop, Y = fun b => X b ∧ b ≠ w.heap.size := ⟨_, rfl⟩
  have e0 : W0.heap.size = w.heap.size + 1 := by rw [hW0, World.size_alloc]
  have F0 : Fr X Y0 w W0 := by rw [hW0, hY0]; exact (Fr.start hX).new _
  have A0 : Bx 25 X Y0 W0 (w.heap.size) #[.int .i64 2, .int .i64 ya, .int .i64 na] := by rw [hW0, hY0]; exact Bx.new (Fr.start hX) _ _
  obtain ⟨W1, hW1⟩ : ∃ W, W = W0.alloc (.cells #[.int .i64 3, .int .i64 ya, .int .i64 nb] 25) := ⟨_, rfl⟩
  obtain ⟨Y1, hY1⟩ : ∃ Y : Nat → Prop, Y = fun b => Y0 b ∧ b ≠ W0.heap.size := ⟨_, rfl⟩
  have e1 : W1.heap.size = w.heap.size + 2 := by rw [hW1, World.size_alloc, e0]
  have F1 : Fr X Y1 w W1 := by rw [hW1, hY1]; exact F0.new _
  have A1 : Bx 25 X Y1 W1 (w.heap.size) #[.int .i64 2, .int .i64 ya, .int .i64 na] := by rw [hW1, hY1]; exact A0.old _
  have B1 : Bx 25 X Y1 W1 (w.heap.size + 1) #[.int .i64 3, .int .i64 ya, .int .i64 nb] := by rw [hW1, hY1, ← e0]; exact Bx.new F0 _ _
  rw [hW0] at hW1
  have F := Lib.hid F1
  have A := Lib.hid A1
  have B := Lib.hid B1
  clear hY0 hY1 F0 F1 A0 A1 B1 e0 e1 hW0
  clear hX
  have q1 : (ya != ya) = false := by simp
  have H1 := Lib.hid h1
  have H2 := Lib.hid h2
  clear h1 h2
  go_enter Tryz.func55, Tryz.ntmps55
  go_upto_region 1 with fail
  rw [← hW1]
  clear hW1
  have pA0 : _ = some (Value.int .i64 2) := A.out.hb.cell 0
  have pA1 : _ = some (Value.int .i64 ya) := A.out.hb.cell 1
  have pA2 : _ = some (Value.int .i64 na) := A.out.hb.cell 2
  have pB0 : _ = some (Value.int .i64 3) := B.out.hb.cell 0
  have pB1 : _ = some (Value.int .i64 ya) := B.out.hb.cell 1
  have pB2 : _ = some (Value.int .i64 nb) := B.out.hb.cell 2
  go_wp2_with fail
  refine (idle_any (2) ya na (by unfold kdOk; omega) _).mono ?_
  rintro e v0 ⟨rfl, hb⟩
  rw [H1.out]
  clear pA0 pA1 pA2 pB0 pB1 pB2
  obtain h0 := F.out
  clear F
  have F := Lib.hid (h0.below hb)
  clear h0
  obtain h0 := A.out
  clear A
  have A := Lib.hid (h0.below hb)
  clear h0
  obtain h0 := B.out
  clear B
  have B := Lib.hid (h0.below hb)
  clear h0
  clear hb
  have pA0 : _ = some (Value.int .i64 2) := A.out.hb.cell 0
  have pA1 : _ = some (Value.int .i64 ya) := A.out.hb.cell 1
  have pA2 : _ = some (Value.int .i64 na) := A.out.hb.cell 2
  have pB0 : _ = some (Value.int .i64 3) := B.out.hb.cell 0
  have pB1 : _ = some (Value.int .i64 ya) := B.out.hb.cell 1
  have pB2 : _ = some (Value.int .i64 nb) := B.out.hb.cell 2
  go_wp2_with fail
  refine (idle_any (3) ya nb (by unfold kdOk; omega) _).mono ?_
  rintro e v1 ⟨rfl, hb⟩
  rw [H2.out]
  clear pA0 pA1 pA2 pB0 pB1 pB2
  obtain h0 := F.out
  clear F
  have F := Lib.hid (h0.below hb)
  clear h0
  obtain h0 := A.out
  clear A
  have A := Lib.hid (h0.below hb)
  clear h0
  obtain h0 := B.out
  clear B
  have B := Lib.hid (h0.below hb)
  clear h0
  clear hb
  have pA0 : _ = some (Value.int .i64 2) := A.out.hb.cell 0
  have pA1 : _ = some (Value.int .i64 ya) := A.out.hb.cell 1
  have pA2 : _ = some (Value.int .i64 na) := A.out.hb.cell 2
  have pB0 : _ = some (Value.int .i64 3) := B.out.hb.cell 0
  have pB1 : _ = some (Value.int .i64 ya) := B.out.hb.cell 1
  have pB2 : _ = some (Value.int .i64 nb) := B.out.hb.cell 2
  have fa := A.out.hb.free
  have fb := B.out.hb.free
  have fa0 := fa 0
  have fb0 := fb 0
  have fa1 := fa 1
  have fb1 := fb 1
  have fa2 := fa 2
  have fb2 := fb 2
  clear fa fb
  go_wp2
  go_ret
  exact ⟨by first | rfl | simp, (F.out.k.below (Nat.le_refl _) (fun b hb hx => by rw [HX.out] at hx; omega))⟩
set_option maxRecDepth 100000 in
set_option maxHeartbeats 6400000 in
theorem comm_30 (ya na nb : Int) (h1 : idleB ⟨3, ya, na⟩ = false) (h2 : idleB ⟨0, ya, nb⟩ = false) (w : World) : Calls Tryz.prog 55 #[.agg #[.int .i64 3, .int .i64 ya, .int .i64 na], .agg #[.int .i64 0, .int .i64 ya, .int .i64 nb]] w fun e w' => e = .returned (.bool (false)) ∧ Below w.heap.size w w' := by
  obtain ⟨X, hXd⟩ : ∃ X : Nat → Prop, X = fun b => w.heap.size ≤ b := ⟨_, rfl⟩
  have hX : ∀ b, w.heap.size ≤ b → X b := by rw [hXd]; exact fun _ h => h
  have HX := Lib.hid hXd
  clear hXd
  obtain ⟨W0, hW0⟩ : ∃ W, W = w.alloc (.cells #[.int .i64 3, .int .i64 ya, .int .i64 na] 25) := ⟨_, rfl⟩
  obtain ⟨Y0, hY0⟩ : ∃ Y : Nat → Prop, Y = fun b => X b ∧ b ≠ w.heap.size := ⟨_, rfl⟩
  have e0 : W0.heap.size = w.heap.size + 1 := by rw [hW0, World.size_alloc]
  have F0 : Fr X Y0 w W0 := by rw [hW0, hY0]; exact (Fr.start hX).new _
  have A0 : Bx 25 X Y0 W0 (w.heap.size) #[.int .i64 3, .int .i64 ya, .int .i64 na] := by rw [hW0, hY0]; exact Bx.new (Fr.start hX) _ _
  obtain ⟨W1, hW1⟩ : ∃ W, W = W0.alloc (.cells #[.int .i64 0, .int .i64 ya, .int .i64 nb] 25) := ⟨_, rfl⟩
  obtain ⟨Y1, hY1⟩ : ∃ Y : Nat → Prop, Y = fun b => Y0 b ∧ b ≠ W0.heap.size := ⟨_, rfl⟩
  have e1 : W1.heap.size = w.heap.size + 2 := by rw [hW1, World.size_alloc, e0]
  have F1 : Fr X Y1 w W1 := by rw [hW1, hY1]; exact F0.new _
  have A1 : Bx 25 X Y1 W1 (w.heap.size) #[.int .i64 3, .int .i64 ya, .int .i64 na] := by rw [hW1, hY1]; exact A0.old _
  have B1 : Bx 25 X Y1 W1 (w.heap.size + 1) #[.int .i64 0, .int .i64 ya, .int .i64 nb] := by rw [hW1, hY1, ← e0]; exact Bx.new F0 _ _
  rw [hW0] at hW1
  have F := Lib.hid F1
  have A := Lib.hid A1
  have B := Lib.hid B1
  clear hY0 hY1 F0 F1 A0 A1 B1 e0 e1 hW0
  clear hX
  have q1 : (ya != ya) = false := by simp
  have H1 := Lib.hid h1
  have H2 := Lib.hid h2
  clear h1 h2
  go_enter Tryz.func55, Tryz.ntmps55
  go_upto_region 1 with fail
  rw [← hW1]
  clear hW1
  have pA0 : _ = some (Value.int .i64 3) := A.out.hb.cell 0
  have pA1 : _ = some (Value.int .i64 ya) := A.out.hb.cell 1
  have pA2 : _ = some (Value.int .i64 na) := A.out.hb.cell 2
  have pB0 : _ = some (Value.int .i64 0) := B.out.hb.cell 0
  have pB1 : _ = some (Value.int .i64 ya) := B.out.hb.cell 1
  have pB2 : _ = some (Value.int .i64 nb) := B.out.hb.cell 2
  go_wp2_with fail
  refine (idle_any (3) ya na (by unfold kdOk; omega) _).mono ?_
  rintro e v0 ⟨rfl, hb⟩
  rw [H1.out]
  clear pA0 pA1 pA2 pB0 pB1 pB2
  obtain h0 := F.out
  clear F
  have F := Lib.hid (h0.below hb)
  clear h0
  obtain h0 := A.out
  clear A
  have A := Lib.hid (h0.below hb)
  clear h0
  obtain h0 := B.out
  clear B
  have B := Lib.hid (h0.below hb)
  clear h0
  clear hb
  have pA0 : _ = some (Value.int .i64 3) := A.out.hb.cell 0
  have pA1 : _ = some (Value.int .i64 ya) := A.out.hb.cell 1
  have pA2 : _ = some (Value.int .i64 na) := A.out.hb.cell 2
  have pB0 : _ = some (Value.int .i64 0) := B.out.hb.cell 0
  have pB1 : _ = some (Value.int .i64 ya) := B.out.hb.cell 1
  have pB2 : _ = some (Value.int .i64 nb) := B.out.hb.cell 2
  go_wp2_with fail
  refine (idle_any (0) ya nb (by unfold kdOk; omega) _).mono ?_
  rintro e v1 ⟨rfl, hb⟩
  rw [H2.out]
  clear pA0 pA1 pA2 pB0 pB1 pB2
  obtain h0 := F.out
  clear F
  have F := Lib.hid (h0.below hb)
  clear h0
  obtain h0 := A.out
  clear A
  have A := Lib.hid (h0.below hb)
  clear h0
  obtain h0 := B.out
  clear B
  have B := Lib.hid (h0.below hb)
  clear h0
  clear hb
  have pA0 : _ = some (Value.int .i64 3) := A.out.hb.cell 0
  have pA1 : _ = some (Value.int .i64 ya) := A.out.hb.cell 1
  have pA2 : _ = some (Value.int .i64 na) := A.out.hb.cell 2
  have pB0 : _ = some (Value.int .i64 0) := B.out.hb.cell 0
  have pB1 : _ = some (Value.int .i64 ya) := B.out.hb.cell 1
  have pB2 : _ = some (Value.int .i64 nb) := B.out.hb.cell 2
  have fa := A.out.hb.free
  have fb := B.out.hb.free
  have fa0 := fa 0
  have fb0 := fb 0
  have fa1 := fa 1
  have fb1 := fb 1
  have fa2 := fa 2
  have fb2 := fb 2
  clear fa fb
  go_wp2
  go_ret
  have nAB : w.heap.size + 1 ≠ w.heap.size := by omega
  obtain ⟨z1, z2⟩ := set3 F.out A.out (.int .i64 0) (.int .i64 ya) (.int .i64 nb)
  have z3 := ((B.out.other nAB 0 (.int .i64 0)).other nAB 1 (.int .i64 ya)).other nAB 2 (.int .i64 nb)
  obtain ⟨z4, z5⟩ := set3 z1 z3 (.int .i64 3) (.int .i64 ya) (.int .i64 na)
  exact ⟨by first | rfl | simp, (z4.k.below (Nat.le_refl _) (fun b hb hx => by rw [HX.out] at hx; omega))⟩
set_option maxRecDepth 100000 in
set_option maxHeartbeats 6400000 in
theorem comm_31 (ya na nb : Int) (h1 : idleB ⟨3, ya, na⟩ = false) (h2 : idleB ⟨1, ya, nb⟩ = false) (w : World) : Calls Tryz.prog 55 #[.agg #[.int .i64 3, .int .i64 ya, .int .i64 na], .agg #[.int .i64 1, .int .i64 ya, .int .i64 nb]] w fun e w' => e = .returned (.bool (decide (nb ≤ na))) ∧ Below w.heap.size w w' := by
  obtain ⟨X, hXd⟩ : ∃ X : Nat → Prop, X = fun b => w.heap.size ≤ b := ⟨_, rfl⟩
  have hX : ∀ b, w.heap.size ≤ b → X b := by rw [hXd]; exact fun _ h => h
  have HX := Lib.hid hXd
  clear hXd
  obtain ⟨W0, hW0⟩ : ∃ W, W = w.alloc (.cells #[.int .i64 3, .int .i64 ya, .int .i64 na] 25) := ⟨_, rfl⟩
  obtain ⟨Y0, hY0⟩ : ∃ Y : Nat → Prop, Y = fun b => X b ∧ b ≠ w.heap.size := ⟨_, rfl⟩
  have e0 : W0.heap.size = w.heap.size + 1 := by rw [hW0, World.size_alloc]
  have F0 : Fr X Y0 w W0 := by rw [hW0, hY0]; exact (Fr.start hX).new _
  have A0 : Bx 25 X Y0 W0 (w.heap.size) #[.int .i64 3, .int .i64 ya, .int .i64 na] := by rw [hW0, hY0]; exact Bx.new (Fr.start hX) _ _
  obtain ⟨W1, hW1⟩ : ∃ W, W = W0.alloc (.cells #[.int .i64 1, .int .i64 ya, .int .i64 nb] 25) := ⟨_, rfl⟩
  obtain ⟨Y1, hY1⟩ : ∃ Y : Nat → Prop, Y = fun b => Y0 b ∧ b ≠ W0.heap.size := ⟨_, rfl⟩
  have e1 : W1.heap.size = w.heap.size + 2 := by rw [hW1, World.size_alloc, e0]
  have F1 : Fr X Y1 w W1 := by rw [hW1, hY1]; exact F0.new _
  have A1 : Bx 25 X Y1 W1 (w.heap.size) #[.int .i64 3, .int .i64 ya, .int .i64 na] := by rw [hW1, hY1]; exact A0.old _
  have B1 : Bx 25 X Y1 W1 (w.heap.size + 1) #[.int .i64 1, .int .i64 ya, .int .i64 nb] := by rw [hW1, hY1, ← e0]; exact Bx.new F0 _ _
  rw [hW0] at hW1
  have F := Lib.hid F1
  have A := Lib.hid A1
  have B := Lib.hid B1
  clear hY0 hY1 F0 F1 A0 A1 B1 e0 e1 hW0
  clear hX
  have q1 : (ya != ya) = false := by simp
  have H1 := Lib.hid h1
  have H2 := Lib.hid h2
  clear h1 h2
  go_enter Tryz.func55, Tryz.ntmps55
  go_upto_region 1 with fail
  rw [← hW1]
  clear hW1
  have pA0 : _ = some (Value.int .i64 3) := A.out.hb.cell 0
  have pA1 : _ = some (Value.int .i64 ya) := A.out.hb.cell 1
  have pA2 : _ = some (Value.int .i64 na) := A.out.hb.cell 2
  have pB0 : _ = some (Value.int .i64 1) := B.out.hb.cell 0
  have pB1 : _ = some (Value.int .i64 ya) := B.out.hb.cell 1
  have pB2 : _ = some (Value.int .i64 nb) := B.out.hb.cell 2
  go_wp2_with fail
  refine (idle_any (3) ya na (by unfold kdOk; omega) _).mono ?_
  rintro e v0 ⟨rfl, hb⟩
  rw [H1.out]
  clear pA0 pA1 pA2 pB0 pB1 pB2
  obtain h0 := F.out
  clear F
  have F := Lib.hid (h0.below hb)
  clear h0
  obtain h0 := A.out
  clear A
  have A := Lib.hid (h0.below hb)
  clear h0
  obtain h0 := B.out
  clear B
  have B := Lib.hid (h0.below hb)
  clear h0
  clear hb
  have pA0 : _ = some (Value.int .i64 3) := A.out.hb.cell 0
  have pA1 : _ = some (Value.int .i64 ya) := A.out.hb.cell 1
  have pA2 : _ = some (Value.int .i64 na) := A.out.hb.cell 2
  have pB0 : _ = some (Value.int .i64 1) := B.out.hb.cell 0
  have pB1 : _ = some (Value.int .i64 ya) := B.out.hb.cell 1
  have pB2 : _ = some (Value.int .i64 nb) := B.out.hb.cell 2
  go_wp2_with fail
  refine (idle_any (1) ya nb (by unfold kdOk; omega) _).mono ?_
  rintro e v1 ⟨rfl, hb⟩
  rw [H2.out]
  clear pA0 pA1 pA2 pB0 pB1 pB2
  obtain h0 := F.out
  clear F
  have F := Lib.hid (h0.below hb)
  clear h0
  obtain h0 := A.out
  clear A
  have A := Lib.hid (h0.below hb)
  clear h0
  obtain h0 := B.out
  clear B
  have B := Lib.hid (h0.below hb)
  clear h0
  clear hb
  have pA0 : _ = some (Value.int .i64 3) := A.out.hb.cell 0
  have pA1 : _ = some (Value.int .i64 ya) := A.out.hb.cell 1
  have pA2 : _ = some (Value.int .i64 na) := A.out.hb.cell 2
  have pB0 : _ = some (Value.int .i64 1) := B.out.hb.cell 0
  have pB1 : _ = some (Value.int .i64 ya) := B.out.hb.cell 1
  have pB2 : _ = some (Value.int .i64 nb) := B.out.hb.cell 2
  have fa := A.out.hb.free
  have fb := B.out.hb.free
  have fa0 := fa 0
  have fb0 := fb 0
  have fa1 := fa 1
  have fb1 := fb 1
  have fa2 := fa 2
  have fb2 := fb 2
  clear fa fb
  go_wp2
  go_ret
  have nAB : w.heap.size + 1 ≠ w.heap.size := by omega
  obtain ⟨z1, z2⟩ := set3 F.out A.out (.int .i64 1) (.int .i64 ya) (.int .i64 nb)
  have z3 := ((B.out.other nAB 0 (.int .i64 1)).other nAB 1 (.int .i64 ya)).other nAB 2 (.int .i64 nb)
  obtain ⟨z4, z5⟩ := set3 z1 z3 (.int .i64 3) (.int .i64 ya) (.int .i64 na)
  exact ⟨by first | rfl | simp, (z4.k.below (Nat.le_refl _) (fun b hb hx => by rw [HX.out] at hx; omega))⟩
set_option maxRecDepth 100000 in
set_option maxHeartbeats 6400000 in
theorem comm_32 (ya na nb : Int) (h1 : idleB ⟨3, ya, na⟩ = false) (h2 : idleB ⟨2, ya, nb⟩ = false) (w : World) : Calls Tryz.prog 55 #[.agg #[.int .i64 3, .int .i64 ya, .int .i64 na], .agg #[.int .i64 2, .int .i64 ya, .int .i64 nb]] w fun e w' => e = .returned (.bool (decide (na ≤ nb))) ∧ Below w.heap.size w w' := by
  obtain ⟨X, hXd⟩ : ∃ X : Nat → Prop, X = fun b => w.heap.size ≤ b := ⟨_, rfl⟩
  have hX : ∀ b, w.heap.size ≤ b → X b := by rw [hXd]; exact fun _ h => h
  have HX := Lib.hid hXd
  clear hXd
  obtain ⟨W0, hW0⟩ : ∃ W, W = w.alloc (.cells #[.int .i64 3, .int .i64 ya, .int .i64 na] 25) := ⟨_, rfl⟩
  obtain ⟨Y0, hY0⟩ : ∃ Y : Nat → Prop, Y = fun b => X b ∧ b ≠ w.heap.size := ⟨_, rfl⟩
  have e0 : W0.heap.size = w.heap.size + 1 := by rw [hW0, World.size_alloc]
  have F0 : Fr X Y0 w W0 := by rw [hW0, hY0]; exact (Fr.start hX).new _
  have A0 : Bx 25 X Y0 W0 (w.heap.size) #[.int .i64 3, .int .i64 ya, .int .i64 na] := by rw [hW0, hY0]; exact Bx.new (Fr.start hX) _ _
  obtain ⟨W1, hW1⟩ : ∃ W, W = W0.alloc (.cells #[.int .i64 2, .int .i64 ya, .int .i64 nb] 25) := ⟨_, rfl⟩
  obtain ⟨Y1, hY1⟩ : ∃ Y : Nat → Prop, Y = fun b => Y0 b ∧ b ≠ W0.heap.size := ⟨_, rfl⟩
  have e1 : W1.heap.size = w.heap.size + 2 := by rw [hW1, World.size_alloc, e0]
  have F1 : Fr X Y1 w W1 := by rw [hW1, hY1]; exact F0.new _
  have A1 : Bx 25 X Y1 W1 (w.heap.size) #[.int .i64 3, .int .i64 ya, .int .i64 na] := by rw [hW1, hY1]; exact A0.old _
  have B1 : Bx 25 X Y1 W1 (w.heap.size + 1) #[.int .i64 2, .int .i64 ya, .int .i64 nb] := by rw [hW1, hY1, ← e0]; exact Bx.new F0 _ _
  rw [hW0] at hW1
  have F := Lib.hid F1
  have A := Lib.hid A1
  have B := Lib.hid B1
  clear hY0 hY1 F0 F1 A0 A1 B1 e0 e1 hW0
  clear hX
  have q1 : (ya != ya) = false := by simp
  have H1 := Lib.hid h1
  have H2 := Lib.hid h2
  clear h1 h2
  go_enter Tryz.func55, Tryz.ntmps55
  go_upto_region 1 with fail
  rw [← hW1]
  clear hW1
  have pA0 : _ = some (Value.int .i64 3) := A.out.hb.cell 0
  have pA1 : _ = some (Value.int .i64 ya) := A.out.hb.cell 1
  have pA2 : _ = some (Value.int .i64 na) := A.out.hb.cell 2
  have pB0 : _ = some (Value.int .i64 2) := B.out.hb.cell 0
  have pB1 : _ = some (Value.int .i64 ya) := B.out.hb.cell 1
  have pB2 : _ = some (Value.int .i64 nb) := B.out.hb.cell 2
  go_wp2_with fail
  refine (idle_any (3) ya na (by unfold kdOk; omega) _).mono ?_
  rintro e v0 ⟨rfl, hb⟩
  rw [H1.out]
  clear pA0 pA1 pA2 pB0 pB1 pB2
  obtain h0 := F.out
  clear F
  have F := Lib.hid (h0.below hb)
  clear h0
  obtain h0 := A.out
  clear A
  have A := Lib.hid (h0.below hb)
  clear h0
  obtain h0 := B.out
  clear B
  have B := Lib.hid (h0.below hb)
  clear h0
  clear hb
  have pA0 : _ = some (Value.int .i64 3) := A.out.hb.cell 0
  have pA1 : _ = some (Value.int .i64 ya) := A.out.hb.cell 1
  have pA2 : _ = some (Value.int .i64 na) := A.out.hb.cell 2
  have pB0 : _ = some (Value.int .i64 2) := B.out.hb.cell 0
  have pB1 : _ = some (Value.int .i64 ya) := B.out.hb.cell 1
  have pB2 : _ = some (Value.int .i64 nb) := B.out.hb.cell 2
  go_wp2_with fail
  refine (idle_any (2) ya nb (by unfold kdOk; omega) _).mono ?_
  rintro e v1 ⟨rfl, hb⟩
  rw [H2.out]
  clear pA0 pA1 pA2 pB0 pB1 pB2
  obtain h0 := F.out
  clear F
  have F := Lib.hid (h0.below hb)
  clear h0
  obtain h0 := A.out
  clear A
  have A := Lib.hid (h0.below hb)
  clear h0
  obtain h0 := B.out
  clear B
  have B := Lib.hid (h0.below hb)
  clear h0
  clear hb
  have pA0 : _ = some (Value.int .i64 3) := A.out.hb.cell 0
  have pA1 : _ = some (Value.int .i64 ya) := A.out.hb.cell 1
  have pA2 : _ = some (Value.int .i64 na) := A.out.hb.cell 2
  have pB0 : _ = some (Value.int .i64 2) := B.out.hb.cell 0
  have pB1 : _ = some (Value.int .i64 ya) := B.out.hb.cell 1
  have pB2 : _ = some (Value.int .i64 nb) := B.out.hb.cell 2
  have fa := A.out.hb.free
  have fb := B.out.hb.free
  have fa0 := fa 0
  have fb0 := fb 0
  have fa1 := fa 1
  have fb1 := fb 1
  have fa2 := fa 2
  have fb2 := fb 2
  clear fa fb
  go_wp2
  go_ret
  have nAB : w.heap.size + 1 ≠ w.heap.size := by omega
  obtain ⟨z1, z2⟩ := set3 F.out A.out (.int .i64 2) (.int .i64 ya) (.int .i64 nb)
  have z3 := ((B.out.other nAB 0 (.int .i64 2)).other nAB 1 (.int .i64 ya)).other nAB 2 (.int .i64 nb)
  obtain ⟨z4, z5⟩ := set3 z1 z3 (.int .i64 3) (.int .i64 ya) (.int .i64 na)
  exact ⟨by first | rfl | simp, (z4.k.below (Nat.le_refl _) (fun b hb hx => by rw [HX.out] at hx; omega))⟩
set_option maxRecDepth 100000 in
set_option maxHeartbeats 6400000 in
theorem comm_33 (ya na nb : Int) (h1 : idleB ⟨3, ya, na⟩ = false) (h2 : idleB ⟨3, ya, nb⟩ = false) (w : World) : Calls Tryz.prog 55 #[.agg #[.int .i64 3, .int .i64 ya, .int .i64 na], .agg #[.int .i64 3, .int .i64 ya, .int .i64 nb]] w fun e w' => e = .returned (.bool (decide (na = nb))) ∧ Below w.heap.size w w' := by
  obtain ⟨X, hXd⟩ : ∃ X : Nat → Prop, X = fun b => w.heap.size ≤ b := ⟨_, rfl⟩
  have hX : ∀ b, w.heap.size ≤ b → X b := by rw [hXd]; exact fun _ h => h
  have HX := Lib.hid hXd
  clear hXd
  obtain ⟨W0, hW0⟩ : ∃ W, W = w.alloc (.cells #[.int .i64 3, .int .i64 ya, .int .i64 na] 25) := ⟨_, rfl⟩
  obtain ⟨Y0, hY0⟩ : ∃ Y : Nat → Prop, Y = fun b => X b ∧ b ≠ w.heap.size := ⟨_, rfl⟩
  have e0 : W0.heap.size = w.heap.size + 1 := by rw [hW0, World.size_alloc]
  have F0 : Fr X Y0 w W0 := by rw [hW0, hY0]; exact (Fr.start hX).new _
  have A0 : Bx 25 X Y0 W0 (w.heap.size) #[.int .i64 3, .int .i64 ya, .int .i64 na] := by rw [hW0, hY0]; exact Bx.new (Fr.start hX) _ _
  obtain ⟨W1, hW1⟩ : ∃ W, W = W0.alloc (.cells #[.int .i64 3, .int .i64 ya, .int .i64 nb] 25) := ⟨_, rfl⟩
  obtain ⟨Y1, hY1⟩ : ∃ Y : Nat → Prop, Y = fun b => Y0 b ∧ b ≠ W0.heap.size := ⟨_, rfl⟩
  have e1 : W1.heap.size = w.heap.size + 2 := by rw [hW1, World.size_alloc, e0]
  have F1 : Fr X Y1 w W1 := by rw [hW1, hY1]; exact F0.new _
  have A1 : Bx 25 X Y1 W1 (w.heap.size) #[.int .i64 3, .int .i64 ya, .int .i64 na] := by rw [hW1, hY1]; exact A0.old _
  have B1 : Bx 25 X Y1 W1 (w.heap.size + 1) #[.int .i64 3, .int .i64 ya, .int .i64 nb] := by rw [hW1, hY1, ← e0]; exact Bx.new F0 _ _
  rw [hW0] at hW1
  have F := Lib.hid F1
  have A := Lib.hid A1
  have B := Lib.hid B1
  clear hY0 hY1 F0 F1 A0 A1 B1 e0 e1 hW0
  clear hX
  have q1 : (ya != ya) = false := by simp
  have H1 := Lib.hid h1
  have H2 := Lib.hid h2
  clear h1 h2
  go_enter Tryz.func55, Tryz.ntmps55
  go_upto_region 1 with fail
  rw [← hW1]
  clear hW1
  have pA0 : _ = some (Value.int .i64 3) := A.out.hb.cell 0
  have pA1 : _ = some (Value.int .i64 ya) := A.out.hb.cell 1
  have pA2 : _ = some (Value.int .i64 na) := A.out.hb.cell 2
  have pB0 : _ = some (Value.int .i64 3) := B.out.hb.cell 0
  have pB1 : _ = some (Value.int .i64 ya) := B.out.hb.cell 1
  have pB2 : _ = some (Value.int .i64 nb) := B.out.hb.cell 2
  go_wp2_with fail
  refine (idle_any (3) ya na (by unfold kdOk; omega) _).mono ?_
  rintro e v0 ⟨rfl, hb⟩
  rw [H1.out]
  clear pA0 pA1 pA2 pB0 pB1 pB2
  obtain h0 := F.out
  clear F
  have F := Lib.hid (h0.below hb)
  clear h0
  obtain h0 := A.out
  clear A
  have A := Lib.hid (h0.below hb)
  clear h0
  obtain h0 := B.out
  clear B
  have B := Lib.hid (h0.below hb)
  clear h0
  clear hb
  have pA0 : _ = some (Value.int .i64 3) := A.out.hb.cell 0
  have pA1 : _ = some (Value.int .i64 ya) := A.out.hb.cell 1
  have pA2 : _ = some (Value.int .i64 na) := A.out.hb.cell 2
  have pB0 : _ = some (Value.int .i64 3) := B.out.hb.cell 0
  have pB1 : _ = some (Value.int .i64 ya) := B.out.hb.cell 1
  have pB2 : _ = some (Value.int .i64 nb) := B.out.hb.cell 2
  go_wp2_with fail
  refine (idle_any (3) ya nb (by unfold kdOk; omega) _).mono ?_
  rintro e v1 ⟨rfl, hb⟩
  rw [H2.out]
  clear pA0 pA1 pA2 pB0 pB1 pB2
  obtain h0 := F.out
  clear F
  have F := Lib.hid (h0.below hb)
  clear h0
  obtain h0 := A.out
  clear A
  have A := Lib.hid (h0.below hb)
  clear h0
  obtain h0 := B.out
  clear B
  have B := Lib.hid (h0.below hb)
  clear h0
  clear hb
  have pA0 : _ = some (Value.int .i64 3) := A.out.hb.cell 0
  have pA1 : _ = some (Value.int .i64 ya) := A.out.hb.cell 1
  have pA2 : _ = some (Value.int .i64 na) := A.out.hb.cell 2
  have pB0 : _ = some (Value.int .i64 3) := B.out.hb.cell 0
  have pB1 : _ = some (Value.int .i64 ya) := B.out.hb.cell 1
  have pB2 : _ = some (Value.int .i64 nb) := B.out.hb.cell 2
  have fa := A.out.hb.free
  have fb := B.out.hb.free
  have fa0 := fa 0
  have fb0 := fb 0
  have fa1 := fa 1
  have fb1 := fb 1
  have fa2 := fa 2
  have fb2 := fb 2
  clear fa fb
  go_wp2
  go_ret
  exact ⟨by first | rfl | simp, (F.out.k.below (Nat.le_refl _) (fun b hb hx => by rw [HX.out] at hx; omega))⟩
theorem commute_any (a b : BOp) (ha : a.ok) (hb : b.ok) (w : World) : Calls Tryz.prog 55 #[opV a, opV b] w fun e w' => e = .returned (.bool (commB a b)) ∧ Below w.heap.size w w' := by
  obtain ⟨ka, ya, na⟩ := a
  obtain ⟨kb, yb, nb⟩ := b
  have hka : kdOk ka := ha.1
  have hkb : kdOk kb := hb.1
  clear ha hb
  unfold commB
  by_cases hy : ya = yb
  · subst hy
    cases h1 : idleB ⟨ka, ya, na⟩ with
    | true =>
      rw [if_pos (.inr (.inl rfl))]
      exact comm_ia ka ya na kb nb hka h1 w
    | false =>
      cases h2 : idleB ⟨kb, ya, nb⟩ with
      | true =>
        rw [if_pos (.inr (.inr rfl))]
        exact comm_ib ka ya na kb nb hka hkb h1 h2 w
      | false =>
        rw [if_neg (by simp)]
        rcases kd_cases hka with rfl | rfl | rfl | rfl <;> rcases kd_cases hkb with rfl | rfl | rfl | rfl
        · exact (comm_00 ya na nb h1 h2 w).mono fun e w' h => ⟨by rw [h.1]; simp [commS], h.2⟩
        · exact (comm_01 ya na nb h1 h2 w).mono fun e w' h => ⟨by rw [h.1]; simp [commS], h.2⟩
        · exact (comm_02 ya na nb h1 h2 w).mono fun e w' h => ⟨by rw [h.1]; simp [commS], h.2⟩
        · exact (comm_03 ya na nb h1 h2 w).mono fun e w' h => ⟨by rw [h.1]; simp [commS], h.2⟩
        · exact (comm_10 ya na nb h1 h2 w).mono fun e w' h => ⟨by rw [h.1]; simp [commS], h.2⟩
        · exact (comm_11 ya na nb h1 h2 w).mono fun e w' h => ⟨by rw [h.1]; simp [commS], h.2⟩
        · exact (comm_12 ya na nb h1 h2 w).mono fun e w' h => ⟨by rw [h.1]; simp [commS], h.2⟩
        · exact (comm_13 ya na nb h1 h2 w).mono fun e w' h => ⟨by rw [h.1]; simp [commS], h.2⟩
        · exact (comm_20 ya na nb h1 h2 w).mono fun e w' h => ⟨by rw [h.1]; simp [commS], h.2⟩
        · exact (comm_21 ya na nb h1 h2 w).mono fun e w' h => ⟨by rw [h.1]; simp [commS], h.2⟩
        · exact (comm_22 ya na nb h1 h2 w).mono fun e w' h => ⟨by rw [h.1]; simp [commS], h.2⟩
        · exact (comm_23 ya na nb h1 h2 w).mono fun e w' h => ⟨by rw [h.1]; simp [commS], h.2⟩
        · exact (comm_30 ya na nb h1 h2 w).mono fun e w' h => ⟨by rw [h.1]; simp [commS], h.2⟩
        · exact (comm_31 ya na nb h1 h2 w).mono fun e w' h => ⟨by rw [h.1]; simp [commS], h.2⟩
        · exact (comm_32 ya na nb h1 h2 w).mono fun e w' h => ⟨by rw [h.1]; simp [commS], h.2⟩
        · exact (comm_33 ya na nb h1 h2 w).mono fun e w' h => ⟨by rw [h.1]; simp [commS], h.2⟩
  · rw [if_pos (.inl hy)]
    exact comm_key ka ya na kb yb nb hy w
end Go.Proofs.YtkloaopjlbinpaaGreat
