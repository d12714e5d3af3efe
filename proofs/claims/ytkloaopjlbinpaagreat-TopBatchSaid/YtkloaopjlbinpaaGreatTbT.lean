/- The walks of makes at every kind, of idle and of Merge. Condition: a kind is one of 0 to 3. -/
import Derived.Test.YtkloaopjlbinpaaGreatTbS
set_option linter.unusedVariables false
set_option linter.unusedSimpArgs false
namespace Go.Proofs.YtkloaopjlbinpaaGreat
open Go.RowKit Go.MapKept

set_option maxRecDepth 100000 in
theorem fn_eql (i : Nat) (W : World) : (binOp .eql 77 (.func (.func i) #[] #[]) .nilFunc).run Tryz.prog W = .ok (.bool false) W := by kernel_rfl
set_option maxRecDepth 100000 in
theorem fn_neq (i : Nat) (W : World) : (binOp .neq 77 (.func (.func i) #[] #[]) .nilFunc).run Tryz.prog W = .ok (.bool true) W := by kernel_rfl
def opV (o : BOp) : Value := .agg #[.int .i64 o.kd, .int .i64 o.ky, .int .i64 o.n]
def opB (o : BOp) : List Value := [.int .i64 o.kd, .int .i64 o.ky, .int .i64 o.n]
def kdOk (k : Int) : Prop := 0 ≤ k ∧ k ≤ 3
theorem kd_cases {k : Int} (h : kdOk k) : k = 0 ∨ k = 1 ∨ k = 2 ∨ k = 3 := by unfold kdOk at h; omega
def fnOf (k : Int) : Nat := if k = 0 then 51 else if k = 1 then 52 else if k = 2 then 53 else 54
theorem makes_any (k : Int) (h : kdOk k) (w : World) : Calls Tryz.prog 22 #[.int .i64 k] w fun e w' => e = .returned (.func (.func (fnOf k)) #[] #[]) ∧ Below w.heap.size w w' := by
  rcases kd_cases h with rfl | rfl | rfl | rfl
  · exact makes0 w
  · exact makes1 w
  · exact makes2 w
  · exact makes3 w
theorem fn_enter (k : Int) (h : kdOk k) : ∀ (args : Array Value) (W : World), (callFunc (fnOf k) args).run Tryz.prog W = .ok (.enter (fnOf k) args) W := by
  rcases kd_cases h with rfl | rfl | rfl | rfl
  · exact enters_of Tryz.func51 (by kernel_rfl) rfl
  · exact enters_of Tryz.func52 (by kernel_rfl) rfl
  · exact enters_of Tryz.func53 (by kernel_rfl) rfl
  · exact enters_of Tryz.func54 (by kernel_rfl) rfl
theorem fn_calls (k : Int) (h : kdOk k) (v n : Int) (W : World) : Calls Tryz.prog (fnOf k) #[.int .i64 v, .int .i64 n] W fun e w' => e = .returned (.int .i64 (mkF k v n)) ∧ w' = W := by
  rcases kd_cases h with rfl | rfl | rfl | rfl
  · exact mk_add v n W
  · exact mk_most v n W
  · exact mk_least v n W
  · exact mk_put v n W
theorem op_size : (Tryz.prog.info? 25).map (·.size) = some 3 := by kernel_rfl
/-- Three cells of a box stored anew. -/
theorem set3 {X Y : Nat → Prop} {w0 w : World} {t : TypeId} {b : Nat} {a0 a1 a2 : Value} (hF : Fr X Y w0 w) (hB : Bx t X Y w b #[a0, a1, a2]) (u0 u1 u2 : Value) :
    Fr X Y w0 (((w.setCell ⟨b, 0, none⟩ u0).setCell ⟨b, 1, none⟩ u1).setCell ⟨b, 2, none⟩ u2) ∧ Bx t X Y (((w.setCell ⟨b, 0, none⟩ u0).setCell ⟨b, 1, none⟩ u1).setCell ⟨b, 2, none⟩ u2) b #[u0, u1, u2] :=
  ⟨((hF.set hB 0 u0).set (hB.set 0 u0) 1 u1).set ((hB.set 0 u0).set 1 u1) 2 u2, ((hB.set 0 u0).set 1 u1).set 2 u2⟩
set_option maxRecDepth 100000 in
set_option maxHeartbeats 6400000 in
theorem idle_any (kd ky n : Int) (hk : kdOk kd) (w : World) : Calls Tryz.prog 72 #[.agg #[.int .i64 kd, .int .i64 ky, .int .i64 n]] w fun e w' => e = .returned (.bool (idleB ⟨kd, ky, n⟩)) ∧ Below w.heap.size w w' := by
  obtain ⟨X, hXd⟩ : ∃ X : Nat → Prop, X = fun b => w.heap.size ≤ b := ⟨_, rfl⟩
  have hX : ∀ b, w.heap.size ≤ b → X b := by rw [hXd]; exact fun _ h => h
  have HX := Lib.hid hXd
  clear hXd
  obtain ⟨W0, hW0⟩ : ∃ W, W = w.alloc (.cells #[.int .i64 kd, .int .i64 ky, .int .i64 n] 25) := ⟨_, rfl⟩
  obtain ⟨Y0, hY0⟩ : ∃ Y : Nat → Prop, Y = fun b => X b ∧ b ≠ w.heap.size := ⟨_, rfl⟩
  have e0 : W0.heap.size = w.heap.size + 1 := by rw [hW0, World.size_alloc]
  have F0 : Fr X Y0 w W0 := by rw [hW0, hY0]; exact (Fr.start hX).new _
  have A0 : Bx 25 X Y0 W0 (w.heap.size) #[.int .i64 kd, .int .i64 ky, .int .i64 n] := by rw [hW0, hY0]; exact Bx.new (Fr.start hX) _ _
  have F := Lib.hid F0
  have A := Lib.hid A0
  clear hY0 F0 A0 e0
  clear hX
  rcases kd_cases hk with rfl | rfl | rfl | rfl
  · clear hk
    go_enter Tryz.func72, Tryz.ntmps72
    go_upto_region 1 with fail
    rw [← hW0]
    clear hW0
    have pA0 : _ = some (Value.int .i64 0) := A.out.hb.cell 0
    have pA1 : _ = some (Value.int .i64 ky) := A.out.hb.cell 1
    have pA2 : _ = some (Value.int .i64 n) := A.out.hb.cell 2
    go_wp2
    go_ret
    exact ⟨by first | rfl | (unfold idleB; simp), (F.out.k.below (Nat.le_refl _) (fun b hb hx => by rw [HX.out] at hx; omega))⟩
  · clear hk
    go_enter Tryz.func72, Tryz.ntmps72
    go_upto_region 1 with fail
    rw [← hW0]
    clear hW0
    have pA0 : _ = some (Value.int .i64 1) := A.out.hb.cell 0
    have pA1 : _ = some (Value.int .i64 ky) := A.out.hb.cell 1
    have pA2 : _ = some (Value.int .i64 n) := A.out.hb.cell 2
    go_wp2
    go_ret
    exact ⟨by first | rfl | (unfold idleB; simp), (F.out.k.below (Nat.le_refl _) (fun b hb hx => by rw [HX.out] at hx; omega))⟩
  · clear hk
    go_enter Tryz.func72, Tryz.ntmps72
    go_upto_region 1 with fail
    rw [← hW0]
    clear hW0
    have pA0 : _ = some (Value.int .i64 2) := A.out.hb.cell 0
    have pA1 : _ = some (Value.int .i64 ky) := A.out.hb.cell 1
    have pA2 : _ = some (Value.int .i64 n) := A.out.hb.cell 2
    go_wp2
    go_ret
    exact ⟨by first | rfl | (unfold idleB; simp), (F.out.k.below (Nat.le_refl _) (fun b hb hx => by rw [HX.out] at hx; omega))⟩
  · clear hk
    go_enter Tryz.func72, Tryz.ntmps72
    go_upto_region 1 with fail
    rw [← hW0]
    clear hW0
    have pA0 : _ = some (Value.int .i64 3) := A.out.hb.cell 0
    have pA1 : _ = some (Value.int .i64 ky) := A.out.hb.cell 1
    have pA2 : _ = some (Value.int .i64 n) := A.out.hb.cell 2
    have heq := fn_eql
    go_wp2_with fail
    refine (makes3 _).mono ?_
    rintro e w1 ⟨rfl, hb⟩
    clear pA0 pA1 pA2
    obtain h0 := F.out
    clear F
    have F := Lib.hid (h0.below hb)
    clear h0
    obtain h0 := A.out
    clear A
    have A := Lib.hid (h0.below hb)
    clear h0
    clear hb
    go_wp2
    go_ret
    exact ⟨by first | rfl | (unfold idleB; simp), (F.out.k.below (Nat.le_refl _) (fun b hb hx => by rw [HX.out] at hx; omega))⟩
set_option maxRecDepth 100000 in
set_option maxHeartbeats 6400000 in
theorem merge_key (ka ya na kb yb nb : Int) (ha : kdOk ka) (hb : kdOk kb) (hy : ya ≠ yb) (w : World) : Calls Tryz.prog 23 #[.agg #[.int .i64 ka, .int .i64 ya, .int .i64 na], .agg #[.int .i64 kb, .int .i64 yb, .int .i64 nb]] w fun e w' => e = .returned (.tuple #[.agg #[.int .i64 0, .int .i64 0, .int .i64 0], .bool false]) ∧ Below w.heap.size w w' := by
  obtain ⟨X, hXd⟩ : ∃ X : Nat → Prop, X = fun b => w.heap.size ≤ b := ⟨_, rfl⟩
  have hX : ∀ b, w.heap.size ≤ b → X b := by rw [hXd]; exact fun _ h => h
  have HX := Lib.hid hXd
  clear hXd
  obtain ⟨W0, hW0⟩ : ∃ W, W = w.alloc (.cells #[.int .i64 ka, .int .i64 ya, .int .i64 na] 25) := ⟨_, rfl⟩
  obtain ⟨Y0, hY0⟩ : ∃ Y : Nat → Prop, Y = fun b => X b ∧ b ≠ w.heap.size := ⟨_, rfl⟩
  have e0 : W0.heap.size = w.heap.size + 1 := by rw [hW0, World.size_alloc]
  have F0 : Fr X Y0 w W0 := by rw [hW0, hY0]; exact (Fr.start hX).new _
  have A0 : Bx 25 X Y0 W0 (w.heap.size) #[.int .i64 ka, .int .i64 ya, .int .i64 na] := by rw [hW0, hY0]; exact Bx.new (Fr.start hX) _ _
  obtain ⟨W1, hW1⟩ : ∃ W, W = W0.alloc (.cells #[.int .i64 kb, .int .i64 yb, .int .i64 nb] 25) := ⟨_, rfl⟩
  obtain ⟨Y1, hY1⟩ : ∃ Y : Nat → Prop, Y = fun b => Y0 b ∧ b ≠ W0.heap.size := ⟨_, rfl⟩
  have e1 : W1.heap.size = w.heap.size + 2 := by rw [hW1, World.size_alloc, e0]
  have F1 : Fr X Y1 w W1 := by rw [hW1, hY1]; exact F0.new _
  have A1 : Bx 25 X Y1 W1 (w.heap.size) #[.int .i64 ka, .int .i64 ya, .int .i64 na] := by rw [hW1, hY1]; exact A0.old _
  have B1 : Bx 25 X Y1 W1 (w.heap.size + 1) #[.int .i64 kb, .int .i64 yb, .int .i64 nb] := by rw [hW1, hY1, ← e0]; exact Bx.new F0 _ _
  obtain ⟨W2, hW2⟩ : ∃ W, W = W1.alloc (.cells #[.int .i64 0, .int .i64 0, .int .i64 0] 25) := ⟨_, rfl⟩
  obtain ⟨Y2, hY2⟩ : ∃ Y : Nat → Prop, Y = fun b => Y1 b ∧ b ≠ W1.heap.size := ⟨_, rfl⟩
  have e2 : W2.heap.size = w.heap.size + 3 := by rw [hW2, World.size_alloc, e1]
  have F2 : Fr X Y2 w W2 := by rw [hW2, hY2]; exact F1.new _
  have A2 : Bx 25 X Y2 W2 (w.heap.size) #[.int .i64 ka, .int .i64 ya, .int .i64 na] := by rw [hW2, hY2]; exact A1.old _
  have B2 : Bx 25 X Y2 W2 (w.heap.size + 1) #[.int .i64 kb, .int .i64 yb, .int .i64 nb] := by rw [hW2, hY2]; exact B1.old _
  have R2 : Bx 25 X Y2 W2 (w.heap.size + 2) #[.int .i64 0, .int .i64 0, .int .i64 0] := by rw [hW2, hY2, ← e1]; exact Bx.new F1 _ _
  rw [hW0] at hW1
  rw [hW1] at hW2
  have F := Lib.hid F2
  have A := Lib.hid A2
  have B := Lib.hid B2
  have R := Lib.hid R2
  clear hY0 hY1 hY2 F0 F1 F2 A0 A1 B1 A2 B2 R2 e0 e1 e2 hW0 hW1
  clear hX
  have HKA := Lib.hid ha
  have HKB := Lib.hid hb
  have MA := Lib.hid (makes_any ka ha)
  have MB := Lib.hid (makes_any kb hb)
  have hcf := fn_enter kb hb
  have heq := fn_eql
  have FC := Lib.hid (fn_calls kb hb)
  obtain ⟨ia, hia⟩ : ∃ z, z = fnOf ka := ⟨_, rfl⟩
  obtain ⟨ib, hib⟩ : ∃ z, z = fnOf kb := ⟨_, rfl⟩
  rw [← hia] at MA
  rw [← hib] at MB hcf FC
  clear hia hib ha hb
  have q1 : (ya != yb) = true := by simpa using hy
  clear hy
  go_enter Tryz.func23, Tryz.ntmps23
  go_upto_region 1 with fail
  rw [← hW2]
  clear hW2
  refine wp_region_held_drew (S := fun W => HB 25 W w.heap.size #[.int .i64 ka, .int .i64 ya, .int .i64 na] ∧ HB 25 W (w.heap.size + 1) #[.int .i64 kb, .int .i64 yb, .int .i64 nb]) (by kernel_rfl) (show HB 25 W2.drew w.heap.size #[.int .i64 ka, .int .i64 ya, .int .i64 na] ∧ HB 25 W2.drew (w.heap.size + 1) #[.int .i64 kb, .int .i64 yb, .int .i64 nb] from ⟨A.out.hb, B.out.hb⟩) (fun hHeld => ?_)
  have SW := Lib.hid hHeld
  clear hHeld
  obtain h0 := F.out
  clear F
  have F := Lib.hid (h0.drew)
  clear h0
  obtain h0 := A.out
  clear A
  have A := Lib.hid (h0.drew)
  clear h0
  obtain h0 := B.out
  clear B
  have B := Lib.hid (h0.drew)
  clear h0
  obtain h0 := R.out
  clear R
  have R := Lib.hid (h0.drew)
  clear h0
  generalize W2.drew = wq at *
  refine wpAnyH_take (i := 0) (oi := ⟨some 8, _, _, _, _, _⟩) (v := .pointer (some ⟨w.heap.size, 0, none⟩)) rfl (by kernel_rfl) (by kernel_rfl) (by kernel_rfl) (fun _ _ _ h => h) (Or.inl ⟨by rfl, ?_⟩) SW.out ?_
  · intro W' hW
    go_simp
  try simp only [Act.put, List.setIfInBounds_toArray, List.set_cons_zero, List.set_cons_succ]
  refine wpAnyH_take (i := 1) (oi := ⟨some 9, _, _, _, _, _⟩) (v := .int .i64 ka) rfl (by kernel_rfl) (by kernel_rfl) (by kernel_rfl) (fun _ _ _ h => h) (Or.inl ⟨by rfl, ?_⟩) SW.out ?_
  · intro W' hW
    have c9 : _ = some (Value.int .i64 ka) := HB.cell hW.1 0
    go_simp
  try simp only [Act.put, List.setIfInBounds_toArray, List.set_cons_zero, List.set_cons_succ]
  refine wpAnyH_take (i := 3) (oi := ⟨some 11, _, _, _, _, _⟩) (v := .pointer (some ⟨w.heap.size + 1, 0, none⟩)) rfl (by kernel_rfl) (by kernel_rfl) (by kernel_rfl) (fun _ _ _ h => h) (Or.inl ⟨by rfl, ?_⟩) SW.out ?_
  · intro W' hW
    go_simp
  try simp only [Act.put, List.setIfInBounds_toArray, List.set_cons_zero, List.set_cons_succ]
  refine wpAnyH_take (i := 4) (oi := ⟨some 12, _, _, _, _, _⟩) (v := .int .i64 kb) rfl (by kernel_rfl) (by kernel_rfl) (by kernel_rfl) (fun _ _ _ h => h) (Or.inl ⟨by rfl, ?_⟩) SW.out ?_
  · intro W' hW
    have c9 : _ = some (Value.int .i64 kb) := HB.cell hW.2 0
    go_simp
  try simp only [Act.put, List.setIfInBounds_toArray, List.set_cons_zero, List.set_cons_succ]
  refine wpAnyH_ready (rs := [2]) (by kernel_rfl) (by simp) ?_
  refine AllReadyH.cons (o := ⟨some 10, _, _, _, _, _⟩) rfl (fun K hK => ?_) AllReadyH.nil
  go_simp
  refine (MA.out _).mono ?_
  rintro e w3 ⟨rfl, hb⟩
  clear SW
  obtain h0 := F.out
  clear F
  have F := Lib.hid (h0.below hb)
  clear h0
  obtain h0 := A.out
  clear A
  have A := Lib.hid (h0.below hb)
  clear h0
  obtain h0 := B.out
  clear B
  have B := Lib.hid (h0.below hb)
  clear h0
  obtain h0 := R.out
  clear R
  have R := Lib.hid (h0.below hb)
  clear h0
  clear hb
  have SW := Lib.hid (And.intro A.out.hb B.out.hb)
  refine hK.out _ _ SW.out (fun hHeld => ?_)
  clear hK hHeld
  try simp only [Act.put, List.setIfInBounds_toArray, List.set_cons_zero, List.set_cons_succ]
  refine wpAnyH_ready (rs := [5]) (by kernel_rfl) (by simp) ?_
  refine AllReadyH.cons (o := ⟨some 13, _, _, _, _, _⟩) rfl (fun K hK => ?_) AllReadyH.nil
  go_simp
  refine (MB.out _).mono ?_
  rintro e w4 ⟨rfl, hb⟩
  clear SW
  obtain h0 := F.out
  clear F
  have F := Lib.hid (h0.below hb)
  clear h0
  obtain h0 := A.out
  clear A
  have A := Lib.hid (h0.below hb)
  clear h0
  obtain h0 := B.out
  clear B
  have B := Lib.hid (h0.below hb)
  clear h0
  obtain h0 := R.out
  clear R
  have R := Lib.hid (h0.below hb)
  clear h0
  clear hb
  have SW := Lib.hid (And.intro A.out.hb B.out.hb)
  refine hK.out _ _ SW.out (fun hHeld => ?_)
  clear hK hHeld
  try simp only [Act.put, List.setIfInBounds_toArray, List.set_cons_zero, List.set_cons_succ]
  refine wpAnyH_take (i := 6) (oi := ⟨some 6, _, _, _, _, _⟩) (v := .func (.func ia) #[] #[]) rfl (by kernel_rfl) (by kernel_rfl) (by kernel_rfl) (fun _ _ _ h => h) (Or.inl ⟨by rfl, ?_⟩) SW.out ?_
  · intro W' hW
    go_simp
  try simp only [Act.put, List.setIfInBounds_toArray, List.set_cons_zero, List.set_cons_succ]
  refine wpAnyH_take (i := 7) (oi := ⟨some 7, _, _, _, _, _⟩) (v := .func (.func ib) #[] #[]) rfl (by kernel_rfl) (by kernel_rfl) (by kernel_rfl) (fun _ _ _ h => h) (Or.inl ⟨by rfl, ?_⟩) SW.out ?_
  · intro W' hW
    go_simp
  try simp only [Act.put, List.setIfInBounds_toArray, List.set_cons_zero, List.set_cons_succ]
  refine wpAnyH_done (by kernel_rfl) ?_ _
  clear SW
  have pA0 : _ = some (Value.int .i64 ka) := A.out.hb.cell 0
  have pA1 : _ = some (Value.int .i64 ya) := A.out.hb.cell 1
  have pA2 : _ = some (Value.int .i64 na) := A.out.hb.cell 2
  have pB0 : _ = some (Value.int .i64 kb) := B.out.hb.cell 0
  have pB1 : _ = some (Value.int .i64 yb) := B.out.hb.cell 1
  have pB2 : _ = some (Value.int .i64 nb) := B.out.hb.cell 2
  have pR0 : _ = some (Value.int .i64 0) := R.out.hb.cell 0
  have pR1 : _ = some (Value.int .i64 0) := R.out.hb.cell 1
  have pR2 : _ = some (Value.int .i64 0) := R.out.hb.cell 2
  have fz := R.out.hb.free
  have fz0 := fz 0
  have fz1 := fz 1
  have fz2 := fz 2
  clear fz
  go_wp2
  obtain ⟨z1, z2⟩ := set3 F.out R.out (.int .i64 0) (.int .i64 0) (.int .i64 0)
  refine bodyPost_ret (results_ct rfl _ _ (w.heap.size + 2) _ _ _ _ rfl z2.hb Tryz.underlying25 rfl op_size) rfl ?_
  exact ⟨rfl, (z1.k.below (Nat.le_refl _) (fun b hb hx => by rw [HX.out] at hx; omega))⟩
set_option maxRecDepth 100000 in
set_option maxHeartbeats 6400000 in
theorem merge_put (ka ya na kb yb nb : Int) (ha : kdOk ka) (hb : kdOk kb) (hy : ya = yb) (h3 : kb = 3) (w : World) : Calls Tryz.prog 23 #[.agg #[.int .i64 ka, .int .i64 ya, .int .i64 na], .agg #[.int .i64 kb, .int .i64 yb, .int .i64 nb]] w fun e w' => e = .returned (.tuple #[.agg #[.int .i64 kb, .int .i64 yb, .int .i64 nb], .bool true]) ∧ Below w.heap.size w w' := by
  obtain ⟨X, hXd⟩ : ∃ X : Nat → Prop, X = fun b => w.heap.size ≤ b := ⟨_, rfl⟩
  have hX : ∀ b, w.heap.size ≤ b → X b := by rw [hXd]; exact fun _ h => h
  have HX := Lib.hid hXd
  clear hXd
  obtain ⟨W0, hW0⟩ : ∃ W, W = w.alloc (.cells #[.int .i64 ka, .int .i64 ya, .int .i64 na] 25) := ⟨_, rfl⟩
  obtain ⟨Y0, hY0⟩ : ∃ Y : Nat → Prop, Y = fun b => X b ∧ b ≠ w.heap.size := ⟨_, rfl⟩
  have e0 : W0.heap.size = w.heap.size + 1 := by rw [hW0, World.size_alloc]
  have F0 : Fr X Y0 w W0 := by rw [hW0, hY0]; exact (Fr.start hX).new _
  have A0 : Bx 25 X Y0 W0 (w.heap.size) #[.int .i64 ka, .int .i64 ya, .int .i64 na] := by rw [hW0, hY0]; exact Bx.new (Fr.start hX) _ _
  obtain ⟨W1, hW1⟩ : ∃ W, W = W0.alloc (.cells #[.int .i64 kb, .int .i64 yb, .int .i64 nb] 25) := ⟨_, rfl⟩
  obtain ⟨Y1, hY1⟩ : ∃ Y : Nat → Prop, Y = fun b => Y0 b ∧ b ≠ W0.heap.size := ⟨_, rfl⟩
  have e1 : W1.heap.size = w.heap.size + 2 := by rw [hW1, World.size_alloc, e0]
  have F1 : Fr X Y1 w W1 := by rw [hW1, hY1]; exact F0.new _
  have A1 : Bx 25 X Y1 W1 (w.heap.size) #[.int .i64 ka, .int .i64 ya, .int .i64 na] := by rw [hW1, hY1]; exact A0.old _
  have B1 : Bx 25 X Y1 W1 (w.heap.size + 1) #[.int .i64 kb, .int .i64 yb, .int .i64 nb] := by rw [hW1, hY1, ← e0]; exact Bx.new F0 _ _
  obtain ⟨W2, hW2⟩ : ∃ W, W = W1.alloc (.cells #[.int .i64 0, .int .i64 0, .int .i64 0] 25) := ⟨_, rfl⟩
  obtain ⟨Y2, hY2⟩ : ∃ Y : Nat → Prop, Y = fun b => Y1 b ∧ b ≠ W1.heap.size := ⟨_, rfl⟩
  have e2 : W2.heap.size = w.heap.size + 3 := by rw [hW2, World.size_alloc, e1]
  have F2 : Fr X Y2 w W2 := by rw [hW2, hY2]; exact F1.new _
  have A2 : Bx 25 X Y2 W2 (w.heap.size) #[.int .i64 ka, .int .i64 ya, .int .i64 na] := by rw [hW2, hY2]; exact A1.old _
  have B2 : Bx 25 X Y2 W2 (w.heap.size + 1) #[.int .i64 kb, .int .i64 yb, .int .i64 nb] := by rw [hW2, hY2]; exact B1.old _
  have R2 : Bx 25 X Y2 W2 (w.heap.size + 2) #[.int .i64 0, .int .i64 0, .int .i64 0] := by rw [hW2, hY2, ← e1]; exact Bx.new F1 _ _
  rw [hW0] at hW1
  rw [hW1] at hW2
  have F := Lib.hid F2
  have A := Lib.hid A2
  have B := Lib.hid B2
  have R := Lib.hid R2
  clear hY0 hY1 hY2 F0 F1 F2 A0 A1 B1 A2 B2 R2 e0 e1 e2 hW0 hW1
  clear hX
  have HKA := Lib.hid ha
  have HKB := Lib.hid hb
  have MA := Lib.hid (makes_any ka ha)
  have MB := Lib.hid (makes_any kb hb)
  have hcf := fn_enter kb hb
  have heq := fn_eql
  have FC := Lib.hid (fn_calls kb hb)
  obtain ⟨ia, hia⟩ : ∃ z, z = fnOf ka := ⟨_, rfl⟩
  obtain ⟨ib, hib⟩ : ∃ z, z = fnOf kb := ⟨_, rfl⟩
  rw [← hia] at MA
  rw [← hib] at MB hcf FC
  clear hia hib ha hb
  have q1 : (ya != yb) = false := by simpa using hy
  have q2 : (kb == 3) = true := by simpa using h3
  clear hy h3
  go_enter Tryz.func23, Tryz.ntmps23
  go_upto_region 1 with fail
  rw [← hW2]
  clear hW2
  refine wp_region_held_drew (S := fun W => HB 25 W w.heap.size #[.int .i64 ka, .int .i64 ya, .int .i64 na] ∧ HB 25 W (w.heap.size + 1) #[.int .i64 kb, .int .i64 yb, .int .i64 nb]) (by kernel_rfl) (show HB 25 W2.drew w.heap.size #[.int .i64 ka, .int .i64 ya, .int .i64 na] ∧ HB 25 W2.drew (w.heap.size + 1) #[.int .i64 kb, .int .i64 yb, .int .i64 nb] from ⟨A.out.hb, B.out.hb⟩) (fun hHeld => ?_)
  have SW := Lib.hid hHeld
  clear hHeld
  obtain h0 := F.out
  clear F
  have F := Lib.hid (h0.drew)
  clear h0
  obtain h0 := A.out
  clear A
  have A := Lib.hid (h0.drew)
  clear h0
  obtain h0 := B.out
  clear B
  have B := Lib.hid (h0.drew)
  clear h0
  obtain h0 := R.out
  clear R
  have R := Lib.hid (h0.drew)
  clear h0
  generalize W2.drew = wq at *
  refine wpAnyH_take (i := 0) (oi := ⟨some 8, _, _, _, _, _⟩) (v := .pointer (some ⟨w.heap.size, 0, none⟩)) rfl (by kernel_rfl) (by kernel_rfl) (by kernel_rfl) (fun _ _ _ h => h) (Or.inl ⟨by rfl, ?_⟩) SW.out ?_
  · intro W' hW
    go_simp
  try simp only [Act.put, List.setIfInBounds_toArray, List.set_cons_zero, List.set_cons_succ]
  refine wpAnyH_take (i := 1) (oi := ⟨some 9, _, _, _, _, _⟩) (v := .int .i64 ka) rfl (by kernel_rfl) (by kernel_rfl) (by kernel_rfl) (fun _ _ _ h => h) (Or.inl ⟨by rfl, ?_⟩) SW.out ?_
  · intro W' hW
    have c9 : _ = some (Value.int .i64 ka) := HB.cell hW.1 0
    go_simp
  try simp only [Act.put, List.setIfInBounds_toArray, List.set_cons_zero, List.set_cons_succ]
  refine wpAnyH_take (i := 3) (oi := ⟨some 11, _, _, _, _, _⟩) (v := .pointer (some ⟨w.heap.size + 1, 0, none⟩)) rfl (by kernel_rfl) (by kernel_rfl) (by kernel_rfl) (fun _ _ _ h => h) (Or.inl ⟨by rfl, ?_⟩) SW.out ?_
  · intro W' hW
    go_simp
  try simp only [Act.put, List.setIfInBounds_toArray, List.set_cons_zero, List.set_cons_succ]
  refine wpAnyH_take (i := 4) (oi := ⟨some 12, _, _, _, _, _⟩) (v := .int .i64 kb) rfl (by kernel_rfl) (by kernel_rfl) (by kernel_rfl) (fun _ _ _ h => h) (Or.inl ⟨by rfl, ?_⟩) SW.out ?_
  · intro W' hW
    have c9 : _ = some (Value.int .i64 kb) := HB.cell hW.2 0
    go_simp
  try simp only [Act.put, List.setIfInBounds_toArray, List.set_cons_zero, List.set_cons_succ]
  refine wpAnyH_ready (rs := [2]) (by kernel_rfl) (by simp) ?_
  refine AllReadyH.cons (o := ⟨some 10, _, _, _, _, _⟩) rfl (fun K hK => ?_) AllReadyH.nil
  go_simp
  refine (MA.out _).mono ?_
  rintro e w3 ⟨rfl, hb⟩
  clear SW
  obtain h0 := F.out
  clear F
  have F := Lib.hid (h0.below hb)
  clear h0
  obtain h0 := A.out
  clear A
  have A := Lib.hid (h0.below hb)
  clear h0
  obtain h0 := B.out
  clear B
  have B := Lib.hid (h0.below hb)
  clear h0
  obtain h0 := R.out
  clear R
  have R := Lib.hid (h0.below hb)
  clear h0
  clear hb
  have SW := Lib.hid (And.intro A.out.hb B.out.hb)
  refine hK.out _ _ SW.out (fun hHeld => ?_)
  clear hK hHeld
  try simp only [Act.put, List.setIfInBounds_toArray, List.set_cons_zero, List.set_cons_succ]
  refine wpAnyH_ready (rs := [5]) (by kernel_rfl) (by simp) ?_
  refine AllReadyH.cons (o := ⟨some 13, _, _, _, _, _⟩) rfl (fun K hK => ?_) AllReadyH.nil
  go_simp
  refine (MB.out _).mono ?_
  rintro e w4 ⟨rfl, hb⟩
  clear SW
  obtain h0 := F.out
  clear F
  have F := Lib.hid (h0.below hb)
  clear h0
  obtain h0 := A.out
  clear A
  have A := Lib.hid (h0.below hb)
  clear h0
  obtain h0 := B.out
  clear B
  have B := Lib.hid (h0.below hb)
  clear h0
  obtain h0 := R.out
  clear R
  have R := Lib.hid (h0.below hb)
  clear h0
  clear hb
  have SW := Lib.hid (And.intro A.out.hb B.out.hb)
  refine hK.out _ _ SW.out (fun hHeld => ?_)
  clear hK hHeld
  try simp only [Act.put, List.setIfInBounds_toArray, List.set_cons_zero, List.set_cons_succ]
  refine wpAnyH_take (i := 6) (oi := ⟨some 6, _, _, _, _, _⟩) (v := .func (.func ia) #[] #[]) rfl (by kernel_rfl) (by kernel_rfl) (by kernel_rfl) (fun _ _ _ h => h) (Or.inl ⟨by rfl, ?_⟩) SW.out ?_
  · intro W' hW
    go_simp
  try simp only [Act.put, List.setIfInBounds_toArray, List.set_cons_zero, List.set_cons_succ]
  refine wpAnyH_take (i := 7) (oi := ⟨some 7, _, _, _, _, _⟩) (v := .func (.func ib) #[] #[]) rfl (by kernel_rfl) (by kernel_rfl) (by kernel_rfl) (fun _ _ _ h => h) (Or.inl ⟨by rfl, ?_⟩) SW.out ?_
  · intro W' hW
    go_simp
  try simp only [Act.put, List.setIfInBounds_toArray, List.set_cons_zero, List.set_cons_succ]
  refine wpAnyH_done (by kernel_rfl) ?_ _
  clear SW
  have pA0 : _ = some (Value.int .i64 ka) := A.out.hb.cell 0
  have pA1 : _ = some (Value.int .i64 ya) := A.out.hb.cell 1
  have pA2 : _ = some (Value.int .i64 na) := A.out.hb.cell 2
  have pB0 : _ = some (Value.int .i64 kb) := B.out.hb.cell 0
  have pB1 : _ = some (Value.int .i64 yb) := B.out.hb.cell 1
  have pB2 : _ = some (Value.int .i64 nb) := B.out.hb.cell 2
  have pR0 : _ = some (Value.int .i64 0) := R.out.hb.cell 0
  have pR1 : _ = some (Value.int .i64 0) := R.out.hb.cell 1
  have pR2 : _ = some (Value.int .i64 0) := R.out.hb.cell 2
  have fz := R.out.hb.free
  have fz0 := fz 0
  have fz1 := fz 1
  have fz2 := fz 2
  clear fz
  go_wp2
  obtain ⟨z1, z2⟩ := set3 F.out R.out (.int .i64 kb) (.int .i64 yb) (.int .i64 nb)
  refine bodyPost_ret (results_ct rfl _ _ (w.heap.size + 2) _ _ _ _ rfl z2.hb Tryz.underlying25 rfl op_size) rfl ?_
  exact ⟨rfl, (z1.k.below (Nat.le_refl _) (fun b hb hx => by rw [HX.out] at hx; omega))⟩
set_option maxRecDepth 100000 in
set_option maxHeartbeats 6400000 in
theorem merge_aput (ka ya na kb yb nb : Int) (ha : kdOk ka) (hb : kdOk kb) (hy : ya = yb) (h3 : kb ≠ 3) (hk : ka = 3) (w : World) : Calls Tryz.prog 23 #[.agg #[.int .i64 ka, .int .i64 ya, .int .i64 na], .agg #[.int .i64 kb, .int .i64 yb, .int .i64 nb]] w fun e w' => e = .returned (.tuple #[.agg #[.int .i64 ka, .int .i64 ya, .int .i64 (mkF kb na nb)], .bool true]) ∧ Below w.heap.size w w' := by
  obtain ⟨X, hXd⟩ : ∃ X : Nat → Prop, X = fun b => w.heap.size ≤ b := ⟨_, rfl⟩
  have hX : ∀ b, w.heap.size ≤ b → X b := by rw [hXd]; exact fun _ h => h
  have HX := Lib.hid hXd
  clear hXd
  obtain ⟨W0, hW0⟩ : ∃ W, W = w.alloc (.cells #[.int .i64 ka, .int .i64 ya, .int .i64 na] 25) := ⟨_, rfl⟩
  obtain ⟨Y0, hY0⟩ : ∃ Y : Nat → Prop, Y = fun b => X b ∧ b ≠ w.heap.size := ⟨_, rfl⟩
  have e0 : W0.heap.size = w.heap.size + 1 := by rw [hW0, World.size_alloc]
  have F0 : Fr X Y0 w W0 := by rw [hW0, hY0]; exact (Fr.start hX).new _
  have A0 : Bx 25 X Y0 W0 (w.heap.size) #[.int .i64 ka, .int .i64 ya, .int .i64 na] := by rw [hW0, hY0]; exact Bx.new (Fr.start hX) _ _
  obtain ⟨W1, hW1⟩ : ∃ W, W = W0.alloc (.cells #[.int .i64 kb, .int .i64 yb, .int .i64 nb] 25) := ⟨_, rfl⟩
  obtain ⟨Y1, hY1⟩ : ∃ Y : Nat → Prop, Y = fun b => Y0 b ∧ b ≠ W0.heap.size := ⟨_, rfl⟩
  have e1 : W1.heap.size = w.heap.size + 2 := by rw [hW1, World.size_alloc, e0]
  have F1 : Fr X Y1 w W1 := by rw [hW1, hY1]; exact F0.new _
  have A1 : Bx 25 X Y1 W1 (w.heap.size) #[.int .i64 ka, .int .i64 ya, .int .i64 na] := by rw [hW1, hY1]; exact A0.old _
  have B1 : Bx 25 X Y1 W1 (w.heap.size + 1) #[.int .i64 kb, .int .i64 yb, .int .i64 nb] := by rw [hW1, hY1, ← e0]; exact Bx.new F0 _ _
  obtain ⟨W2, hW2⟩ : ∃ W, W = W1.alloc (.cells #[.int .i64 0, .int .i64 0, .int .i64 0] 25) := ⟨_, rfl⟩
  obtain ⟨Y2, hY2⟩ : ∃ Y : Nat → Prop, Y = fun b => Y1 b ∧ b ≠ W1.heap.size := ⟨_, rfl⟩
  have e2 : W2.heap.size = w.heap.size + 3 := by rw [hW2, World.size_alloc, e1]
  have F2 : Fr X Y2 w W2 := by rw [hW2, hY2]; exact F1.new _
  have A2 : Bx 25 X Y2 W2 (w.heap.size) #[.int .i64 ka, .int .i64 ya, .int .i64 na] := by rw [hW2, hY2]; exact A1.old _
  have B2 : Bx 25 X Y2 W2 (w.heap.size + 1) #[.int .i64 kb, .int .i64 yb, .int .i64 nb] := by rw [hW2, hY2]; exact B1.old _
  have R2 : Bx 25 X Y2 W2 (w.heap.size + 2) #[.int .i64 0, .int .i64 0, .int .i64 0] := by rw [hW2, hY2, ← e1]; exact Bx.new F1 _ _
  rw [hW0] at hW1
  rw [hW1] at hW2
  have F := Lib.hid F2
  have A := Lib.hid A2
  have B := Lib.hid B2
  have R := Lib.hid R2
  clear hY0 hY1 hY2 F0 F1 F2 A0 A1 B1 A2 B2 R2 e0 e1 e2 hW0 hW1
  clear hX
  have HKA := Lib.hid ha
  have HKB := Lib.hid hb
  have MA := Lib.hid (makes_any ka ha)
  have MB := Lib.hid (makes_any kb hb)
  have hcf := fn_enter kb hb
  have heq := fn_eql
  have FC := Lib.hid (fn_calls kb hb)
  obtain ⟨ia, hia⟩ : ∃ z, z = fnOf ka := ⟨_, rfl⟩
  obtain ⟨ib, hib⟩ : ∃ z, z = fnOf kb := ⟨_, rfl⟩
  rw [← hia] at MA
  rw [← hib] at MB hcf FC
  clear hia hib ha hb
  have q1 : (ya != yb) = false := by simpa using hy
  have q2 : (kb == 3) = false := by simpa using h3
  have q22 : ¬ kb = 3 := h3
  have q3 : (ka == 3) = true := by simpa using hk
  clear hy h3 hk
  go_enter Tryz.func23, Tryz.ntmps23
  go_upto_region 1 with fail
  rw [← hW2]
  clear hW2
  refine wp_region_held_drew (S := fun W => HB 25 W w.heap.size #[.int .i64 ka, .int .i64 ya, .int .i64 na] ∧ HB 25 W (w.heap.size + 1) #[.int .i64 kb, .int .i64 yb, .int .i64 nb]) (by kernel_rfl) (show HB 25 W2.drew w.heap.size #[.int .i64 ka, .int .i64 ya, .int .i64 na] ∧ HB 25 W2.drew (w.heap.size + 1) #[.int .i64 kb, .int .i64 yb, .int .i64 nb] from ⟨A.out.hb, B.out.hb⟩) (fun hHeld => ?_)
  have SW := Lib.hid hHeld
  clear hHeld
  obtain h0 := F.out
  clear F
  have F := Lib.hid (h0.drew)
  clear h0
  obtain h0 := A.out
  clear A
  have A := Lib.hid (h0.drew)
  clear h0
  obtain h0 := B.out
  clear B
  have B := Lib.hid (h0.drew)
  clear h0
  obtain h0 := R.out
  clear R
  have R := Lib.hid (h0.drew)
  clear h0
  generalize W2.drew = wq at *
  refine wpAnyH_take (i := 0) (oi := ⟨some 8, _, _, _, _, _⟩) (v := .pointer (some ⟨w.heap.size, 0, none⟩)) rfl (by kernel_rfl) (by kernel_rfl) (by kernel_rfl) (fun _ _ _ h => h) (Or.inl ⟨by rfl, ?_⟩) SW.out ?_
  · intro W' hW
    go_simp
  try simp only [Act.put, List.setIfInBounds_toArray, List.set_cons_zero, List.set_cons_succ]
  refine wpAnyH_take (i := 1) (oi := ⟨some 9, _, _, _, _, _⟩) (v := .int .i64 ka) rfl (by kernel_rfl) (by kernel_rfl) (by kernel_rfl) (fun _ _ _ h => h) (Or.inl ⟨by rfl, ?_⟩) SW.out ?_
  · intro W' hW
    have c9 : _ = some (Value.int .i64 ka) := HB.cell hW.1 0
    go_simp
  try simp only [Act.put, List.setIfInBounds_toArray, List.set_cons_zero, List.set_cons_succ]
  refine wpAnyH_take (i := 3) (oi := ⟨some 11, _, _, _, _, _⟩) (v := .pointer (some ⟨w.heap.size + 1, 0, none⟩)) rfl (by kernel_rfl) (by kernel_rfl) (by kernel_rfl) (fun _ _ _ h => h) (Or.inl ⟨by rfl, ?_⟩) SW.out ?_
  · intro W' hW
    go_simp
  try simp only [Act.put, List.setIfInBounds_toArray, List.set_cons_zero, List.set_cons_succ]
  refine wpAnyH_take (i := 4) (oi := ⟨some 12, _, _, _, _, _⟩) (v := .int .i64 kb) rfl (by kernel_rfl) (by kernel_rfl) (by kernel_rfl) (fun _ _ _ h => h) (Or.inl ⟨by rfl, ?_⟩) SW.out ?_
  · intro W' hW
    have c9 : _ = some (Value.int .i64 kb) := HB.cell hW.2 0
    go_simp
  try simp only [Act.put, List.setIfInBounds_toArray, List.set_cons_zero, List.set_cons_succ]
  refine wpAnyH_ready (rs := [2]) (by kernel_rfl) (by simp) ?_
  refine AllReadyH.cons (o := ⟨some 10, _, _, _, _, _⟩) rfl (fun K hK => ?_) AllReadyH.nil
  go_simp
  refine (MA.out _).mono ?_
  rintro e w3 ⟨rfl, hb⟩
  clear SW
  obtain h0 := F.out
  clear F
  have F := Lib.hid (h0.below hb)
  clear h0
  obtain h0 := A.out
  clear A
  have A := Lib.hid (h0.below hb)
  clear h0
  obtain h0 := B.out
  clear B
  have B := Lib.hid (h0.below hb)
  clear h0
  obtain h0 := R.out
  clear R
  have R := Lib.hid (h0.below hb)
  clear h0
  clear hb
  have SW := Lib.hid (And.intro A.out.hb B.out.hb)
  refine hK.out _ _ SW.out (fun hHeld => ?_)
  clear hK hHeld
  try simp only [Act.put, List.setIfInBounds_toArray, List.set_cons_zero, List.set_cons_succ]
  refine wpAnyH_ready (rs := [5]) (by kernel_rfl) (by simp) ?_
  refine AllReadyH.cons (o := ⟨some 13, _, _, _, _, _⟩) rfl (fun K hK => ?_) AllReadyH.nil
  go_simp
  refine (MB.out _).mono ?_
  rintro e w4 ⟨rfl, hb⟩
  clear SW
  obtain h0 := F.out
  clear F
  have F := Lib.hid (h0.below hb)
  clear h0
  obtain h0 := A.out
  clear A
  have A := Lib.hid (h0.below hb)
  clear h0
  obtain h0 := B.out
  clear B
  have B := Lib.hid (h0.below hb)
  clear h0
  obtain h0 := R.out
  clear R
  have R := Lib.hid (h0.below hb)
  clear h0
  clear hb
  have SW := Lib.hid (And.intro A.out.hb B.out.hb)
  refine hK.out _ _ SW.out (fun hHeld => ?_)
  clear hK hHeld
  try simp only [Act.put, List.setIfInBounds_toArray, List.set_cons_zero, List.set_cons_succ]
  refine wpAnyH_take (i := 6) (oi := ⟨some 6, _, _, _, _, _⟩) (v := .func (.func ia) #[] #[]) rfl (by kernel_rfl) (by kernel_rfl) (by kernel_rfl) (fun _ _ _ h => h) (Or.inl ⟨by rfl, ?_⟩) SW.out ?_
  · intro W' hW
    go_simp
  try simp only [Act.put, List.setIfInBounds_toArray, List.set_cons_zero, List.set_cons_succ]
  refine wpAnyH_take (i := 7) (oi := ⟨some 7, _, _, _, _, _⟩) (v := .func (.func ib) #[] #[]) rfl (by kernel_rfl) (by kernel_rfl) (by kernel_rfl) (fun _ _ _ h => h) (Or.inl ⟨by rfl, ?_⟩) SW.out ?_
  · intro W' hW
    go_simp
  try simp only [Act.put, List.setIfInBounds_toArray, List.set_cons_zero, List.set_cons_succ]
  refine wpAnyH_done (by kernel_rfl) ?_ _
  clear SW
  have pA0 : _ = some (Value.int .i64 ka) := A.out.hb.cell 0
  have pA1 : _ = some (Value.int .i64 ya) := A.out.hb.cell 1
  have pA2 : _ = some (Value.int .i64 na) := A.out.hb.cell 2
  have pB0 : _ = some (Value.int .i64 kb) := B.out.hb.cell 0
  have pB1 : _ = some (Value.int .i64 yb) := B.out.hb.cell 1
  have pB2 : _ = some (Value.int .i64 nb) := B.out.hb.cell 2
  have pR0 : _ = some (Value.int .i64 0) := R.out.hb.cell 0
  have pR1 : _ = some (Value.int .i64 0) := R.out.hb.cell 1
  have pR2 : _ = some (Value.int .i64 0) := R.out.hb.cell 2
  have fz := R.out.hb.free
  have fz0 := fz 0
  have fz1 := fz 1
  have fz2 := fz 2
  clear fz
  go_upto_region 8 with fail
  clear fz0 fz1 fz2
  clear pA0 pA1 pA2 pB0 pB1 pB2 pR0 pR1 pR2
  refine wp_region_held_drew (S := fun W => HB 25 W w.heap.size #[.int .i64 ka, .int .i64 ya, .int .i64 na] ∧ HB 25 W (w.heap.size + 1) #[.int .i64 kb, .int .i64 yb, .int .i64 nb]) (by kernel_rfl) (show HB 25 w4.drew w.heap.size #[.int .i64 ka, .int .i64 ya, .int .i64 na] ∧ HB 25 w4.drew (w.heap.size + 1) #[.int .i64 kb, .int .i64 yb, .int .i64 nb] from ⟨A.out.hb, B.out.hb⟩) (fun hHeld => ?_)
  have SW := Lib.hid hHeld
  clear hHeld
  obtain h0 := F.out
  clear F
  have F := Lib.hid (h0.drew)
  clear h0
  obtain h0 := A.out
  clear A
  have A := Lib.hid (h0.drew)
  clear h0
  obtain h0 := B.out
  clear B
  have B := Lib.hid (h0.drew)
  clear h0
  obtain h0 := R.out
  clear R
  have R := Lib.hid (h0.drew)
  clear h0
  generalize w4.drew = wr2 at *
  refine wpAnyH_take (i := 0) (oi := ⟨some 43, _, _, _, _, _⟩) (v := .pointer (some ⟨w.heap.size, 0, none⟩)) rfl (by kernel_rfl) (by kernel_rfl) (by kernel_rfl) (fun _ _ _ h => h) (Or.inl ⟨by rfl, ?_⟩) SW.out ?_
  · intro W' hW
    go_simp
  try simp only [Act.put, List.setIfInBounds_toArray, List.set_cons_zero, List.set_cons_succ]
  refine wpAnyH_take (i := 1) (oi := ⟨some 44, _, _, _, _, _⟩) (v := .int .i64 ka) rfl (by kernel_rfl) (by kernel_rfl) (by kernel_rfl) (fun _ _ _ h => h) (Or.inl ⟨by rfl, ?_⟩) SW.out ?_
  · intro W' hW
    have c9 : _ = some (Value.int .i64 ka) := HB.cell hW.1 0
    go_simp
  try simp only [Act.put, List.setIfInBounds_toArray, List.set_cons_zero, List.set_cons_succ]
  refine wpAnyH_take (i := 2) (oi := ⟨some 45, _, _, _, _, _⟩) (v := .pointer (some ⟨w.heap.size, 1, none⟩)) rfl (by kernel_rfl) (by kernel_rfl) (by kernel_rfl) (fun _ _ _ h => h) (Or.inl ⟨by rfl, ?_⟩) SW.out ?_
  · intro W' hW
    go_simp
  try simp only [Act.put, List.setIfInBounds_toArray, List.set_cons_zero, List.set_cons_succ]
  refine wpAnyH_take (i := 3) (oi := ⟨some 46, _, _, _, _, _⟩) (v := .int .i64 ya) rfl (by kernel_rfl) (by kernel_rfl) (by kernel_rfl) (fun _ _ _ h => h) (Or.inl ⟨by rfl, ?_⟩) SW.out ?_
  · intro W' hW
    have c9 : _ = some (Value.int .i64 ya) := HB.cell hW.1 1
    go_simp
  try simp only [Act.put, List.setIfInBounds_toArray, List.set_cons_zero, List.set_cons_succ]
  refine wpAnyH_take (i := 4) (oi := ⟨some 47, _, _, _, _, _⟩) (v := .func (.func ib) #[] #[]) rfl (by kernel_rfl) (by kernel_rfl) (by kernel_rfl) (fun _ _ _ h => h) (Or.inl ⟨by rfl, ?_⟩) SW.out ?_
  · intro W' hW
    go_simp
  try simp only [Act.put, List.setIfInBounds_toArray, List.set_cons_zero, List.set_cons_succ]
  refine wpAnyH_take (i := 5) (oi := ⟨some 48, _, _, _, _, _⟩) (v := .pointer (some ⟨w.heap.size, 2, none⟩)) rfl (by kernel_rfl) (by kernel_rfl) (by kernel_rfl) (fun _ _ _ h => h) (Or.inl ⟨by rfl, ?_⟩) SW.out ?_
  · intro W' hW
    go_simp
  try simp only [Act.put, List.setIfInBounds_toArray, List.set_cons_zero, List.set_cons_succ]
  refine wpAnyH_take (i := 6) (oi := ⟨some 49, _, _, _, _, _⟩) (v := .int .i64 na) rfl (by kernel_rfl) (by kernel_rfl) (by kernel_rfl) (fun _ _ _ h => h) (Or.inl ⟨by rfl, ?_⟩) SW.out ?_
  · intro W' hW
    have c9 : _ = some (Value.int .i64 na) := HB.cell hW.1 2
    go_simp
  try simp only [Act.put, List.setIfInBounds_toArray, List.set_cons_zero, List.set_cons_succ]
  refine wpAnyH_take (i := 7) (oi := ⟨some 50, _, _, _, _, _⟩) (v := .pointer (some ⟨w.heap.size + 1, 2, none⟩)) rfl (by kernel_rfl) (by kernel_rfl) (by kernel_rfl) (fun _ _ _ h => h) (Or.inl ⟨by rfl, ?_⟩) SW.out ?_
  · intro W' hW
    go_simp
  try simp only [Act.put, List.setIfInBounds_toArray, List.set_cons_zero, List.set_cons_succ]
  refine wpAnyH_take (i := 8) (oi := ⟨some 51, _, _, _, _, _⟩) (v := .int .i64 nb) rfl (by kernel_rfl) (by kernel_rfl) (by kernel_rfl) (fun _ _ _ h => h) (Or.inl ⟨by rfl, ?_⟩) SW.out ?_
  · intro W' hW
    have c9 : _ = some (Value.int .i64 nb) := HB.cell hW.2 2
    go_simp
  try simp only [Act.put, List.setIfInBounds_toArray, List.set_cons_zero, List.set_cons_succ]
  refine wpAnyH_ready (rs := [9]) (by kernel_rfl) (by simp) ?_
  refine AllReadyH.cons (o := ⟨some 52, _, _, _, _, _⟩) rfl (fun K hK => ?_) AllReadyH.nil
  go_simp
  refine (FC.out na nb _).mono ?_
  rintro e w5 ⟨rfl, hw⟩
  subst hw
  refine hK.out _ _ SW.out (fun hHeld => ?_)
  clear hK hHeld
  try simp only [Act.put, List.setIfInBounds_toArray, List.set_cons_zero, List.set_cons_succ]
  obtain ⟨r, hr⟩ : ∃ z, z = mkF kb na nb := ⟨_, rfl⟩
  rw [← hr]
  have HR := Lib.hid hr
  clear hr
  refine wpAnyH_take (i := 10) (oi := ⟨some 53, _, _, _, _, _⟩) (v := .agg #[.int .i64 ka, .int .i64 ya, .int .i64 r]) rfl (by kernel_rfl) (by kernel_rfl) (by kernel_rfl) (fun _ _ _ h => h) (Or.inl ⟨by rfl, ?_⟩) SW.out ?_
  · intro W' hW
    go_simp
  try simp only [Act.put, List.setIfInBounds_toArray, List.set_cons_zero, List.set_cons_succ]
  have fz := R.out.hb.free
  have fz0 := fz 0
  have fz1 := fz 1
  have fz2 := fz 2
  have pz0 : _ = some (Value.int .i64 0) := R.out.hb.cell 0
  have pz1 : _ = some (Value.int .i64 0) := R.out.hb.cell 1
  have pz2 : _ = some (Value.int .i64 0) := R.out.hb.cell 2
  clear fz
  obtain ⟨z1, z2⟩ := set3 F.out R.out (.int .i64 ka) (.int .i64 ya) (.int .i64 r)
  have ZZ := Lib.hid (And.intro z1 z2)
  have nAR : w.heap.size ≠ w.heap.size + 2 := by omega
  have nBR : w.heap.size + 1 ≠ w.heap.size + 2 := by omega
  have SZ := Lib.hid (And.intro (((A.out.other nAR 0 (.int .i64 ka)).other nAR 1 (.int .i64 ya)).other nAR 2 (.int .i64 r)).hb (((B.out.other nBR 0 (.int .i64 ka)).other nBR 1 (.int .i64 ya)).other nBR 2 (.int .i64 r)).hb)
  clear z1 z2 nAR nBR
  refine wpAnyH_ready (rs := [11]) (by kernel_rfl) (by simp) ?_
  refine AllReadyH.cons (o := ⟨none, _, _, _, _, _⟩) rfl (fun K hK => ?_) AllReadyH.nil
  go_simp
  refine hK.out _ _ SZ.out (fun hHeld => ?_)
  clear hK hHeld
  try simp only [Act.put, List.setIfInBounds_toArray, List.set_cons_zero, List.set_cons_succ]
  refine wpAnyH_take (i := 12) (oi := ⟨some 5, _, _, _, _, _⟩) (v := .bool true) rfl (by kernel_rfl) (by kernel_rfl) (by kernel_rfl) (fun _ _ _ h => h) (Or.inl ⟨by rfl, ?_⟩) SZ.out ?_
  · intro W' hW
    go_simp
  try simp only [Act.put, List.setIfInBounds_toArray, List.set_cons_zero, List.set_cons_succ]
  refine wpAnyH_done (by kernel_rfl) ?_ _
  clear SW fz0 fz1 fz2 pz0 pz1 pz2
  go_wp2
  refine bodyPost_ret (results_ct rfl _ _ (w.heap.size + 2) _ _ _ _ rfl ZZ.out.2.hb Tryz.underlying25 rfl op_size) rfl ?_
  exact ⟨by rw [← HR.out]; rfl, (ZZ.out.1.k.below (Nat.le_refl _) (fun b hb hx => by rw [HX.out] at hx; omega))⟩
set_option maxRecDepth 100000 in
set_option maxHeartbeats 6400000 in
theorem merge_same (ka ya na kb yb nb : Int) (ha : kdOk ka) (hb : kdOk kb) (hy : ya = yb) (h3 : kb ≠ 3) (hn : ka ≠ 3) (hk : ka = kb) (w : World) : Calls Tryz.prog 23 #[.agg #[.int .i64 ka, .int .i64 ya, .int .i64 na], .agg #[.int .i64 kb, .int .i64 yb, .int .i64 nb]] w fun e w' => e = .returned (.tuple #[.agg #[.int .i64 ka, .int .i64 ya, .int .i64 (mkF kb na nb)], .bool true]) ∧ Below w.heap.size w w' := by
  obtain ⟨X, hXd⟩ : ∃ X : Nat → Prop, X = fun b => w.heap.size ≤ b := ⟨_, rfl⟩
  have hX : ∀ b, w.heap.size ≤ b → X b := by rw [hXd]; exact fun _ h => h
  have HX := Lib.hid hXd
  clear hXd
  obtain ⟨W0, hW0⟩ : ∃ W, W = w.alloc (.cells #[.int .i64 ka, .int .i64 ya, .int .i64 na] 25) := ⟨_, rfl⟩
  obtain ⟨Y0, hY0⟩ : ∃ Y : Nat → Prop, Y = fun b => X b ∧ b ≠ w.heap.size := ⟨_, rfl⟩
  have e0 : W0.heap.size = w.heap.size + 1 := by rw [hW0, World.size_alloc]
  have F0 : Fr X Y0 w W0 := by rw [hW0, hY0]; exact (Fr.start hX).new _
  have A0 : Bx 25 X Y0 W0 (w.heap.size) #[.int .i64 ka, .int .i64 ya, .int .i64 na] := by rw [hW0, hY0]; exact Bx.new (Fr.start hX) _ _
  obtain ⟨W1, hW1⟩ : ∃ W, W = W0.alloc (.cells #[.int .i64 kb, .int .i64 yb, .int .i64 nb] 25) := ⟨_, rfl⟩
  obtain ⟨Y1, hY1⟩ : ∃ Y : Nat → Prop, Y = fun b => Y0 b ∧ b ≠ W0.heap.size := ⟨_, rfl⟩
  have e1 : W1.heap.size = w.heap.size + 2 := by rw [hW1, World.size_alloc, e0]
  have F1 : Fr X Y1 w W1 := by rw [hW1, hY1]; exact F0.new _
  have A1 : Bx 25 X Y1 W1 (w.heap.size) #[.int .i64 ka, .int .i64 ya, .int .i64 na] := by rw [hW1, hY1]; exact A0.old _
  have B1 : Bx 25 X Y1 W1 (w.heap.size + 1) #[.int .i64 kb, .int .i64 yb, .int .i64 nb] := by rw [hW1, hY1, ← e0]; exact Bx.new F0 _ _
  obtain ⟨W2, hW2⟩ : ∃ W, W = W1.alloc (.cells #[.int .i64 0, .int .i64 0, .int .i64 0] 25) := ⟨_, rfl⟩
  obtain ⟨Y2, hY2⟩ : ∃ Y : Nat → Prop, Y = fun b => Y1 b ∧ b ≠ W1.heap.size := ⟨_, rfl⟩
  have e2 : W2.heap.size = w.heap.size + 3 := by rw [hW2, World.size_alloc, e1]
  have F2 : Fr X Y2 w W2 := by rw [hW2, hY2]; exact F1.new _
  have A2 : Bx 25 X Y2 W2 (w.heap.size) #[.int .i64 ka, .int .i64 ya, .int .i64 na] := by rw [hW2, hY2]; exact A1.old _
  have B2 : Bx 25 X Y2 W2 (w.heap.size + 1) #[.int .i64 kb, .int .i64 yb, .int .i64 nb] := by rw [hW2, hY2]; exact B1.old _
  have R2 : Bx 25 X Y2 W2 (w.heap.size + 2) #[.int .i64 0, .int .i64 0, .int .i64 0] := by rw [hW2, hY2, ← e1]; exact Bx.new F1 _ _
  rw [hW0] at hW1
  rw [hW1] at hW2
  have F := Lib.hid F2
  have A := Lib.hid A2
  have B := Lib.hid B2
  have R := Lib.hid R2
  clear hY0 hY1 hY2 F0 F1 F2 A0 A1 B1 A2 B2 R2 e0 e1 e2 hW0 hW1
  clear hX
  have HKA := Lib.hid ha
  have HKB := Lib.hid hb
  have MA := Lib.hid (makes_any ka ha)
  have MB := Lib.hid (makes_any kb hb)
  have hcf := fn_enter kb hb
  have heq := fn_eql
  have FC := Lib.hid (fn_calls kb hb)
  obtain ⟨ia, hia⟩ : ∃ z, z = fnOf ka := ⟨_, rfl⟩
  obtain ⟨ib, hib⟩ : ∃ z, z = fnOf kb := ⟨_, rfl⟩
  rw [← hia] at MA
  rw [← hib] at MB hcf FC
  clear hia hib ha hb
  have q1 : (ya != yb) = false := by simpa using hy
  have q2 : (kb == 3) = false := by simpa using h3
  have q22 : ¬ kb = 3 := h3
  have q3 : (ka == 3) = false := by simpa using hn
  have q33 : ¬ ka = 3 := hn
  have q4 : (ka == kb) = true := by simpa using hk
  clear hy h3 hk hn
  go_enter Tryz.func23, Tryz.ntmps23
  go_upto_region 1 with fail
  rw [← hW2]
  clear hW2
  refine wp_region_held_drew (S := fun W => HB 25 W w.heap.size #[.int .i64 ka, .int .i64 ya, .int .i64 na] ∧ HB 25 W (w.heap.size + 1) #[.int .i64 kb, .int .i64 yb, .int .i64 nb]) (by kernel_rfl) (show HB 25 W2.drew w.heap.size #[.int .i64 ka, .int .i64 ya, .int .i64 na] ∧ HB 25 W2.drew (w.heap.size + 1) #[.int .i64 kb, .int .i64 yb, .int .i64 nb] from ⟨A.out.hb, B.out.hb⟩) (fun hHeld => ?_)
  have SW := Lib.hid hHeld
  clear hHeld
  obtain h0 := F.out
  clear F
  have F := Lib.hid (h0.drew)
  clear h0
  obtain h0 := A.out
  clear A
  have A := Lib.hid (h0.drew)
  clear h0
  obtain h0 := B.out
  clear B
  have B := Lib.hid (h0.drew)
  clear h0
  obtain h0 := R.out
  clear R
  have R := Lib.hid (h0.drew)
  clear h0
  generalize W2.drew = wq at *
  refine wpAnyH_take (i := 0) (oi := ⟨some 8, _, _, _, _, _⟩) (v := .pointer (some ⟨w.heap.size, 0, none⟩)) rfl (by kernel_rfl) (by kernel_rfl) (by kernel_rfl) (fun _ _ _ h => h) (Or.inl ⟨by rfl, ?_⟩) SW.out ?_
  · intro W' hW
    go_simp
  try simp only [Act.put, List.setIfInBounds_toArray, List.set_cons_zero, List.set_cons_succ]
  refine wpAnyH_take (i := 1) (oi := ⟨some 9, _, _, _, _, _⟩) (v := .int .i64 ka) rfl (by kernel_rfl) (by kernel_rfl) (by kernel_rfl) (fun _ _ _ h => h) (Or.inl ⟨by rfl, ?_⟩) SW.out ?_
  · intro W' hW
    have c9 : _ = some (Value.int .i64 ka) := HB.cell hW.1 0
    go_simp
  try simp only [Act.put, List.setIfInBounds_toArray, List.set_cons_zero, List.set_cons_succ]
  refine wpAnyH_take (i := 3) (oi := ⟨some 11, _, _, _, _, _⟩) (v := .pointer (some ⟨w.heap.size + 1, 0, none⟩)) rfl (by kernel_rfl) (by kernel_rfl) (by kernel_rfl) (fun _ _ _ h => h) (Or.inl ⟨by rfl, ?_⟩) SW.out ?_
  · intro W' hW
    go_simp
  try simp only [Act.put, List.setIfInBounds_toArray, List.set_cons_zero, List.set_cons_succ]
  refine wpAnyH_take (i := 4) (oi := ⟨some 12, _, _, _, _, _⟩) (v := .int .i64 kb) rfl (by kernel_rfl) (by kernel_rfl) (by kernel_rfl) (fun _ _ _ h => h) (Or.inl ⟨by rfl, ?_⟩) SW.out ?_
  · intro W' hW
    have c9 : _ = some (Value.int .i64 kb) := HB.cell hW.2 0
    go_simp
  try simp only [Act.put, List.setIfInBounds_toArray, List.set_cons_zero, List.set_cons_succ]
  refine wpAnyH_ready (rs := [2]) (by kernel_rfl) (by simp) ?_
  refine AllReadyH.cons (o := ⟨some 10, _, _, _, _, _⟩) rfl (fun K hK => ?_) AllReadyH.nil
  go_simp
  refine (MA.out _).mono ?_
  rintro e w3 ⟨rfl, hb⟩
  clear SW
  obtain h0 := F.out
  clear F
  have F := Lib.hid (h0.below hb)
  clear h0
  obtain h0 := A.out
  clear A
  have A := Lib.hid (h0.below hb)
  clear h0
  obtain h0 := B.out
  clear B
  have B := Lib.hid (h0.below hb)
  clear h0
  obtain h0 := R.out
  clear R
  have R := Lib.hid (h0.below hb)
  clear h0
  clear hb
  have SW := Lib.hid (And.intro A.out.hb B.out.hb)
  refine hK.out _ _ SW.out (fun hHeld => ?_)
  clear hK hHeld
  try simp only [Act.put, List.setIfInBounds_toArray, List.set_cons_zero, List.set_cons_succ]
  refine wpAnyH_ready (rs := [5]) (by kernel_rfl) (by simp) ?_
  refine AllReadyH.cons (o := ⟨some 13, _, _, _, _, _⟩) rfl (fun K hK => ?_) AllReadyH.nil
  go_simp
  refine (MB.out _).mono ?_
  rintro e w4 ⟨rfl, hb⟩
  clear SW
  obtain h0 := F.out
  clear F
  have F := Lib.hid (h0.below hb)
  clear h0
  obtain h0 := A.out
  clear A
  have A := Lib.hid (h0.below hb)
  clear h0
  obtain h0 := B.out
  clear B
  have B := Lib.hid (h0.below hb)
  clear h0
  obtain h0 := R.out
  clear R
  have R := Lib.hid (h0.below hb)
  clear h0
  clear hb
  have SW := Lib.hid (And.intro A.out.hb B.out.hb)
  refine hK.out _ _ SW.out (fun hHeld => ?_)
  clear hK hHeld
  try simp only [Act.put, List.setIfInBounds_toArray, List.set_cons_zero, List.set_cons_succ]
  refine wpAnyH_take (i := 6) (oi := ⟨some 6, _, _, _, _, _⟩) (v := .func (.func ia) #[] #[]) rfl (by kernel_rfl) (by kernel_rfl) (by kernel_rfl) (fun _ _ _ h => h) (Or.inl ⟨by rfl, ?_⟩) SW.out ?_
  · intro W' hW
    go_simp
  try simp only [Act.put, List.setIfInBounds_toArray, List.set_cons_zero, List.set_cons_succ]
  refine wpAnyH_take (i := 7) (oi := ⟨some 7, _, _, _, _, _⟩) (v := .func (.func ib) #[] #[]) rfl (by kernel_rfl) (by kernel_rfl) (by kernel_rfl) (fun _ _ _ h => h) (Or.inl ⟨by rfl, ?_⟩) SW.out ?_
  · intro W' hW
    go_simp
  try simp only [Act.put, List.setIfInBounds_toArray, List.set_cons_zero, List.set_cons_succ]
  refine wpAnyH_done (by kernel_rfl) ?_ _
  clear SW
  have pA0 : _ = some (Value.int .i64 ka) := A.out.hb.cell 0
  have pA1 : _ = some (Value.int .i64 ya) := A.out.hb.cell 1
  have pA2 : _ = some (Value.int .i64 na) := A.out.hb.cell 2
  have pB0 : _ = some (Value.int .i64 kb) := B.out.hb.cell 0
  have pB1 : _ = some (Value.int .i64 yb) := B.out.hb.cell 1
  have pB2 : _ = some (Value.int .i64 nb) := B.out.hb.cell 2
  have pR0 : _ = some (Value.int .i64 0) := R.out.hb.cell 0
  have pR1 : _ = some (Value.int .i64 0) := R.out.hb.cell 1
  have pR2 : _ = some (Value.int .i64 0) := R.out.hb.cell 2
  have fz := R.out.hb.free
  have fz0 := fz 0
  have fz1 := fz 1
  have fz2 := fz 2
  clear fz
  go_upto_region 8 with fail
  clear fz0 fz1 fz2
  clear pA0 pA1 pA2 pB0 pB1 pB2 pR0 pR1 pR2
  refine wp_region_held_drew (S := fun W => HB 25 W w.heap.size #[.int .i64 ka, .int .i64 ya, .int .i64 na] ∧ HB 25 W (w.heap.size + 1) #[.int .i64 kb, .int .i64 yb, .int .i64 nb]) (by kernel_rfl) (show HB 25 w4.drew w.heap.size #[.int .i64 ka, .int .i64 ya, .int .i64 na] ∧ HB 25 w4.drew (w.heap.size + 1) #[.int .i64 kb, .int .i64 yb, .int .i64 nb] from ⟨A.out.hb, B.out.hb⟩) (fun hHeld => ?_)
  have SW := Lib.hid hHeld
  clear hHeld
  obtain h0 := F.out
  clear F
  have F := Lib.hid (h0.drew)
  clear h0
  obtain h0 := A.out
  clear A
  have A := Lib.hid (h0.drew)
  clear h0
  obtain h0 := B.out
  clear B
  have B := Lib.hid (h0.drew)
  clear h0
  obtain h0 := R.out
  clear R
  have R := Lib.hid (h0.drew)
  clear h0
  generalize w4.drew = wr2 at *
  refine wpAnyH_take (i := 0) (oi := ⟨some 43, _, _, _, _, _⟩) (v := .pointer (some ⟨w.heap.size, 0, none⟩)) rfl (by kernel_rfl) (by kernel_rfl) (by kernel_rfl) (fun _ _ _ h => h) (Or.inl ⟨by rfl, ?_⟩) SW.out ?_
  · intro W' hW
    go_simp
  try simp only [Act.put, List.setIfInBounds_toArray, List.set_cons_zero, List.set_cons_succ]
  refine wpAnyH_take (i := 1) (oi := ⟨some 44, _, _, _, _, _⟩) (v := .int .i64 ka) rfl (by kernel_rfl) (by kernel_rfl) (by kernel_rfl) (fun _ _ _ h => h) (Or.inl ⟨by rfl, ?_⟩) SW.out ?_
  · intro W' hW
    have c9 : _ = some (Value.int .i64 ka) := HB.cell hW.1 0
    go_simp
  try simp only [Act.put, List.setIfInBounds_toArray, List.set_cons_zero, List.set_cons_succ]
  refine wpAnyH_take (i := 2) (oi := ⟨some 45, _, _, _, _, _⟩) (v := .pointer (some ⟨w.heap.size, 1, none⟩)) rfl (by kernel_rfl) (by kernel_rfl) (by kernel_rfl) (fun _ _ _ h => h) (Or.inl ⟨by rfl, ?_⟩) SW.out ?_
  · intro W' hW
    go_simp
  try simp only [Act.put, List.setIfInBounds_toArray, List.set_cons_zero, List.set_cons_succ]
  refine wpAnyH_take (i := 3) (oi := ⟨some 46, _, _, _, _, _⟩) (v := .int .i64 ya) rfl (by kernel_rfl) (by kernel_rfl) (by kernel_rfl) (fun _ _ _ h => h) (Or.inl ⟨by rfl, ?_⟩) SW.out ?_
  · intro W' hW
    have c9 : _ = some (Value.int .i64 ya) := HB.cell hW.1 1
    go_simp
  try simp only [Act.put, List.setIfInBounds_toArray, List.set_cons_zero, List.set_cons_succ]
  refine wpAnyH_take (i := 4) (oi := ⟨some 47, _, _, _, _, _⟩) (v := .func (.func ib) #[] #[]) rfl (by kernel_rfl) (by kernel_rfl) (by kernel_rfl) (fun _ _ _ h => h) (Or.inl ⟨by rfl, ?_⟩) SW.out ?_
  · intro W' hW
    go_simp
  try simp only [Act.put, List.setIfInBounds_toArray, List.set_cons_zero, List.set_cons_succ]
  refine wpAnyH_take (i := 5) (oi := ⟨some 48, _, _, _, _, _⟩) (v := .pointer (some ⟨w.heap.size, 2, none⟩)) rfl (by kernel_rfl) (by kernel_rfl) (by kernel_rfl) (fun _ _ _ h => h) (Or.inl ⟨by rfl, ?_⟩) SW.out ?_
  · intro W' hW
    go_simp
  try simp only [Act.put, List.setIfInBounds_toArray, List.set_cons_zero, List.set_cons_succ]
  refine wpAnyH_take (i := 6) (oi := ⟨some 49, _, _, _, _, _⟩) (v := .int .i64 na) rfl (by kernel_rfl) (by kernel_rfl) (by kernel_rfl) (fun _ _ _ h => h) (Or.inl ⟨by rfl, ?_⟩) SW.out ?_
  · intro W' hW
    have c9 : _ = some (Value.int .i64 na) := HB.cell hW.1 2
    go_simp
  try simp only [Act.put, List.setIfInBounds_toArray, List.set_cons_zero, List.set_cons_succ]
  refine wpAnyH_take (i := 7) (oi := ⟨some 50, _, _, _, _, _⟩) (v := .pointer (some ⟨w.heap.size + 1, 2, none⟩)) rfl (by kernel_rfl) (by kernel_rfl) (by kernel_rfl) (fun _ _ _ h => h) (Or.inl ⟨by rfl, ?_⟩) SW.out ?_
  · intro W' hW
    go_simp
  try simp only [Act.put, List.setIfInBounds_toArray, List.set_cons_zero, List.set_cons_succ]
  refine wpAnyH_take (i := 8) (oi := ⟨some 51, _, _, _, _, _⟩) (v := .int .i64 nb) rfl (by kernel_rfl) (by kernel_rfl) (by kernel_rfl) (fun _ _ _ h => h) (Or.inl ⟨by rfl, ?_⟩) SW.out ?_
  · intro W' hW
    have c9 : _ = some (Value.int .i64 nb) := HB.cell hW.2 2
    go_simp
  try simp only [Act.put, List.setIfInBounds_toArray, List.set_cons_zero, List.set_cons_succ]
  refine wpAnyH_ready (rs := [9]) (by kernel_rfl) (by simp) ?_
  refine AllReadyH.cons (o := ⟨some 52, _, _, _, _, _⟩) rfl (fun K hK => ?_) AllReadyH.nil
  go_simp
  refine (FC.out na nb _).mono ?_
  rintro e w5 ⟨rfl, hw⟩
  subst hw
  refine hK.out _ _ SW.out (fun hHeld => ?_)
  clear hK hHeld
  try simp only [Act.put, List.setIfInBounds_toArray, List.set_cons_zero, List.set_cons_succ]
  obtain ⟨r, hr⟩ : ∃ z, z = mkF kb na nb := ⟨_, rfl⟩
  rw [← hr]
  have HR := Lib.hid hr
  clear hr
  refine wpAnyH_take (i := 10) (oi := ⟨some 53, _, _, _, _, _⟩) (v := .agg #[.int .i64 ka, .int .i64 ya, .int .i64 r]) rfl (by kernel_rfl) (by kernel_rfl) (by kernel_rfl) (fun _ _ _ h => h) (Or.inl ⟨by rfl, ?_⟩) SW.out ?_
  · intro W' hW
    go_simp
  try simp only [Act.put, List.setIfInBounds_toArray, List.set_cons_zero, List.set_cons_succ]
  have fz := R.out.hb.free
  have fz0 := fz 0
  have fz1 := fz 1
  have fz2 := fz 2
  have pz0 : _ = some (Value.int .i64 0) := R.out.hb.cell 0
  have pz1 : _ = some (Value.int .i64 0) := R.out.hb.cell 1
  have pz2 : _ = some (Value.int .i64 0) := R.out.hb.cell 2
  clear fz
  obtain ⟨z1, z2⟩ := set3 F.out R.out (.int .i64 ka) (.int .i64 ya) (.int .i64 r)
  have ZZ := Lib.hid (And.intro z1 z2)
  have nAR : w.heap.size ≠ w.heap.size + 2 := by omega
  have nBR : w.heap.size + 1 ≠ w.heap.size + 2 := by omega
  have SZ := Lib.hid (And.intro (((A.out.other nAR 0 (.int .i64 ka)).other nAR 1 (.int .i64 ya)).other nAR 2 (.int .i64 r)).hb (((B.out.other nBR 0 (.int .i64 ka)).other nBR 1 (.int .i64 ya)).other nBR 2 (.int .i64 r)).hb)
  clear z1 z2 nAR nBR
  refine wpAnyH_ready (rs := [11]) (by kernel_rfl) (by simp) ?_
  refine AllReadyH.cons (o := ⟨none, _, _, _, _, _⟩) rfl (fun K hK => ?_) AllReadyH.nil
  go_simp
  refine hK.out _ _ SZ.out (fun hHeld => ?_)
  clear hK hHeld
  try simp only [Act.put, List.setIfInBounds_toArray, List.set_cons_zero, List.set_cons_succ]
  refine wpAnyH_take (i := 12) (oi := ⟨some 5, _, _, _, _, _⟩) (v := .bool true) rfl (by kernel_rfl) (by kernel_rfl) (by kernel_rfl) (fun _ _ _ h => h) (Or.inl ⟨by rfl, ?_⟩) SZ.out ?_
  · intro W' hW
    go_simp
  try simp only [Act.put, List.setIfInBounds_toArray, List.set_cons_zero, List.set_cons_succ]
  refine wpAnyH_done (by kernel_rfl) ?_ _
  clear SW fz0 fz1 fz2 pz0 pz1 pz2
  go_wp2
  refine bodyPost_ret (results_ct rfl _ _ (w.heap.size + 2) _ _ _ _ rfl ZZ.out.2.hb Tryz.underlying25 rfl op_size) rfl ?_
  exact ⟨by rw [← HR.out]; rfl, (ZZ.out.1.k.below (Nat.le_refl _) (fun b hb hx => by rw [HX.out] at hx; omega))⟩
set_option maxRecDepth 100000 in
set_option maxHeartbeats 6400000 in
theorem merge_none (ka ya na kb yb nb : Int) (ha : kdOk ka) (hb : kdOk kb) (hy : ya = yb) (h3 : kb ≠ 3) (hn : ka ≠ 3) (hk : ka ≠ kb) (w : World) : Calls Tryz.prog 23 #[.agg #[.int .i64 ka, .int .i64 ya, .int .i64 na], .agg #[.int .i64 kb, .int .i64 yb, .int .i64 nb]] w fun e w' => e = .returned (.tuple #[.agg #[.int .i64 0, .int .i64 0, .int .i64 0], .bool false]) ∧ Below w.heap.size w w' := by
  obtain ⟨X, hXd⟩ : ∃ X : Nat → Prop, X = fun b => w.heap.size ≤ b := ⟨_, rfl⟩
  have hX : ∀ b, w.heap.size ≤ b → X b := by rw [hXd]; exact fun _ h => h
  have HX := Lib.hid hXd
  clear hXd
  obtain ⟨W0, hW0⟩ : ∃ W, W = w.alloc (.cells #[.int .i64 ka, .int .i64 ya, .int .i64 na] 25) := ⟨_, rfl⟩
  obtain ⟨Y0, hY0⟩ : ∃ Y : Nat → Prop, Y = fun b => X b ∧ b ≠ w.heap.size := ⟨_, rfl⟩
  have e0 : W0.heap.size = w.heap.size + 1 := by rw [hW0, World.size_alloc]
  have F0 : Fr X Y0 w W0 := by rw [hW0, hY0]; exact (Fr.start hX).new _
  have A0 : Bx 25 X Y0 W0 (w.heap.size) #[.int .i64 ka, .int .i64 ya, .int .i64 na] := by rw [hW0, hY0]; exact Bx.new (Fr.start hX) _ _
  obtain ⟨W1, hW1⟩ : ∃ W, W = W0.alloc (.cells #[.int .i64 kb, .int .i64 yb, .int .i64 nb] 25) := ⟨_, rfl⟩
  obtain ⟨Y1, hY1⟩ : ∃ Y : Nat → Prop, Y = fun b => Y0 b ∧ b ≠ W0.heap.size := ⟨_, rfl⟩
  have e1 : W1.heap.size = w.heap.size + 2 := by rw [hW1, World.size_alloc, e0]
  have F1 : Fr X Y1 w W1 := by rw [hW1, hY1]; exact F0.new _
  have A1 : Bx 25 X Y1 W1 (w.heap.size) #[.int .i64 ka, .int .i64 ya, .int .i64 na] := by rw [hW1, hY1]; exact A0.old _
  have B1 : Bx 25 X Y1 W1 (w.heap.size + 1) #[.int .i64 kb, .int .i64 yb, .int .i64 nb] := by rw [hW1, hY1, ← e0]; exact Bx.new F0 _ _
  obtain ⟨W2, hW2⟩ : ∃ W, W = W1.alloc (.cells #[.int .i64 0, .int .i64 0, .int .i64 0] 25) := ⟨_, rfl⟩
  obtain ⟨Y2, hY2⟩ : ∃ Y : Nat → Prop, Y = fun b => Y1 b ∧ b ≠ W1.heap.size := ⟨_, rfl⟩
  have e2 : W2.heap.size = w.heap.size + 3 := by rw [hW2, World.size_alloc, e1]
  have F2 : Fr X Y2 w W2 := by rw [hW2, hY2]; exact F1.new _
  have A2 : Bx 25 X Y2 W2 (w.heap.size) #[.int .i64 ka, .int .i64 ya, .int .i64 na] := by rw [hW2, hY2]; exact A1.old _
  have B2 : Bx 25 X Y2 W2 (w.heap.size + 1) #[.int .i64 kb, .int .i64 yb, .int .i64 nb] := by rw [hW2, hY2]; exact B1.old _
  have R2 : Bx 25 X Y2 W2 (w.heap.size + 2) #[.int .i64 0, .int .i64 0, .int .i64 0] := by rw [hW2, hY2, ← e1]; exact Bx.new F1 _ _
  rw [hW0] at hW1
  rw [hW1] at hW2
  have F := Lib.hid F2
  have A := Lib.hid A2
  have B := Lib.hid B2
  have R := Lib.hid R2
  clear hY0 hY1 hY2 F0 F1 F2 A0 A1 B1 A2 B2 R2 e0 e1 e2 hW0 hW1
  clear hX
  have HKA := Lib.hid ha
  have HKB := Lib.hid hb
  have MA := Lib.hid (makes_any ka ha)
  have MB := Lib.hid (makes_any kb hb)
  have hcf := fn_enter kb hb
  have heq := fn_eql
  have FC := Lib.hid (fn_calls kb hb)
  obtain ⟨ia, hia⟩ : ∃ z, z = fnOf ka := ⟨_, rfl⟩
  obtain ⟨ib, hib⟩ : ∃ z, z = fnOf kb := ⟨_, rfl⟩
  rw [← hia] at MA
  rw [← hib] at MB hcf FC
  clear hia hib ha hb
  have q1 : (ya != yb) = false := by simpa using hy
  have q2 : (kb == 3) = false := by simpa using h3
  have q22 : ¬ kb = 3 := h3
  have q3 : (ka == 3) = false := by simpa using hn
  have q33 : ¬ ka = 3 := hn
  have q4 : (ka == kb) = false := by simpa using hk
  have q44 : ¬ ka = kb := hk
  clear hy h3 hk hn
  go_enter Tryz.func23, Tryz.ntmps23
  go_upto_region 1 with fail
  rw [← hW2]
  clear hW2
  refine wp_region_held_drew (S := fun W => HB 25 W w.heap.size #[.int .i64 ka, .int .i64 ya, .int .i64 na] ∧ HB 25 W (w.heap.size + 1) #[.int .i64 kb, .int .i64 yb, .int .i64 nb]) (by kernel_rfl) (show HB 25 W2.drew w.heap.size #[.int .i64 ka, .int .i64 ya, .int .i64 na] ∧ HB 25 W2.drew (w.heap.size + 1) #[.int .i64 kb, .int .i64 yb, .int .i64 nb] from ⟨A.out.hb, B.out.hb⟩) (fun hHeld => ?_)
  have SW := Lib.hid hHeld
  clear hHeld
  obtain h0 := F.out
  clear F
  have F := Lib.hid (h0.drew)
  clear h0
  obtain h0 := A.out
  clear A
  have A := Lib.hid (h0.drew)
  clear h0
  obtain h0 := B.out
  clear B
  have B := Lib.hid (h0.drew)
  clear h0
  obtain h0 := R.out
  clear R
  have R := Lib.hid (h0.drew)
  clear h0
  generalize W2.drew = wq at *
  refine wpAnyH_take (i := 0) (oi := ⟨some 8, _, _, _, _, _⟩) (v := .pointer (some ⟨w.heap.size, 0, none⟩)) rfl (by kernel_rfl) (by kernel_rfl) (by kernel_rfl) (fun _ _ _ h => h) (Or.inl ⟨by rfl, ?_⟩) SW.out ?_
  · intro W' hW
    go_simp
  try simp only [Act.put, List.setIfInBounds_toArray, List.set_cons_zero, List.set_cons_succ]
  refine wpAnyH_take (i := 1) (oi := ⟨some 9, _, _, _, _, _⟩) (v := .int .i64 ka) rfl (by kernel_rfl) (by kernel_rfl) (by kernel_rfl) (fun _ _ _ h => h) (Or.inl ⟨by rfl, ?_⟩) SW.out ?_
  · intro W' hW
    have c9 : _ = some (Value.int .i64 ka) := HB.cell hW.1 0
    go_simp
  try simp only [Act.put, List.setIfInBounds_toArray, List.set_cons_zero, List.set_cons_succ]
  refine wpAnyH_take (i := 3) (oi := ⟨some 11, _, _, _, _, _⟩) (v := .pointer (some ⟨w.heap.size + 1, 0, none⟩)) rfl (by kernel_rfl) (by kernel_rfl) (by kernel_rfl) (fun _ _ _ h => h) (Or.inl ⟨by rfl, ?_⟩) SW.out ?_
  · intro W' hW
    go_simp
  try simp only [Act.put, List.setIfInBounds_toArray, List.set_cons_zero, List.set_cons_succ]
  refine wpAnyH_take (i := 4) (oi := ⟨some 12, _, _, _, _, _⟩) (v := .int .i64 kb) rfl (by kernel_rfl) (by kernel_rfl) (by kernel_rfl) (fun _ _ _ h => h) (Or.inl ⟨by rfl, ?_⟩) SW.out ?_
  · intro W' hW
    have c9 : _ = some (Value.int .i64 kb) := HB.cell hW.2 0
    go_simp
  try simp only [Act.put, List.setIfInBounds_toArray, List.set_cons_zero, List.set_cons_succ]
  refine wpAnyH_ready (rs := [2]) (by kernel_rfl) (by simp) ?_
  refine AllReadyH.cons (o := ⟨some 10, _, _, _, _, _⟩) rfl (fun K hK => ?_) AllReadyH.nil
  go_simp
  refine (MA.out _).mono ?_
  rintro e w3 ⟨rfl, hb⟩
  clear SW
  obtain h0 := F.out
  clear F
  have F := Lib.hid (h0.below hb)
  clear h0
  obtain h0 := A.out
  clear A
  have A := Lib.hid (h0.below hb)
  clear h0
  obtain h0 := B.out
  clear B
  have B := Lib.hid (h0.below hb)
  clear h0
  obtain h0 := R.out
  clear R
  have R := Lib.hid (h0.below hb)
  clear h0
  clear hb
  have SW := Lib.hid (And.intro A.out.hb B.out.hb)
  refine hK.out _ _ SW.out (fun hHeld => ?_)
  clear hK hHeld
  try simp only [Act.put, List.setIfInBounds_toArray, List.set_cons_zero, List.set_cons_succ]
  refine wpAnyH_ready (rs := [5]) (by kernel_rfl) (by simp) ?_
  refine AllReadyH.cons (o := ⟨some 13, _, _, _, _, _⟩) rfl (fun K hK => ?_) AllReadyH.nil
  go_simp
  refine (MB.out _).mono ?_
  rintro e w4 ⟨rfl, hb⟩
  clear SW
  obtain h0 := F.out
  clear F
  have F := Lib.hid (h0.below hb)
  clear h0
  obtain h0 := A.out
  clear A
  have A := Lib.hid (h0.below hb)
  clear h0
  obtain h0 := B.out
  clear B
  have B := Lib.hid (h0.below hb)
  clear h0
  obtain h0 := R.out
  clear R
  have R := Lib.hid (h0.below hb)
  clear h0
  clear hb
  have SW := Lib.hid (And.intro A.out.hb B.out.hb)
  refine hK.out _ _ SW.out (fun hHeld => ?_)
  clear hK hHeld
  try simp only [Act.put, List.setIfInBounds_toArray, List.set_cons_zero, List.set_cons_succ]
  refine wpAnyH_take (i := 6) (oi := ⟨some 6, _, _, _, _, _⟩) (v := .func (.func ia) #[] #[]) rfl (by kernel_rfl) (by kernel_rfl) (by kernel_rfl) (fun _ _ _ h => h) (Or.inl ⟨by rfl, ?_⟩) SW.out ?_
  · intro W' hW
    go_simp
  try simp only [Act.put, List.setIfInBounds_toArray, List.set_cons_zero, List.set_cons_succ]
  refine wpAnyH_take (i := 7) (oi := ⟨some 7, _, _, _, _, _⟩) (v := .func (.func ib) #[] #[]) rfl (by kernel_rfl) (by kernel_rfl) (by kernel_rfl) (fun _ _ _ h => h) (Or.inl ⟨by rfl, ?_⟩) SW.out ?_
  · intro W' hW
    go_simp
  try simp only [Act.put, List.setIfInBounds_toArray, List.set_cons_zero, List.set_cons_succ]
  refine wpAnyH_done (by kernel_rfl) ?_ _
  clear SW
  have pA0 : _ = some (Value.int .i64 ka) := A.out.hb.cell 0
  have pA1 : _ = some (Value.int .i64 ya) := A.out.hb.cell 1
  have pA2 : _ = some (Value.int .i64 na) := A.out.hb.cell 2
  have pB0 : _ = some (Value.int .i64 kb) := B.out.hb.cell 0
  have pB1 : _ = some (Value.int .i64 yb) := B.out.hb.cell 1
  have pB2 : _ = some (Value.int .i64 nb) := B.out.hb.cell 2
  have pR0 : _ = some (Value.int .i64 0) := R.out.hb.cell 0
  have pR1 : _ = some (Value.int .i64 0) := R.out.hb.cell 1
  have pR2 : _ = some (Value.int .i64 0) := R.out.hb.cell 2
  have fz := R.out.hb.free
  have fz0 := fz 0
  have fz1 := fz 1
  have fz2 := fz 2
  clear fz
  go_wp2
  obtain ⟨z1, z2⟩ := set3 F.out R.out (.int .i64 0) (.int .i64 0) (.int .i64 0)
  refine bodyPost_ret (results_ct rfl _ _ (w.heap.size + 2) _ _ _ _ rfl z2.hb Tryz.underlying25 rfl op_size) rfl ?_
  exact ⟨rfl, (z1.k.below (Nat.le_refl _) (fun b hb hx => by rw [HX.out] at hx; omega))⟩
theorem merge_any (a b : BOp) (ha : a.ok) (hb : b.ok) (w : World) : Calls Tryz.prog 23 #[opV a, opV b] w fun e w' => e = .returned (.tuple #[opV ((mergeB a b).getD ⟨0, 0, 0⟩), .bool (mergeB a b).isSome]) ∧ Below w.heap.size w w' := by
  obtain ⟨ka, ya, na⟩ := a
  obtain ⟨kb, yb, nb⟩ := b
  have ha := ha.1
  have hb := hb.1
  unfold mergeB
  by_cases hy : ya = yb
  · rw [if_neg (show ¬ ya ≠ yb from fun h => h hy)]
    by_cases h3 : kb = 3
    · rw [if_pos h3]
      exact merge_put ka ya na kb yb nb ha hb hy h3 w
    · rw [if_neg h3]
      by_cases hn : ka = 3
      · rw [if_pos (.inl hn)]
        exact merge_aput ka ya na kb yb nb ha hb hy h3 hn w
      · by_cases hk : ka = kb
        · rw [if_pos (.inr hk)]
          exact merge_same ka ya na kb yb nb ha hb hy h3 hn hk w
        · rw [if_neg (fun h => h.elim hn hk)]
          exact merge_none ka ya na kb yb nb ha hb hy h3 hn hk w
  · rw [if_pos hy]
    exact merge_key ka ya na kb yb nb ha hb hy w
end Go.Proofs.YtkloaopjlbinpaaGreat
