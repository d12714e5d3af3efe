/- The walk of the trie's leaf. Condition: at most 80000 writes. -/
import Derived.Test.YtkloaopjlbinpaaGreatTbH
set_option linter.unusedVariables false
set_option linter.unusedSimpArgs false
namespace Go.Proofs.YtkloaopjlbinpaaGreat
open Go.RowKit Go.MapKept

/-- The node of the key's leaf, where a path's end is one. -/
def lfA (k : Int) : Tr → Int
  | .l a k' _ => if k' = k then adr a else 0
  | _ => 0
set_option maxRecDepth 100000 in
set_option maxHeartbeats 6400000 in
theorem leaf_none {X : Nat → Prop} {w : World} {base sb : Nat} {g : Mem} {P : List (Int × Int)} (h : SpE w X base sb g P) (hX : ∀ b, w.heap.size ≤ b → X b) (hn : P.length ≤ 80000) (A B : Option Addr) (n m c d : Nat) (c0 d0 k : Int) (hin : inM c0) (hd0 : 0 ≤ d0 ∧ d0 < 4) (h0 : cur g P c0 = 0) :
    Calls Tryz.prog 38 #[.agg #[.iface 50 (.agg #[]), .int .i64 1, .int .i64 96, .int .i64 128, .int .i64 40], .pointer (some ⟨sb, 0, none⟩), .agg #[.slice A n c, .slice B m d, .int .i64 c0, .int .i64 d0], .int .i64 k] w fun e w' => e = .returned (.tuple #[.int .i64 c0, .int .i64 0, .bool true]) ∧ SpE w' X base sb g P ∧ KX X w w' := by
  obtain ⟨W0, hW0⟩ : ∃ W, W = w.alloc (.cells #[.iface 50 (.agg #[]), .int .i64 1, .int .i64 96, .int .i64 128, .int .i64 40] 61) := ⟨_, rfl⟩
  obtain ⟨Y0, hY0⟩ : ∃ Y : Nat → Prop, Y = fun b => X b ∧ b ≠ w.heap.size := ⟨_, rfl⟩
  have e0 : W0.heap.size = w.heap.size + 1 := by rw [hW0, World.size_alloc]
  have F0 : Fr X Y0 w W0 := by rw [hW0, hY0]; exact (Fr.start hX).new _
  have S0 : SpE W0 Y0 base sb g P := by rw [hW0, hY0]; exact h.new _
  have T0 : Bx 61 X Y0 W0 (w.heap.size) #[.iface 50 (.agg #[]), .int .i64 1, .int .i64 96, .int .i64 128, .int .i64 40] := by rw [hW0, hY0]; exact Bx.new (Fr.start hX) _ _
  obtain ⟨W1, hW1⟩ : ∃ W, W = W0.alloc (.cells #[.slice A n c, .slice B m d, .int .i64 c0, .int .i64 d0] 108) := ⟨_, rfl⟩
  obtain ⟨Y1, hY1⟩ : ∃ Y : Nat → Prop, Y = fun b => Y0 b ∧ b ≠ W0.heap.size := ⟨_, rfl⟩
  have e1 : W1.heap.size = w.heap.size + 2 := by rw [hW1, World.size_alloc, e0]
  have F1 : Fr X Y1 w W1 := by rw [hW1, hY1]; exact F0.new _
  have S1 : SpE W1 Y1 base sb g P := by rw [hW1, hY1]; exact S0.new _
  have T1 : Bx 61 X Y1 W1 (w.heap.size) #[.iface 50 (.agg #[]), .int .i64 1, .int .i64 96, .int .i64 128, .int .i64 40] := by rw [hW1, hY1]; exact T0.old _
  have BY1 : Bx 108 X Y1 W1 (w.heap.size + 1) #[.slice A n c, .slice B m d, .int .i64 c0, .int .i64 d0] := by rw [hW1, hY1, ← e0]; exact Bx.new F0 _ _
  rw [hW0] at hW1
  have F := Lib.hid F1
  have S := Lib.hid S1
  have T := Lib.hid T1
  have BY := Lib.hid BY1
  clear hY0 hY1 F0 F1 S0 S1 T0 T1 BY1 e0 e1 hW0
  have HN := Lib.hid hn
  have HIN := Lib.hid hin
  have HD := Lib.hid hd0
  have H0 := Lib.hid h0
  clear h hX hn hin hd0 h0
  go_enter Tryz.func38, Tryz.ntmps38
  go_upto_region 1 with fail
  rw [← hW1]
  clear hW1
  have pT0 : _ = some (Value.iface 50 (.agg #[])) := T.out.hb.cell 0
  have pT1 : _ = some (Value.int .i64 1) := T.out.hb.cell 1
  have pT2 : _ = some (Value.int .i64 96) := T.out.hb.cell 2
  have pT3 : _ = some (Value.int .i64 128) := T.out.hb.cell 3
  have pT4 : _ = some (Value.int .i64 40) := T.out.hb.cell 4
  have pBY0 : _ = some (Value.slice A n c) := BY.out.hb.cell 0
  have pBY1 : _ = some (Value.slice B m d) := BY.out.hb.cell 1
  have pBY2 : _ = some (Value.int .i64 c0) := BY.out.hb.cell 2
  have pBY3 : _ = some (Value.int .i64 d0) := BY.out.hb.cell 3
  go_wp2_with fail
  go_loopg [11, 12] 1 (fun gk v11 v12 wr => v11 = .int .i64 c0 ∧ v12 = .int .i64 0 ∧ wr = W1)
  case atStart => exact ⟨rfl, rfl, rfl⟩
  case round =>
    obtain ⟨rfl, rfl, rfl⟩ := hrel
    go_wp2_with fail
    refine (sget S.out (by have := HN.out; omega) c0 0 HIN.out H0.out).mono ?_
    rintro e w1 ⟨rfl, hs, hk⟩
    clear S
    have S := Lib.hid hs
    clear pT0 pT1 pT2 pT3 pT4 pBY0 pBY1 pBY2 pBY3
    obtain h0 := F.out
    clear F
    have F := Lib.hid (h0.step hk)
    clear h0
    obtain h0 := T.out
    clear T
    have T := Lib.hid (h0.step hk)
    clear h0
    obtain h0 := BY.out
    clear BY
    have BY := Lib.hid (h0.step hk)
    clear h0
    clear hs hk
    have pT0 : _ = some (Value.iface 50 (.agg #[])) := T.out.hb.cell 0
    have pT1 : _ = some (Value.int .i64 1) := T.out.hb.cell 1
    have pT2 : _ = some (Value.int .i64 96) := T.out.hb.cell 2
    have pT3 : _ = some (Value.int .i64 128) := T.out.hb.cell 3
    have pT4 : _ = some (Value.int .i64 40) := T.out.hb.cell 4
    have pBY0 : _ = some (Value.slice A n c) := BY.out.hb.cell 0
    have pBY1 : _ = some (Value.slice B m d) := BY.out.hb.cell 1
    have pBY2 : _ = some (Value.int .i64 c0) := BY.out.hb.cell 2
    have pBY3 : _ = some (Value.int .i64 d0) := BY.out.hb.cell 3
    go_wp2
    go_ret3
    exact ⟨rfl, S.out.back F.out, F.out.k⟩
set_option maxRecDepth 100000 in
set_option maxHeartbeats 6400000 in
theorem leaf_same {X : Nat → Prop} {w : World} {base sb : Nat} {g : Mem} {P : List (Int × Int)} (h : SpE w X base sb g P) (hX : ∀ b, w.heap.size ≤ b → X b) (hn : P.length ≤ 80000) (A B : Option Addr) (n m c d : Nat) (c0 d0 k : Int) (hin : inM c0) (hd0 : 0 ≤ d0 ∧ d0 < 4) (a : Nat) (ha : a < 128) (x : Int) (hx : x = adr a) (h0 : cur g P c0 = x) (hk : cur g P x = k) :
    Calls Tryz.prog 38 #[.agg #[.iface 50 (.agg #[]), .int .i64 1, .int .i64 96, .int .i64 128, .int .i64 40], .pointer (some ⟨sb, 0, none⟩), .agg #[.slice A n c, .slice B m d, .int .i64 c0, .int .i64 d0], .int .i64 k] w fun e w' => e = .returned (.tuple #[.int .i64 c0, .int .i64 x, .bool true]) ∧ SpE w' X base sb g P ∧ KX X w w' := by
  obtain ⟨W0, hW0⟩ : ∃ W, W = w.alloc (.cells #[.iface 50 (.agg #[]), .int .i64 1, .int .i64 96, .int .i64 128, .int .i64 40] 61) := ⟨_, rfl⟩
  obtain ⟨Y0, hY0⟩ : ∃ Y : Nat → Prop, Y = fun b => X b ∧ b ≠ w.heap.size := ⟨_, rfl⟩
  have e0 : W0.heap.size = w.heap.size + 1 := by rw [hW0, World.size_alloc]
  have F0 : Fr X Y0 w W0 := by rw [hW0, hY0]; exact (Fr.start hX).new _
  have S0 : SpE W0 Y0 base sb g P := by rw [hW0, hY0]; exact h.new _
  have T0 : Bx 61 X Y0 W0 (w.heap.size) #[.iface 50 (.agg #[]), .int .i64 1, .int .i64 96, .int .i64 128, .int .i64 40] := by rw [hW0, hY0]; exact Bx.new (Fr.start hX) _ _
  obtain ⟨W1, hW1⟩ : ∃ W, W = W0.alloc (.cells #[.slice A n c, .slice B m d, .int .i64 c0, .int .i64 d0] 108) := ⟨_, rfl⟩
  obtain ⟨Y1, hY1⟩ : ∃ Y : Nat → Prop, Y = fun b => Y0 b ∧ b ≠ W0.heap.size := ⟨_, rfl⟩
  have e1 : W1.heap.size = w.heap.size + 2 := by rw [hW1, World.size_alloc, e0]
  have F1 : Fr X Y1 w W1 := by rw [hW1, hY1]; exact F0.new _
  have S1 : SpE W1 Y1 base sb g P := by rw [hW1, hY1]; exact S0.new _
  have T1 : Bx 61 X Y1 W1 (w.heap.size) #[.iface 50 (.agg #[]), .int .i64 1, .int .i64 96, .int .i64 128, .int .i64 40] := by rw [hW1, hY1]; exact T0.old _
  have BY1 : Bx 108 X Y1 W1 (w.heap.size + 1) #[.slice A n c, .slice B m d, .int .i64 c0, .int .i64 d0] := by rw [hW1, hY1, ← e0]; exact Bx.new F0 _ _
  rw [hW0] at hW1
  have F := Lib.hid F1
  have S := Lib.hid S1
  have T := Lib.hid T1
  have BY := Lib.hid BY1
  clear hY0 hY1 F0 F1 S0 S1 T0 T1 BY1 e0 e1 hW0
  have HN := Lib.hid hn
  have HIN := Lib.hid hin
  have HD := Lib.hid hd0
  have H0 := Lib.hid h0
  have HA := Lib.hid ha
  have HX := Lib.hid hx
  have HXI := Lib.hid (show inM x from by rw [hx]; unfold inM adr; omega)
  have HK := Lib.hid hk
  have q0 : (x != 0) = true := by simp; unfold adr at hx; omega
  have q1 : ¬ x = 0 := by unfold adr at hx; omega
  clear h hX hn hin hd0 h0 ha hx hk
  go_enter Tryz.func38, Tryz.ntmps38
  go_upto_region 1 with fail
  rw [← hW1]
  clear hW1
  have pT0 : _ = some (Value.iface 50 (.agg #[])) := T.out.hb.cell 0
  have pT1 : _ = some (Value.int .i64 1) := T.out.hb.cell 1
  have pT2 : _ = some (Value.int .i64 96) := T.out.hb.cell 2
  have pT3 : _ = some (Value.int .i64 128) := T.out.hb.cell 3
  have pT4 : _ = some (Value.int .i64 40) := T.out.hb.cell 4
  have pBY0 : _ = some (Value.slice A n c) := BY.out.hb.cell 0
  have pBY1 : _ = some (Value.slice B m d) := BY.out.hb.cell 1
  have pBY2 : _ = some (Value.int .i64 c0) := BY.out.hb.cell 2
  have pBY3 : _ = some (Value.int .i64 d0) := BY.out.hb.cell 3
  go_wp2_with fail
  go_loopg [11, 12] 1 (fun gk v11 v12 wr => v11 = .int .i64 c0 ∧ v12 = .int .i64 0 ∧ wr = W1)
  case atStart => exact ⟨rfl, rfl, rfl⟩
  case round =>
    obtain ⟨rfl, rfl, rfl⟩ := hrel
    go_wp2_with fail
    refine (sget S.out (by have := HN.out; omega) c0 x HIN.out H0.out).mono ?_
    rintro e w1 ⟨rfl, hs, hk⟩
    clear S
    have S := Lib.hid hs
    clear pT0 pT1 pT2 pT3 pT4 pBY0 pBY1 pBY2 pBY3
    obtain h0 := F.out
    clear F
    have F := Lib.hid (h0.step hk)
    clear h0
    obtain h0 := T.out
    clear T
    have T := Lib.hid (h0.step hk)
    clear h0
    obtain h0 := BY.out
    clear BY
    have BY := Lib.hid (h0.step hk)
    clear h0
    clear hs hk
    have pT0 : _ = some (Value.iface 50 (.agg #[])) := T.out.hb.cell 0
    have pT1 : _ = some (Value.int .i64 1) := T.out.hb.cell 1
    have pT2 : _ = some (Value.int .i64 96) := T.out.hb.cell 2
    have pT3 : _ = some (Value.int .i64 128) := T.out.hb.cell 3
    have pT4 : _ = some (Value.int .i64 40) := T.out.hb.cell 4
    have pBY0 : _ = some (Value.slice A n c) := BY.out.hb.cell 0
    have pBY1 : _ = some (Value.slice B m d) := BY.out.hb.cell 1
    have pBY2 : _ = some (Value.int .i64 c0) := BY.out.hb.cell 2
    have pBY3 : _ = some (Value.int .i64 d0) := BY.out.hb.cell 3
    go_upto_region 5 with fail
    clear pT0 pT1 pT2 pT3 pT4 pBY0 pBY1 pBY2 pBY3
    refine wp_region_held_drew (S := fun W => HB 61 W w.heap.size #[.iface 50 (.agg #[]), .int .i64 1, .int .i64 96, .int .i64 128, .int .i64 40]) (by kernel_rfl) (show HB 61 w1.drew w.heap.size #[.iface 50 (.agg #[]), .int .i64 1, .int .i64 96, .int .i64 128, .int .i64 40] from T.out.hb) (fun hHeld => ?_)
    have SW := Lib.hid hHeld
    clear hHeld
    obtain h0 := F.out
    clear F
    have F := Lib.hid (h0.drew)
    clear h0
    obtain h0 := S.out
    clear S
    have S := Lib.hid (h0.drew)
    clear h0
    obtain h0 := T.out
    clear T
    have T := Lib.hid (h0.drew)
    clear h0
    obtain h0 := BY.out
    clear BY
    have BY := Lib.hid (h0.drew)
    clear h0
    generalize w1.drew = wq at *
    refine wpAnyH_take (i := 0) (oi := ⟨some 24, _, _, _, _, _⟩) (v := .agg #[.iface 50 (.agg #[]), .int .i64 1, .int .i64 96, .int .i64 128, .int .i64 40]) rfl (by kernel_rfl) (by kernel_rfl) (by kernel_rfl) (fun _ _ _ h => h) (Or.inl ⟨by rfl, ?_⟩) SW.out ?_
    · intro W' hW
      have c0 : _ = some (Value.iface 50 (.agg #[])) := HB.cell hW 0
      have c1 : _ = some (Value.int .i64 1) := HB.cell hW 1
      have c2 : _ = some (Value.int .i64 96) := HB.cell hW 2
      have c3 : _ = some (Value.int .i64 128) := HB.cell hW 3
      have c4 : _ = some (Value.int .i64 40) := HB.cell hW 4
      go_simp
    try simp only [Act.put, List.setIfInBounds_toArray, List.set_cons_zero, List.set_cons_succ]
    refine wpAnyH_take (i := 1) (oi := ⟨some 25, _, _, _, _, _⟩) (v := .pointer (some ⟨sb, 0, none⟩)) rfl (by kernel_rfl) (by kernel_rfl) (by kernel_rfl) (fun _ _ _ h => h) (Or.inl ⟨by rfl, ?_⟩) SW.out ?_
    · intro W' hW
      go_simp
    try simp only [Act.put, List.setIfInBounds_toArray, List.set_cons_zero, List.set_cons_succ]
    refine wpAnyH_take (i := 2) (oi := ⟨some 26, _, _, _, _, _⟩) (v := .int .i64 c0) rfl (by kernel_rfl) (by kernel_rfl) (by kernel_rfl) (fun _ _ _ h => h) (Or.inl ⟨by rfl, ?_⟩) SW.out ?_
    · intro W' hW
      go_simp
    try simp only [Act.put, List.setIfInBounds_toArray, List.set_cons_zero, List.set_cons_succ]
    refine wpAnyH_ready (rs := [3]) (by kernel_rfl) (by simp) ?_
    refine AllReadyH.cons (o := ⟨some 27, _, _, _, _, _⟩) rfl (fun K hK => ?_) AllReadyH.nil
    go_simp
    refine (sget S.out (by have := HN.out; omega) c0 x HIN.out H0.out).mono ?_
    rintro e w2 ⟨rfl, hs, hk⟩
    clear S SW
    have S := Lib.hid hs
    obtain h0 := F.out
    clear F
    have F := Lib.hid (h0.step hk)
    clear h0
    obtain h0 := T.out
    clear T
    have T := Lib.hid (h0.step hk)
    clear h0
    obtain h0 := BY.out
    clear BY
    have BY := Lib.hid (h0.step hk)
    clear h0
    clear hs hk
    have SW := Lib.hid (T.out.hb)
    refine hK.out _ _ SW.out (fun hHeld => ?_)
    clear hK hHeld
    try simp only [Act.put, List.setIfInBounds_toArray, List.set_cons_zero, List.set_cons_succ]
    refine wpAnyH_ready (rs := [4]) (by kernel_rfl) (by simp) ?_
    refine AllReadyH.cons (o := ⟨some 28, _, _, _, _, _⟩) rfl (fun K hK => ?_) AllReadyH.nil
    go_simp
    refine (tnode_any a HA.out x HX.out _).mono ?_
    rintro e w3 ⟨rfl, hb⟩
    clear SW
    obtain h0 := S.out
    clear S
    have S := Lib.hid (h0.below hb)
    clear h0
    obtain h0 := F.out
    clear F
    have F := Lib.hid (h0.below hb)
    clear h0
    obtain h0 := T.out
    clear T
    have T := Lib.hid (h0.below hb)
    clear h0
    obtain h0 := BY.out
    clear BY
    have BY := Lib.hid (h0.below hb)
    clear h0
    clear hb
    have SW := Lib.hid (T.out.hb)
    refine hK.out _ _ SW.out (fun hHeld => ?_)
    clear hK hHeld
    try simp only [Act.put, List.setIfInBounds_toArray, List.set_cons_zero, List.set_cons_succ]
    refine wpAnyH_take (i := 5) (oi := ⟨some 23, _, _, _, _, _⟩) (v := .tuple #[.int .i64 x, .bool true]) rfl (by kernel_rfl) (by kernel_rfl) (by kernel_rfl) (fun _ _ _ h => h) (Or.inl ⟨by rfl, ?_⟩) SW.out ?_
    · intro W' hW
      go_simp
    try simp only [Act.put, List.setIfInBounds_toArray, List.set_cons_zero, List.set_cons_succ]
    refine wpAnyH_take (i := 6) (oi := ⟨some 29, _, _, _, _, _⟩) (v := .int .i64 x) rfl (by kernel_rfl) (by kernel_rfl) (by kernel_rfl) (fun _ _ _ h => h) (Or.inl ⟨by rfl, ?_⟩) SW.out ?_
    · intro W' hW
      go_simp
    try simp only [Act.put, List.setIfInBounds_toArray, List.set_cons_zero, List.set_cons_succ]
    refine wpAnyH_take (i := 7) (oi := ⟨some 30, _, _, _, _, _⟩) (v := .bool true) rfl (by kernel_rfl) (by kernel_rfl) (by kernel_rfl) (fun _ _ _ h => h) (Or.inl ⟨by rfl, ?_⟩) SW.out ?_
    · intro W' hW
      go_simp
    try simp only [Act.put, List.setIfInBounds_toArray, List.set_cons_zero, List.set_cons_succ]
    refine wpAnyH_take (i := 8) (oi := ⟨some 13, _, _, _, _, _⟩) (v := .int .i64 x) rfl (by kernel_rfl) (by kernel_rfl) (by kernel_rfl) (fun _ _ _ h => h) (Or.inl ⟨by rfl, ?_⟩) SW.out ?_
    · intro W' hW
      go_simp
    try simp only [Act.put, List.setIfInBounds_toArray, List.set_cons_zero, List.set_cons_succ]
    refine wpAnyH_take (i := 9) (oi := ⟨some 14, _, _, _, _, _⟩) (v := .bool true) rfl (by kernel_rfl) (by kernel_rfl) (by kernel_rfl) (fun _ _ _ h => h) (Or.inl ⟨by rfl, ?_⟩) SW.out ?_
    · intro W' hW
      go_simp
    try simp only [Act.put, List.setIfInBounds_toArray, List.set_cons_zero, List.set_cons_succ]
    refine wpAnyH_done (by kernel_rfl) ?_ _
    clear SW
    have pT0 : _ = some (Value.iface 50 (.agg #[])) := T.out.hb.cell 0
    have pT1 : _ = some (Value.int .i64 1) := T.out.hb.cell 1
    have pT2 : _ = some (Value.int .i64 96) := T.out.hb.cell 2
    have pT3 : _ = some (Value.int .i64 128) := T.out.hb.cell 3
    have pT4 : _ = some (Value.int .i64 40) := T.out.hb.cell 4
    have pBY0 : _ = some (Value.slice A n c) := BY.out.hb.cell 0
    have pBY1 : _ = some (Value.slice B m d) := BY.out.hb.cell 1
    have pBY2 : _ = some (Value.int .i64 c0) := BY.out.hb.cell 2
    have pBY3 : _ = some (Value.int .i64 d0) := BY.out.hb.cell 3
    go_wp2_with fail
    refine (sget S.out (by have := HN.out; omega) x k HXI.out HK.out).mono ?_
    rintro e w4 ⟨rfl, hs, hk⟩
    clear S
    have S := Lib.hid hs
    clear pT0 pT1 pT2 pT3 pT4 pBY0 pBY1 pBY2 pBY3
    obtain h0 := F.out
    clear F
    have F := Lib.hid (h0.step hk)
    clear h0
    obtain h0 := T.out
    clear T
    have T := Lib.hid (h0.step hk)
    clear h0
    obtain h0 := BY.out
    clear BY
    have BY := Lib.hid (h0.step hk)
    clear h0
    clear hs hk
    have pT0 : _ = some (Value.iface 50 (.agg #[])) := T.out.hb.cell 0
    have pT1 : _ = some (Value.int .i64 1) := T.out.hb.cell 1
    have pT2 : _ = some (Value.int .i64 96) := T.out.hb.cell 2
    have pT3 : _ = some (Value.int .i64 128) := T.out.hb.cell 3
    have pT4 : _ = some (Value.int .i64 40) := T.out.hb.cell 4
    have pBY0 : _ = some (Value.slice A n c) := BY.out.hb.cell 0
    have pBY1 : _ = some (Value.slice B m d) := BY.out.hb.cell 1
    have pBY2 : _ = some (Value.int .i64 c0) := BY.out.hb.cell 2
    have pBY3 : _ = some (Value.int .i64 d0) := BY.out.hb.cell 3
    go_wp2
    go_ret3
    exact ⟨rfl, S.out.back F.out, F.out.k⟩
set_option maxRecDepth 100000 in
set_option maxHeartbeats 6400000 in
theorem leaf_other {X : Nat → Prop} {w : World} {base sb : Nat} {g : Mem} {P : List (Int × Int)} (h : SpE w X base sb g P) (hX : ∀ b, w.heap.size ≤ b → X b) (hn : P.length ≤ 80000) (A B : Option Addr) (n m c d : Nat) (c0 d0 k : Int) (hin : inM c0) (hd0 : 0 ≤ d0 ∧ d0 < 4) (a : Nat) (ha : a < 128) (x : Int) (hx : x = adr a) (h0 : cur g P c0 = x) (k1 : Int) (hk : cur g P x = k1) (hne : k1 ≠ k) :
    Calls Tryz.prog 38 #[.agg #[.iface 50 (.agg #[]), .int .i64 1, .int .i64 96, .int .i64 128, .int .i64 40], .pointer (some ⟨sb, 0, none⟩), .agg #[.slice A n c, .slice B m d, .int .i64 c0, .int .i64 d0], .int .i64 k] w fun e w' => e = .returned (.tuple #[.int .i64 c0, .int .i64 0, .bool true]) ∧ SpE w' X base sb g P ∧ KX X w w' := by
  obtain ⟨W0, hW0⟩ : ∃ W, W = w.alloc (.cells #[.iface 50 (.agg #[]), .int .i64 1, .int .i64 96, .int .i64 128, .int .i64 40] 61) := ⟨_, rfl⟩
  obtain ⟨Y0, hY0⟩ : ∃ Y : Nat → Prop, Y = fun b => X b ∧ b ≠ w.heap.size := ⟨_, rfl⟩
  have e0 : W0.heap.size = w.heap.size + 1 := by rw [hW0, World.size_alloc]
  have F0 : Fr X Y0 w W0 := by rw [hW0, hY0]; exact (Fr.start hX).new _
  have S0 : SpE W0 Y0 base sb g P := by rw [hW0, hY0]; exact h.new _
  have T0 : Bx 61 X Y0 W0 (w.heap.size) #[.iface 50 (.agg #[]), .int .i64 1, .int .i64 96, .int .i64 128, .int .i64 40] := by rw [hW0, hY0]; exact Bx.new (Fr.start hX) _ _
  obtain ⟨W1, hW1⟩ : ∃ W, W = W0.alloc (.cells #[.slice A n c, .slice B m d, .int .i64 c0, .int .i64 d0] 108) := ⟨_, rfl⟩
  obtain ⟨Y1, hY1⟩ : ∃ Y : Nat → Prop, Y = fun b => Y0 b ∧ b ≠ W0.heap.size := ⟨_, rfl⟩
  have e1 : W1.heap.size = w.heap.size + 2 := by rw [hW1, World.size_alloc, e0]
  have F1 : Fr X Y1 w W1 := by rw [hW1, hY1]; exact F0.new _
  have S1 : SpE W1 Y1 base sb g P := by rw [hW1, hY1]; exact S0.new _
  have T1 : Bx 61 X Y1 W1 (w.heap.size) #[.iface 50 (.agg #[]), .int .i64 1, .int .i64 96, .int .i64 128, .int .i64 40] := by rw [hW1, hY1]; exact T0.old _
  have BY1 : Bx 108 X Y1 W1 (w.heap.size + 1) #[.slice A n c, .slice B m d, .int .i64 c0, .int .i64 d0] := by rw [hW1, hY1, ← e0]; exact Bx.new F0 _ _
  rw [hW0] at hW1
  have F := Lib.hid F1
  have S := Lib.hid S1
  have T := Lib.hid T1
  have BY := Lib.hid BY1
  clear hY0 hY1 F0 F1 S0 S1 T0 T1 BY1 e0 e1 hW0
  have HN := Lib.hid hn
  have HIN := Lib.hid hin
  have HD := Lib.hid hd0
  have H0 := Lib.hid h0
  have HA := Lib.hid ha
  have HX := Lib.hid hx
  have HXI := Lib.hid (show inM x from by rw [hx]; unfold inM adr; omega)
  have HK := Lib.hid hk
  have q0 : (x != 0) = true := by simp; unfold adr at hx; omega
  have q1 : ¬ x = 0 := by unfold adr at hx; omega
  have q2 : ¬ k1 = k := hne
  have q4 : d0 < 4 := hd0.2
  clear h hX hn hin hd0 h0 ha hx hk hne
  go_enter Tryz.func38, Tryz.ntmps38
  go_upto_region 1 with fail
  rw [← hW1]
  clear hW1
  have pT0 : _ = some (Value.iface 50 (.agg #[])) := T.out.hb.cell 0
  have pT1 : _ = some (Value.int .i64 1) := T.out.hb.cell 1
  have pT2 : _ = some (Value.int .i64 96) := T.out.hb.cell 2
  have pT3 : _ = some (Value.int .i64 128) := T.out.hb.cell 3
  have pT4 : _ = some (Value.int .i64 40) := T.out.hb.cell 4
  have pBY0 : _ = some (Value.slice A n c) := BY.out.hb.cell 0
  have pBY1 : _ = some (Value.slice B m d) := BY.out.hb.cell 1
  have pBY2 : _ = some (Value.int .i64 c0) := BY.out.hb.cell 2
  have pBY3 : _ = some (Value.int .i64 d0) := BY.out.hb.cell 3
  go_wp2_with fail
  go_loopg [11, 12] 1 (fun gk v11 v12 wr => v11 = .int .i64 c0 ∧ v12 = .int .i64 0 ∧ wr = W1)
  case atStart => exact ⟨rfl, rfl, rfl⟩
  case round =>
    obtain ⟨rfl, rfl, rfl⟩ := hrel
    go_wp2_with fail
    refine (sget S.out (by have := HN.out; omega) c0 x HIN.out H0.out).mono ?_
    rintro e w1 ⟨rfl, hs, hk⟩
    clear S
    have S := Lib.hid hs
    clear pT0 pT1 pT2 pT3 pT4 pBY0 pBY1 pBY2 pBY3
    obtain h0 := F.out
    clear F
    have F := Lib.hid (h0.step hk)
    clear h0
    obtain h0 := T.out
    clear T
    have T := Lib.hid (h0.step hk)
    clear h0
    obtain h0 := BY.out
    clear BY
    have BY := Lib.hid (h0.step hk)
    clear h0
    clear hs hk
    have pT0 : _ = some (Value.iface 50 (.agg #[])) := T.out.hb.cell 0
    have pT1 : _ = some (Value.int .i64 1) := T.out.hb.cell 1
    have pT2 : _ = some (Value.int .i64 96) := T.out.hb.cell 2
    have pT3 : _ = some (Value.int .i64 128) := T.out.hb.cell 3
    have pT4 : _ = some (Value.int .i64 40) := T.out.hb.cell 4
    have pBY0 : _ = some (Value.slice A n c) := BY.out.hb.cell 0
    have pBY1 : _ = some (Value.slice B m d) := BY.out.hb.cell 1
    have pBY2 : _ = some (Value.int .i64 c0) := BY.out.hb.cell 2
    have pBY3 : _ = some (Value.int .i64 d0) := BY.out.hb.cell 3
    go_upto_region 5 with fail
    clear pT0 pT1 pT2 pT3 pT4 pBY0 pBY1 pBY2 pBY3
    refine wp_region_held_drew (S := fun W => HB 61 W w.heap.size #[.iface 50 (.agg #[]), .int .i64 1, .int .i64 96, .int .i64 128, .int .i64 40]) (by kernel_rfl) (show HB 61 w1.drew w.heap.size #[.iface 50 (.agg #[]), .int .i64 1, .int .i64 96, .int .i64 128, .int .i64 40] from T.out.hb) (fun hHeld => ?_)
    have SW := Lib.hid hHeld
    clear hHeld
    obtain h0 := F.out
    clear F
    have F := Lib.hid (h0.drew)
    clear h0
    obtain h0 := S.out
    clear S
    have S := Lib.hid (h0.drew)
    clear h0
    obtain h0 := T.out
    clear T
    have T := Lib.hid (h0.drew)
    clear h0
    obtain h0 := BY.out
    clear BY
    have BY := Lib.hid (h0.drew)
    clear h0
    generalize w1.drew = wq at *
    refine wpAnyH_take (i := 0) (oi := ⟨some 24, _, _, _, _, _⟩) (v := .agg #[.iface 50 (.agg #[]), .int .i64 1, .int .i64 96, .int .i64 128, .int .i64 40]) rfl (by kernel_rfl) (by kernel_rfl) (by kernel_rfl) (fun _ _ _ h => h) (Or.inl ⟨by rfl, ?_⟩) SW.out ?_
    · intro W' hW
      have c0 : _ = some (Value.iface 50 (.agg #[])) := HB.cell hW 0
      have c1 : _ = some (Value.int .i64 1) := HB.cell hW 1
      have c2 : _ = some (Value.int .i64 96) := HB.cell hW 2
      have c3 : _ = some (Value.int .i64 128) := HB.cell hW 3
      have c4 : _ = some (Value.int .i64 40) := HB.cell hW 4
      go_simp
    try simp only [Act.put, List.setIfInBounds_toArray, List.set_cons_zero, List.set_cons_succ]
    refine wpAnyH_take (i := 1) (oi := ⟨some 25, _, _, _, _, _⟩) (v := .pointer (some ⟨sb, 0, none⟩)) rfl (by kernel_rfl) (by kernel_rfl) (by kernel_rfl) (fun _ _ _ h => h) (Or.inl ⟨by rfl, ?_⟩) SW.out ?_
    · intro W' hW
      go_simp
    try simp only [Act.put, List.setIfInBounds_toArray, List.set_cons_zero, List.set_cons_succ]
    refine wpAnyH_take (i := 2) (oi := ⟨some 26, _, _, _, _, _⟩) (v := .int .i64 c0) rfl (by kernel_rfl) (by kernel_rfl) (by kernel_rfl) (fun _ _ _ h => h) (Or.inl ⟨by rfl, ?_⟩) SW.out ?_
    · intro W' hW
      go_simp
    try simp only [Act.put, List.setIfInBounds_toArray, List.set_cons_zero, List.set_cons_succ]
    refine wpAnyH_ready (rs := [3]) (by kernel_rfl) (by simp) ?_
    refine AllReadyH.cons (o := ⟨some 27, _, _, _, _, _⟩) rfl (fun K hK => ?_) AllReadyH.nil
    go_simp
    refine (sget S.out (by have := HN.out; omega) c0 x HIN.out H0.out).mono ?_
    rintro e w2 ⟨rfl, hs, hk⟩
    clear S SW
    have S := Lib.hid hs
    obtain h0 := F.out
    clear F
    have F := Lib.hid (h0.step hk)
    clear h0
    obtain h0 := T.out
    clear T
    have T := Lib.hid (h0.step hk)
    clear h0
    obtain h0 := BY.out
    clear BY
    have BY := Lib.hid (h0.step hk)
    clear h0
    clear hs hk
    have SW := Lib.hid (T.out.hb)
    refine hK.out _ _ SW.out (fun hHeld => ?_)
    clear hK hHeld
    try simp only [Act.put, List.setIfInBounds_toArray, List.set_cons_zero, List.set_cons_succ]
    refine wpAnyH_ready (rs := [4]) (by kernel_rfl) (by simp) ?_
    refine AllReadyH.cons (o := ⟨some 28, _, _, _, _, _⟩) rfl (fun K hK => ?_) AllReadyH.nil
    go_simp
    refine (tnode_any a HA.out x HX.out _).mono ?_
    rintro e w3 ⟨rfl, hb⟩
    clear SW
    obtain h0 := S.out
    clear S
    have S := Lib.hid (h0.below hb)
    clear h0
    obtain h0 := F.out
    clear F
    have F := Lib.hid (h0.below hb)
    clear h0
    obtain h0 := T.out
    clear T
    have T := Lib.hid (h0.below hb)
    clear h0
    obtain h0 := BY.out
    clear BY
    have BY := Lib.hid (h0.below hb)
    clear h0
    clear hb
    have SW := Lib.hid (T.out.hb)
    refine hK.out _ _ SW.out (fun hHeld => ?_)
    clear hK hHeld
    try simp only [Act.put, List.setIfInBounds_toArray, List.set_cons_zero, List.set_cons_succ]
    refine wpAnyH_take (i := 5) (oi := ⟨some 23, _, _, _, _, _⟩) (v := .tuple #[.int .i64 x, .bool true]) rfl (by kernel_rfl) (by kernel_rfl) (by kernel_rfl) (fun _ _ _ h => h) (Or.inl ⟨by rfl, ?_⟩) SW.out ?_
    · intro W' hW
      go_simp
    try simp only [Act.put, List.setIfInBounds_toArray, List.set_cons_zero, List.set_cons_succ]
    refine wpAnyH_take (i := 6) (oi := ⟨some 29, _, _, _, _, _⟩) (v := .int .i64 x) rfl (by kernel_rfl) (by kernel_rfl) (by kernel_rfl) (fun _ _ _ h => h) (Or.inl ⟨by rfl, ?_⟩) SW.out ?_
    · intro W' hW
      go_simp
    try simp only [Act.put, List.setIfInBounds_toArray, List.set_cons_zero, List.set_cons_succ]
    refine wpAnyH_take (i := 7) (oi := ⟨some 30, _, _, _, _, _⟩) (v := .bool true) rfl (by kernel_rfl) (by kernel_rfl) (by kernel_rfl) (fun _ _ _ h => h) (Or.inl ⟨by rfl, ?_⟩) SW.out ?_
    · intro W' hW
      go_simp
    try simp only [Act.put, List.setIfInBounds_toArray, List.set_cons_zero, List.set_cons_succ]
    refine wpAnyH_take (i := 8) (oi := ⟨some 13, _, _, _, _, _⟩) (v := .int .i64 x) rfl (by kernel_rfl) (by kernel_rfl) (by kernel_rfl) (fun _ _ _ h => h) (Or.inl ⟨by rfl, ?_⟩) SW.out ?_
    · intro W' hW
      go_simp
    try simp only [Act.put, List.setIfInBounds_toArray, List.set_cons_zero, List.set_cons_succ]
    refine wpAnyH_take (i := 9) (oi := ⟨some 14, _, _, _, _, _⟩) (v := .bool true) rfl (by kernel_rfl) (by kernel_rfl) (by kernel_rfl) (fun _ _ _ h => h) (Or.inl ⟨by rfl, ?_⟩) SW.out ?_
    · intro W' hW
      go_simp
    try simp only [Act.put, List.setIfInBounds_toArray, List.set_cons_zero, List.set_cons_succ]
    refine wpAnyH_done (by kernel_rfl) ?_ _
    clear SW
    have pT0 : _ = some (Value.iface 50 (.agg #[])) := T.out.hb.cell 0
    have pT1 : _ = some (Value.int .i64 1) := T.out.hb.cell 1
    have pT2 : _ = some (Value.int .i64 96) := T.out.hb.cell 2
    have pT3 : _ = some (Value.int .i64 128) := T.out.hb.cell 3
    have pT4 : _ = some (Value.int .i64 40) := T.out.hb.cell 4
    have pBY0 : _ = some (Value.slice A n c) := BY.out.hb.cell 0
    have pBY1 : _ = some (Value.slice B m d) := BY.out.hb.cell 1
    have pBY2 : _ = some (Value.int .i64 c0) := BY.out.hb.cell 2
    have pBY3 : _ = some (Value.int .i64 d0) := BY.out.hb.cell 3
    go_wp2_with fail
    refine (sget S.out (by have := HN.out; omega) x k1 HXI.out HK.out).mono ?_
    rintro e w4 ⟨rfl, hs, hk⟩
    clear S
    have S := Lib.hid hs
    clear pT0 pT1 pT2 pT3 pT4 pBY0 pBY1 pBY2 pBY3
    obtain h0 := F.out
    clear F
    have F := Lib.hid (h0.step hk)
    clear h0
    obtain h0 := T.out
    clear T
    have T := Lib.hid (h0.step hk)
    clear h0
    obtain h0 := BY.out
    clear BY
    have BY := Lib.hid (h0.step hk)
    clear h0
    clear hs hk
    have pT0 : _ = some (Value.iface 50 (.agg #[])) := T.out.hb.cell 0
    have pT1 : _ = some (Value.int .i64 1) := T.out.hb.cell 1
    have pT2 : _ = some (Value.int .i64 96) := T.out.hb.cell 2
    have pT3 : _ = some (Value.int .i64 128) := T.out.hb.cell 3
    have pT4 : _ = some (Value.int .i64 40) := T.out.hb.cell 4
    have pBY0 : _ = some (Value.slice A n c) := BY.out.hb.cell 0
    have pBY1 : _ = some (Value.slice B m d) := BY.out.hb.cell 1
    have pBY2 : _ = some (Value.int .i64 c0) := BY.out.hb.cell 2
    have pBY3 : _ = some (Value.int .i64 d0) := BY.out.hb.cell 3
    go_wp2
    go_ret3
    exact ⟨rfl, S.out.back F.out, F.out.k⟩
theorem leaf_any {X : Nat → Prop} {w : World} {base sb : Nat} {g : Mem} {P : List (Int × Int)} (h : SpE w X base sb g P) (hX : ∀ b, w.heap.size ≤ b → X b) (hn : P.length ≤ 80000) {t : Tr} {nh : Nat} (hT : TI (cur g P) t nh) (hnh : nh ≤ 128) (k : Int) (A B : Option Addr) (n m c d : Nat) :
    Calls Tryz.prog 38 #[.agg #[.iface 50 (.agg #[]), .int .i64 1, .int .i64 96, .int .i64 128, .int .i64 40], .pointer (some ⟨sb, 0, none⟩), .agg #[.slice A n c, .slice B m d, .int .i64 (t.cell k 0 40), .int .i64 (t.dep k 0)], .int .i64 k] w fun e w' => e = .returned (.tuple #[.int .i64 (t.cell k 0 40), .int .i64 (lfA k (t.bot k 0)), .bool true]) ∧ SpE w' X base sb g P ∧ KX X w w' := by
  have hin := hT.cell_in hnh k
  have hd := Tr.dep_le k t 0 hT.ok (by omega)
  have hat := Tr.bot_at k t 0 40 hT.tree
  have hd4 : 0 ≤ (t.dep k 0 : Int) ∧ (t.dep k 0 : Int) < 4 := by omega
  rcases Tr.bot_form k t 0 with e | ⟨a, k', v, e⟩
  · rw [e] at hat ⊢
    exact leaf_none h hX hn A B n m c d _ _ k hin hd4 hat
  · have hal : a < 128 := by have := hT.lt a (Tr.bot_nodes k t 0 a (by rw [e]; exact List.mem_singleton.2 rfl)); omega
    rw [e] at hat ⊢
    by_cases hk : k' = k
    · have e2 : lfA k (.l a k' v) = adr a := if_pos hk
      rw [e2]
      exact leaf_same h hX hn A B n m c d _ _ k hin hd4 a hal (adr a) rfl hat.1 (by rw [hat.2.1, hk])
    · have e2 : lfA k (.l a k' v) = 0 := if_neg hk
      rw [e2]
      exact leaf_other h hX hn A B n m c d _ _ k hin hd4 a hal (adr a) rfl hat.1 k' hat.2.1 hk
end Go.Proofs.YtkloaopjlbinpaaGreat
