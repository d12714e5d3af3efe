/- The walk of the trie's Put. Condition: at most 60000 writes; the key is one of 0 to 9; at most 110 nodes. -/
import Derived.Test.YtkloaopjlbinpaaGreatTbM
set_option linter.unusedVariables false
set_option linter.unusedSimpArgs false
namespace Go.Proofs.YtkloaopjlbinpaaGreat
open Go.RowKit Go.MapKept

theorem HB.ne_of {t t' : TypeId} {w : World} {b b' : Nat} {u u' : Array Value} (h : HB t w b u) (h' : HB t' w b' u') (hn : t ≠ t') : b ≠ b' := by
  intro e
  subst e
  have := (show w.heap[b]? = _ from h).symm.trans h'
  injection this with this
  injection this with _ this
  exact hn this
set_option maxRecDepth 100000 in
theorem put1_zero (eb qb mb : Nat) (u : FrameMode) (w : World) (h : w.cell? ⟨eb, 0, none⟩ = some (.int .i64 0)) :
    CallsD Tryz.prog 41 #[.pointer (some ⟨eb, 0, none⟩), .pointer (some ⟨qb, 0, none⟩), .pointer (some ⟨mb, 0, none⟩)] u w fun e u' w' => u' = u ∧ (e = .returned (.tuple #[]) ∧ w' = w) := by
  go_enter_d Tryz.func41, Tryz.ntmps41
  go_wp2
  go_end0
  exact ⟨rfl, rfl⟩
set_option maxRecDepth 100000 in
set_option maxHeartbeats 6400000 in
theorem tput_any {X : Nat → Prop} {w : World} {base sb : Nat} {g : Mem} {P : List (Int × Int)} (h : SpE w X base sb g P) (hX : ∀ b, w.heap.size ≤ b → X b) (hn : P.length ≤ 60000) {t : Tr} {nh : Nat} (hT : TI (cur g P) t nh) (hnh : nh ≤ 110) (k : Int) (hk : key k) (v : Int) :
    Calls Tryz.prog 19 #[.agg #[.iface 50 (.agg #[]), .int .i64 1, .int .i64 96, .int .i64 128, .int .i64 40], .pointer (some ⟨sb, 0, none⟩), .int .i64 k, .int .i64 v] w fun e w' => ∃ (was : Int) (had : Bool) (P' : List (Int × Int)) (t' : Tr) (n' : Nat), e = .returned (.tuple #[.int .i64 was, .bool had, .int .i64 0]) ∧ SpE w' X base sb g P' ∧ KX X w w' ∧ TI (cur g P') t' n' ∧ t'.get k 0 = some v ∧ (∀ k', k' ≠ k → t'.get k' 0 = t.get k' 0) ∧ n' ≤ nh + 3 ∧ P'.length ≤ P.length + 60 := by
  obtain ⟨W0, hW0⟩ : ∃ W, W = w.alloc (.cells #[.iface 50 (.agg #[]), .int .i64 1, .int .i64 96, .int .i64 128, .int .i64 40] 61) := ⟨_, rfl⟩
  obtain ⟨Y0, hY0⟩ : ∃ Y : Nat → Prop, Y = fun b => X b ∧ b ≠ w.heap.size := ⟨_, rfl⟩
  have e0 : W0.heap.size = w.heap.size + 1 := by rw [hW0, World.size_alloc]
  have F0 : Fr X Y0 w W0 := by rw [hW0, hY0]; exact (Fr.start hX).new _
  have S0 : SpE W0 Y0 base sb g P := by rw [hW0, hY0]; exact h.new _
  have T0 : Bx 61 X Y0 W0 (w.heap.size) #[.iface 50 (.agg #[]), .int .i64 1, .int .i64 96, .int .i64 128, .int .i64 40] := by rw [hW0, hY0]; exact Bx.new (Fr.start hX) _ _
  obtain ⟨W1, hW1⟩ : ∃ W, W = W0.alloc (.cells #[.pointer (some ⟨sb, 0, none⟩)] 66) := ⟨_, rfl⟩
  obtain ⟨Y1, hY1⟩ : ∃ Y : Nat → Prop, Y = fun b => Y0 b ∧ b ≠ W0.heap.size := ⟨_, rfl⟩
  have e1 : W1.heap.size = w.heap.size + 2 := by rw [hW1, World.size_alloc, e0]
  have F1 : Fr X Y1 w W1 := by rw [hW1, hY1]; exact F0.new _
  have S1 : SpE W1 Y1 base sb g P := by rw [hW1, hY1]; exact S0.new _
  have T1 : Bx 61 X Y1 W1 (w.heap.size) #[.iface 50 (.agg #[]), .int .i64 1, .int .i64 96, .int .i64 128, .int .i64 40] := by rw [hW1, hY1]; exact T0.old _
  have Q1 : Bx 66 X Y1 W1 (w.heap.size + 1) #[.pointer (some ⟨sb, 0, none⟩)] := by rw [hW1, hY1, ← e0]; exact Bx.new F0 _ _
  obtain ⟨W2, hW2⟩ : ∃ W, W = W1.alloc (.cells #[.int .i64 0] 44) := ⟨_, rfl⟩
  obtain ⟨Y2, hY2⟩ : ∃ Y : Nat → Prop, Y = fun b => Y1 b ∧ b ≠ W1.heap.size := ⟨_, rfl⟩
  have e2 : W2.heap.size = w.heap.size + 3 := by rw [hW2, World.size_alloc, e1]
  have F2 : Fr X Y2 w W2 := by rw [hW2, hY2]; exact F1.new _
  have S2 : SpE W2 Y2 base sb g P := by rw [hW2, hY2]; exact S1.new _
  have T2 : Bx 61 X Y2 W2 (w.heap.size) #[.iface 50 (.agg #[]), .int .i64 1, .int .i64 96, .int .i64 128, .int .i64 40] := by rw [hW2, hY2]; exact T1.old _
  have Q2 : Bx 66 X Y2 W2 (w.heap.size + 1) #[.pointer (some ⟨sb, 0, none⟩)] := by rw [hW2, hY2]; exact Q1.old _
  have E2 : Bx 44 X Y2 W2 (w.heap.size + 2) #[.int .i64 0] := by rw [hW2, hY2, ← e1]; exact Bx.new F1 _ _
  rw [hW0] at hW1
  rw [hW1] at hW2
  have F := Lib.hid F2
  have S := Lib.hid S2
  have T := Lib.hid T2
  have Q := Lib.hid Q2
  have E := Lib.hid E2
  clear hY0 hY1 hY2 F0 F1 F2 S0 S1 S2 T0 T1 Q1 T2 Q2 E2 e0 e1 e2 hW0 hW1
  have HN := Lib.hid (And.intro hn hnh)
  have HTI := Lib.hid hT
  have HK := Lib.hid hk
  have KM := Lib.hid (fun (W : World) (Y : Nat → Prop) (hS : SpE W Y base sb g P) => (show Calls Tryz.prog 40 #[.pointer (some ⟨sb, 0, none⟩)] W fun e w' => e = .returned (.int .i64 P.length) ∧ w' = W from by obtain ⟨R, hS⟩ := hS; exact mark_any hS))
  obtain ⟨m, hm⟩ : ∃ m, m = P.length := ⟨_, rfl⟩
  rw [← hm] at KM
  clear h hX hn hT hnh hk hm
  go_enter_defers Tryz.func19, Tryz.ntmps19
  go_upto_region 1 with fail
  rw [← hW2]
  clear hW2
  have pT0 : _ = some (Value.iface 50 (.agg #[])) := T.out.hb.cell 0
  have pT1 : _ = some (Value.int .i64 1) := T.out.hb.cell 1
  have pT2 : _ = some (Value.int .i64 96) := T.out.hb.cell 2
  have pT3 : _ = some (Value.int .i64 128) := T.out.hb.cell 3
  have pT4 : _ = some (Value.int .i64 40) := T.out.hb.cell 4
  go_wp2_with fail
  refine (num_any k _).mono ?_
  rintro e w1 ⟨rfl, hb⟩
  clear pT0 pT1 pT2 pT3 pT4
  obtain h0 := S.out
  clear S
  have S := Lib.hid (h0.below hb)
  clear h0
  obtain h0 := F.out
  clear F
  have F := Lib.hid (h0.below hb)
  clear h0
  obtain h0 := T.out
  clear T
  have T := Lib.hid (h0.below hb)
  clear h0
  obtain h0 := Q.out
  clear Q
  have Q := Lib.hid (h0.below hb)
  clear h0
  obtain h0 := E.out
  clear E
  have E := Lib.hid (h0.below hb)
  clear h0
  clear hb
  have pQ0 : _ = some (Value.pointer (some ⟨sb, 0, none⟩)) := Q.out.hb.cell 0
  go_wp2_with fail
  refine (KM.out _ _ S.out).mono ?_
  rintro e w2 ⟨rfl, hw⟩
  subst hw
  clear KM
  clear pQ0
  obtain ⟨mb, hmb⟩ : ∃ n, n = w2.heap.size := ⟨_, rfl⟩
  obtain ⟨w3, hw3⟩ : ∃ W, W = w2.alloc (.cells #[.int .i64 m] 3) := ⟨_, rfl⟩
  obtain ⟨Y3, hY3⟩ : ∃ Y' : Nat → Prop, Y' = fun b => Y2 b ∧ b ≠ w2.heap.size := ⟨_, rfl⟩
  have M := Lib.hid (show Bx 3 X Y3 w3 mb #[.int .i64 m] from by rw [hw3, hY3, hmb]; exact Bx.new F.out _ _)
  obtain h0 := T.out
  clear T
  have T := Lib.hid (show Bx 61 X Y3 w3 w.heap.size #[.iface 50 (.agg #[]), .int .i64 1, .int .i64 96, .int .i64 128, .int .i64 40] from by rw [hw3, hY3]; exact h0.old _)
  clear h0
  obtain h0 := Q.out
  clear Q
  have Q := Lib.hid (show Bx 66 X Y3 w3 (w.heap.size + 1) #[.pointer (some ⟨sb, 0, none⟩)] from by rw [hw3, hY3]; exact h0.old _)
  clear h0
  obtain h0 := E.out
  clear E
  have E := Lib.hid (show Bx 44 X Y3 w3 (w.heap.size + 2) #[.int .i64 0] from by rw [hw3, hY3]; exact h0.old _)
  clear h0
  obtain h0 := F.out
  clear F
  have F := Lib.hid (show Fr X Y3 w w3 from by rw [hw3, hY3]; exact h0.new _)
  clear h0
  obtain h0 := S.out
  clear S
  have S := Lib.hid (show SpE w3 Y3 base sb g P from by rw [hw3, hY3]; exact h0.new _)
  clear h0
  clear hY3
  go_upto_region 5 with fail
  rw [← hw3, ← hmb]
  clear hw3 hmb
  have pT0 : _ = some (Value.iface 50 (.agg #[])) := T.out.hb.cell 0
  have pT1 : _ = some (Value.int .i64 1) := T.out.hb.cell 1
  have pT2 : _ = some (Value.int .i64 96) := T.out.hb.cell 2
  have pT3 : _ = some (Value.int .i64 128) := T.out.hb.cell 3
  have pT4 : _ = some (Value.int .i64 40) := T.out.hb.cell 4
  go_wp2_with fail
  refine (hash_any k HK.out _).mono ?_
  rintro e w4 ⟨rfl, hb⟩
  clear pT0 pT1 pT2 pT3 pT4
  obtain h0 := S.out
  clear S
  have S := Lib.hid (h0.below hb)
  clear h0
  obtain h0 := F.out
  clear F
  have F := Lib.hid (h0.below hb)
  clear h0
  obtain h0 := T.out
  clear T
  have T := Lib.hid (h0.below hb)
  clear h0
  obtain h0 := Q.out
  clear Q
  have Q := Lib.hid (h0.below hb)
  clear h0
  obtain h0 := E.out
  clear E
  have E := Lib.hid (h0.below hb)
  clear h0
  obtain h0 := M.out
  clear M
  have M := Lib.hid (h0.below hb)
  clear h0
  clear hb
  have pT0 : _ = some (Value.iface 50 (.agg #[])) := T.out.hb.cell 0
  have pT1 : _ = some (Value.int .i64 1) := T.out.hb.cell 1
  have pT2 : _ = some (Value.int .i64 96) := T.out.hb.cell 2
  have pT3 : _ = some (Value.int .i64 128) := T.out.hb.cell 3
  have pT4 : _ = some (Value.int .i64 40) := T.out.hb.cell 4
  have pQ0 : _ = some (Value.pointer (some ⟨sb, 0, none⟩)) := Q.out.hb.cell 0
  go_wp2_with fail
  refine (down_any S.out F.out.yn (by have := HN.out; omega) HTI.out (by have := HN.out; omega) k HK.out).mono ?_
  rintro e w5 ⟨A, B, n, q, c, d, rfl, hs, hk⟩
  clear S
  have S := Lib.hid hs
  clear pT0 pT1 pT2 pT3 pT4 pQ0
  obtain h0 := F.out
  clear F
  have F := Lib.hid (h0.step hk)
  clear h0
  obtain h0 := T.out
  clear T
  have T := Lib.hid (h0.step hk)
  clear h0
  obtain h0 := Q.out
  clear Q
  have Q := Lib.hid (h0.step hk)
  clear h0
  obtain h0 := E.out
  clear E
  have E := Lib.hid (h0.step hk)
  clear h0
  obtain h0 := M.out
  clear M
  have M := Lib.hid (h0.step hk)
  clear h0
  clear hs hk
  obtain ⟨ce, hce⟩ : ∃ z, z = t.cell k 0 40 := ⟨_, rfl⟩
  obtain ⟨de, hde⟩ : ∃ z : Int, z = (t.dep k 0 : Int) := ⟨_, rfl⟩
  rw [← hce, ← hde]
  obtain ⟨x, hx⟩ : ∃ z, z = lfA k (t.bot k 0) := ⟨_, rfl⟩
  have KL := Lib.hid (fun (X : Nat → Prop) (w : World) (h : SpE w X base sb g P) (hX : ∀ b, w.heap.size ≤ b → X b) => leaf_any h hX (by have := HN.out; omega) HTI.out (by have := HN.out; omega) k A B n q c d)
  rw [← hx, ← hce, ← hde] at KL
  have KS := Lib.hid (fun (X : Nat → Prop) (w : World) (h : SpE w X base sb g P) (hX : ∀ b, w.heap.size ≤ b → X b) (hbot : t.bot k 0 = .e ∨ ∃ a k0 v0, t.bot k 0 = .l a k0 v0 ∧ k0 ≠ k) => split_any h hX (by have := HN.out; omega) HTI.out (by have := HN.out; omega) k HK.out hbot A B n q c d)
  rw [← hce, ← hde] at KS
  clear hce hde
  have HX := Lib.hid hx
  clear hx
  obtain ⟨yb, hyb⟩ : ∃ n, n = w5.heap.size := ⟨_, rfl⟩
  obtain ⟨w6, hw6⟩ : ∃ W, W = w5.alloc (.cells #[.slice A n c, .slice B q d, .int .i64 ce, .int .i64 de] 108) := ⟨_, rfl⟩
  obtain ⟨Y6, hY6⟩ : ∃ Y' : Nat → Prop, Y' = fun b => Y3 b ∧ b ≠ w5.heap.size := ⟨_, rfl⟩
  have BY := Lib.hid (show Bx 108 X Y6 w6 yb #[.slice A n c, .slice B q d, .int .i64 ce, .int .i64 de] from by rw [hw6, hY6, hyb]; exact Bx.new F.out _ _)
  obtain h0 := T.out
  clear T
  have T := Lib.hid (show Bx 61 X Y6 w6 w.heap.size #[.iface 50 (.agg #[]), .int .i64 1, .int .i64 96, .int .i64 128, .int .i64 40] from by rw [hw6, hY6]; exact h0.old _)
  clear h0
  obtain h0 := Q.out
  clear Q
  have Q := Lib.hid (show Bx 66 X Y6 w6 (w.heap.size + 1) #[.pointer (some ⟨sb, 0, none⟩)] from by rw [hw6, hY6]; exact h0.old _)
  clear h0
  obtain h0 := E.out
  clear E
  have E := Lib.hid (show Bx 44 X Y6 w6 (w.heap.size + 2) #[.int .i64 0] from by rw [hw6, hY6]; exact h0.old _)
  clear h0
  obtain h0 := M.out
  clear M
  have M := Lib.hid (show Bx 3 X Y6 w6 mb #[.int .i64 m] from by rw [hw6, hY6]; exact h0.old _)
  clear h0
  obtain h0 := F.out
  clear F
  have F := Lib.hid (show Fr X Y6 w w6 from by rw [hw6, hY6]; exact h0.new _)
  clear h0
  obtain h0 := S.out
  clear S
  have S := Lib.hid (show SpE w6 Y6 base sb g P from by rw [hw6, hY6]; exact h0.new _)
  clear h0
  clear hY6
  go_upto_region 8 with fail
  rw [← hw6, ← hyb]
  clear hw6 hyb
  have pT0 : _ = some (Value.iface 50 (.agg #[])) := T.out.hb.cell 0
  have pT1 : _ = some (Value.int .i64 1) := T.out.hb.cell 1
  have pT2 : _ = some (Value.int .i64 96) := T.out.hb.cell 2
  have pT3 : _ = some (Value.int .i64 128) := T.out.hb.cell 3
  have pT4 : _ = some (Value.int .i64 40) := T.out.hb.cell 4
  have pQ0 : _ = some (Value.pointer (some ⟨sb, 0, none⟩)) := Q.out.hb.cell 0
  have pBY0 : _ = some (Value.slice A n c) := BY.out.hb.cell 0
  have pBY1 : _ = some (Value.slice B q d) := BY.out.hb.cell 1
  have pBY2 : _ = some (Value.int .i64 ce) := BY.out.hb.cell 2
  have pBY3 : _ = some (Value.int .i64 de) := BY.out.hb.cell 3
  go_wp2_with fail
  refine (KL.out _ _ S.out F.out.yn).mono ?_
  rintro e w7 ⟨rfl, hs, hk⟩
  clear S
  have S := Lib.hid hs
  clear pT0 pT1 pT2 pT3 pT4 pQ0 pBY0 pBY1 pBY2 pBY3
  obtain h0 := F.out
  clear F
  have F := Lib.hid (h0.step hk)
  clear h0
  obtain h0 := T.out
  clear T
  have T := Lib.hid (h0.step hk)
  clear h0
  obtain h0 := Q.out
  clear Q
  have Q := Lib.hid (h0.step hk)
  clear h0
  obtain h0 := E.out
  clear E
  have E := Lib.hid (h0.step hk)
  clear h0
  obtain h0 := M.out
  clear M
  have M := Lib.hid (h0.step hk)
  clear h0
  obtain h0 := BY.out
  clear BY
  have BY := Lib.hid (h0.step hk)
  clear h0
  clear hs hk
  by_cases hx0 : x = 0
  · have HB0 := Lib.hid (show t.bot k 0 = .e ∨ ∃ a k0 v0, t.bot k 0 = .l a k0 v0 ∧ k0 ≠ k from by
      have hx := HX.out
      rcases Tr.bot_form k t 0 with e | ⟨a, k', v, e⟩
      · exact .inl e
      · rw [e, hx0] at hx
        by_cases hk : k' = k
        · rw [show lfA k (.l a k' v) = adr a from if_pos hk] at hx
          unfold adr at hx
          omega
        · exact .inr ⟨a, k', v, e, hk⟩)
    subst hx0
    have pT0 : _ = some (Value.iface 50 (.agg #[])) := T.out.hb.cell 0
    have pT1 : _ = some (Value.int .i64 1) := T.out.hb.cell 1
    have pT2 : _ = some (Value.int .i64 96) := T.out.hb.cell 2
    have pT3 : _ = some (Value.int .i64 128) := T.out.hb.cell 3
    have pT4 : _ = some (Value.int .i64 40) := T.out.hb.cell 4
    have pQ0 : _ = some (Value.pointer (some ⟨sb, 0, none⟩)) := Q.out.hb.cell 0
    have pBY0 : _ = some (Value.slice A n c) := BY.out.hb.cell 0
    have pBY1 : _ = some (Value.slice B q d) := BY.out.hb.cell 1
    have pBY2 : _ = some (Value.int .i64 ce) := BY.out.hb.cell 2
    have pBY3 : _ = some (Value.int .i64 de) := BY.out.hb.cell 3
    go_wp2_with fail
    refine (KS.out _ _ S.out F.out.yn HB0.out).mono ?_
    rintro e w8 ⟨P1, t1, n1, rfl, hs, hk, hti, hbe, hget, hnn, hlen⟩
    clear S KS KL
    have S := Lib.hid hs
    have T1 := Lib.hid hti
    have BE := Lib.hid hbe
    have GE := Lib.hid hget
    have NN := Lib.hid (show n1 ≤ 112 ∧ n1 ≤ nh + 2 ∧ P1.length ≤ P.length + 40 ∧ P1.length ≤ 60040 from by have := HN.out; omega)
    clear pT0 pT1 pT2 pT3 pT4 pQ0 pBY0 pBY1 pBY2 pBY3
    obtain h0 := F.out
    clear F
    have F := Lib.hid (h0.step hk)
    clear h0
    obtain h0 := T.out
    clear T
    have T := Lib.hid (h0.step hk)
    clear h0
    obtain h0 := Q.out
    clear Q
    have Q := Lib.hid (h0.step hk)
    clear h0
    obtain h0 := E.out
    clear E
    have E := Lib.hid (h0.step hk)
    clear h0
    obtain h0 := M.out
    clear M
    have M := Lib.hid (h0.step hk)
    clear h0
    obtain h0 := BY.out
    clear BY
    have BY := Lib.hid (h0.step hk)
    clear h0
    clear hs hk hti hbe hget hnn hlen
    obtain ⟨c1, hc1⟩ : ∃ z, z = t1.cell k 0 40 := ⟨_, rfl⟩
    obtain ⟨d1, hd1⟩ : ∃ z : Int, z = (t1.dep k 0 : Int) := ⟨_, rfl⟩
    rw [← hc1, ← hd1]
    have HC1 := Lib.hid (show c1 = t1.cell k 0 40 ∧ inM c1 from ⟨hc1, by rw [hc1]; exact T1.out.cell_in (by have := NN.out; omega) k⟩)
    clear hc1 hd1
    have nTB := T.out.hb.ne_of BY.out.hb (by decide)
    have nQB := Q.out.hb.ne_of BY.out.hb (by decide)
    have nEB := E.out.hb.ne_of BY.out.hb (by decide)
    have nMB := M.out.hb.ne_of BY.out.hb (by decide)
    have nTE := T.out.hb.ne_of E.out.hb (by decide)
    have nQE := Q.out.hb.ne_of E.out.hb (by decide)
    have nME := M.out.hb.ne_of E.out.hb (by decide)
    have pBY0 : _ = some (Value.slice A n c) := BY.out.hb.cell 0
    have pBY1 : _ = some (Value.slice B q d) := BY.out.hb.cell 1
    have pBY2 : _ = some (Value.int .i64 ce) := BY.out.hb.cell 2
    have pBY3 : _ = some (Value.int .i64 de) := BY.out.hb.cell 3
    have pE0 : _ = some (Value.int .i64 0) := E.out.hb.cell 0
    have fz := BY.out.hb.free
    have fz0 := fz 0
    have fz1 := fz 1
    have fz2 := fz 2
    have fz3 := fz 3
    have fe0 := E.out.hb.free 0
    clear fz
    go_upto_region 18 with fail
    clear fz0 fz1 fz2 fz3 fe0
    clear pBY0 pBY1 pBY2 pBY3 pE0
    obtain ⟨z1, z2, z3⟩ := set4 F.out BY.out (.slice A n c) (.slice B q d) (.int .i64 c1) (.int .i64 d1)
    have z4 := z3 _ _ _ _ S.out
    have E1 := ((((E.out.other nEB 0 (.slice A n c)).other nEB 1 (.slice B q d)).other nEB 2 (.int .i64 c1)).other nEB 3 (.int .i64 d1))
    have F1 := Lib.hid (z1.set E1 0 (.int .i64 0))
    have S1 := Lib.hid (z4.set E1.ny 0 (.int .i64 0))
    have B1 := Lib.hid (z2.other (fun e => nEB e.symm) 0 (.int .i64 0))
    have E2 := Lib.hid (show Bx 44 X Y6 (((((w8.setCell ⟨yb, 0, none⟩ (.slice A n c)).setCell ⟨yb, 1, none⟩ (.slice B q d)).setCell ⟨yb, 2, none⟩ (.int .i64 c1)).setCell ⟨yb, 3, none⟩ (.int .i64 d1)).setCell ⟨w.heap.size + 2, 0, none⟩ (.int .i64 0)) (w.heap.size + 2) #[.int .i64 0] from E1.set 0 (.int .i64 0))
    have T2 := Lib.hid (((((T.out.other nTB 0 (.slice A n c)).other nTB 1 (.slice B q d)).other nTB 2 (.int .i64 c1)).other nTB 3 (.int .i64 d1)).other nTE 0 (.int .i64 0))
    have Q2 := Lib.hid (((((Q.out.other nQB 0 (.slice A n c)).other nQB 1 (.slice B q d)).other nQB 2 (.int .i64 c1)).other nQB 3 (.int .i64 d1)).other nQE 0 (.int .i64 0))
    have M2 := Lib.hid (((((M.out.other nMB 0 (.slice A n c)).other nMB 1 (.slice B q d)).other nMB 2 (.int .i64 c1)).other nMB 3 (.int .i64 d1)).other nME 0 (.int .i64 0))
    clear z1 z2 z3 z4 E1 nTB nQB nEB nMB nTE nQE nME F S BY E T Q M
    have F := F1
    have S := S1
    have BY := B1
    have E := E2
    have T := T2
    have Q := Q2
    have M := M2
    clear F1 S1 B1 E2 T2 Q2 M2
    generalize (((((w8.setCell ⟨yb, 0, none⟩ (.slice A n c)).setCell ⟨yb, 1, none⟩ (.slice B q d)).setCell ⟨yb, 2, none⟩ (.int .i64 c1)).setCell ⟨yb, 3, none⟩ (.int .i64 d1)).setCell ⟨w.heap.size + 2, 0, none⟩ (.int .i64 0)) = w9 at *
    have pE0 : _ = some (Value.int .i64 0) := E.out.hb.cell 0
    go_upto_region 20 with fail
    clear pE0
    refine wp_region_noPanic ?_
    refine wp_region_held_drew (S := fun W => HB 61 W w.heap.size #[.iface 50 (.agg #[]), .int .i64 1, .int .i64 96, .int .i64 128, .int .i64 40] ∧ HB 66 W (w.heap.size + 1) #[.pointer (some ⟨sb, 0, none⟩)] ∧ HB 108 W yb #[.slice A n c, .slice B q d, .int .i64 c1, .int .i64 d1]) (by kernel_rfl) (show HB 61 w9.drew w.heap.size #[.iface 50 (.agg #[]), .int .i64 1, .int .i64 96, .int .i64 128, .int .i64 40] ∧ HB 66 w9.drew (w.heap.size + 1) #[.pointer (some ⟨sb, 0, none⟩)] ∧ HB 108 w9.drew yb #[.slice A n c, .slice B q d, .int .i64 c1, .int .i64 d1] from ⟨T.out.hb, Q.out.hb, BY.out.hb⟩) (fun hHeld => ?_)
    have SW := Lib.hid hHeld
    clear hHeld
    obtain h0 := S.out
    clear S
    have S := Lib.hid (h0.drew)
    clear h0
    obtain h0 := F.out
    clear F
    have F := Lib.hid (h0.drew)
    clear h0
    obtain h0 := T.out
    clear T
    have T := Lib.hid (h0.drew)
    clear h0
    obtain h0 := Q.out
    clear Q
    have Q := Lib.hid (h0.drew)
    clear h0
    obtain h0 := E.out
    clear E
    have E := Lib.hid (h0.drew)
    clear h0
    obtain h0 := M.out
    clear M
    have M := Lib.hid (h0.drew)
    clear h0
    obtain h0 := BY.out
    clear BY
    have BY := Lib.hid (h0.drew)
    clear h0
    generalize w9.drew = wq at *
    refine wpAnyH_take (i := 0) (oi := ⟨some 78, _, _, _, _, _⟩) (v := .agg #[.iface 50 (.agg #[]), .int .i64 1, .int .i64 96, .int .i64 128, .int .i64 40]) rfl (by kernel_rfl) (by kernel_rfl) (by kernel_rfl) (fun _ _ _ h => h) (Or.inl ⟨by rfl, ?_⟩) SW.out ?_
    · intro W' hW
      have c0 : _ = some (Value.iface 50 (.agg #[])) := HB.cell hW.1 0
      have c1 : _ = some (Value.int .i64 1) := HB.cell hW.1 1
      have c2 : _ = some (Value.int .i64 96) := HB.cell hW.1 2
      have c3 : _ = some (Value.int .i64 128) := HB.cell hW.1 3
      have c4 : _ = some (Value.int .i64 40) := HB.cell hW.1 4
      go_simp
    try simp only [Act.put, List.setIfInBounds_toArray, List.set_cons_zero, List.set_cons_succ]
    refine wpAnyH_take (i := 1) (oi := ⟨some 79, _, _, _, _, _⟩) (v := .pointer (some ⟨sb, 0, none⟩)) rfl (by kernel_rfl) (by kernel_rfl) (by kernel_rfl) (fun _ _ _ h => h) (Or.inl ⟨by rfl, ?_⟩) SW.out ?_
    · intro W' hW
      have c9 : _ = some (Value.pointer (some ⟨sb, 0, none⟩)) := HB.cell hW.2.1 0
      go_simp
    try simp only [Act.put, List.setIfInBounds_toArray, List.set_cons_zero, List.set_cons_succ]
    refine wpAnyH_take (i := 2) (oi := ⟨some 80, _, _, _, _, _⟩) (v := .int .i64 k) rfl (by kernel_rfl) (by kernel_rfl) (by kernel_rfl) (fun _ _ _ h => h) (Or.inl ⟨by rfl, ?_⟩) SW.out ?_
    · intro W' hW
      go_simp
    try simp only [Act.put, List.setIfInBounds_toArray, List.set_cons_zero, List.set_cons_succ]
    refine wpAnyH_take (i := 3) (oi := ⟨some 81, _, _, _, _, _⟩) (v := .int .i64 v) rfl (by kernel_rfl) (by kernel_rfl) (by kernel_rfl) (fun _ _ _ h => h) (Or.inl ⟨by rfl, ?_⟩) SW.out ?_
    · intro W' hW
      go_simp
    try simp only [Act.put, List.setIfInBounds_toArray, List.set_cons_zero, List.set_cons_succ]
    refine wpAnyH_take (i := 4) (oi := ⟨some 82, _, _, _, _, _⟩) (v := .pointer (some ⟨sb, 0, none⟩)) rfl (by kernel_rfl) (by kernel_rfl) (by kernel_rfl) (fun _ _ _ h => h) (Or.inl ⟨by rfl, ?_⟩) SW.out ?_
    · intro W' hW
      have c9 : _ = some (Value.pointer (some ⟨sb, 0, none⟩)) := HB.cell hW.2.1 0
      go_simp
    try simp only [Act.put, List.setIfInBounds_toArray, List.set_cons_zero, List.set_cons_succ]
    refine wpAnyH_take (i := 5) (oi := ⟨some 83, _, _, _, _, _⟩) (v := .pointer (some ⟨yb, 2, none⟩)) rfl (by kernel_rfl) (by kernel_rfl) (by kernel_rfl) (fun _ _ _ h => h) (Or.inl ⟨by rfl, ?_⟩) SW.out ?_
    · intro W' hW
      go_simp
    try simp only [Act.put, List.setIfInBounds_toArray, List.set_cons_zero, List.set_cons_succ]
    refine wpAnyH_take (i := 6) (oi := ⟨some 84, _, _, _, _, _⟩) (v := .int .i64 c1) rfl (by kernel_rfl) (by kernel_rfl) (by kernel_rfl) (fun _ _ _ h => h) (Or.inl ⟨by rfl, ?_⟩) SW.out ?_
    · intro W' hW
      have c9 : _ = some (Value.int .i64 c1) := HB.cell hW.2.2 2
      go_simp
    try simp only [Act.put, List.setIfInBounds_toArray, List.set_cons_zero, List.set_cons_succ]
    have HV1 := Lib.hid (show cur g P1 c1 = 0 from by
      have hat := Tr.bot_at k t1 0 40 T1.out.tree
      rw [BE.out, ← HC1.out.1] at hat
      exact hat)
    refine wpAnyH_ready (rs := [7]) (by kernel_rfl) (by simp) ?_
    refine AllReadyH.cons (o := ⟨some 85, _, _, _, _, _⟩) rfl (fun K hK => ?_) AllReadyH.nil
    go_simp
    refine (sget S.out (by have := NN.out; omega) c1 0 HC1.out.2 HV1.out).mono ?_
    rintro e wa ⟨rfl, hs, hk⟩
    clear S SW
    have S := Lib.hid hs
    obtain h0 := F.out
    clear F
    have F := Lib.hid (h0.step hk)
    clear h0
    obtain h0 := T.out
    clear T
    have T := Lib.hid (h0.step hk)
    clear h0
    obtain h0 := Q.out
    clear Q
    have Q := Lib.hid (h0.step hk)
    clear h0
    obtain h0 := E.out
    clear E
    have E := Lib.hid (h0.step hk)
    clear h0
    obtain h0 := M.out
    clear M
    have M := Lib.hid (h0.step hk)
    clear h0
    obtain h0 := BY.out
    clear BY
    have BY := Lib.hid (h0.step hk)
    clear h0
    clear hs hk
    have SW := Lib.hid (And.intro T.out.hb (And.intro Q.out.hb BY.out.hb))
    refine hK.out _ _ SW.out (fun hHeld => ?_)
    clear hK hHeld
    try simp only [Act.put, List.setIfInBounds_toArray, List.set_cons_zero, List.set_cons_succ]
    obtain ⟨lb, hlb⟩ : ∃ n, n = wa.heap.size := ⟨_, rfl⟩
    obtain ⟨wb, hwb⟩ : ∃ W, W = wa.alloc (.cells #[.int .i64 k, .int .i64 v, .int .i64 0] 2) := ⟨_, rfl⟩
    obtain ⟨Y7, hY7⟩ : ∃ Y' : Nat → Prop, Y' = fun b => Y6 b ∧ b ≠ wa.heap.size := ⟨_, rfl⟩
    have LB := Lib.hid (show Bx 2 X Y7 wb lb #[.int .i64 k, .int .i64 v, .int .i64 0] from by rw [hwb, hY7, hlb]; exact Bx.new F.out _ _)
    obtain h0 := T.out
    clear T
    have T := Lib.hid (show Bx 61 X Y7 wb w.heap.size #[.iface 50 (.agg #[]), .int .i64 1, .int .i64 96, .int .i64 128, .int .i64 40] from by rw [hwb, hY7]; exact h0.old _)
    clear h0
    obtain h0 := Q.out
    clear Q
    have Q := Lib.hid (show Bx 66 X Y7 wb (w.heap.size + 1) #[.pointer (some ⟨sb, 0, none⟩)] from by rw [hwb, hY7]; exact h0.old _)
    clear h0
    obtain h0 := E.out
    clear E
    have E := Lib.hid (show Bx 44 X Y7 wb (w.heap.size + 2) #[.int .i64 0] from by rw [hwb, hY7]; exact h0.old _)
    clear h0
    obtain h0 := M.out
    clear M
    have M := Lib.hid (show Bx 3 X Y7 wb mb #[.int .i64 m] from by rw [hwb, hY7]; exact h0.old _)
    clear h0
    obtain h0 := BY.out
    clear BY
    have BY := Lib.hid (show Bx 108 X Y7 wb yb #[.slice A n c, .slice B q d, .int .i64 c1, .int .i64 d1] from by rw [hwb, hY7]; exact h0.old _)
    clear h0
    obtain h0 := F.out
    clear F
    have F := Lib.hid (show Fr X Y7 w wb from by rw [hwb, hY7]; exact h0.new _)
    clear h0
    obtain h0 := S.out
    clear S
    have S := Lib.hid (show SpE wb Y7 base sb g P1 from by rw [hwb, hY7]; exact h0.new _)
    clear h0
    clear hY7
    have RL := Lib.hid (show Reads wb (fun b => ¬ Y7 b) 1 (some ⟨lb, 0, none⟩) 3 (([k, v, 0] : List Int).map (.int .i64)) from ⟨rfl, fun _ => ⟨lb, 0, rfl, LB.out.hb.lt, LB.out.ny, fun j u hu => by rw [Nat.zero_add, LB.out.hb.cell j, ← hu]; simp⟩⟩)
    clear SW LB
    have SW := Lib.hid (And.intro T.out.hb (And.intro Q.out.hb BY.out.hb))
    refine wpAnyH_ready (rs := [8]) (by kernel_rfl) (by simp) ?_
    refine AllReadyH.cons (o := ⟨some 86, _, _, _, _, _⟩) rfl (fun K hK => ?_) AllReadyH.nil
    go_simp
    rw [← hwb, ← hlb]
    clear hwb hlb
    refine hK.out _ _ SW.out (fun hHeld => ?_)
    clear hK hHeld
    try simp only [Act.put, List.setIfInBounds_toArray, List.set_cons_zero, List.set_cons_succ]
    obtain ⟨a1, ha1⟩ : ∃ z, z = adr n1 := ⟨_, rfl⟩
    have HA1 := Lib.hid (show a1 = adr n1 ∧ 96 ≤ a1 ∧ a1 ≤ 1112 from ⟨ha1, by rw [ha1]; unfold adr; have := NN.out; omega⟩)
    have KT := Lib.hid (ttake_tk S.out F.out.yn (by have := NN.out; omega) n1 (by have := NN.out; omega) T1.out.v1 T1.out.v2 T1.out.v47 (some ⟨lb, 0, none⟩) 3 [k, v, 0] 3 rfl (by omega) RL.out)
    rw [← ha1] at KT
    clear ha1 RL
    refine wpAnyH_ready (rs := [9]) (by kernel_rfl) (by simp) ?_
    refine AllReadyH.cons (o := ⟨some 87, _, _, _, _, _⟩) rfl (fun K hK => ?_) AllReadyH.nil
    go_simp
    refine (KT.out).mono ?_
    rintro e wc ⟨rfl, hs, hk⟩
    clear S SW
    have S := Lib.hid hs
    obtain h0 := F.out
    clear F
    have F := Lib.hid (h0.step hk)
    clear h0
    obtain h0 := T.out
    clear T
    have T := Lib.hid (h0.step hk)
    clear h0
    obtain h0 := Q.out
    clear Q
    have Q := Lib.hid (h0.step hk)
    clear h0
    obtain h0 := E.out
    clear E
    have E := Lib.hid (h0.step hk)
    clear h0
    obtain h0 := M.out
    clear M
    have M := Lib.hid (h0.step hk)
    clear h0
    obtain h0 := BY.out
    clear BY
    have BY := Lib.hid (h0.step hk)
    clear h0
    clear hs hk
    have SW := Lib.hid (And.intro T.out.hb (And.intro Q.out.hb BY.out.hb))
    refine hK.out _ _ SW.out (fun hHeld => ?_)
    clear hK hHeld
    try simp only [Act.put, List.setIfInBounds_toArray, List.set_cons_zero, List.set_cons_succ]
    refine wpAnyH_take (i := 10) (oi := ⟨some 77, _, _, _, _, _⟩) (v := .tuple #[.int .i64 a1, .int .i64 0]) rfl (by kernel_rfl) (by kernel_rfl) (by kernel_rfl) (fun _ _ _ h => h) (Or.inl ⟨by rfl, ?_⟩) SW.out ?_
    · intro W' hW
      go_simp
    try simp only [Act.put, List.setIfInBounds_toArray, List.set_cons_zero, List.set_cons_succ]
    refine wpAnyH_take (i := 11) (oi := ⟨some 88, _, _, _, _, _⟩) (v := .int .i64 a1) rfl (by kernel_rfl) (by kernel_rfl) (by kernel_rfl) (fun _ _ _ h => h) (Or.inl ⟨by rfl, ?_⟩) SW.out ?_
    · intro W' hW
      go_simp
    try simp only [Act.put, List.setIfInBounds_toArray, List.set_cons_zero, List.set_cons_succ]
    refine wpAnyH_take (i := 12) (oi := ⟨some 89, _, _, _, _, _⟩) (v := .int .i64 0) rfl (by kernel_rfl) (by kernel_rfl) (by kernel_rfl) (fun _ _ _ h => h) (Or.inl ⟨by rfl, ?_⟩) SW.out ?_
    · intro W' hW
      go_simp
    try simp only [Act.put, List.setIfInBounds_toArray, List.set_cons_zero, List.set_cons_succ]
    refine wpAnyH_take (i := 13) (oi := ⟨some 17, _, _, _, _, _⟩) (v := .int .i64 a1) rfl (by kernel_rfl) (by kernel_rfl) (by kernel_rfl) (fun _ _ _ h => h) (Or.inl ⟨by rfl, ?_⟩) SW.out ?_
    · intro W' hW
      go_simp
    try simp only [Act.put, List.setIfInBounds_toArray, List.set_cons_zero, List.set_cons_succ]
    have pE0 : _ = some (Value.int .i64 0) := E.out.hb.cell 0
    have fE := E.out.hb.free 0
    have hsame := setCell_same E.out.hb 0 (.int .i64 0) rfl
    refine wpAnyH_ready (rs := [14]) (by kernel_rfl) (by simp) ?_
    refine AllReadyH.cons (o := ⟨none, _, _, _, _, _⟩) rfl (fun K hK => ?_) AllReadyH.nil
    go_simp
    refine hK.out _ _ SW.out (fun hHeld => ?_)
    clear hK hHeld
    try simp only [Act.put, List.setIfInBounds_toArray, List.set_cons_zero, List.set_cons_succ]
    refine wpAnyH_done (by kernel_rfl) ?_ _
    refine NoPanic.normal ?_
    clear SW KT pE0
    clear fE hsame
    have pQ0 : _ = some (Value.pointer (some ⟨sb, 0, none⟩)) := Q.out.hb.cell 0
    have pBY0 : _ = some (Value.slice A n c) := BY.out.hb.cell 0
    have pBY1 : _ = some (Value.slice B q d) := BY.out.hb.cell 1
    have pBY2 : _ = some (Value.int .i64 c1) := BY.out.hb.cell 2
    have pBY3 : _ = some (Value.int .i64 d1) := BY.out.hb.cell 3
    have pE0 : _ = some (Value.int .i64 0) := E.out.hb.cell 0
    go_wp2_with fail
    refine (sput S.out F.out.yn (by have := NN.out; simp only [List.length_append, tkP_len, List.length_cons, List.length_nil]; omega) c1 a1 HC1.out.2).mono ?_
    rintro e wd ⟨rfl, hs, hk⟩
    clear S
    have S := Lib.hid hs
    clear pQ0 pBY0 pBY1 pBY2 pBY3 pE0
    obtain h0 := F.out
    clear F
    have F := Lib.hid (h0.step hk)
    clear h0
    obtain h0 := T.out
    clear T
    have T := Lib.hid (h0.step hk)
    clear h0
    obtain h0 := Q.out
    clear Q
    have Q := Lib.hid (h0.step hk)
    clear h0
    obtain h0 := E.out
    clear E
    have E := Lib.hid (h0.step hk)
    clear h0
    obtain h0 := M.out
    clear M
    have M := Lib.hid (h0.step hk)
    clear h0
    obtain h0 := BY.out
    clear BY
    have BY := Lib.hid (h0.step hk)
    clear h0
    clear hs hk
    have H41 := Lib.hid (show cur g (P1 ++ tkP n1 [k, v, 0] ++ [(c1, a1)]) 41 = cur g P1 41 from by
      rw [cur_push]
      unfold setI
      rw [if_neg (by rw [HC1.out.1]; exact fun e => (T1.out.cell k).2.2.1 e.symm), tkP_other _ _ _ _ _ (by decide) (by decide) (fun i _ => by unfold adr; omega)])
    have h41 := T1.out.v41
    have W41 : IntKind.i64.wrap (cur g P1 41 + 1) = cur g P1 41 + 1 := wrap_i64 _ (by omega) (by have := NN.out; omega)
    have KA := Lib.hid (tadd_any S.out F.out.yn (by have := NN.out; simp only [List.length_append, tkP_len, List.length_cons, List.length_nil]; omega) 1 1 _ 41 (by decide) (by decide) H41.out)
    rw [W41] at KA
    clear h41 W41
    have pT0 : _ = some (Value.iface 50 (.agg #[])) := T.out.hb.cell 0
    have pT1 : _ = some (Value.int .i64 1) := T.out.hb.cell 1
    have pT2 : _ = some (Value.int .i64 96) := T.out.hb.cell 2
    have pT3 : _ = some (Value.int .i64 128) := T.out.hb.cell 3
    have pT4 : _ = some (Value.int .i64 40) := T.out.hb.cell 4
    have pQ0 : _ = some (Value.pointer (some ⟨sb, 0, none⟩)) := Q.out.hb.cell 0
    go_wp2_with fail
    refine (KA.out).mono ?_
    rintro e we ⟨rfl, hs, hk⟩
    clear S
    have S := Lib.hid hs
    clear pT0 pT1 pT2 pT3 pT4 pQ0
    obtain h0 := F.out
    clear F
    have F := Lib.hid (h0.step hk)
    clear h0
    obtain h0 := T.out
    clear T
    have T := Lib.hid (h0.step hk)
    clear h0
    obtain h0 := Q.out
    clear Q
    have Q := Lib.hid (h0.step hk)
    clear h0
    obtain h0 := E.out
    clear E
    have E := Lib.hid (h0.step hk)
    clear h0
    obtain h0 := M.out
    clear M
    have M := Lib.hid (h0.step hk)
    clear h0
    obtain h0 := BY.out
    clear BY
    have BY := Lib.hid (h0.step hk)
    clear h0
    clear hs hk
    have pE0 : _ = some (Value.int .i64 0) := E.out.hb.cell 0
    have fE := E.out.hb.free 0
    have hsame := setCell_same E.out.hb 0 (.int .i64 0) rfl
    clear KA
    have AD := Lib.hid (T1.out.addP (v := v) HK.out BE.out)
    have SF := Lib.hid (show SpE we Y7 base sb g (P1 ++ adP n1 k v (t1.cell k 0 40) (cur g P1 41 + 1)) from by
      have h0 := S.out
      unfold adP
      rw [← List.append_assoc, ← List.append_assoc, ← HA1.out.1, ← HC1.out.1]
      exact h0)
    go_wp2
    refine leaves_cons (f := 41) (args := #[.pointer (some ⟨w.heap.size + 2, 0, none⟩), .pointer (some ⟨w.heap.size + 1, 0, none⟩), .pointer (some ⟨mb, 0, none⟩)]) (by simp) (by simp [go_sem]) ?_
    refine (put1_zero _ _ _ .returning _ pE0).mono ?_
    rintro e u' w'' ⟨rfl, rfl, rfl⟩
    refine ⟨.tuple #[.int .i64 0, .bool false, .int .i64 0], by simp [results, go_sem, Tryz.f19, pE0], 0, false, _, _, n1 + 1, rfl, SF.out.back F.out, F.out.k, AD.out.1, AD.out.2.1, fun k' hk' => (AD.out.2.2 k' hk').trans (GE.out k'), by have := NN.out; omega, ?_⟩
    have := NN.out
    unfold adP
    simp only [List.length_append, tkP_len, List.length_cons, List.length_nil]
    omega
  · have hq : (x != 0) = true := by simpa using hx0
    obtain ⟨a, k', v', hb, hxa, hkk, hal⟩ : ∃ a k' v, t.bot k 0 = .l a k' v ∧ x = adr a ∧ k' = k ∧ a < 128 := by
      have hx := HX.out
      rcases Tr.bot_form k t 0 with e | ⟨a, k', v, e⟩
      · rw [e] at hx; exact absurd hx hx0
      · rw [e] at hx
        by_cases hk : k' = k
        · have := HTI.out.lt a (Tr.bot_nodes k t 0 a (by rw [e]; exact List.mem_singleton.2 rfl))
          have := HN.out
          exact ⟨a, k', v, e, hx.trans (if_pos hk), hk, by omega⟩
        · exact absurd (hx.trans (if_neg hk)) hx0
    subst hkk
    have hat := Tr.bot_at k' t 0 40 HTI.out.tree
    rw [hb] at hat
    have W1 : IntKind.i64.wrap (x + 1) = x + 1 := wrap_i64 _ (by rw [hxa]; unfold adr; omega) (by rw [hxa]; unfold adr; omega)
    have HV := Lib.hid (show inM (x + 1) ∧ cur g P (x + 1) = v' from ⟨by rw [hxa]; unfold inM adr; omega, by rw [hxa]; exact hat.2.2.1⟩)
    have ST := Lib.hid (show TI (cur g (P ++ [(x + 1, v)])) _ nh ∧ _ from HTI.out.set hb (V' := cur g (P ++ [(x + 1, v)])) (v' := v) (fun z hz => by rw [cur_push, hxa]; exact if_neg hz) (by rw [cur_push, hxa]; exact if_pos rfl))
    clear hat hb hxa hal KS KL
    have pQ0 : _ = some (Value.pointer (some ⟨sb, 0, none⟩)) := Q.out.hb.cell 0
    go_wp2_with fail
    refine (sget S.out (by have := HN.out; omega) (x + 1) v' HV.out.1 HV.out.2).mono ?_
    rintro e w8 ⟨rfl, hs, hk⟩
    clear S
    have S := Lib.hid hs
    clear pQ0
    obtain h0 := F.out
    clear F
    have F := Lib.hid (h0.step hk)
    clear h0
    obtain h0 := T.out
    clear T
    have T := Lib.hid (h0.step hk)
    clear h0
    obtain h0 := Q.out
    clear Q
    have Q := Lib.hid (h0.step hk)
    clear h0
    obtain h0 := E.out
    clear E
    have E := Lib.hid (h0.step hk)
    clear h0
    obtain h0 := M.out
    clear M
    have M := Lib.hid (h0.step hk)
    clear h0
    obtain h0 := BY.out
    clear BY
    have BY := Lib.hid (h0.step hk)
    clear h0
    clear hs hk
    have pQ0 : _ = some (Value.pointer (some ⟨sb, 0, none⟩)) := Q.out.hb.cell 0
    have pE0 : _ = some (Value.int .i64 0) := E.out.hb.cell 0
    have fE := E.out.hb.free 0
    have hsame := setCell_same E.out.hb 0 (.int .i64 0) rfl
    go_wp2_with fail
    refine (sput S.out F.out.yn (by have := HN.out; omega) (x + 1) v HV.out.1).mono ?_
    rintro e w9 ⟨rfl, hs, hk⟩
    clear fE hsame
    clear S
    have S := Lib.hid hs
    clear pQ0 pE0
    obtain h0 := F.out
    clear F
    have F := Lib.hid (h0.step hk)
    clear h0
    obtain h0 := T.out
    clear T
    have T := Lib.hid (h0.step hk)
    clear h0
    obtain h0 := Q.out
    clear Q
    have Q := Lib.hid (h0.step hk)
    clear h0
    obtain h0 := E.out
    clear E
    have E := Lib.hid (h0.step hk)
    clear h0
    obtain h0 := M.out
    clear M
    have M := Lib.hid (h0.step hk)
    clear h0
    obtain h0 := BY.out
    clear BY
    have BY := Lib.hid (h0.step hk)
    clear h0
    clear hs hk
    have pE0 : _ = some (Value.int .i64 0) := E.out.hb.cell 0
    have fE := E.out.hb.free 0
    have hsame := setCell_same E.out.hb 0 (.int .i64 0) rfl
    go_wp2
    refine leaves_cons (f := 41) (args := #[.pointer (some ⟨w.heap.size + 2, 0, none⟩), .pointer (some ⟨w.heap.size + 1, 0, none⟩), .pointer (some ⟨mb, 0, none⟩)]) (by simp) (by simp [go_sem]) ?_
    refine (put1_zero _ _ _ .returning _ pE0).mono ?_
    rintro e u' w'' ⟨rfl, rfl, rfl⟩
    refine ⟨.tuple #[.int .i64 v', .bool true, .int .i64 0], by simp [results, go_sem, Tryz.f19, pE0], v', true, _, _, nh, rfl, S.out.back F.out, F.out.k, ST.out.1, ST.out.2.1, ST.out.2.2, by omega, by rw [List.length_append, List.length_singleton]; omega⟩
end Go.Proofs.YtkloaopjlbinpaaGreat
