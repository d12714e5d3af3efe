/- The walk of the trie's Get. Condition: at most 80000 writes; the key is one of 0 to 9. -/
import Derived.Test.YtkloaopjlbinpaaGreatTbI
set_option linter.unusedVariables false
set_option linter.unusedSimpArgs false
namespace Go.Proofs.YtkloaopjlbinpaaGreat
open Go.RowKit Go.MapKept

theorem get_leaf {t : Tr} {k : Int} {a : Nat} {v : Int} (h : t.bot k 0 = .l a k v) : t.get k 0 = some v := by rw [Tr.get_bot, h]; exact if_pos rfl
theorem get_none {t : Tr} {k : Int} (h : lfA k (t.bot k 0) = 0) : t.get k 0 = none := by
  rw [Tr.get_bot]
  rcases Tr.bot_form k t 0 with e | ⟨a, k', v, e⟩
  · rw [e]; rfl
  · rw [e] at h ⊢
    by_cases hk : k' = k
    · rw [show lfA k (.l a k' v) = adr a from if_pos hk] at h
      unfold adr at h
      omega
    · exact if_neg fun e => hk e.symm
set_option maxRecDepth 100000 in
set_option maxHeartbeats 6400000 in
theorem tget_any {X : Nat → Prop} {w : World} {base sb : Nat} {g : Mem} {P : List (Int × Int)} (h : SpE w X base sb g P) (hX : ∀ b, w.heap.size ≤ b → X b) (hn : P.length ≤ 80000) {t : Tr} {nh : Nat} (hT : TI (cur g P) t nh) (hnh : nh ≤ 128) (k : Int) (hk : key k) :
    Calls Tryz.prog 17 #[.agg #[.iface 50 (.agg #[]), .int .i64 1, .int .i64 96, .int .i64 128, .int .i64 40], .pointer (some ⟨sb, 0, none⟩), .int .i64 k] w fun e w' => ∃ b : Bool, e = .returned (.tuple #[.int .i64 ((t.get k 0).getD 0), .bool b]) ∧ SpE w' X base sb g P ∧ KX X w w' := by
  obtain ⟨W0, hW0⟩ : ∃ W, W = w.alloc (.cells #[.iface 50 (.agg #[]), .int .i64 1, .int .i64 96, .int .i64 128, .int .i64 40] 61) := ⟨_, rfl⟩
  obtain ⟨Y0, hY0⟩ : ∃ Y : Nat → Prop, Y = fun b => X b ∧ b ≠ w.heap.size := ⟨_, rfl⟩
  have e0 : W0.heap.size = w.heap.size + 1 := by rw [hW0, World.size_alloc]
  have F0 : Fr X Y0 w W0 := by rw [hW0, hY0]; exact (Fr.start hX).new _
  have S0 : SpE W0 Y0 base sb g P := by rw [hW0, hY0]; exact h.new _
  have T0 : Bx 61 X Y0 W0 (w.heap.size) #[.iface 50 (.agg #[]), .int .i64 1, .int .i64 96, .int .i64 128, .int .i64 40] := by rw [hW0, hY0]; exact Bx.new (Fr.start hX) _ _
  have F := Lib.hid F0
  have S := Lib.hid S0
  have T := Lib.hid T0
  clear hY0 F0 S0 T0 e0
  have HN := Lib.hid hn
  have HTI := Lib.hid hT
  have HNH := Lib.hid hnh
  have HK := Lib.hid hk
  clear h hX hn hT hnh hk
  go_enter Tryz.func17, Tryz.ntmps17
  go_upto_region 1 with fail
  rw [← hW0]
  clear hW0
  have pT0 : _ = some (Value.iface 50 (.agg #[])) := T.out.hb.cell 0
  have pT1 : _ = some (Value.int .i64 1) := T.out.hb.cell 1
  have pT2 : _ = some (Value.int .i64 96) := T.out.hb.cell 2
  have pT3 : _ = some (Value.int .i64 128) := T.out.hb.cell 3
  have pT4 : _ = some (Value.int .i64 40) := T.out.hb.cell 4
  go_wp2_with fail
  refine (num_any k _).mono ?_
  rintro e w1 ⟨rfl, hb⟩
  clear pT0 pT1 pT2 pT3 pT4
  obtain h0 := S.out
  clear S
  have S := Lib.hid (h0.below hb)
  clear h0
  obtain h0 := F.out
  clear F
  have F := Lib.hid (h0.below hb)
  clear h0
  obtain h0 := T.out
  clear T
  have T := Lib.hid (h0.below hb)
  clear h0
  clear hb
  go_upto_region 4 with fail
  go_cut [9, 10] from 22 (fun v9 v10 wz => v9 = .bool true ∧ ∃ (Y' : Nat → Prop) (nb : Nat) (A B : Option Addr) (n m c d : Nat), v10 = .pointer (some ⟨nb, 0, none⟩) ∧ Fr X Y' w wz ∧ SpE wz Y' base sb g P ∧ Bx 61 X Y' wz w.heap.size #[.iface 50 (.agg #[]), .int .i64 1, .int .i64 96, .int .i64 128, .int .i64 40] ∧ Bx 108 X Y' wz nb #[.slice A n c, .slice B m d, .int .i64 (t.cell k 0 40), .int .i64 (t.dep k 0)])
  case first =>
    rename_i J0 K0 hR0 hK0
    refine wp_region_held_drew (S := fun W => HB 61 W w.heap.size #[.iface 50 (.agg #[]), .int .i64 1, .int .i64 96, .int .i64 128, .int .i64 40]) (by kernel_rfl) (show HB 61 w1.drew w.heap.size #[.iface 50 (.agg #[]), .int .i64 1, .int .i64 96, .int .i64 128, .int .i64 40] from T.out.hb) (fun hHeld => ?_)
    have SW := Lib.hid hHeld
    clear hHeld
    obtain h0 := F.out
    clear F
    have F := Lib.hid (h0.drew)
    clear h0
    obtain h0 := S.out
    clear S
    have S := Lib.hid (h0.drew)
    clear h0
    obtain h0 := T.out
    clear T
    have T := Lib.hid (h0.drew)
    clear h0
    generalize w1.drew = wq at *
    refine wpAnyH_take (i := 0) (oi := ⟨some 23, _, _, _, _, _⟩) (v := .agg #[.iface 50 (.agg #[]), .int .i64 1, .int .i64 96, .int .i64 128, .int .i64 40]) rfl (by kernel_rfl) (by kernel_rfl) (by kernel_rfl) (fun _ _ _ h => h) (Or.inl ⟨by rfl, ?_⟩) SW.out ?_
    · intro W' hW
      have c0 : _ = some (Value.iface 50 (.agg #[])) := HB.cell hW 0
      have c1 : _ = some (Value.int .i64 1) := HB.cell hW 1
      have c2 : _ = some (Value.int .i64 96) := HB.cell hW 2
      have c3 : _ = some (Value.int .i64 128) := HB.cell hW 3
      have c4 : _ = some (Value.int .i64 40) := HB.cell hW 4
      go_simp
    try simp only [Act.put, List.setIfInBounds_toArray, List.set_cons_zero, List.set_cons_succ]
    refine wpAnyH_take (i := 1) (oi := ⟨some 24, _, _, _, _, _⟩) (v := .pointer (some ⟨sb, 0, none⟩)) rfl (by kernel_rfl) (by kernel_rfl) (by kernel_rfl) (fun _ _ _ h => h) (Or.inl ⟨by rfl, ?_⟩) SW.out ?_
    · intro W' hW
      go_simp
    try simp only [Act.put, List.setIfInBounds_toArray, List.set_cons_zero, List.set_cons_succ]
    refine wpAnyH_take (i := 2) (oi := ⟨some 25, _, _, _, _, _⟩) (v := .pointer (some ⟨w.heap.size, 0, none⟩)) rfl (by kernel_rfl) (by kernel_rfl) (by kernel_rfl) (fun _ _ _ h => h) (Or.inl ⟨by rfl, ?_⟩) SW.out ?_
    · intro W' hW
      go_simp
    try simp only [Act.put, List.setIfInBounds_toArray, List.set_cons_zero, List.set_cons_succ]
    refine wpAnyH_take (i := 3) (oi := ⟨some 26, _, _, _, _, _⟩) (v := .iface 50 (.agg #[])) rfl (by kernel_rfl) (by kernel_rfl) (by kernel_rfl) (fun _ _ _ h => h) (Or.inl ⟨by rfl, ?_⟩) SW.out ?_
    · intro W' hW
      have c0 : _ = some (Value.iface 50 (.agg #[])) := HB.cell hW 0
      go_simp
    try simp only [Act.put, List.setIfInBounds_toArray, List.set_cons_zero, List.set_cons_succ]
    refine wpAnyH_take (i := 4) (oi := ⟨some 27, _, _, _, _, _⟩) (v := .int .i64 k) rfl (by kernel_rfl) (by kernel_rfl) (by kernel_rfl) (fun _ _ _ h => h) (Or.inl ⟨by rfl, ?_⟩) SW.out ?_
    · intro W' hW
      go_simp
    try simp only [Act.put, List.setIfInBounds_toArray, List.set_cons_zero, List.set_cons_succ]
    refine wpAnyH_ready (rs := [5, 10]) (by kernel_rfl) (by simp) ?_
    refine AllReadyH.cons (o := ⟨some 28, _, _, _, _, _⟩) rfl (fun K hK => ?_) (AllReadyH.cons (o := ⟨some 10, _, _, _, _, _⟩) rfl (fun K hK => ?_) AllReadyH.nil)
    · go_simp
      refine (hash_any k HK.out _).mono ?_
      rintro e w2 ⟨rfl, hb⟩
      clear SW
      obtain h0 := S.out
      clear S
      have S := Lib.hid (h0.below hb)
      clear h0
      obtain h0 := F.out
      clear F
      have F := Lib.hid (h0.below hb)
      clear h0
      obtain h0 := T.out
      clear T
      have T := Lib.hid (h0.below hb)
      clear h0
      clear hb
      have SW := Lib.hid (T.out.hb)
      refine hK.out _ _ SW.out (fun hHeld => ?_)
      clear hK hHeld
      try simp only [Act.put, List.setIfInBounds_toArray, List.set_cons_zero, List.set_cons_succ]
      refine wpAnyH_ready (rs := [6, 10]) (by kernel_rfl) (by simp) ?_
      refine AllReadyH.cons (o := ⟨some 29, _, _, _, _, _⟩) rfl (fun K hK => ?_) (AllReadyH.cons (o := ⟨some 10, _, _, _, _, _⟩) rfl (fun K hK => ?_) AllReadyH.nil)
      · go_simp
        refine (down_any S.out F.out.yn (by have := HN.out; omega) HTI.out HNH.out k HK.out).mono ?_
        rintro e w3 ⟨A, B, n, m, c, d, rfl, hs, hk⟩
        clear S SW
        have S := Lib.hid hs
        obtain h0 := F.out
        clear F
        have F := Lib.hid (h0.step hk)
        clear h0
        obtain h0 := T.out
        clear T
        have T := Lib.hid (h0.step hk)
        clear h0
        clear hs hk
        have SW := Lib.hid (T.out.hb)
        refine hK.out _ _ SW.out (fun hHeld => ?_)
        clear hK hHeld
        try simp only [Act.put, List.setIfInBounds_toArray, List.set_cons_zero, List.set_cons_succ]
        refine wpAnyH_take (i := 7) (oi := ⟨some 22, _, _, _, _, _⟩) (v := .tuple #[.agg #[.slice A n c, .slice B m d, .int .i64 (t.cell k 0 40), .int .i64 (t.dep k 0)], .bool true]) rfl (by kernel_rfl) (by kernel_rfl) (by kernel_rfl) (fun _ _ _ h => h) (Or.inl ⟨by rfl, ?_⟩) SW.out ?_
        · intro W' hW
          go_simp
        try simp only [Act.put, List.setIfInBounds_toArray, List.set_cons_zero, List.set_cons_succ]
        refine wpAnyH_take (i := 8) (oi := ⟨some 30, _, _, _, _, _⟩) (v := .agg #[.slice A n c, .slice B m d, .int .i64 (t.cell k 0 40), .int .i64 (t.dep k 0)]) rfl (by kernel_rfl) (by kernel_rfl) (by kernel_rfl) (fun _ _ _ h => h) (Or.inl ⟨by rfl, ?_⟩) SW.out ?_
        · intro W' hW
          go_simp
        try simp only [Act.put, List.setIfInBounds_toArray, List.set_cons_zero, List.set_cons_succ]
        refine wpAnyH_take (i := 9) (oi := ⟨some 31, _, _, _, _, _⟩) (v := .bool true) rfl (by kernel_rfl) (by kernel_rfl) (by kernel_rfl) (fun _ _ _ h => h) (Or.inl ⟨by rfl, ?_⟩) SW.out ?_
        · intro W' hW
          go_simp
        try simp only [Act.put, List.setIfInBounds_toArray, List.set_cons_zero, List.set_cons_succ]
        refine wpAnyH_ready (rs := [10]) (by kernel_rfl) (by simp) ?_
        refine AllReadyH.cons (o := ⟨some 10, _, _, _, _, _⟩) rfl (fun K hK => ?_) AllReadyH.nil
        obtain ⟨nb, hnb⟩ : ∃ n, n = w3.heap.size := ⟨_, rfl⟩
        obtain ⟨wb, hwb⟩ : ∃ W, W = w3.alloc (.cells #[.slice none 0 0, .slice none 0 0, .int .i64 0, .int .i64 0] 108) := ⟨_, rfl⟩
        obtain ⟨Yb, hYb⟩ : ∃ Y' : Nat → Prop, Y' = fun b => Y0 b ∧ b ≠ w3.heap.size := ⟨_, rfl⟩
        have F2 := Lib.hid (show Fr X Yb w wb from by rw [hwb, hYb]; exact F.out.new _)
        have S2 := Lib.hid (show SpE wb Yb base sb g P from by rw [hwb, hYb]; exact S.out.new _)
        have T2 := Lib.hid (show Bx 61 X Yb wb w.heap.size #[.iface 50 (.agg #[]), .int .i64 1, .int .i64 96, .int .i64 128, .int .i64 40] from by rw [hwb, hYb]; exact T.out.old _)
        have BY := Lib.hid (show Bx 108 X Yb wb nb #[.slice none 0 0, .slice none 0 0, .int .i64 0, .int .i64 0] from by rw [hwb, hYb, hnb]; exact Bx.new F.out _ _)
        clear F S T SW
        have F := F2
        have S := S2
        have T := T2
        clear F2 S2 T2
        have SW := Lib.hid T.out.hb
        go_simp
        rw [← hwb, ← hnb]
        clear hwb hYb hnb
        refine hK.out _ _ SW.out (fun hHeld => ?_)
        clear hK hHeld
        try simp only [Act.put, List.setIfInBounds_toArray, List.set_cons_zero, List.set_cons_succ]
        have c0 : _ = some (Value.slice none 0 0) := BY.out.hb.cell 0
        have f0 := BY.out.hb.free 0
        have c1 : _ = some (Value.slice none 0 0) := BY.out.hb.cell 1
        have f1 := BY.out.hb.free 1
        have c2 : _ = some (Value.int .i64 0) := BY.out.hb.cell 2
        have f2 := BY.out.hb.free 2
        have c3 : _ = some (Value.int .i64 0) := BY.out.hb.cell 3
        have f3 := BY.out.hb.free 3
        have hne : w.heap.size ≠ nb := fun e => by
          have h1 := T.out.hb
          have h2 := BY.out.hb
          rw [← e] at h2
          have := h1.symm.trans h2
          injection this with this
          injection this with _ this
          exact absurd this (by decide)
        obtain ⟨z1, z2, z3⟩ := set4 F.out BY.out (.slice A n c) (.slice B m d) (.int .i64 (t.cell k 0 40)) (.int .i64 (t.dep k 0))
        have Z := Lib.hid (And.intro z1 (And.intro (z3 _ _ _ _ S.out) (And.intro ((((T.out.other hne 0 (.slice A n c)).other hne 1 (.slice B m d)).other hne 2 (.int .i64 (t.cell k 0 40))).other hne 3 (.int .i64 (t.dep k 0))) z2)))
        clear z1 z2 z3 hne
        refine wpAnyH_ready (rs := [11]) (by kernel_rfl) (by simp) ?_
        refine AllReadyH.cons (o := ⟨none, _, _, _, _, _⟩) rfl (fun K hK => ?_) AllReadyH.nil
        go_simp
        generalize ((((wb.setCell ⟨nb, 0, none⟩ (.slice A n c)).setCell ⟨nb, 1, none⟩ (.slice B m d)).setCell ⟨nb, 2, none⟩ (.int .i64 (t.cell k 0 40))).setCell ⟨nb, 3, none⟩ (.int .i64 (t.dep k 0))) = ws at *
        refine hK.out _ _ Z.out.2.2.1.hb (fun hHeld => ?_)
        clear hK hHeld
        try simp only [Act.put, List.setIfInBounds_toArray, List.set_cons_zero, List.set_cons_succ]
        refine wpAnyH_take (i := 12) (oi := ⟨some 9, _, _, _, _, _⟩) (v := .bool true) rfl (by kernel_rfl) (by kernel_rfl) (by kernel_rfl) (fun _ _ _ h => h) (Or.inl ⟨by rfl, ?_⟩) Z.out.2.2.1.hb ?_
        · intro W' hW
          go_simp
        try simp only [Act.put, List.setIfInBounds_toArray, List.set_cons_zero, List.set_cons_succ]
        refine wpAnyH_done (by kernel_rfl) ?_ _
        refine hK0 _ _ (Met.intro (hR0 _ _ ?_))
        (repeat apply Exists.intro)
        refine ⟨?rel, rfl⟩
        case rel => exact ⟨rfl, _, nb, A, B, n, m, c, d, rfl, Z.out.1, Z.out.2.1, Z.out.2.2.1, Z.out.2.2.2⟩
      · obtain ⟨nb, hnb⟩ : ∃ n, n = w2.heap.size := ⟨_, rfl⟩
        obtain ⟨wb, hwb⟩ : ∃ W, W = w2.alloc (.cells #[.slice none 0 0, .slice none 0 0, .int .i64 0, .int .i64 0] 108) := ⟨_, rfl⟩
        obtain ⟨Yb, hYb⟩ : ∃ Y' : Nat → Prop, Y' = fun b => Y0 b ∧ b ≠ w2.heap.size := ⟨_, rfl⟩
        have F2 := Lib.hid (show Fr X Yb w wb from by rw [hwb, hYb]; exact F.out.new _)
        have S2 := Lib.hid (show SpE wb Yb base sb g P from by rw [hwb, hYb]; exact S.out.new _)
        have T2 := Lib.hid (show Bx 61 X Yb wb w.heap.size #[.iface 50 (.agg #[]), .int .i64 1, .int .i64 96, .int .i64 128, .int .i64 40] from by rw [hwb, hYb]; exact T.out.old _)
        have BY := Lib.hid (show Bx 108 X Yb wb nb #[.slice none 0 0, .slice none 0 0, .int .i64 0, .int .i64 0] from by rw [hwb, hYb, hnb]; exact Bx.new F.out _ _)
        clear F S T SW
        have F := F2
        have S := S2
        have T := T2
        clear F2 S2 T2
        have SW := Lib.hid T.out.hb
        go_simp
        rw [← hwb, ← hnb]
        clear hwb hYb hnb
        refine hK.out _ _ SW.out (fun hHeld => ?_)
        clear hK hHeld
        try simp only [Act.put, List.setIfInBounds_toArray, List.set_cons_zero, List.set_cons_succ]
        refine wpAnyH_ready (rs := [6]) (by kernel_rfl) (by simp) ?_
        refine AllReadyH.cons (o := ⟨some 29, _, _, _, _, _⟩) rfl (fun K hK => ?_) AllReadyH.nil
        go_simp
        refine (down_any S.out F.out.yn (by have := HN.out; omega) HTI.out HNH.out k HK.out).mono ?_
        rintro e w3 ⟨A, B, n, m, c, d, rfl, hs, hk⟩
        clear S SW
        have S := Lib.hid hs
        obtain h0 := F.out
        clear F
        have F := Lib.hid (h0.step hk)
        clear h0
        obtain h0 := T.out
        clear T
        have T := Lib.hid (h0.step hk)
        clear h0
        obtain h0 := BY.out
        clear BY
        have BY := Lib.hid (h0.step hk)
        clear h0
        clear hs hk
        have SW := Lib.hid (T.out.hb)
        refine hK.out _ _ SW.out (fun hHeld => ?_)
        clear hK hHeld
        try simp only [Act.put, List.setIfInBounds_toArray, List.set_cons_zero, List.set_cons_succ]
        refine wpAnyH_take (i := 7) (oi := ⟨some 22, _, _, _, _, _⟩) (v := .tuple #[.agg #[.slice A n c, .slice B m d, .int .i64 (t.cell k 0 40), .int .i64 (t.dep k 0)], .bool true]) rfl (by kernel_rfl) (by kernel_rfl) (by kernel_rfl) (fun _ _ _ h => h) (Or.inl ⟨by rfl, ?_⟩) SW.out ?_
        · intro W' hW
          go_simp
        try simp only [Act.put, List.setIfInBounds_toArray, List.set_cons_zero, List.set_cons_succ]
        refine wpAnyH_take (i := 8) (oi := ⟨some 30, _, _, _, _, _⟩) (v := .agg #[.slice A n c, .slice B m d, .int .i64 (t.cell k 0 40), .int .i64 (t.dep k 0)]) rfl (by kernel_rfl) (by kernel_rfl) (by kernel_rfl) (fun _ _ _ h => h) (Or.inl ⟨by rfl, ?_⟩) SW.out ?_
        · intro W' hW
          go_simp
        try simp only [Act.put, List.setIfInBounds_toArray, List.set_cons_zero, List.set_cons_succ]
        refine wpAnyH_take (i := 9) (oi := ⟨some 31, _, _, _, _, _⟩) (v := .bool true) rfl (by kernel_rfl) (by kernel_rfl) (by kernel_rfl) (fun _ _ _ h => h) (Or.inl ⟨by rfl, ?_⟩) SW.out ?_
        · intro W' hW
          go_simp
        try simp only [Act.put, List.setIfInBounds_toArray, List.set_cons_zero, List.set_cons_succ]
        have c0 : _ = some (Value.slice none 0 0) := BY.out.hb.cell 0
        have f0 := BY.out.hb.free 0
        have c1 : _ = some (Value.slice none 0 0) := BY.out.hb.cell 1
        have f1 := BY.out.hb.free 1
        have c2 : _ = some (Value.int .i64 0) := BY.out.hb.cell 2
        have f2 := BY.out.hb.free 2
        have c3 : _ = some (Value.int .i64 0) := BY.out.hb.cell 3
        have f3 := BY.out.hb.free 3
        have hne : w.heap.size ≠ nb := fun e => by
          have h1 := T.out.hb
          have h2 := BY.out.hb
          rw [← e] at h2
          have := h1.symm.trans h2
          injection this with this
          injection this with _ this
          exact absurd this (by decide)
        obtain ⟨z1, z2, z3⟩ := set4 F.out BY.out (.slice A n c) (.slice B m d) (.int .i64 (t.cell k 0 40)) (.int .i64 (t.dep k 0))
        have Z := Lib.hid (And.intro z1 (And.intro (z3 _ _ _ _ S.out) (And.intro ((((T.out.other hne 0 (.slice A n c)).other hne 1 (.slice B m d)).other hne 2 (.int .i64 (t.cell k 0 40))).other hne 3 (.int .i64 (t.dep k 0))) z2)))
        clear z1 z2 z3 hne
        refine wpAnyH_ready (rs := [11]) (by kernel_rfl) (by simp) ?_
        refine AllReadyH.cons (o := ⟨none, _, _, _, _, _⟩) rfl (fun K hK => ?_) AllReadyH.nil
        go_simp
        generalize ((((w3.setCell ⟨nb, 0, none⟩ (.slice A n c)).setCell ⟨nb, 1, none⟩ (.slice B m d)).setCell ⟨nb, 2, none⟩ (.int .i64 (t.cell k 0 40))).setCell ⟨nb, 3, none⟩ (.int .i64 (t.dep k 0))) = ws at *
        refine hK.out _ _ Z.out.2.2.1.hb (fun hHeld => ?_)
        clear hK hHeld
        try simp only [Act.put, List.setIfInBounds_toArray, List.set_cons_zero, List.set_cons_succ]
        refine wpAnyH_take (i := 12) (oi := ⟨some 9, _, _, _, _, _⟩) (v := .bool true) rfl (by kernel_rfl) (by kernel_rfl) (by kernel_rfl) (fun _ _ _ h => h) (Or.inl ⟨by rfl, ?_⟩) Z.out.2.2.1.hb ?_
        · intro W' hW
          go_simp
        try simp only [Act.put, List.setIfInBounds_toArray, List.set_cons_zero, List.set_cons_succ]
        refine wpAnyH_done (by kernel_rfl) ?_ _
        refine hK0 _ _ (Met.intro (hR0 _ _ ?_))
        (repeat apply Exists.intro)
        refine ⟨?rel, rfl⟩
        case rel => exact ⟨rfl, _, nb, A, B, n, m, c, d, rfl, Z.out.1, Z.out.2.1, Z.out.2.2.1, Z.out.2.2.2⟩
    · obtain ⟨nb, hnb⟩ : ∃ n, n = wq.heap.size := ⟨_, rfl⟩
      obtain ⟨wb, hwb⟩ : ∃ W, W = wq.alloc (.cells #[.slice none 0 0, .slice none 0 0, .int .i64 0, .int .i64 0] 108) := ⟨_, rfl⟩
      obtain ⟨Yb, hYb⟩ : ∃ Y' : Nat → Prop, Y' = fun b => Y0 b ∧ b ≠ wq.heap.size := ⟨_, rfl⟩
      have F2 := Lib.hid (show Fr X Yb w wb from by rw [hwb, hYb]; exact F.out.new _)
      have S2 := Lib.hid (show SpE wb Yb base sb g P from by rw [hwb, hYb]; exact S.out.new _)
      have T2 := Lib.hid (show Bx 61 X Yb wb w.heap.size #[.iface 50 (.agg #[]), .int .i64 1, .int .i64 96, .int .i64 128, .int .i64 40] from by rw [hwb, hYb]; exact T.out.old _)
      have BY := Lib.hid (show Bx 108 X Yb wb nb #[.slice none 0 0, .slice none 0 0, .int .i64 0, .int .i64 0] from by rw [hwb, hYb, hnb]; exact Bx.new F.out _ _)
      clear F S T SW
      have F := F2
      have S := S2
      have T := T2
      clear F2 S2 T2
      have SW := Lib.hid T.out.hb
      go_simp
      rw [← hwb, ← hnb]
      clear hwb hYb hnb
      refine hK.out _ _ SW.out (fun hHeld => ?_)
      clear hK hHeld
      try simp only [Act.put, List.setIfInBounds_toArray, List.set_cons_zero, List.set_cons_succ]
      refine wpAnyH_ready (rs := [5]) (by kernel_rfl) (by simp) ?_
      refine AllReadyH.cons (o := ⟨some 28, _, _, _, _, _⟩) rfl (fun K hK => ?_) AllReadyH.nil
      go_simp
      refine (hash_any k HK.out _).mono ?_
      rintro e w2 ⟨rfl, hb⟩
      clear SW
      obtain h0 := S.out
      clear S
      have S := Lib.hid (h0.below hb)
      clear h0
      obtain h0 := F.out
      clear F
      have F := Lib.hid (h0.below hb)
      clear h0
      obtain h0 := T.out
      clear T
      have T := Lib.hid (h0.below hb)
      clear h0
      obtain h0 := BY.out
      clear BY
      have BY := Lib.hid (h0.below hb)
      clear h0
      clear hb
      have SW := Lib.hid (T.out.hb)
      refine hK.out _ _ SW.out (fun hHeld => ?_)
      clear hK hHeld
      try simp only [Act.put, List.setIfInBounds_toArray, List.set_cons_zero, List.set_cons_succ]
      refine wpAnyH_ready (rs := [6]) (by kernel_rfl) (by simp) ?_
      refine AllReadyH.cons (o := ⟨some 29, _, _, _, _, _⟩) rfl (fun K hK => ?_) AllReadyH.nil
      go_simp
      refine (down_any S.out F.out.yn (by have := HN.out; omega) HTI.out HNH.out k HK.out).mono ?_
      rintro e w3 ⟨A, B, n, m, c, d, rfl, hs, hk⟩
      clear S SW
      have S := Lib.hid hs
      obtain h0 := F.out
      clear F
      have F := Lib.hid (h0.step hk)
      clear h0
      obtain h0 := T.out
      clear T
      have T := Lib.hid (h0.step hk)
      clear h0
      obtain h0 := BY.out
      clear BY
      have BY := Lib.hid (h0.step hk)
      clear h0
      clear hs hk
      have SW := Lib.hid (T.out.hb)
      refine hK.out _ _ SW.out (fun hHeld => ?_)
      clear hK hHeld
      try simp only [Act.put, List.setIfInBounds_toArray, List.set_cons_zero, List.set_cons_succ]
      refine wpAnyH_take (i := 7) (oi := ⟨some 22, _, _, _, _, _⟩) (v := .tuple #[.agg #[.slice A n c, .slice B m d, .int .i64 (t.cell k 0 40), .int .i64 (t.dep k 0)], .bool true]) rfl (by kernel_rfl) (by kernel_rfl) (by kernel_rfl) (fun _ _ _ h => h) (Or.inl ⟨by rfl, ?_⟩) SW.out ?_
      · intro W' hW
        go_simp
      try simp only [Act.put, List.setIfInBounds_toArray, List.set_cons_zero, List.set_cons_succ]
      refine wpAnyH_take (i := 8) (oi := ⟨some 30, _, _, _, _, _⟩) (v := .agg #[.slice A n c, .slice B m d, .int .i64 (t.cell k 0 40), .int .i64 (t.dep k 0)]) rfl (by kernel_rfl) (by kernel_rfl) (by kernel_rfl) (fun _ _ _ h => h) (Or.inl ⟨by rfl, ?_⟩) SW.out ?_
      · intro W' hW
        go_simp
      try simp only [Act.put, List.setIfInBounds_toArray, List.set_cons_zero, List.set_cons_succ]
      refine wpAnyH_take (i := 9) (oi := ⟨some 31, _, _, _, _, _⟩) (v := .bool true) rfl (by kernel_rfl) (by kernel_rfl) (by kernel_rfl) (fun _ _ _ h => h) (Or.inl ⟨by rfl, ?_⟩) SW.out ?_
      · intro W' hW
        go_simp
      try simp only [Act.put, List.setIfInBounds_toArray, List.set_cons_zero, List.set_cons_succ]
      have c0 : _ = some (Value.slice none 0 0) := BY.out.hb.cell 0
      have f0 := BY.out.hb.free 0
      have c1 : _ = some (Value.slice none 0 0) := BY.out.hb.cell 1
      have f1 := BY.out.hb.free 1
      have c2 : _ = some (Value.int .i64 0) := BY.out.hb.cell 2
      have f2 := BY.out.hb.free 2
      have c3 : _ = some (Value.int .i64 0) := BY.out.hb.cell 3
      have f3 := BY.out.hb.free 3
      have hne : w.heap.size ≠ nb := fun e => by
        have h1 := T.out.hb
        have h2 := BY.out.hb
        rw [← e] at h2
        have := h1.symm.trans h2
        injection this with this
        injection this with _ this
        exact absurd this (by decide)
      obtain ⟨z1, z2, z3⟩ := set4 F.out BY.out (.slice A n c) (.slice B m d) (.int .i64 (t.cell k 0 40)) (.int .i64 (t.dep k 0))
      have Z := Lib.hid (And.intro z1 (And.intro (z3 _ _ _ _ S.out) (And.intro ((((T.out.other hne 0 (.slice A n c)).other hne 1 (.slice B m d)).other hne 2 (.int .i64 (t.cell k 0 40))).other hne 3 (.int .i64 (t.dep k 0))) z2)))
      clear z1 z2 z3 hne
      refine wpAnyH_ready (rs := [11]) (by kernel_rfl) (by simp) ?_
      refine AllReadyH.cons (o := ⟨none, _, _, _, _, _⟩) rfl (fun K hK => ?_) AllReadyH.nil
      go_simp
      generalize ((((w3.setCell ⟨nb, 0, none⟩ (.slice A n c)).setCell ⟨nb, 1, none⟩ (.slice B m d)).setCell ⟨nb, 2, none⟩ (.int .i64 (t.cell k 0 40))).setCell ⟨nb, 3, none⟩ (.int .i64 (t.dep k 0))) = ws at *
      refine hK.out _ _ Z.out.2.2.1.hb (fun hHeld => ?_)
      clear hK hHeld
      try simp only [Act.put, List.setIfInBounds_toArray, List.set_cons_zero, List.set_cons_succ]
      refine wpAnyH_take (i := 12) (oi := ⟨some 9, _, _, _, _, _⟩) (v := .bool true) rfl (by kernel_rfl) (by kernel_rfl) (by kernel_rfl) (fun _ _ _ h => h) (Or.inl ⟨by rfl, ?_⟩) Z.out.2.2.1.hb ?_
      · intro W' hW
        go_simp
      try simp only [Act.put, List.setIfInBounds_toArray, List.set_cons_zero, List.set_cons_succ]
      refine wpAnyH_done (by kernel_rfl) ?_ _
      refine hK0 _ _ (Met.intro (hR0 _ _ ?_))
      (repeat apply Exists.intro)
      refine ⟨?rel, rfl⟩
      case rel => exact ⟨rfl, _, nb, A, B, n, m, c, d, rfl, Z.out.1, Z.out.2.1, Z.out.2.2.1, Z.out.2.2.2⟩
  case rest =>
    obtain ⟨rfl, Y', nb, A, B, n, m, c, d, rfl, hF, hS, hTb, hB⟩ := hcut
    clear F S T
    have F := Lib.hid hF
    have S := Lib.hid hS
    have T := Lib.hid hTb
    have BY := Lib.hid hB
    clear hF hS hTb hB
    obtain ⟨x, hx⟩ : ∃ z, z = lfA k (t.bot k 0) := ⟨_, rfl⟩
    have KL := Lib.hid (fun (X : Nat → Prop) (w : World) (h : SpE w X base sb g P) (hX : ∀ b, w.heap.size ≤ b → X b) => leaf_any h hX (by have := HN.out; omega) HTI.out HNH.out k A B n m c d)
    rw [← hx] at KL
    obtain ⟨ce, hce⟩ : ∃ z, z = t.cell k 0 40 := ⟨_, rfl⟩
    obtain ⟨de, hde⟩ : ∃ z : Int, z = (t.dep k 0 : Int) := ⟨_, rfl⟩
    rw [← hce, ← hde] at KL BY
    clear hce hde
    have HX := Lib.hid hx
    clear hx
    have pT0 : _ = some (Value.iface 50 (.agg #[])) := T.out.hb.cell 0
    have pT1 : _ = some (Value.int .i64 1) := T.out.hb.cell 1
    have pT2 : _ = some (Value.int .i64 96) := T.out.hb.cell 2
    have pT3 : _ = some (Value.int .i64 128) := T.out.hb.cell 3
    have pT4 : _ = some (Value.int .i64 40) := T.out.hb.cell 4
    have pBY0 : _ = some (Value.slice A n c) := BY.out.hb.cell 0
    have pBY1 : _ = some (Value.slice B m d) := BY.out.hb.cell 1
    have pBY2 : _ = some (Value.int .i64 ce) := BY.out.hb.cell 2
    have pBY3 : _ = some (Value.int .i64 de) := BY.out.hb.cell 3
    go_wp2_with fail
    refine (KL.out _ _ S.out F.out.yn).mono ?_
    rintro e w4 ⟨rfl, hs, hk⟩
    clear S
    have S := Lib.hid hs
    clear pT0 pT1 pT2 pT3 pT4 pBY0 pBY1 pBY2 pBY3
    obtain h0 := F.out
    clear F
    have F := Lib.hid (h0.step hk)
    clear h0
    obtain h0 := T.out
    clear T
    have T := Lib.hid (h0.step hk)
    clear h0
    obtain h0 := BY.out
    clear BY
    have BY := Lib.hid (h0.step hk)
    clear h0
    clear hs hk
    have pT0 : _ = some (Value.iface 50 (.agg #[])) := T.out.hb.cell 0
    have pT1 : _ = some (Value.int .i64 1) := T.out.hb.cell 1
    have pT2 : _ = some (Value.int .i64 96) := T.out.hb.cell 2
    have pT3 : _ = some (Value.int .i64 128) := T.out.hb.cell 3
    have pT4 : _ = some (Value.int .i64 40) := T.out.hb.cell 4
    have pBY0 : _ = some (Value.slice A n c) := BY.out.hb.cell 0
    have pBY1 : _ = some (Value.slice B m d) := BY.out.hb.cell 1
    have pBY2 : _ = some (Value.int .i64 ce) := BY.out.hb.cell 2
    have pBY3 : _ = some (Value.int .i64 de) := BY.out.hb.cell 3
    by_cases hx0 : x = 0
    · have G := Lib.hid (get_none (HX.out.symm.trans hx0))
      subst hx0
      go_wp2
      go_ret2
      refine ⟨false, ?_, S.out.back F.out, F.out.k⟩
      rw [G.out]
      rfl
    · have hq : (x == 0) = false := by simpa using hx0
      obtain ⟨a, k', v, hb, hxa, hkk, hal⟩ : ∃ a k' v, t.bot k 0 = .l a k' v ∧ x = adr a ∧ k' = k ∧ a < 128 := by
        have hx := HX.out
        rcases Tr.bot_form k t 0 with e | ⟨a, k', v, e⟩
        · rw [e] at hx; exact absurd hx hx0
        · rw [e] at hx
          by_cases hk : k' = k
          · have := HTI.out.lt a (Tr.bot_nodes k t 0 a (by rw [e]; exact List.mem_singleton.2 rfl))
            have := HNH.out
            exact ⟨a, k', v, e, hx.trans (if_pos hk), hk, by omega⟩
          · exact absurd (hx.trans (if_neg hk)) hx0
      subst hkk
      have G := Lib.hid (get_leaf hb)
      have hat := Tr.bot_at k' t 0 40 HTI.out.tree
      rw [hb] at hat
      have W1 : IntKind.i64.wrap (x + 1) = x + 1 := wrap_i64 _ (by rw [hxa]; unfold adr; omega) (by rw [hxa]; unfold adr; omega)
      have HV := Lib.hid (show inM (x + 1) ∧ cur g P (x + 1) = v from ⟨by rw [hxa]; unfold inM adr; omega, by rw [hxa]; exact hat.2.2.1⟩)
      clear hat hb hxa hal
      go_wp2_with fail
      refine (sget S.out (by have := HN.out; omega) (x + 1) v HV.out.1 HV.out.2).mono ?_
      rintro e w5 ⟨rfl, hs, hk⟩
      clear S
      have S := Lib.hid hs
      clear pT0 pT1 pT2 pT3 pT4 pBY0 pBY1 pBY2 pBY3
      obtain h0 := F.out
      clear F
      have F := Lib.hid (h0.step hk)
      clear h0
      obtain h0 := T.out
      clear T
      have T := Lib.hid (h0.step hk)
      clear h0
      obtain h0 := BY.out
      clear BY
      have BY := Lib.hid (h0.step hk)
      clear h0
      clear hs hk
      go_wp2
      go_ret2
      refine ⟨true, ?_, S.out.back F.out, F.out.k⟩
      rw [G.out]
      rfl
end Go.Proofs.YtkloaopjlbinpaaGreat
