/- The walk of the law WordPrints: true. Conditions: the numbers are of their kinds; the laid tables and error variables (PW). -/
import Derived.Test.YtkccaadhjodhlaaDoorWordJ
import Derived.Deep.RegionHeld3
set_option linter.unusedVariables false
set_option linter.unusedSimpArgs false
namespace Go.Proofs.YtkccaadhjodhlaaDoor
open Go.RowKit

/-- The three words' blocks, and what the calls need. -/
structure Zz (w0 : World) (b0 p q : Nat) (v n r a1 b1 c1 a2 b2 c2 : Int) (W : World) : Prop where
  x : WBox W b0 v n r
  y : WBox W p a1 b1 c1
  z : WBox W q a2 b2 c2
  pw : PW W
  bel : Below w0.heap.size w0 W
theorem Zz.below {w0 : World} {b0 p q : Nat} {v n r a1 b1 c1 a2 b2 c2 : Int} {W W' : World} (h : Zz w0 b0 p q v n r a1 b1 c1 a2 b2 c2 W) (hb : Below W.heap.size W W') : Zz w0 b0 p q v n r a1 b1 c1 a2 b2 c2 W' :=
  ⟨h.x.below hb, h.y.below hb, h.z.below hb, h.pw.below hb, h.bel.trans (hb.mono h.bel.size)⟩
theorem WBox.all3 {w : World} {b : Nat} {v n r : Int} (h : WBox w b v n r) : w.cell? ⟨b, 0, none⟩ = some (.int .i64 v) ∧ w.cell? ⟨b, 1, none⟩ = some (.int .u32 n) ∧ w.cell? ⟨b, 2, none⟩ = some (.int .u32 r) := ⟨h.c0, h.c1, h.c2⟩
theorem Zz.all {w0 : World} {b0 p q : Nat} {v n r a1 b1 c1 a2 b2 c2 : Int} {W : World} (h : Zz w0 b0 p q v n r a1 b1 c1 a2 b2 c2 W) :
    (W.cell? ⟨b0, 0, none⟩ = some (.int .i64 v) ∧ W.cell? ⟨b0, 1, none⟩ = some (.int .u32 n) ∧ W.cell? ⟨b0, 2, none⟩ = some (.int .u32 r)) ∧ (W.cell? ⟨p, 0, none⟩ = some (.int .i64 a1) ∧ W.cell? ⟨p, 1, none⟩ = some (.int .u32 b1) ∧ W.cell? ⟨p, 2, none⟩ = some (.int .u32 c1)) ∧ (W.cell? ⟨q, 0, none⟩ = some (.int .i64 a2) ∧ W.cell? ⟨q, 1, none⟩ = some (.int .u32 b2) ∧ W.cell? ⟨q, 2, none⟩ = some (.int .u32 c2)) :=
  ⟨h.x.all3, h.y.all3, h.z.all3⟩

set_option maxRecDepth 100000 in
set_option maxHeartbeats 12800000 in
theorem prints_long (v n r : Int) (l : List UInt8) (w : World) (h0 : -9223372036854775808 ≤ v) (h1 : v ≤ 9223372036854775807) (h2 : 0 ≤ n) (h3 : n < 4294967296) (h4 : 0 ≤ r) (h5 : r < 4294967296) (hmax : l.length ≤ 9223372036854775807) (hW : PW w) (hl : 300 < l.length) :
    Calls Tryd.prog 7 #[wd v n r, .string (bs l)] w fun e w' => e = .returned (.bool true) ∧ Below w.heap.size w w' := by
  have hsz := bs_size l
  have hli : (300 : Int) < (l.length : Int) := by omega
  unfold wd
  clear hW hl h0 h1 h2 h3 h4 h5
  go_enter Tryd.func7, Tryd.ntmps7
  go_wp2_with fail
  have HB := Lib.hid (show Below w.heap.size w (w.alloc (wdO v n r)) from (Below.refl _ _).alloc (Nat.le_refl _) _)
  unfold wdO at HB
  refine (awake_any _).mono ?_
  rintro e wz ⟨rfl, hb⟩
  have HBz := Lib.hid (HB.out.trans (hb.mono HB.out.size))
  clear hb HB
  go_wp2
  go_ret
  exact ⟨by first | rfl | simp, HBz.out⟩
set_option maxRecDepth 100000 in
set_option maxHeartbeats 12800000 in
theorem prints_none (v n r : Int) (l : List UInt8) (w : World) (h0 : -9223372036854775808 ≤ v) (h1 : v ≤ 9223372036854775807) (h2 : 0 ≤ n) (h3 : n < 4294967296) (h4 : 0 ≤ r) (h5 : r < 4294967296) (hmax : l.length ≤ 9223372036854775807) (hW : PW w) (hl : l.length ≤ 300) (hq : prs l = none) :
    Calls Tryd.prog 7 #[wd v n r, .string (bs l)] w fun e w' => e = .returned (.bool true) ∧ Below w.heap.size w w' := by
  have hsz := bs_size l
  have hli : (l.length : Int) ≤ 300 := by omega
  have HW := Lib.hid hW
  have HP1 := Lib.hid fun W (hp : PW W) => parse_any l W (by omega) hp
  have HP2 := Lib.hid fun W => rparse_any l W (by omega)
  have HT1 := Lib.hid fun W (hp : PW W) => text_any v n r W h0 h1 h4 h5 h2 h3 hp.pow
  have HT2 := Lib.hid fun W => rtext_any v n r W h0 h1 h2 h3 h4 h5
  simp only [bs_eq] at HT1
  rw [hq] at HP1 HP2
  dsimp only [prV1, prE1, Option.isSome] at HP1 HP2
  have hTT : ((bs (txt v n r)).toList == (bs (txt v n r)).toList) = true := beq_self_eq_true _
  generalize txt v n r = T at *
  clear hq h0 h1 h2 h3 h4 h5 hmax hW hl
  unfold wd at HP1 HP2 HT1 HT2 ⊢
  go_enter Tryd.func7, Tryd.ntmps7
  go_wp2_with fail
  have X1 := Lib.hid (show WBox (w.alloc (wdO v n r)) w.heap.size v n r from WBox.new)
  have B1 := Lib.hid (show Below w.heap.size w (w.alloc (wdO v n r)) from (Below.refl _ _).alloc (Nat.le_refl _) _)
  unfold wdO at X1 B1
  generalize w.alloc (.cells #[.int .i64 v, .int .u32 n, .int .u32 r] 33) = w1 at *
  refine (HP1.out w1 (HW.out.below B1.out)).mono ?_
  rintro e w2 ⟨rfl, hb⟩
  have B2 := Lib.hid (B1.out.trans (hb.mono B1.out.size))
  have X2 := Lib.hid (X1.out.below hb)
  clear hb B1 X1 HP1
  go_wp2_with (with_reducible refine at_store_ (t := 33) ?_; refine Hid.out ?_)
  refine Lib.hid ?_
  refine put_word (v' := 0) (n' := 0) (r' := 0) rfl (.tmp 5) (.tmp 16) rfl rfl w2.heap.size rfl rfl WBox.new ?_
  intro w3 hx hk
  have Y3 := Lib.hid hx
  have hkk : Keep (fun k => k = w2.heap.size) w2 w3 := (Keep.of_below ((Below.refl w2.heap.size w2).alloc (Nat.le_refl _) (wdO 0 0 0))).trans hk
  have B3 := Lib.hid (B2.out.trans (hkk.below B2.out.size (fun k hk e => by have := B2.out.size; omega)))
  have X3 := Lib.hid (X2.out.keep hkk (fun e => by have := X2.out.lt; omega))
  clear hx hk hkk B2 X2
  generalize w2.heap.size = p at *
  go_wp2_with fail
  refine (HP2.out w3).mono ?_
  rintro e w4 ⟨rfl, hb⟩
  have B4 := Lib.hid (B3.out.trans (hb.mono B3.out.size))
  have X4 := Lib.hid (X3.out.below hb)
  have Y4 := Lib.hid (Y3.out.below hb)
  clear hb B3 X3 Y3 HP2
  go_wp2_with (with_reducible refine at_store_ (t := 33) ?_; refine Hid.out ?_)
  refine Lib.hid ?_
  refine put_word (v' := 0) (n' := 0) (r' := 0) rfl (.tmp 7) (.tmp 21) rfl rfl w4.heap.size rfl rfl WBox.new ?_
  intro w5 hx hk
  have hkk : Keep (fun k => k = w4.heap.size) w4 w5 := (Keep.of_below ((Below.refl w4.heap.size w4).alloc (Nat.le_refl _) (wdO 0 0 0))).trans hk
  have zb := B4.out.trans (hkk.below B4.out.size (fun k hk e => by have := B4.out.size; omega))
  have x5 := X4.out.keep hkk (fun e => by have := X4.out.lt; omega)
  have y5 := Y4.out.keep hkk (fun e => by have := Y4.out.lt; omega)
  have z5 : Zz w w.heap.size p w4.heap.size v n r 0 0 0 0 0 0 w5 := ⟨x5, y5, hx, HW.out.below zb, zb⟩
  have zz : Zz w w.heap.size p w4.heap.size v n r 0 0 0 0 0 0 w5.drew := z5.below (Below.refl _ _).drew
  clear x5 y5 z5
  clear hx hk hkk B4 X4 Y4 zb HW
  generalize w4.heap.size = q at *
  go_wp2_with fail
  go_region_held3 (fun W => (W.cell? ⟨w.heap.size, 0, none⟩ = some (.int .i64 v) ∧ W.cell? ⟨w.heap.size, 1, none⟩ = some (.int .u32 n) ∧ W.cell? ⟨w.heap.size, 2, none⟩ = some (.int .u32 r)) ∧ (W.cell? ⟨p, 0, none⟩ = some (.int .i64 0) ∧ W.cell? ⟨p, 1, none⟩ = some (.int .u32 0) ∧ W.cell? ⟨p, 2, none⟩ = some (.int .u32 0)) ∧ (W.cell? ⟨q, 0, none⟩ = some (.int .i64 0) ∧ W.cell? ⟨q, 1, none⟩ = some (.int .u32 0) ∧ W.cell? ⟨q, 2, none⟩ = some (.int .u32 0))) (exact Zz.all (by assumption)) (first
    | (go_at_call 17; refine (HT1.out _ (Zz.pw (by assumption))).mono ?_; rintro e wt ⟨rfl, hb⟩; have zt := Zz.below (by assumption) hb; clear hb)
    | (go_at_call 20; refine (HT2.out _).mono ?_; rintro e ws ⟨rfl, hb⟩; have zs := Zz.below (by assumption) hb; clear hb)
    | (go_at_call 13; refine (awake_any _).mono ?_; rintro e wk ⟨rfl, hb⟩; have zk := Zz.below (by assumption) hb; clear hb))
  all_goals go_wp2
  all_goals go_ret
  all_goals exact ⟨by first | rfl | simp, Zz.bel (by assumption)⟩
set_option maxRecDepth 100000 in
set_option maxHeartbeats 12800000 in
theorem prints_some (v n r : Int) (l : List UInt8) (w : World) (h0 : -9223372036854775808 ≤ v) (h1 : v ≤ 9223372036854775807) (h2 : 0 ≤ n) (h3 : n < 4294967296) (h4 : 0 ≤ r) (h5 : r < 4294967296) (hmax : l.length ≤ 9223372036854775807) (hW : PW w) (hl : l.length ≤ 300) (a b c : Int) (hq : prs l = some (a, b, c)) :
    Calls Tryd.prog 7 #[wd v n r, .string (bs l)] w fun e w' => e = .returned (.bool true) ∧ Below w.heap.size w w' := by
  have hsz := bs_size l
  have hli : (l.length : Int) ≤ 300 := by omega
  have HW := Lib.hid hW
  have HP1 := Lib.hid fun W (hp : PW W) => parse_any l W (by omega) hp
  have HP2 := Lib.hid fun W => rparse_any l W (by omega)
  have HT1 := Lib.hid fun W (hp : PW W) => text_any v n r W h0 h1 h4 h5 h2 h3 hp.pow
  have HT2 := Lib.hid fun W => rtext_any v n r W h0 h1 h2 h3 h4 h5
  simp only [bs_eq] at HT1
  rw [hq] at HP1 HP2
  dsimp only [prV1, prE1, Option.isSome] at HP1 HP2
  have hTT : ((bs (txt v n r)).toList == (bs (txt v n r)).toList) = true := beq_self_eq_true _
  generalize txt v n r = T at *
  clear hq h0 h1 h2 h3 h4 h5 hmax hW hl
  unfold wd at HP1 HP2 HT1 HT2 ⊢
  go_enter Tryd.func7, Tryd.ntmps7
  go_wp2_with fail
  have X1 := Lib.hid (show WBox (w.alloc (wdO v n r)) w.heap.size v n r from WBox.new)
  have B1 := Lib.hid (show Below w.heap.size w (w.alloc (wdO v n r)) from (Below.refl _ _).alloc (Nat.le_refl _) _)
  unfold wdO at X1 B1
  generalize w.alloc (.cells #[.int .i64 v, .int .u32 n, .int .u32 r] 33) = w1 at *
  refine (HP1.out w1 (HW.out.below B1.out)).mono ?_
  rintro e w2 ⟨rfl, hb⟩
  have B2 := Lib.hid (B1.out.trans (hb.mono B1.out.size))
  have X2 := Lib.hid (X1.out.below hb)
  clear hb B1 X1 HP1
  go_wp2_with (with_reducible refine at_store_ (t := 33) ?_; refine Hid.out ?_)
  refine Lib.hid ?_
  refine put_word (v' := a) (n' := b) (r' := c) rfl (.tmp 5) (.tmp 16) rfl rfl w2.heap.size rfl rfl WBox.new ?_
  intro w3 hx hk
  have Y3 := Lib.hid hx
  have hkk : Keep (fun k => k = w2.heap.size) w2 w3 := (Keep.of_below ((Below.refl w2.heap.size w2).alloc (Nat.le_refl _) (wdO 0 0 0))).trans hk
  have B3 := Lib.hid (B2.out.trans (hkk.below B2.out.size (fun k hk e => by have := B2.out.size; omega)))
  have X3 := Lib.hid (X2.out.keep hkk (fun e => by have := X2.out.lt; omega))
  clear hx hk hkk B2 X2
  generalize w2.heap.size = p at *
  go_wp2_with fail
  refine (HP2.out w3).mono ?_
  rintro e w4 ⟨rfl, hb⟩
  have B4 := Lib.hid (B3.out.trans (hb.mono B3.out.size))
  have X4 := Lib.hid (X3.out.below hb)
  have Y4 := Lib.hid (Y3.out.below hb)
  clear hb B3 X3 Y3 HP2
  go_wp2_with (with_reducible refine at_store_ (t := 33) ?_; refine Hid.out ?_)
  refine Lib.hid ?_
  refine put_word (v' := a) (n' := b) (r' := c) rfl (.tmp 7) (.tmp 21) rfl rfl w4.heap.size rfl rfl WBox.new ?_
  intro w5 hx hk
  have hkk : Keep (fun k => k = w4.heap.size) w4 w5 := (Keep.of_below ((Below.refl w4.heap.size w4).alloc (Nat.le_refl _) (wdO 0 0 0))).trans hk
  have zb := B4.out.trans (hkk.below B4.out.size (fun k hk e => by have := B4.out.size; omega))
  have x5 := X4.out.keep hkk (fun e => by have := X4.out.lt; omega)
  have y5 := Y4.out.keep hkk (fun e => by have := Y4.out.lt; omega)
  have z5 : Zz w w.heap.size p w4.heap.size v n r a b c a b c w5 := ⟨x5, y5, hx, HW.out.below zb, zb⟩
  have zz : Zz w w.heap.size p w4.heap.size v n r a b c a b c w5.drew := z5.below (Below.refl _ _).drew
  clear x5 y5 z5
  clear hx hk hkk B4 X4 Y4 zb HW
  generalize w4.heap.size = q at *
  go_wp2_with fail
  have z0 := Lib.hid zz
  clear zz
  refine wp_region_held_drew (S := fun W => Zz w w.heap.size p q v n r a b c a b c W) (by kernel_rfl) z0.out (fun hHeld => ?_)
  clear hHeld
  generalize w5.drew = w6 at *
  refine wpAnyH_take (i := 0) (oi := ⟨some 23, _, _, _, _, _⟩) (v := .agg #[.int .i64 v, .int .u32 n, .int .u32 r]) rfl (by kernel_rfl) (by kernel_rfl) (by kernel_rfl) (fun _ _ _ h => h) (Or.inl ⟨by rfl, ?_⟩) z0.out ?_
  · intro W' hW
    have hf := Zz.all hW
    go_simp
  try simp only [Act.put, List.setIfInBounds_toArray, List.set_cons_zero, List.set_cons_succ]
  refine wpAnyH_take (i := 2) (oi := ⟨some 25, _, _, _, _, _⟩) (v := .agg #[.int .i64 v, .int .u32 n, .int .u32 r]) rfl (by kernel_rfl) (by kernel_rfl) (by kernel_rfl) (fun _ _ _ h => h) (Or.inl ⟨by rfl, ?_⟩) z0.out ?_
  · intro W' hW
    have hf := Zz.all hW
    go_simp
  try simp only [Act.put, List.setIfInBounds_toArray, List.set_cons_zero, List.set_cons_succ]
  refine wpAnyH_ready (rs := [1]) (by kernel_rfl) (by simp) ?_
  refine AllReadyH.cons (o := ⟨some 24, _, _, _, _, _⟩) rfl (fun K hK => ?_) (AllReadyH.nil)
  go_simp
  refine (HT1.out w6 (Zz.pw z0.out)).mono ?_
  rintro e w7 ⟨rfl, hb⟩
  have z1 := Lib.hid (Zz.below z0.out hb)
  clear hb
  refine hK.out _ _ z1.out (fun hHeldq => ?_)
  clear hK hHeldq
  try simp only [Act.put, List.setIfInBounds_toArray, List.set_cons_zero, List.set_cons_succ]
  refine wpAnyH_ready (rs := [3]) (by kernel_rfl) (by simp) ?_
  refine AllReadyH.cons (o := ⟨some 26, _, _, _, _, _⟩) rfl (fun K hK => ?_) (AllReadyH.nil)
  go_simp
  refine (HT2.out w7).mono ?_
  rintro e w8 ⟨rfl, hb⟩
  have z2 := Lib.hid (Zz.below z1.out hb)
  clear hb
  refine hK.out _ _ z2.out (fun hHeldq => ?_)
  clear hK hHeldq
  try simp only [Act.put, List.setIfInBounds_toArray, List.set_cons_zero, List.set_cons_succ]
  refine wpAnyH_take (i := 4) (oi := ⟨some 27, _, _, _, _, _⟩) (v := .bool true) rfl (by kernel_rfl) (by kernel_rfl) (by kernel_rfl) (fun _ _ _ h => h) (Or.inl ⟨by rfl, ?_⟩) z2.out ?_
  · intro W' hW
    go_simp
  try simp only [Act.put, List.setIfInBounds_toArray, List.set_cons_zero, List.set_cons_succ]
  refine wpAnyH_take (i := 5) (oi := ⟨some 28, _, _, _, _, _⟩) (v := .bool true) rfl (by kernel_rfl) (by kernel_rfl) (by kernel_rfl) (fun _ _ _ h => h) (Or.inl ⟨by rfl, ?_⟩) z2.out ?_
  · intro W' hW
    go_simp
  try simp only [Act.put, List.setIfInBounds_toArray, List.set_cons_zero, List.set_cons_succ]
  refine wpAnyH_take (i := 6) (oi := ⟨some 29, _, _, _, _, _⟩) (v := .agg #[.int .i64 a, .int .u32 b, .int .u32 c]) rfl (by kernel_rfl) (by kernel_rfl) (by kernel_rfl) (fun _ _ _ h => h) (Or.inl ⟨by rfl, ?_⟩) z2.out ?_
  · intro W' hW
    have hf := Zz.all hW
    go_simp
  try simp only [Act.put, List.setIfInBounds_toArray, List.set_cons_zero, List.set_cons_succ]
  refine wpAnyH_take (i := 7) (oi := ⟨some 30, _, _, _, _, _⟩) (v := .agg #[.int .i64 a, .int .u32 b, .int .u32 c]) rfl (by kernel_rfl) (by kernel_rfl) (by kernel_rfl) (fun _ _ _ h => h) (Or.inl ⟨by rfl, ?_⟩) z2.out ?_
  · intro W' hW
    have hf := Zz.all hW
    go_simp
  try simp only [Act.put, List.setIfInBounds_toArray, List.set_cons_zero, List.set_cons_succ]
  refine wpAnyH_take (i := 8) (oi := ⟨some 31, _, _, _, _, _⟩) (v := .bool true) rfl (by kernel_rfl) (by kernel_rfl) (by kernel_rfl) (fun _ _ _ h => h) (Or.inl ⟨by rfl, ?_⟩) z2.out ?_
  · intro W' hW
    go_simp
  try simp only [Act.put, List.setIfInBounds_toArray, List.set_cons_zero, List.set_cons_succ]
  refine wpAnyH_take (i := 9) (oi := ⟨some 32, _, _, _, _, _⟩) (v := .bool true) rfl (by kernel_rfl) (by kernel_rfl) (by kernel_rfl) (fun _ _ _ h => h) (Or.inl ⟨by rfl, ?_⟩) z2.out ?_
  · intro W' hW
    go_simp
  try simp only [Act.put, List.setIfInBounds_toArray, List.set_cons_zero, List.set_cons_succ]
  refine wpAnyH_take (i := 10) (oi := ⟨some 33, _, _, _, _, _⟩) (v := .bool true) rfl (by kernel_rfl) (by kernel_rfl) (by kernel_rfl) (fun _ _ _ h => h) (Or.inl ⟨by rfl, ?_⟩) z2.out ?_
  · intro W' hW
    go_simp
  try simp only [Act.put, List.setIfInBounds_toArray, List.set_cons_zero, List.set_cons_succ]
  refine wpAnyH_take (i := 11) (oi := ⟨some 34, _, _, _, _, _⟩) (v := .int .i64 0) rfl (by kernel_rfl) (by kernel_rfl) (by kernel_rfl) (fun _ _ _ h => h) (Or.inl ⟨by rfl, ?_⟩) z2.out ?_
  · intro W' hW
    go_simp
  try simp only [Act.put, List.setIfInBounds_toArray, List.set_cons_zero, List.set_cons_succ]
  refine wpAnyH_take (i := 12) (oi := ⟨some 35, _, _, _, _, _⟩) (v := .bool true) rfl (by kernel_rfl) (by kernel_rfl) (by kernel_rfl) (fun _ _ _ h => h) (Or.inl ⟨by rfl, ?_⟩) z2.out ?_
  · intro W' hW
    go_simp
  try simp only [Act.put, List.setIfInBounds_toArray, List.set_cons_zero, List.set_cons_succ]
  refine wpAnyH_take (i := 13) (oi := ⟨some 36, _, _, _, _, _⟩) (v := .bool true) rfl (by kernel_rfl) (by kernel_rfl) (by kernel_rfl) (fun _ _ _ h => h) (Or.inl ⟨by rfl, ?_⟩) z2.out ?_
  · intro W' hW
    go_simp
  try simp only [Act.put, List.setIfInBounds_toArray, List.set_cons_zero, List.set_cons_succ]
  refine wpAnyH_take (i := 14) (oi := ⟨some 37, _, _, _, _, _⟩) (v := .bool true) rfl (by kernel_rfl) (by kernel_rfl) (by kernel_rfl) (fun _ _ _ h => h) (Or.inl ⟨by rfl, ?_⟩) z2.out ?_
  · intro W' hW
    go_simp
  try simp only [Act.put, List.setIfInBounds_toArray, List.set_cons_zero, List.set_cons_succ]
  refine wpAnyH_take (i := 15) (oi := ⟨some 38, _, _, _, _, _⟩) (v := .bool true) rfl (by kernel_rfl) (by kernel_rfl) (by kernel_rfl) (fun _ _ _ h => h) (Or.inl ⟨by rfl, ?_⟩) z2.out ?_
  · intro W' hW
    go_simp
  try simp only [Act.put, List.setIfInBounds_toArray, List.set_cons_zero, List.set_cons_succ]
  refine wpAnyH_take (i := 16) (oi := ⟨some 39, _, _, _, _, _⟩) (v := .bool true) rfl (by kernel_rfl) (by kernel_rfl) (by kernel_rfl) (fun _ _ _ h => h) (Or.inl ⟨by rfl, ?_⟩) z2.out ?_
  · intro W' hW
    go_simp
  try simp only [Act.put, List.setIfInBounds_toArray, List.set_cons_zero, List.set_cons_succ]
  refine wpAnyH_take (i := 17) (oi := ⟨some 40, _, _, _, _, _⟩) (v := .bool true) rfl (by kernel_rfl) (by kernel_rfl) (by kernel_rfl) (fun _ _ _ h => h) (Or.inl ⟨by rfl, ?_⟩) z2.out ?_
  · intro W' hW
    go_simp
  try simp only [Act.put, List.setIfInBounds_toArray, List.set_cons_zero, List.set_cons_succ]
  refine wpAnyH_take (i := 18) (oi := ⟨some 41, _, _, _, _, _⟩) (v := .bool true) rfl (by kernel_rfl) (by kernel_rfl) (by kernel_rfl) (fun _ _ _ h => h) (Or.inl ⟨by rfl, ?_⟩) z2.out ?_
  · intro W' hW
    go_simp
  try simp only [Act.put, List.setIfInBounds_toArray, List.set_cons_zero, List.set_cons_succ]
  refine wpAnyH_take (i := 19) (oi := ⟨some 42, _, _, _, _, _⟩) (v := undef) rfl (by kernel_rfl) (by kernel_rfl) (by kernel_rfl) (fun _ _ _ h => h) (Or.inr ⟨by rfl, rfl⟩) z2.out ?_
  try simp only [Act.put, List.setIfInBounds_toArray, List.set_cons_zero, List.set_cons_succ]
  refine wpAnyH_take (i := 20) (oi := ⟨some 43, _, _, _, _, _⟩) (v := undef) rfl (by kernel_rfl) (by kernel_rfl) (by kernel_rfl) (fun _ _ _ h => h) (Or.inr ⟨by rfl, rfl⟩) z2.out ?_
  try simp only [Act.put, List.setIfInBounds_toArray, List.set_cons_zero, List.set_cons_succ]
  refine wpAnyH_take (i := 21) (oi := ⟨some 44, _, _, _, _, _⟩) (v := .bool true) rfl (by kernel_rfl) (by kernel_rfl) (by kernel_rfl) (fun _ _ _ h => h) (Or.inl ⟨by rfl, ?_⟩) z2.out ?_
  · intro W' hW
    go_simp
  try simp only [Act.put, List.setIfInBounds_toArray, List.set_cons_zero, List.set_cons_succ]
  refine wpAnyH_take (i := 22) (oi := ⟨some 45, _, _, _, _, _⟩) (v := .bool true) rfl (by kernel_rfl) (by kernel_rfl) (by kernel_rfl) (fun _ _ _ h => h) (Or.inl ⟨by rfl, ?_⟩) z2.out ?_
  · intro W' hW
    go_simp
  try simp only [Act.put, List.setIfInBounds_toArray, List.set_cons_zero, List.set_cons_succ]
  refine wpAnyH_take (i := 23) (oi := ⟨some 46, _, _, _, _, _⟩) (v := .bool true) rfl (by kernel_rfl) (by kernel_rfl) (by kernel_rfl) (fun _ _ _ h => h) (Or.inl ⟨by rfl, ?_⟩) z2.out ?_
  · intro W' hW
    go_simp
  try simp only [Act.put, List.setIfInBounds_toArray, List.set_cons_zero, List.set_cons_succ]
  refine wpAnyH_ready (rs := [24]) (by kernel_rfl) (by simp) ?_
  refine AllReadyH.cons (o := ⟨some 47, _, _, _, _, _⟩) rfl (fun K hK => ?_) (AllReadyH.nil)
  go_simp
  refine (awake_any w8).mono ?_
  rintro e wk ⟨rfl, hb⟩
  have zk := Lib.hid (Zz.below z2.out hb)
  clear hb
  refine hK.out _ _ zk.out (fun hHeldq => ?_)
  clear hK hHeldq
  try simp only [Act.put, List.setIfInBounds_toArray, List.set_cons_zero, List.set_cons_succ]
  refine wpAnyH_take (i := 25) (oi := ⟨some 48, _, _, _, _, _⟩) (v := .bool true) rfl (by kernel_rfl) (by kernel_rfl) (by kernel_rfl) (fun _ _ _ h => h) (Or.inl ⟨by rfl, ?_⟩) zk.out ?_
  · intro W' hW
    go_simp
  try simp only [Act.put, List.setIfInBounds_toArray, List.set_cons_zero, List.set_cons_succ]
  refine wpAnyH_take (i := 26) (oi := ⟨some 4, _, _, _, _, _⟩) (v := .bool true) rfl (by kernel_rfl) (by kernel_rfl) (by kernel_rfl) (fun _ _ _ h => h) (Or.inl ⟨by rfl, ?_⟩) zk.out ?_
  · intro W' hW
    go_simp
  try simp only [Act.put, List.setIfInBounds_toArray, List.set_cons_zero, List.set_cons_succ]
  refine wpAnyH_done (by kernel_rfl) ?_ _
  go_wp2
  go_ret
  exact ⟨by first | rfl | simp, zk.out.bel⟩
theorem prints_any (v n r : Int) (l : List UInt8) (w : World) (h0 : -9223372036854775808 ≤ v) (h1 : v ≤ 9223372036854775807) (h2 : 0 ≤ n) (h3 : n < 4294967296) (h4 : 0 ≤ r) (h5 : r < 4294967296) (hmax : l.length ≤ 9223372036854775807) (hW : PW w)  :
    Calls Tryd.prog 7 #[wd v n r, .string (bs l)] w fun e w' => e = .returned (.bool true) ∧ Below w.heap.size w w' := by
  by_cases hl : 300 < l.length
  · exact prints_long v n r l w h0 h1 h2 h3 h4 h5 hmax hW hl
  · cases hq : prs l with
    | none => exact prints_none v n r l w h0 h1 h2 h3 h4 h5 hmax hW (by omega) hq
    | some x => obtain ⟨a, b, c⟩ := x; exact prints_some v n r l w h0 h1 h2 h3 h4 h5 hmax hW (by omega) a b c hq
theorem prints_str (x : Int × Int × Int) (s : ByteArray) (w : World) (hx : (-9223372036854775808 ≤ x.1 ∧ x.1 ≤ 9223372036854775807) ∧ (0 ≤ x.2.1 ∧ x.2.1 < 4294967296) ∧ (0 ≤ x.2.2 ∧ x.2.2 < 4294967296)) (hmax : s.size ≤ 9223372036854775807) (hW : PW w) :
    Calls Tryd.prog 7 #[.agg #[.int .i64 x.1, .int .u32 x.2.1, .int .u32 x.2.2], .string s] w fun e w' => e = .returned (.bool true) ∧ Below w.heap.size w w' := by
  have h := prints_any x.1 x.2.1 x.2.2 s.data.toList w hx.1.1 hx.1.2 hx.2.1.1 hx.2.1.2 hx.2.2.1 hx.2.2.2 (by rw [← bs_size, bs_eta]; exact hmax) hW
  rwa [bs_eta] at h
end Go.Proofs.YtkccaadhjodhlaaDoor
