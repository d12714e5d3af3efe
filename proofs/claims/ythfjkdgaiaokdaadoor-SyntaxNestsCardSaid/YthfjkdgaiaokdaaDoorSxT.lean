/- The walk of Expr.text at operators and calls (printed by wip/gensxt.py). Conditions: valid expressions; the library's tables are laid (SxW); at most 100000 parts. -/
import Derived.Test.YthfjkdgaiaokdaaDoorSxR
set_option linter.unusedVariables false
set_option linter.unusedSimpArgs false
namespace Go.Proofs.YthfjkdgaiaokdaaDoor
open Go.RowKit

set_option maxRecDepth 100000 in
set_option maxHeartbeats 12800000 in
theorem text_bin (m : Str) (x y : Ex) (ihx : TextAt x) (ihy : TextAt y) (hm : sgns.contains m = true) (d : Int) (w : World) (S : Nat → Prop) (cs : List Value) (hw : SxW w) (hc : chkE d (Ex.mk 5 0 [] m [x, y] []) = 0) (hz : (Ex.mk 5 0 [] m [x, y] []).size ≤ 100000) (hx : XV w S (Ex.mk 5 0 [] m [x, y] []) cs) :
    Calls Tryd.prog 66 #[.agg cs.toArray] w fun e' w' => e' = .returned (.string (bs (txE (Ex.mk 5 0 [] m [x, y] [])))) ∧ Below w.heap.size w w' := by
  have hb := (Below.refl w.heap.size w).alloc (Nat.le_refl _) (.cells cs.toArray 44)
  obtain ⟨-, -, -, -, -, -, -, hch, -⟩ := chkE_fields hc
  have hcx := hch x (by simp)
  have hcy := hch y (by simp)
  obtain ⟨A, na, ca, O, no, co, rfl, hA, -⟩ := hx.open_
  obtain ⟨rfl, b, q, cs, ds, rfl, hbl, hxv, hrow, hyv, hrowy⟩ := hA.two_
  rw [Ex.size, Ex.sizes, Ex.sizes, Ex.sizes] at hz
  have hlx := par_len x (txE x)
  have hly := par_len y (txE y)
  have hl1 := txE_len x _ hcx hxv.wd
  have hl2 := txE_len y _ hcy hyv.wd
  have hl3 := sgn_len hm
  obtain ⟨T, hT⟩ : ∃ T, T = txE (Ex.mk 5 0 [] m [x, y] []) := ⟨_, rfl⟩
  rw [← hT]
  rw [txE, if_neg (by decide), if_neg (by decide), if_neg (by decide), if_neg (by decide), if_neg (by decide), if_pos rfl] at hT
  change T = opE x ++ ([32] : Str) ++ m ++ [32] ++ opE y at hT
  change (opE x).length ≤ _ at hlx
  change (opE y).length ≤ _ at hly
  have HOX := operAt_of ihx
  have HOY := operAt_of ihy
  unfold OperAt at HOX HOY
  obtain ⟨t, ht⟩ : ∃ t, t = opE x := ⟨_, rfl⟩
  obtain ⟨u, hu⟩ : ∃ u, u = opE y := ⟨_, rfl⟩
  rw [← ht] at HOX hlx hT
  rw [← hu] at HOY hly hT
  obtain ⟨c1, hc1⟩ : ∃ c, c = t ++ ([32] : Str) := ⟨_, rfl⟩
  have lc1 : c1.length = t.length + 1 := by rw [hc1]; exact List.length_append
  have jc1 : ∀ w, (Op.stringOp .add (bs t) (⟨#[32]⟩ : ByteArray)).run Tryd.prog w = .ok (.string (bs c1)) w := fun w => by rw [hc1]; exact add_big t ([32] : Str) (by first | omega | (simp; omega)) w
  obtain ⟨c2, hc2⟩ : ∃ c, c = c1 ++ m := ⟨_, rfl⟩
  have lc2 : c2.length = c1.length + m.length := by rw [hc2]; exact List.length_append
  have jc2 : ∀ w, (Op.stringOp .add (bs c1) (bs m)).run Tryd.prog w = .ok (.string (bs c2)) w := fun w => by rw [hc2]; exact add_big c1 m (by first | omega | (simp; omega)) w
  obtain ⟨c3, hc3⟩ : ∃ c, c = c2 ++ ([32] : Str) := ⟨_, rfl⟩
  have lc3 : c3.length = c2.length + 1 := by rw [hc3]; exact List.length_append
  have jc3 : ∀ w, (Op.stringOp .add (bs c2) (⟨#[32]⟩ : ByteArray)).run Tryd.prog w = .ok (.string (bs c3)) w := fun w => by rw [hc3]; exact add_big c2 ([32] : Str) (by first | omega | (simp; omega)) w
  obtain ⟨c4, hc4⟩ : ∃ c, c = c3 ++ u := ⟨_, rfl⟩
  have lc4 : c4.length = c3.length + u.length := by rw [hc4]; exact List.length_append
  have jc4 : ∀ w, (Op.stringOp .add (bs c3) (bs u)).run Tryd.prog w = .ok (.string (bs c4)) w := fun w => by rw [hc4]; exact add_big c3 u (by first | omega | (simp; omega)) w
  have HFN := Lib.hid (show c4 = T from by rw [hT, hc4, hc3, hc2, hc1])
  clear hT hc1 lc1 hc2 lc2 hc3 lc3 hc4 lc4 hlx hly hl1 hl2 hl3 hm ht hu hch
  obtain ⟨W0, hW0⟩ : ∃ W0 : World, W0 = w.alloc (.cells (exC 5 0 [] m (some ⟨b, q, none⟩) 2 ca O no co).toArray 44) := ⟨_, rfl⟩
  rw [← hW0] at hb
  have HWB := Lib.hid (show ∀ W, Bz W0 W → Below w.heap.size w W from fun W h => hb.trans (h.b.mono hb.size))
  have HT1 := Lib.hid (show ∀ W, Bz W0 W → Calls Tryd.prog 82 #[.agg cs.toArray] W fun e' w' => e' = .returned (.string (bs t)) ∧ Below W.heap.size W w' from fun W h => HOX (d + 1) W S cs (hw.below (HWB.out W h)) hcx (by omega) (hxv.below (HWB.out W h)))
  have HT2 := Lib.hid (show ∀ W, Bz W0 W → Calls Tryd.prog 82 #[.agg ds.toArray] W fun e' w' => e' = .returned (.string (bs u)) ∧ Below W.heap.size W w' from fun W h => HOY (d + 1) W S ds (hw.below (HWB.out W h)) hcy (by omega) (hyv.below (HWB.out W h)))
  obtain ⟨xk, xn, xs, xm, xa, xo⟩ := x
  obtain ⟨yk, yn, ys, ym, ya, yo⟩ := y
  obtain ⟨A2, na2, ca2, O2, no2, co2, rfl, -, -⟩ := hxv.open_
  obtain ⟨A3, na3, ca3, O3, no3, co3, rfl, -, -⟩ := hyv.open_
  have HSC := Lib.hid (show ∀ W, Bz W0 W → (W.cell? ⟨w.heap.size, 3, none⟩ = some (.string (bs m)) ∧ W.cell? ⟨w.heap.size, 4, none⟩ = some (.slice (some ⟨b, q, none⟩) 2 ca) ∧ W.cell? ⟨b, q, none⟩ = some (.int .i64 xk) ∧ W.cell? ⟨b, q + 1, none⟩ = some (.int .i64 xn) ∧ W.cell? ⟨b, q + 2, none⟩ = some (.string (bs xs)) ∧ W.cell? ⟨b, q + 3, none⟩ = some (.string (bs xm)) ∧ W.cell? ⟨b, q + 4, none⟩ = some (.slice A2 na2 ca2) ∧ W.cell? ⟨b, q + 5, none⟩ = some (.slice O2 no2 co2) ∧ W.cell? ⟨b, q + 6, none⟩ = some (.int .i64 yk) ∧ W.cell? ⟨b, q + 7, none⟩ = some (.int .i64 yn) ∧ W.cell? ⟨b, q + 8, none⟩ = some (.string (bs ys)) ∧ W.cell? ⟨b, q + 9, none⟩ = some (.string (bs ym)) ∧ W.cell? ⟨b, q + 10, none⟩ = some (.slice A3 na3 ca3) ∧ W.cell? ⟨b, q + 11, none⟩ = some (.slice O3 no3 co3)) from fun W h => by
    obtain ⟨e0, e1, e2, e3, e4, e5⟩ := exC_at (rangeAt_keep hrow ((HWB.out W h).block b hbl))
    obtain ⟨f0, f1, f2, f3, f4, f5⟩ := exC_at (rangeAt_keep hrowy ((HWB.out W h).block b hbl))
    subst hW0
    have hn := heap_alloc_new w (.cells (exC 5 0 [] m (some ⟨b, q, none⟩) 2 ca O no co).toArray 44)
    exact ⟨cell_of_Bz h (by rw [cell_of_row _ _ _ _ _ _ hn]; rfl) (lt_of_block hn), cell_of_Bz h (by rw [cell_of_row _ _ _ _ _ _ hn]; rfl) (lt_of_block hn), e0, e1, e2, e3, e4, e5, f0, f1, f2, f3, f4, f5⟩)
  clear HOX HOY hcx hcy hc hz hx hA hw hxv hyv hrow hrowy hbl hb
  unfold exC at HT1 HT2 hW0
  unfold exC
  go_enter Tryd.func66, Tryd.ntmps66
  go_upto_region 13 with fail
  rw [← hW0]
  clear hW0
  have z0 : Bz W0 W0 := ⟨Below.refl _ _⟩
  have z1 := z0.drew
  go_region_held3 (fun W => (W.cell? ⟨w.heap.size, 3, none⟩ = some (.string (bs m)) ∧ W.cell? ⟨w.heap.size, 4, none⟩ = some (.slice (some ⟨b, q, none⟩) 2 ca) ∧ W.cell? ⟨b, q, none⟩ = some (.int .i64 xk) ∧ W.cell? ⟨b, q + 1, none⟩ = some (.int .i64 xn) ∧ W.cell? ⟨b, q + 2, none⟩ = some (.string (bs xs)) ∧ W.cell? ⟨b, q + 3, none⟩ = some (.string (bs xm)) ∧ W.cell? ⟨b, q + 4, none⟩ = some (.slice A2 na2 ca2) ∧ W.cell? ⟨b, q + 5, none⟩ = some (.slice O2 no2 co2) ∧ W.cell? ⟨b, q + 6, none⟩ = some (.int .i64 yk) ∧ W.cell? ⟨b, q + 7, none⟩ = some (.int .i64 yn) ∧ W.cell? ⟨b, q + 8, none⟩ = some (.string (bs ys)) ∧ W.cell? ⟨b, q + 9, none⟩ = some (.string (bs ym)) ∧ W.cell? ⟨b, q + 10, none⟩ = some (.slice A3 na3 ca3) ∧ W.cell? ⟨b, q + 11, none⟩ = some (.slice O3 no3 co3))) (exact HSC.out _ (by assumption)) (first
    | (go_at_call 82; with_reducible refine (HT1.out _ (by assumption)).mono ?_; rintro e wt ⟨rfl, hb⟩; have zt := Bz.next (by assumption) hb; clear hb)
    | (go_at_call 82; with_reducible refine (HT2.out _ (by assumption)).mono ?_; rintro e ws ⟨rfl, hb⟩; have zs := Bz.next (by assumption) hb; clear hb))
  all_goals
    go_wp2
    go_ret
    exact ⟨congrArg (fun x => Ending.returned (.string (bs x))) HFN.out, HWB.out _ (by assumption)⟩
set_option maxRecDepth 100000 in
set_option maxHeartbeats 12800000 in
theorem text_host (s : Str) (a : List Ex) (ih : ListAt a) (hs : nameOk s = true) (d : Int) (w : World) (S : Nat → Prop) (cs : List Value) (hw : SxW w) (hc : chkE d (Ex.mk 7 0 s [] a []) = 0) (hz : (Ex.mk 7 0 s [] a []).size ≤ 100000) (hx : XV w S (Ex.mk 7 0 s [] a []) cs) :
    Calls Tryd.prog 66 #[.agg cs.toArray] w fun e' w' => e' = .returned (.string (bs (txE (Ex.mk 7 0 s [] a [])))) ∧ Below w.heap.size w w' := by
  have hb := (Below.refl w.heap.size w).alloc (Nat.le_refl _) (.cells cs.toArray 44)
  obtain ⟨-, -, -, -, -, -, -, hch, hco⟩ := chkE_fields hc
  obtain ⟨A, na, ca, O, no, co, rfl, hA, hO⟩ := hx.open_
  rw [Ex.size] at hz
  have hl1 := texts_len hch hA.wds (by omega)
  have hla := Ex.len_sizes a
  have hl3 := name_len hs
  obtain ⟨T, hT⟩ : ∃ T, T = txE (Ex.mk 7 0 s [] a []) := ⟨_, rfl⟩
  rw [← hT]
  rw [txE, if_neg (by decide), if_neg (by decide), if_neg (by decide), if_neg (by decide), if_neg (by decide), if_neg (by decide), if_pos rfl, txEs_map] at hT
  unfold ListAt at ih
  obtain ⟨t, ht⟩ : ∃ t, t = Lib.join (a.map txE) [44, 32] := ⟨_, rfl⟩
  rw [← ht] at ih hl1 hT
  obtain ⟨c1, hc1⟩ : ∃ c, c = ([104, 111, 115, 116, 46] : Str) ++ s := ⟨_, rfl⟩
  have lc1 : c1.length = 5 + s.length := by rw [hc1]; exact List.length_append
  have jc1 : ∀ w, (Op.stringOp .add (⟨#[104, 111, 115, 116, 46]⟩ : ByteArray) (bs s)).run Tryd.prog w = .ok (.string (bs c1)) w := fun w => by rw [hc1]; exact add_big ([104, 111, 115, 116, 46] : Str) s (by first | omega | (simp; omega)) w
  obtain ⟨c2, hc2⟩ : ∃ c, c = c1 ++ ([40] : Str) := ⟨_, rfl⟩
  have lc2 : c2.length = c1.length + 1 := by rw [hc2]; exact List.length_append
  have jc2 : ∀ w, (Op.stringOp .add (bs c1) (⟨#[40]⟩ : ByteArray)).run Tryd.prog w = .ok (.string (bs c2)) w := fun w => by rw [hc2]; exact add_big c1 ([40] : Str) (by first | omega | (simp; omega)) w
  obtain ⟨c3, hc3⟩ : ∃ c, c = c2 ++ t := ⟨_, rfl⟩
  have lc3 : c3.length = c2.length + t.length := by rw [hc3]; exact List.length_append
  have jc3 : ∀ w, (Op.stringOp .add (bs c2) (bs t)).run Tryd.prog w = .ok (.string (bs c3)) w := fun w => by rw [hc3]; exact add_big c2 t (by first | omega | (simp; omega)) w
  obtain ⟨c4, hc4⟩ : ∃ c, c = c3 ++ ([41] : Str) := ⟨_, rfl⟩
  have lc4 : c4.length = c3.length + 1 := by rw [hc4]; exact List.length_append
  have jc4 : ∀ w, (Op.stringOp .add (bs c3) (⟨#[41]⟩ : ByteArray)).run Tryd.prog w = .ok (.string (bs c4)) w := fun w => by rw [hc4]; exact add_big c3 ([41] : Str) (by first | omega | (simp; omega)) w
  have HFN := Lib.hid (show c4 = T from by rw [hT, hc4, hc3, hc2, hc1])
  clear hT hc1 lc1 hc2 lc2 hc3 lc3 hc4 lc4 hl1 hla hl3 hs ht
  obtain ⟨W0, hW0⟩ : ∃ W0 : World, W0 = w.alloc (.cells (exC 7 0 s [] A na ca O no co).toArray 44) := ⟨_, rfl⟩
  rw [← hW0] at hb
  have HWB := Lib.hid (show ∀ W, Bz W0 W → Below w.heap.size w W from fun W h => hb.trans (h.b.mono hb.size))
  have HT1 := Lib.hid (show ∀ W, Bz W0 W → Calls Tryd.prog 83 #[.slice A na ca] W fun e' w' => e' = .returned (.string (bs t)) ∧ Below W.heap.size W w' from fun W h => ih (d + 1) W S A na ca (hw.below (HWB.out W h)) hch (by omega) (hA.below (HWB.out W h)))
  have HSC := Lib.hid (show ∀ W, Bz W0 W → (W.cell? ⟨w.heap.size, 2, none⟩ = some (.string (bs s)) ∧ W.cell? ⟨w.heap.size, 3, none⟩ = some (.string (bs [])) ∧ W.cell? ⟨w.heap.size, 4, none⟩ = some (.slice A na ca) ∧ W.cell? ⟨w.heap.size, 5, none⟩ = some (.slice O no co)) from fun W h => by
    subst hW0
    have hn := heap_alloc_new w (.cells (exC 7 0 s [] A na ca O no co).toArray 44)
    exact ⟨cell_of_Bz h (by rw [cell_of_row _ _ _ _ _ _ hn]; rfl) (lt_of_block hn), cell_of_Bz h (by rw [cell_of_row _ _ _ _ _ _ hn]; rfl) (lt_of_block hn), cell_of_Bz h (by rw [cell_of_row _ _ _ _ _ _ hn]; rfl) (lt_of_block hn), cell_of_Bz h (by rw [cell_of_row _ _ _ _ _ _ hn]; rfl) (lt_of_block hn)⟩)
  clear ih hch hco hc hz hx hA hO hw hb
  unfold exC at hW0
  unfold exC
  go_enter Tryd.func66, Tryd.ntmps66
  go_upto_region 15 with fail
  rw [← hW0]
  clear hW0
  have z0 : Bz W0 W0 := ⟨Below.refl _ _⟩
  have z1 := z0.drew
  go_region_held3 (fun W => (W.cell? ⟨w.heap.size, 2, none⟩ = some (.string (bs s)) ∧ W.cell? ⟨w.heap.size, 3, none⟩ = some (.string (bs [])) ∧ W.cell? ⟨w.heap.size, 4, none⟩ = some (.slice A na ca) ∧ W.cell? ⟨w.heap.size, 5, none⟩ = some (.slice O no co))) (exact HSC.out _ (by assumption)) (
    (go_at_call 83; with_reducible refine (HT1.out _ (by assumption)).mono ?_; rintro e wt ⟨rfl, hb⟩; have zt := Bz.next (by assumption) hb; clear hb))
  all_goals
    go_wp2
    go_ret
    exact ⟨congrArg (fun x => Ending.returned (.string (bs x))) HFN.out, HWB.out _ (by assumption)⟩
set_option maxRecDepth 100000 in
set_option maxHeartbeats 12800000 in
theorem text_call (s m : Str) (a : List Ex) (ih : ListAt a) (hs : nameOk s = true) (hm : nameOk m = true) (d : Int) (w : World) (S : Nat → Prop) (cs : List Value) (hw : SxW w) (hc : chkE d (Ex.mk 6 0 s m a []) = 0) (hz : (Ex.mk 6 0 s m a []).size ≤ 100000) (hx : XV w S (Ex.mk 6 0 s m a []) cs) :
    Calls Tryd.prog 66 #[.agg cs.toArray] w fun e' w' => e' = .returned (.string (bs (txE (Ex.mk 6 0 s m a [])))) ∧ Below w.heap.size w w' := by
  have hb := (Below.refl w.heap.size w).alloc (Nat.le_refl _) (.cells cs.toArray 44)
  obtain ⟨-, -, -, -, -, -, -, hch, hco⟩ := chkE_fields hc
  obtain ⟨A, na, ca, O, no, co, rfl, hA, hO⟩ := hx.open_
  rw [Ex.size] at hz
  have hl1 := texts_len hch hA.wds (by omega)
  have hla := Ex.len_sizes a
  have hl3 := name_len hs
  have hl4 := name_len hm
  obtain rfl : no = 0 := hO.1.1
  obtain ⟨T, hT⟩ : ∃ T, T = txE (Ex.mk 6 0 s m a []) := ⟨_, rfl⟩
  rw [← hT]
  rw [txE, if_neg (by decide), if_neg (by decide), if_neg (by decide), if_neg (by decide), if_neg (by decide), if_neg (by decide), if_neg (by decide), txEs_map] at hT
  rw [if_pos (show ([] : List Ex).length = 0 from rfl), List.append_nil] at hT
  unfold ListAt at ih
  obtain ⟨t, ht⟩ : ∃ t, t = Lib.join (a.map txE) [44, 32] := ⟨_, rfl⟩
  rw [← ht] at ih hl1 hT
  obtain ⟨c1, hc1⟩ : ∃ c, c = s ++ ([46] : Str) := ⟨_, rfl⟩
  have lc1 : c1.length = s.length + 1 := by rw [hc1]; exact List.length_append
  have jc1 : ∀ w, (Op.stringOp .add (bs s) (⟨#[46]⟩ : ByteArray)).run Tryd.prog w = .ok (.string (bs c1)) w := fun w => by rw [hc1]; exact add_big s ([46] : Str) (by first | omega | (simp; omega)) w
  obtain ⟨c2, hc2⟩ : ∃ c, c = c1 ++ m := ⟨_, rfl⟩
  have lc2 : c2.length = c1.length + m.length := by rw [hc2]; exact List.length_append
  have jc2 : ∀ w, (Op.stringOp .add (bs c1) (bs m)).run Tryd.prog w = .ok (.string (bs c2)) w := fun w => by rw [hc2]; exact add_big c1 m (by first | omega | (simp; omega)) w
  obtain ⟨c3, hc3⟩ : ∃ c, c = c2 ++ ([40] : Str) := ⟨_, rfl⟩
  have lc3 : c3.length = c2.length + 1 := by rw [hc3]; exact List.length_append
  have jc3 : ∀ w, (Op.stringOp .add (bs c2) (⟨#[40]⟩ : ByteArray)).run Tryd.prog w = .ok (.string (bs c3)) w := fun w => by rw [hc3]; exact add_big c2 ([40] : Str) (by first | omega | (simp; omega)) w
  obtain ⟨c4, hc4⟩ : ∃ c, c = c3 ++ t := ⟨_, rfl⟩
  have lc4 : c4.length = c3.length + t.length := by rw [hc4]; exact List.length_append
  have jc4 : ∀ w, (Op.stringOp .add (bs c3) (bs t)).run Tryd.prog w = .ok (.string (bs c4)) w := fun w => by rw [hc4]; exact add_big c3 t (by first | omega | (simp; omega)) w
  obtain ⟨c5, hc5⟩ : ∃ c, c = c4 ++ ([41] : Str) := ⟨_, rfl⟩
  have lc5 : c5.length = c4.length + 1 := by rw [hc5]; exact List.length_append
  have jc5 : ∀ w, (Op.stringOp .add (bs c4) (⟨#[41]⟩ : ByteArray)).run Tryd.prog w = .ok (.string (bs c5)) w := fun w => by rw [hc5]; exact add_big c4 ([41] : Str) (by first | omega | (simp; omega)) w
  have HFN := Lib.hid (show c5 = T from by rw [hT, hc5, hc4, hc3, hc2, hc1])
  clear hT hc1 lc1 hc2 lc2 hc3 lc3 hc4 lc4 hc5 lc5 hl1 hla hl3 hl4 hs hm ht
  obtain ⟨W0, hW0⟩ : ∃ W0 : World, W0 = w.alloc (.cells (exC 6 0 s m A na ca O 0 co).toArray 44) := ⟨_, rfl⟩
  rw [← hW0] at hb
  have HWB := Lib.hid (show ∀ W, Bz W0 W → Below w.heap.size w W from fun W h => hb.trans (h.b.mono hb.size))
  have HT1 := Lib.hid (show ∀ W, Bz W0 W → Calls Tryd.prog 83 #[.slice A na ca] W fun e' w' => e' = .returned (.string (bs t)) ∧ Below W.heap.size W w' from fun W h => ih (d + 1) W S A na ca (hw.below (HWB.out W h)) hch (by omega) (hA.below (HWB.out W h)))
  have HSC := Lib.hid (show ∀ W, Bz W0 W → (W.cell? ⟨w.heap.size, 2, none⟩ = some (.string (bs s)) ∧ W.cell? ⟨w.heap.size, 3, none⟩ = some (.string (bs m)) ∧ W.cell? ⟨w.heap.size, 4, none⟩ = some (.slice A na ca) ∧ W.cell? ⟨w.heap.size, 5, none⟩ = some (.slice O 0 co)) from fun W h => by
    subst hW0
    have hn := heap_alloc_new w (.cells (exC 6 0 s m A na ca O 0 co).toArray 44)
    exact ⟨cell_of_Bz h (by rw [cell_of_row _ _ _ _ _ _ hn]; rfl) (lt_of_block hn), cell_of_Bz h (by rw [cell_of_row _ _ _ _ _ _ hn]; rfl) (lt_of_block hn), cell_of_Bz h (by rw [cell_of_row _ _ _ _ _ _ hn]; rfl) (lt_of_block hn), cell_of_Bz h (by rw [cell_of_row _ _ _ _ _ _ hn]; rfl) (lt_of_block hn)⟩)
  clear ih hch hco hc hz hx hA hO hw hb
  unfold exC at hW0
  unfold exC
  go_enter Tryd.func66, Tryd.ntmps66
  go_upto_region 16 with fail
  rw [← hW0]
  clear hW0
  have z0 : Bz W0 W0 := ⟨Below.refl _ _⟩
  have z1 := z0.drew
  go_region_held3 (fun W => (W.cell? ⟨w.heap.size, 2, none⟩ = some (.string (bs s)) ∧ W.cell? ⟨w.heap.size, 3, none⟩ = some (.string (bs m)) ∧ W.cell? ⟨w.heap.size, 4, none⟩ = some (.slice A na ca) ∧ W.cell? ⟨w.heap.size, 5, none⟩ = some (.slice O 0 co))) (exact HSC.out _ (by assumption)) (
    (go_at_call 83; with_reducible refine (HT1.out _ (by assumption)).mono ?_; rintro e wt ⟨rfl, hb⟩; have zt := Bz.next (by assumption) hb; clear hb))
  all_goals
    obtain ⟨g2, g3, g4, g5⟩ := HSC.out _ (by assumption)
    go_wp2
    go_ret
    exact ⟨congrArg (fun x => Ending.returned (.string (bs x))) HFN.out, HWB.out _ (by assumption)⟩
set_option maxRecDepth 100000 in
set_option maxHeartbeats 12800000 in
theorem text_else (s m : Str) (a : List Ex) (x : Ex) (ih : ListAt a) (ihx : TextAt x) (hs : nameOk s = true) (hm : nameOk m = true) (d : Int) (w : World) (S : Nat → Prop) (cs : List Value) (hw : SxW w) (hc : chkE d (Ex.mk 6 0 s m a [x]) = 0) (hz : (Ex.mk 6 0 s m a [x]).size ≤ 100000) (hx : XV w S (Ex.mk 6 0 s m a [x]) cs) :
    Calls Tryd.prog 66 #[.agg cs.toArray] w fun e' w' => e' = .returned (.string (bs (txE (Ex.mk 6 0 s m a [x])))) ∧ Below w.heap.size w w' := by
  have hb := (Below.refl w.heap.size w).alloc (Nat.le_refl _) (.cells cs.toArray 44)
  obtain ⟨-, -, -, -, -, -, -, hch, hco⟩ := chkE_fields hc
  obtain ⟨A, na, ca, O, no, co, rfl, hA, hO⟩ := hx.open_
  rw [Ex.size] at hz
  have hl1 := texts_len hch hA.wds (by omega)
  have hla := Ex.len_sizes a
  have hl3 := name_len hs
  have hl4 := name_len hm
  obtain ⟨rfl, b, q, xc, rfl, hbl, hxv, hrow⟩ := hO.one_
  have hcx := hco x (by simp)
  rw [Ex.sizes, Ex.sizes] at hz
  have hlx := par_len x (txE x)
  have hl5 := txE_len x _ hcx hxv.wd
  change (opE x).length ≤ _ at hlx
  have HOX := operAt_of ihx
  unfold OperAt at HOX
  obtain ⟨T, hT⟩ : ∃ T, T = txE (Ex.mk 6 0 s m a [x]) := ⟨_, rfl⟩
  rw [← hT]
  rw [txE, if_neg (by decide), if_neg (by decide), if_neg (by decide), if_neg (by decide), if_neg (by decide), if_neg (by decide), if_neg (by decide), txEs_map] at hT
  change T = s ++ [46] ++ m ++ [40] ++ Lib.join (a.map txE) [44, 32] ++ [41] ++ ([32, 101, 108, 115, 101, 32] ++ opE x) at hT
  unfold ListAt at ih
  obtain ⟨t, ht⟩ : ∃ t, t = Lib.join (a.map txE) [44, 32] := ⟨_, rfl⟩
  rw [← ht] at ih hl1 hT
  obtain ⟨u, hu⟩ : ∃ u, u = opE x := ⟨_, rfl⟩
  rw [← hu] at HOX hlx hT
  obtain ⟨c1, hc1⟩ : ∃ c, c = s ++ ([46] : Str) := ⟨_, rfl⟩
  have lc1 : c1.length = s.length + 1 := by rw [hc1]; exact List.length_append
  have jc1 : ∀ w, (Op.stringOp .add (bs s) (⟨#[46]⟩ : ByteArray)).run Tryd.prog w = .ok (.string (bs c1)) w := fun w => by rw [hc1]; exact add_big s ([46] : Str) (by first | omega | (simp; omega)) w
  obtain ⟨c2, hc2⟩ : ∃ c, c = c1 ++ m := ⟨_, rfl⟩
  have lc2 : c2.length = c1.length + m.length := by rw [hc2]; exact List.length_append
  have jc2 : ∀ w, (Op.stringOp .add (bs c1) (bs m)).run Tryd.prog w = .ok (.string (bs c2)) w := fun w => by rw [hc2]; exact add_big c1 m (by first | omega | (simp; omega)) w
  obtain ⟨c3, hc3⟩ : ∃ c, c = c2 ++ ([40] : Str) := ⟨_, rfl⟩
  have lc3 : c3.length = c2.length + 1 := by rw [hc3]; exact List.length_append
  have jc3 : ∀ w, (Op.stringOp .add (bs c2) (⟨#[40]⟩ : ByteArray)).run Tryd.prog w = .ok (.string (bs c3)) w := fun w => by rw [hc3]; exact add_big c2 ([40] : Str) (by first | omega | (simp; omega)) w
  obtain ⟨c4, hc4⟩ : ∃ c, c = c3 ++ t := ⟨_, rfl⟩
  have lc4 : c4.length = c3.length + t.length := by rw [hc4]; exact List.length_append
  have jc4 : ∀ w, (Op.stringOp .add (bs c3) (bs t)).run Tryd.prog w = .ok (.string (bs c4)) w := fun w => by rw [hc4]; exact add_big c3 t (by first | omega | (simp; omega)) w
  obtain ⟨c5, hc5⟩ : ∃ c, c = c4 ++ ([41] : Str) := ⟨_, rfl⟩
  have lc5 : c5.length = c4.length + 1 := by rw [hc5]; exact List.length_append
  have jc5 : ∀ w, (Op.stringOp .add (bs c4) (⟨#[41]⟩ : ByteArray)).run Tryd.prog w = .ok (.string (bs c5)) w := fun w => by rw [hc5]; exact add_big c4 ([41] : Str) (by first | omega | (simp; omega)) w
  obtain ⟨g1, hg1⟩ : ∃ c, c = ([32, 101, 108, 115, 101, 32] : Str) ++ u := ⟨_, rfl⟩
  have lg1 : g1.length = 6 + u.length := by rw [hg1]; exact List.length_append
  have jg1 : ∀ w, (Op.stringOp .add (⟨#[32, 101, 108, 115, 101, 32]⟩ : ByteArray) (bs u)).run Tryd.prog w = .ok (.string (bs g1)) w := fun w => by rw [hg1]; exact add_big ([32, 101, 108, 115, 101, 32] : Str) u (by first | omega | (simp; omega)) w
  obtain ⟨k1, hk1⟩ : ∃ c, c = c5 ++ g1 := ⟨_, rfl⟩
  have lk1 : k1.length = c5.length + g1.length := by rw [hk1]; exact List.length_append
  have jk1 : ∀ w, (Op.stringOp .add (bs c5) (bs g1)).run Tryd.prog w = .ok (.string (bs k1)) w := fun w => by rw [hk1]; exact add_big c5 g1 (by first | omega | (simp; omega)) w
  have HFN := Lib.hid (show k1 = T from by rw [hT, hk1, hg1, hc5, hc4, hc3, hc2, hc1])
  clear hT hc1 lc1 hc2 lc2 hc3 lc3 hc4 lc4 hc5 lc5 hg1 lg1 hk1 lk1 hl1 hla hl3 hl4 hs hm ht hlx hl5 hu
  obtain ⟨W0, hW0⟩ : ∃ W0 : World, W0 = w.alloc (.cells (exC 6 0 s m A na ca (some ⟨b, q, none⟩) 1 co).toArray 44) := ⟨_, rfl⟩
  rw [← hW0] at hb
  have HWB := Lib.hid (show ∀ W, Bz W0 W → Below w.heap.size w W from fun W h => hb.trans (h.b.mono hb.size))
  have HT1 := Lib.hid (show ∀ W, Bz W0 W → Calls Tryd.prog 83 #[.slice A na ca] W fun e' w' => e' = .returned (.string (bs t)) ∧ Below W.heap.size W w' from fun W h => ih (d + 1) W S A na ca (hw.below (HWB.out W h)) hch (by omega) (hA.below (HWB.out W h)))
  have HT2 := Lib.hid (show ∀ W, Bz W0 W → Calls Tryd.prog 82 #[.agg xc.toArray] W fun e' w' => e' = .returned (.string (bs u)) ∧ Below W.heap.size W w' from fun W h => HOX (d + 1) W S xc (hw.below (HWB.out W h)) hcx (by omega) (hxv.below (HWB.out W h)))
  obtain ⟨xk, xn, xs, xm, xa, xo⟩ := x
  obtain ⟨A2, na2, ca2, O2, no2, co2, rfl, -, -⟩ := hxv.open_
  have HXC := Lib.hid (show ∀ W, Bz W0 W → (W.cell? ⟨b, q, none⟩ = some (.int .i64 xk) ∧ W.cell? ⟨b, q + 1, none⟩ = some (.int .i64 xn) ∧ W.cell? ⟨b, q + 2, none⟩ = some (.string (bs xs)) ∧ W.cell? ⟨b, q + 3, none⟩ = some (.string (bs xm)) ∧ W.cell? ⟨b, q + 4, none⟩ = some (.slice A2 na2 ca2) ∧ W.cell? ⟨b, q + 5, none⟩ = some (.slice O2 no2 co2)) from fun W h => exC_at (rangeAt_keep hrow ((HWB.out W h).block b hbl)))
  unfold exC at HT2
  have HSC := Lib.hid (show ∀ W, Bz W0 W → (W.cell? ⟨w.heap.size, 2, none⟩ = some (.string (bs s)) ∧ W.cell? ⟨w.heap.size, 3, none⟩ = some (.string (bs m)) ∧ W.cell? ⟨w.heap.size, 4, none⟩ = some (.slice A na ca) ∧ W.cell? ⟨w.heap.size, 5, none⟩ = some (.slice (some ⟨b, q, none⟩) 1 co)) from fun W h => by
    subst hW0
    have hn := heap_alloc_new w (.cells (exC 6 0 s m A na ca (some ⟨b, q, none⟩) 1 co).toArray 44)
    exact ⟨cell_of_Bz h (by rw [cell_of_row _ _ _ _ _ _ hn]; rfl) (lt_of_block hn), cell_of_Bz h (by rw [cell_of_row _ _ _ _ _ _ hn]; rfl) (lt_of_block hn), cell_of_Bz h (by rw [cell_of_row _ _ _ _ _ _ hn]; rfl) (lt_of_block hn), cell_of_Bz h (by rw [cell_of_row _ _ _ _ _ _ hn]; rfl) (lt_of_block hn)⟩)
  clear ih hch hco hc hz hx hA hO hw hb HOX hcx hxv hrow hbl
  unfold exC at hW0
  unfold exC
  go_enter Tryd.func66, Tryd.ntmps66
  go_upto_region 16 with fail
  rw [← hW0]
  clear hW0
  have z0 : Bz W0 W0 := ⟨Below.refl _ _⟩
  have z1 := z0.drew
  go_region_held3 (fun W => (W.cell? ⟨w.heap.size, 2, none⟩ = some (.string (bs s)) ∧ W.cell? ⟨w.heap.size, 3, none⟩ = some (.string (bs m)) ∧ W.cell? ⟨w.heap.size, 4, none⟩ = some (.slice A na ca) ∧ W.cell? ⟨w.heap.size, 5, none⟩ = some (.slice (some ⟨b, q, none⟩) 1 co))) (exact HSC.out _ (by assumption)) (
    (go_at_call 83; with_reducible refine (HT1.out _ (by assumption)).mono ?_; rintro e wt ⟨rfl, hb⟩; have zt := Bz.next (by assumption) hb; clear hb))
  all_goals
    obtain ⟨e0, e1, e2, e3, e4, e5⟩ := HXC.out _ (by assumption)
    obtain ⟨g2, g3, g4, g5⟩ := HSC.out _ (by assumption)
    go_wp2_with fail
    refine (HT2.out _ (by assumption)).mono ?_
    rintro e ws ⟨rfl, hb⟩
    have zs := Bz.next (by assumption) hb
    clear hb e0 e1 e2 e3 e4 e5 g2 g3 g4 g5
    go_wp2
    go_ret
    exact ⟨congrArg (fun x => Ending.returned (.string (bs x))) HFN.out, HWB.out _ (by assumption)⟩
theorem textAt_any (e : Ex) : TextAt e := by
  obtain ⟨N, hN⟩ : ∃ N, N = e.size := ⟨_, rfl⟩
  induction N using Nat.strongRecOn generalizing e with
  | _ N ih =>
    intro d w S cs hw hc hz hx
    have key : ∀ x : Ex, x.size < e.size → TextAt x := fun x hlt => ih x.size (by omega) x rfl
    clear ih hN
    rcases (shape_of hc).1 with ⟨n, hn⟩ | ⟨n, hn⟩ | ⟨s, hs⟩ | ⟨x, hcx⟩ | ⟨x, hcx⟩ | ⟨m, x, y, hm, h1, h2⟩ | ⟨s, m, a, o, hs, hm, ha, h1, ho, h2⟩ | ⟨s, a, hs, ha, h1⟩
    · exact text_num n d w S cs hw hc hz hx
    · exact text_bool n d w S cs hw hc hz hx
    · exact text_var s d w S cs hw hc hz hx
    · exact text_not x (key x (by rw [Ex.size, Ex.sizes, Ex.sizes]; omega)) d w S cs hw hc hz hx
    · exact text_neg x (key x (by rw [Ex.size, Ex.sizes, Ex.sizes]; omega)) d w S cs hw hc hz hx
    · exact text_bin m x y (key x (by rw [Ex.size, Ex.sizes, Ex.sizes, Ex.sizes]; omega)) (key y (by rw [Ex.size, Ex.sizes, Ex.sizes, Ex.sizes]; omega)) hm d w S cs hw hc hz hx
    · have hl := listAt_of (l := a) fun x hx => key x (by rw [Ex.size]; have := Ex.sizes_mem hx; omega)
      match o, ho, key, hc, hz, hx with
      | [], _, _, hc, hz, hx => exact text_call s m a hl hs hm d w S cs hw hc hz hx
      | [x], _, key, hc, hz, hx => exact text_else s m a x hl (key x (by rw [Ex.size, Ex.sizes, Ex.sizes]; omega)) hs hm d w S cs hw hc hz hx
    · have hl := listAt_of (l := a) fun x hx => key x (by rw [Ex.size]; have := Ex.sizes_mem hx; omega)
      exact text_host s a hl hs d w S cs hw hc hz hx
end Go.Proofs.YthfjkdgaiaokdaaDoor
