/- The walk of Expr.text at operators and calls (printed by wip/gensxt.py). Conditions: valid expressions; the library's tables are laid (SxW); at most 100000 parts. The printer's walk: strings.Builder inside the printer, line. Condition: the text stays short. The printer's walk: statements (printed by wip/gensxv.py). Conditions: valid statements; the library's tables are laid (SxW); the text stays short. The printer's walk: each kind of statement (printed by wip/gensxw.py). Conditions: valid statements; the library's tables are laid (SxW); the text stays short. The printer's walk: lists of statements; how long a text is; strings.Join of parameters. Conditions: valid statements; the library's tables are laid (SxW). -/
import Derived.Test.YtkakbidllpjopaaGreatDoorU13
import Derived.Shelf.Strings.Builder1
set_option linter.unusedVariables false
set_option linter.unusedSimpArgs false
set_option maxRecDepth 100000
set_option maxHeartbeats 12800000
namespace Go.Proofs.YtkakbidllpjopaaGreatDoor
open Go.RowKit
theorem text_bin (m : Str) (x y : Ex) (ihx : TextAt x) (ihy : TextAt y) (hm : sgns.contains m = true) (d : Int) (w : World) (S : Nat -> Prop) (cs : List Value) (hw : SxW w) (hc : chkE d (Ex.mk 5 0 [] m [x, y] []) = 0) (hz : (Ex.mk 5 0 [] m [x, y] []).size <= 100000) (hx : XV w S (Ex.mk 5 0 [] m [x, y] []) cs) :
  Calls Tryz.prog 85 #[.agg cs.toArray] w fun e' w' => e' = .returned (.string (bs (txE (Ex.mk 5 0 [] m [x, y] [])))) /\ Below w.heap.size w w' := by
 have hb := (Below.refl w.heap.size w).alloc (Nat.le_refl _) (.cells cs.toArray 27)
 obtain ⟨-, -, -, -, -, -, -, hch, -⟩ := chkE_fields hc
 have hcx := hch x (by simp)
 have hcy := hch y (by simp)
 obtain ⟨A, na, ca, O, no, co, rfl, hA, -⟩ := hx.open_
 obtain ⟨rfl, b, q, cs, ds, rfl, hbl, hxv, hrow, hyv, hrowy⟩ := hA.two_
 rw [Ex.size, Ex.sizes, Ex.sizes, Ex.sizes] at hz
 have hlx := par_len x (txE x)
 have hly := par_len y (txE y)
 have hl1 := txE_len x _ hcx hxv.wd
 have hl2 := txE_len y _ hcy hyv.wd
 have hl3 := sgn_len hm
 obtain ⟨T, hT⟩ : ∃ T, T = txE (Ex.mk 5 0 [] m [x, y] []) := ⟨_, rfl⟩
 rw [<- hT]
 rw [txE, if_neg (by decide), if_neg (by decide), if_neg (by decide), if_neg (by decide), if_neg (by decide), if_pos rfl] at hT
 change T = opE x ++ ([32] : Str) ++ m ++ [32] ++ opE y at hT
 change (opE x).length <= _ at hlx
 change (opE y).length <= _ at hly
 have HOX := operAt_of ihx
 have HOY := operAt_of ihy
 unfold OperAt at HOX HOY
 obtain ⟨t, ht⟩ : ∃ t, t = opE x := ⟨_, rfl⟩
 obtain ⟨u, hu⟩ : ∃ u, u = opE y := ⟨_, rfl⟩
 rw [<- ht] at HOX hlx hT
 rw [<- hu] at HOY hly hT
 obtain ⟨c1, hc1⟩ : ∃ c, c = t ++ ([32] : Str) := ⟨_, rfl⟩
 have lc1 : c1.length = t.length + 1 := by rw [hc1]; exact List.length_append
 have jc1 : ∀ w, (Op.stringOp .add (bs t) (⟨#[32]⟩ : ByteArray)).run Tryz.prog w = .ok (.string (bs c1)) w := fun w => by rw [hc1]; exact add_big t ([32] : Str) (by first | omega | (simp; omega)) w
 obtain ⟨c2, hc2⟩ : ∃ c, c = c1 ++ m := ⟨_, rfl⟩
 have lc2 : c2.length = c1.length + m.length := by rw [hc2]; exact List.length_append
 have jc2 : ∀ w, (Op.stringOp .add (bs c1) (bs m)).run Tryz.prog w = .ok (.string (bs c2)) w := fun w => by rw [hc2]; exact add_big c1 m (by first | omega | (simp; omega)) w
 obtain ⟨c3, hc3⟩ : ∃ c, c = c2 ++ ([32] : Str) := ⟨_, rfl⟩
 have lc3 : c3.length = c2.length + 1 := by rw [hc3]; exact List.length_append
 have jc3 : ∀ w, (Op.stringOp .add (bs c2) (⟨#[32]⟩ : ByteArray)).run Tryz.prog w = .ok (.string (bs c3)) w := fun w => by rw [hc3]; exact add_big c2 ([32] : Str) (by first | omega | (simp; omega)) w
 obtain ⟨c4, hc4⟩ : ∃ c, c = c3 ++ u := ⟨_, rfl⟩
 have lc4 : c4.length = c3.length + u.length := by rw [hc4]; exact List.length_append
 have jc4 : ∀ w, (Op.stringOp .add (bs c3) (bs u)).run Tryz.prog w = .ok (.string (bs c4)) w := fun w => by rw [hc4]; exact add_big c3 u (by first | omega | (simp; omega)) w
 have HFN := hI (show c4 = T from by rw [hT, hc4, hc3, hc2, hc1])
 clear hT hc1 lc1 hc2 lc2 hc3 lc3 hc4 lc4 hlx hly hl1 hl2 hl3 hm ht hu hch
 obtain ⟨W0, hW0⟩ : ∃ W0 : World, W0 = w.alloc (.cells (exC 5 0 [] m (some ⟨b, q, none⟩) 2 ca O no co).toArray 27) := ⟨_, rfl⟩
 rw [<- hW0] at hb
 have HWB := hI (show ∀ W, Bz W0 W -> Below w.heap.size w W from fun W h => hb.trans (h.b.mono hb.size))
 have HT1 := hI (show ∀ W, Bz W0 W -> Calls Tryz.prog 111 #[.agg cs.toArray] W fun e' w' => e' = .returned (.string (bs t)) /\ Below W.heap.size W w' from fun W h => HOX (d + 1) W S cs (hw.below (HWB.out W h)) hcx (by omega) (hxv.below (HWB.out W h)))
 have HT2 := hI (show ∀ W, Bz W0 W -> Calls Tryz.prog 111 #[.agg ds.toArray] W fun e' w' => e' = .returned (.string (bs u)) /\ Below W.heap.size W w' from fun W h => HOY (d + 1) W S ds (hw.below (HWB.out W h)) hcy (by omega) (hyv.below (HWB.out W h)))
 obtain ⟨xk, xn, xs, xm, xa, xo⟩ := x
 obtain ⟨yk, yn, ys, ym, ya, yo⟩ := y
 obtain ⟨A2, na2, ca2, O2, no2, co2, rfl, -, -⟩ := hxv.open_
 obtain ⟨A3, na3, ca3, O3, no3, co3, rfl, -, -⟩ := hyv.open_
 have HSC := hI (show ∀ W, Bz W0 W -> (W.cell? ⟨w.heap.size, 3, none⟩ = some (.string (bs m)) /\ W.cell? ⟨w.heap.size, 4, none⟩ = some (.slice (some ⟨b, q, none⟩) 2 ca) /\ W.cell? ⟨b, q, none⟩ = some (.int .i64 xk) /\ W.cell? ⟨b, q + 1, none⟩ = some (.int .i64 xn) /\ W.cell? ⟨b, q + 2, none⟩ = some (.string (bs xs)) /\ W.cell? ⟨b, q + 3, none⟩ = some (.string (bs xm)) /\ W.cell? ⟨b, q + 4, none⟩ = some (.slice A2 na2 ca2) /\ W.cell? ⟨b, q + 5, none⟩ = some (.slice O2 no2 co2) /\ W.cell? ⟨b, q + 6, none⟩ = some (.int .i64 yk) /\ W.cell? ⟨b, q + 7, none⟩ = some (.int .i64 yn) /\ W.cell? ⟨b, q + 8, none⟩ = some (.string (bs ys)) /\ W.cell? ⟨b, q + 9, none⟩ = some (.string (bs ym)) /\ W.cell? ⟨b, q + 10, none⟩ = some (.slice A3 na3 ca3) /\ W.cell? ⟨b, q + 11, none⟩ = some (.slice O3 no3 co3)) from fun W h => by
  obtain ⟨e0, e1, e2, e3, e4, e5⟩ := exC_at (rangeAt_keep hrow ((HWB.out W h).block b hbl))
  obtain ⟨f0, f1, f2, f3, f4, f5⟩ := exC_at (rangeAt_keep hrowy ((HWB.out W h).block b hbl))
  subst hW0
  have hn := heap_alloc_new w (.cells (exC 5 0 [] m (some ⟨b, q, none⟩) 2 ca O no co).toArray 27)
  exact ⟨cell_of_Bz h (by rw [cell_of_row _ _ _ _ _ _ hn]; rfl) (lt_of_block hn), cell_of_Bz h (by rw [cell_of_row _ _ _ _ _ _ hn]; rfl) (lt_of_block hn), e0, e1, e2, e3, e4, e5, f0, f1, f2, f3, f4, f5⟩)
 clear HOX HOY hcx hcy hc hz hx hA hw hxv hyv hrow hrowy hbl hb
 unfold exC at HT1 HT2 hW0
 unfold exC
 go_enter Tryz.func85, Tryz.ntmps85
 go_upto_region 13 with fail
 rw [<- hW0]
 clear hW0
 have z0 : Bz W0 W0 := ⟨Below.refl _ _⟩
 have z1 := z0.drew
 go_region_held3 (fun W => (W.cell? ⟨w.heap.size, 3, none⟩ = some (.string (bs m)) /\ W.cell? ⟨w.heap.size, 4, none⟩ = some (.slice (some ⟨b, q, none⟩) 2 ca) /\ W.cell? ⟨b, q, none⟩ = some (.int .i64 xk) /\ W.cell? ⟨b, q + 1, none⟩ = some (.int .i64 xn) /\ W.cell? ⟨b, q + 2, none⟩ = some (.string (bs xs)) /\ W.cell? ⟨b, q + 3, none⟩ = some (.string (bs xm)) /\ W.cell? ⟨b, q + 4, none⟩ = some (.slice A2 na2 ca2) /\ W.cell? ⟨b, q + 5, none⟩ = some (.slice O2 no2 co2) /\ W.cell? ⟨b, q + 6, none⟩ = some (.int .i64 yk) /\ W.cell? ⟨b, q + 7, none⟩ = some (.int .i64 yn) /\ W.cell? ⟨b, q + 8, none⟩ = some (.string (bs ys)) /\ W.cell? ⟨b, q + 9, none⟩ = some (.string (bs ym)) /\ W.cell? ⟨b, q + 10, none⟩ = some (.slice A3 na3 ca3) /\ W.cell? ⟨b, q + 11, none⟩ = some (.slice O3 no3 co3))) (exact HSC.out _ (by assumption)) (first
  | (go_at_call 111; with_reducible refine (HT1.out _ (by assumption)).mono ?_; rintro e wt ⟨rfl, hb⟩; have zt := Bz.next (by assumption) hb; clear hb)
  | (go_at_call 111; with_reducible refine (HT2.out _ (by assumption)).mono ?_; rintro e ws ⟨rfl, hb⟩; have zs := Bz.next (by assumption) hb; clear hb))
 all_goals
  go_wp2
  go_ret
  exact ⟨congrArg (fun x => Ending.returned (.string (bs x))) HFN.out, HWB.out _ (by assumption)⟩
theorem text_host (s : Str) (a : List Ex) (ih : ListAt a) (hs : nameOk s = true) (d : Int) (w : World) (S : Nat -> Prop) (cs : List Value) (hw : SxW w) (hc : chkE d (Ex.mk 7 0 s [] a []) = 0) (hz : (Ex.mk 7 0 s [] a []).size <= 100000) (hx : XV w S (Ex.mk 7 0 s [] a []) cs) :
  Calls Tryz.prog 85 #[.agg cs.toArray] w fun e' w' => e' = .returned (.string (bs (txE (Ex.mk 7 0 s [] a [])))) /\ Below w.heap.size w w' := by
 have hb := (Below.refl w.heap.size w).alloc (Nat.le_refl _) (.cells cs.toArray 27)
 obtain ⟨-, -, -, -, -, -, -, hch, hco⟩ := chkE_fields hc
 obtain ⟨A, na, ca, O, no, co, rfl, hA, hO⟩ := hx.open_
 rw [Ex.size] at hz
 have hl1 := texts_len hch hA.wds (by omega)
 have hla := Ex.len_sizes a
 have hl3 := name_len hs
 obtain ⟨T, hT⟩ : ∃ T, T = txE (Ex.mk 7 0 s [] a []) := ⟨_, rfl⟩
 rw [<- hT]
 rw [txE, if_neg (by decide), if_neg (by decide), if_neg (by decide), if_neg (by decide), if_neg (by decide), if_neg (by decide), if_pos rfl, txEs_map] at hT
 unfold ListAt at ih
 obtain ⟨t, ht⟩ : ∃ t, t = Lib.join (a.map txE) [44, 32] := ⟨_, rfl⟩
 rw [<- ht] at ih hl1 hT
 obtain ⟨c1, hc1⟩ : ∃ c, c = ([104, 111, 115, 116, 46] : Str) ++ s := ⟨_, rfl⟩
 have lc1 : c1.length = 5 + s.length := by rw [hc1]; exact List.length_append
 have jc1 : ∀ w, (Op.stringOp .add (⟨#[104, 111, 115, 116, 46]⟩ : ByteArray) (bs s)).run Tryz.prog w = .ok (.string (bs c1)) w := fun w => by rw [hc1]; exact add_big ([104, 111, 115, 116, 46] : Str) s (by first | omega | (simp; omega)) w
 obtain ⟨c2, hc2⟩ : ∃ c, c = c1 ++ ([40] : Str) := ⟨_, rfl⟩
 have lc2 : c2.length = c1.length + 1 := by rw [hc2]; exact List.length_append
 have jc2 : ∀ w, (Op.stringOp .add (bs c1) (⟨#[40]⟩ : ByteArray)).run Tryz.prog w = .ok (.string (bs c2)) w := fun w => by rw [hc2]; exact add_big c1 ([40] : Str) (by first | omega | (simp; omega)) w
 obtain ⟨c3, hc3⟩ : ∃ c, c = c2 ++ t := ⟨_, rfl⟩
 have lc3 : c3.length = c2.length + t.length := by rw [hc3]; exact List.length_append
 have jc3 : ∀ w, (Op.stringOp .add (bs c2) (bs t)).run Tryz.prog w = .ok (.string (bs c3)) w := fun w => by rw [hc3]; exact add_big c2 t (by first | omega | (simp; omega)) w
 obtain ⟨c4, hc4⟩ : ∃ c, c = c3 ++ ([41] : Str) := ⟨_, rfl⟩
 have lc4 : c4.length = c3.length + 1 := by rw [hc4]; exact List.length_append
 have jc4 : ∀ w, (Op.stringOp .add (bs c3) (⟨#[41]⟩ : ByteArray)).run Tryz.prog w = .ok (.string (bs c4)) w := fun w => by rw [hc4]; exact add_big c3 ([41] : Str) (by first | omega | (simp; omega)) w
 have HFN := hI (show c4 = T from by rw [hT, hc4, hc3, hc2, hc1])
 clear hT hc1 lc1 hc2 lc2 hc3 lc3 hc4 lc4 hl1 hla hl3 hs ht
 obtain ⟨W0, hW0⟩ : ∃ W0 : World, W0 = w.alloc (.cells (exC 7 0 s [] A na ca O no co).toArray 27) := ⟨_, rfl⟩
 rw [<- hW0] at hb
 have HWB := hI (show ∀ W, Bz W0 W -> Below w.heap.size w W from fun W h => hb.trans (h.b.mono hb.size))
 have HT1 := hI (show ∀ W, Bz W0 W -> Calls Tryz.prog 112 #[.slice A na ca] W fun e' w' => e' = .returned (.string (bs t)) /\ Below W.heap.size W w' from fun W h => ih (d + 1) W S A na ca (hw.below (HWB.out W h)) hch (by omega) (hA.below (HWB.out W h)))
 have HSC := hI (show ∀ W, Bz W0 W -> (W.cell? ⟨w.heap.size, 2, none⟩ = some (.string (bs s)) /\ W.cell? ⟨w.heap.size, 3, none⟩ = some (.string (bs [])) /\ W.cell? ⟨w.heap.size, 4, none⟩ = some (.slice A na ca) /\ W.cell? ⟨w.heap.size, 5, none⟩ = some (.slice O no co)) from fun W h => by
  subst hW0
  have hn := heap_alloc_new w (.cells (exC 7 0 s [] A na ca O no co).toArray 27)
  exact ⟨cell_of_Bz h (by rw [cell_of_row _ _ _ _ _ _ hn]; rfl) (lt_of_block hn), cell_of_Bz h (by rw [cell_of_row _ _ _ _ _ _ hn]; rfl) (lt_of_block hn), cell_of_Bz h (by rw [cell_of_row _ _ _ _ _ _ hn]; rfl) (lt_of_block hn), cell_of_Bz h (by rw [cell_of_row _ _ _ _ _ _ hn]; rfl) (lt_of_block hn)⟩)
 clear ih hch hco hc hz hx hA hO hw hb
 unfold exC at hW0
 unfold exC
 go_enter Tryz.func85, Tryz.ntmps85
 go_upto_region 15 with fail
 rw [<- hW0]
 clear hW0
 have z0 : Bz W0 W0 := ⟨Below.refl _ _⟩
 have z1 := z0.drew
 go_region_held3 (fun W => (W.cell? ⟨w.heap.size, 2, none⟩ = some (.string (bs s)) /\ W.cell? ⟨w.heap.size, 3, none⟩ = some (.string (bs [])) /\ W.cell? ⟨w.heap.size, 4, none⟩ = some (.slice A na ca) /\ W.cell? ⟨w.heap.size, 5, none⟩ = some (.slice O no co))) (exact HSC.out _ (by assumption)) (
  (go_at_call 112; with_reducible refine (HT1.out _ (by assumption)).mono ?_; rintro e wt ⟨rfl, hb⟩; have zt := Bz.next (by assumption) hb; clear hb))
 all_goals
  go_wp2
  go_ret
  exact ⟨congrArg (fun x => Ending.returned (.string (bs x))) HFN.out, HWB.out _ (by assumption)⟩
theorem text_call (s m : Str) (a : List Ex) (ih : ListAt a) (hs : nameOk s = true) (hm : nameOk m = true) (d : Int) (w : World) (S : Nat -> Prop) (cs : List Value) (hw : SxW w) (hc : chkE d (Ex.mk 6 0 s m a []) = 0) (hz : (Ex.mk 6 0 s m a []).size <= 100000) (hx : XV w S (Ex.mk 6 0 s m a []) cs) :
  Calls Tryz.prog 85 #[.agg cs.toArray] w fun e' w' => e' = .returned (.string (bs (txE (Ex.mk 6 0 s m a [])))) /\ Below w.heap.size w w' := by
 have hb := (Below.refl w.heap.size w).alloc (Nat.le_refl _) (.cells cs.toArray 27)
 obtain ⟨-, -, -, -, -, -, -, hch, hco⟩ := chkE_fields hc
 obtain ⟨A, na, ca, O, no, co, rfl, hA, hO⟩ := hx.open_
 rw [Ex.size] at hz
 have hl1 := texts_len hch hA.wds (by omega)
 have hla := Ex.len_sizes a
 have hl3 := name_len hs
 have hl4 := name_len hm
 obtain rfl : no = 0 := hO.1.1
 obtain ⟨T, hT⟩ : ∃ T, T = txE (Ex.mk 6 0 s m a []) := ⟨_, rfl⟩
 rw [<- hT]
 rw [txE, if_neg (by decide), if_neg (by decide), if_neg (by decide), if_neg (by decide), if_neg (by decide), if_neg (by decide), if_neg (by decide), txEs_map] at hT
 rw [if_pos (show ([] : List Ex).length = 0 from rfl), List.append_nil] at hT
 unfold ListAt at ih
 obtain ⟨t, ht⟩ : ∃ t, t = Lib.join (a.map txE) [44, 32] := ⟨_, rfl⟩
 rw [<- ht] at ih hl1 hT
 obtain ⟨c1, hc1⟩ : ∃ c, c = s ++ ([46] : Str) := ⟨_, rfl⟩
 have lc1 : c1.length = s.length + 1 := by rw [hc1]; exact List.length_append
 have jc1 : ∀ w, (Op.stringOp .add (bs s) (⟨#[46]⟩ : ByteArray)).run Tryz.prog w = .ok (.string (bs c1)) w := fun w => by rw [hc1]; exact add_big s ([46] : Str) (by first | omega | (simp; omega)) w
 obtain ⟨c2, hc2⟩ : ∃ c, c = c1 ++ m := ⟨_, rfl⟩
 have lc2 : c2.length = c1.length + m.length := by rw [hc2]; exact List.length_append
 have jc2 : ∀ w, (Op.stringOp .add (bs c1) (bs m)).run Tryz.prog w = .ok (.string (bs c2)) w := fun w => by rw [hc2]; exact add_big c1 m (by first | omega | (simp; omega)) w
 obtain ⟨c3, hc3⟩ : ∃ c, c = c2 ++ ([40] : Str) := ⟨_, rfl⟩
 have lc3 : c3.length = c2.length + 1 := by rw [hc3]; exact List.length_append
 have jc3 : ∀ w, (Op.stringOp .add (bs c2) (⟨#[40]⟩ : ByteArray)).run Tryz.prog w = .ok (.string (bs c3)) w := fun w => by rw [hc3]; exact add_big c2 ([40] : Str) (by first | omega | (simp; omega)) w
 obtain ⟨c4, hc4⟩ : ∃ c, c = c3 ++ t := ⟨_, rfl⟩
 have lc4 : c4.length = c3.length + t.length := by rw [hc4]; exact List.length_append
 have jc4 : ∀ w, (Op.stringOp .add (bs c3) (bs t)).run Tryz.prog w = .ok (.string (bs c4)) w := fun w => by rw [hc4]; exact add_big c3 t (by first | omega | (simp; omega)) w
 obtain ⟨c5, hc5⟩ : ∃ c, c = c4 ++ ([41] : Str) := ⟨_, rfl⟩
 have lc5 : c5.length = c4.length + 1 := by rw [hc5]; exact List.length_append
 have jc5 : ∀ w, (Op.stringOp .add (bs c4) (⟨#[41]⟩ : ByteArray)).run Tryz.prog w = .ok (.string (bs c5)) w := fun w => by rw [hc5]; exact add_big c4 ([41] : Str) (by first | omega | (simp; omega)) w
 have HFN := hI (show c5 = T from by rw [hT, hc5, hc4, hc3, hc2, hc1])
 clear hT hc1 lc1 hc2 lc2 hc3 lc3 hc4 lc4 hc5 lc5 hl1 hla hl3 hl4 hs hm ht
 obtain ⟨W0, hW0⟩ : ∃ W0 : World, W0 = w.alloc (.cells (exC 6 0 s m A na ca O 0 co).toArray 27) := ⟨_, rfl⟩
 rw [<- hW0] at hb
 have HWB := hI (show ∀ W, Bz W0 W -> Below w.heap.size w W from fun W h => hb.trans (h.b.mono hb.size))
 have HT1 := hI (show ∀ W, Bz W0 W -> Calls Tryz.prog 112 #[.slice A na ca] W fun e' w' => e' = .returned (.string (bs t)) /\ Below W.heap.size W w' from fun W h => ih (d + 1) W S A na ca (hw.below (HWB.out W h)) hch (by omega) (hA.below (HWB.out W h)))
 have HSC := hI (show ∀ W, Bz W0 W -> (W.cell? ⟨w.heap.size, 2, none⟩ = some (.string (bs s)) /\ W.cell? ⟨w.heap.size, 3, none⟩ = some (.string (bs m)) /\ W.cell? ⟨w.heap.size, 4, none⟩ = some (.slice A na ca) /\ W.cell? ⟨w.heap.size, 5, none⟩ = some (.slice O 0 co)) from fun W h => by
  subst hW0
  have hn := heap_alloc_new w (.cells (exC 6 0 s m A na ca O 0 co).toArray 27)
  exact ⟨cell_of_Bz h (by rw [cell_of_row _ _ _ _ _ _ hn]; rfl) (lt_of_block hn), cell_of_Bz h (by rw [cell_of_row _ _ _ _ _ _ hn]; rfl) (lt_of_block hn), cell_of_Bz h (by rw [cell_of_row _ _ _ _ _ _ hn]; rfl) (lt_of_block hn), cell_of_Bz h (by rw [cell_of_row _ _ _ _ _ _ hn]; rfl) (lt_of_block hn)⟩)
 clear ih hch hco hc hz hx hA hO hw hb
 unfold exC at hW0
 unfold exC
 go_enter Tryz.func85, Tryz.ntmps85
 go_upto_region 16 with fail
 rw [<- hW0]
 clear hW0
 have z0 : Bz W0 W0 := ⟨Below.refl _ _⟩
 have z1 := z0.drew
 go_region_held3 (fun W => (W.cell? ⟨w.heap.size, 2, none⟩ = some (.string (bs s)) /\ W.cell? ⟨w.heap.size, 3, none⟩ = some (.string (bs m)) /\ W.cell? ⟨w.heap.size, 4, none⟩ = some (.slice A na ca) /\ W.cell? ⟨w.heap.size, 5, none⟩ = some (.slice O 0 co))) (exact HSC.out _ (by assumption)) (
  (go_at_call 112; with_reducible refine (HT1.out _ (by assumption)).mono ?_; rintro e wt ⟨rfl, hb⟩; have zt := Bz.next (by assumption) hb; clear hb))
 all_goals
  obtain ⟨g2, g3, g4, g5⟩ := HSC.out _ (by assumption)
  go_wp2
  go_ret
  exact ⟨congrArg (fun x => Ending.returned (.string (bs x))) HFN.out, HWB.out _ (by assumption)⟩
theorem text_else (s m : Str) (a : List Ex) (x : Ex) (ih : ListAt a) (ihx : TextAt x) (hs : nameOk s = true) (hm : nameOk m = true) (d : Int) (w : World) (S : Nat -> Prop) (cs : List Value) (hw : SxW w) (hc : chkE d (Ex.mk 6 0 s m a [x]) = 0) (hz : (Ex.mk 6 0 s m a [x]).size <= 100000) (hx : XV w S (Ex.mk 6 0 s m a [x]) cs) :
  Calls Tryz.prog 85 #[.agg cs.toArray] w fun e' w' => e' = .returned (.string (bs (txE (Ex.mk 6 0 s m a [x])))) /\ Below w.heap.size w w' := by
 have hb := (Below.refl w.heap.size w).alloc (Nat.le_refl _) (.cells cs.toArray 27)
 obtain ⟨-, -, -, -, -, -, -, hch, hco⟩ := chkE_fields hc
 obtain ⟨A, na, ca, O, no, co, rfl, hA, hO⟩ := hx.open_
 rw [Ex.size] at hz
 have hl1 := texts_len hch hA.wds (by omega)
 have hla := Ex.len_sizes a
 have hl3 := name_len hs
 have hl4 := name_len hm
 obtain ⟨rfl, b, q, xc, rfl, hbl, hxv, hrow⟩ := hO.one_
 have hcx := hco x (by simp)
 rw [Ex.sizes, Ex.sizes] at hz
 have hlx := par_len x (txE x)
 have hl5 := txE_len x _ hcx hxv.wd
 change (opE x).length <= _ at hlx
 have HOX := operAt_of ihx
 unfold OperAt at HOX
 obtain ⟨T, hT⟩ : ∃ T, T = txE (Ex.mk 6 0 s m a [x]) := ⟨_, rfl⟩
 rw [<- hT]
 rw [txE, if_neg (by decide), if_neg (by decide), if_neg (by decide), if_neg (by decide), if_neg (by decide), if_neg (by decide), if_neg (by decide), txEs_map] at hT
 change T = s ++ [46] ++ m ++ [40] ++ Lib.join (a.map txE) [44, 32] ++ [41] ++ ([32, 101, 108, 115, 101, 32] ++ opE x) at hT
 unfold ListAt at ih
 obtain ⟨t, ht⟩ : ∃ t, t = Lib.join (a.map txE) [44, 32] := ⟨_, rfl⟩
 rw [<- ht] at ih hl1 hT
 obtain ⟨u, hu⟩ : ∃ u, u = opE x := ⟨_, rfl⟩
 rw [<- hu] at HOX hlx hT
 obtain ⟨c1, hc1⟩ : ∃ c, c = s ++ ([46] : Str) := ⟨_, rfl⟩
 have lc1 : c1.length = s.length + 1 := by rw [hc1]; exact List.length_append
 have jc1 : ∀ w, (Op.stringOp .add (bs s) (⟨#[46]⟩ : ByteArray)).run Tryz.prog w = .ok (.string (bs c1)) w := fun w => by rw [hc1]; exact add_big s ([46] : Str) (by first | omega | (simp; omega)) w
 obtain ⟨c2, hc2⟩ : ∃ c, c = c1 ++ m := ⟨_, rfl⟩
 have lc2 : c2.length = c1.length + m.length := by rw [hc2]; exact List.length_append
 have jc2 : ∀ w, (Op.stringOp .add (bs c1) (bs m)).run Tryz.prog w = .ok (.string (bs c2)) w := fun w => by rw [hc2]; exact add_big c1 m (by first | omega | (simp; omega)) w
 obtain ⟨c3, hc3⟩ : ∃ c, c = c2 ++ ([40] : Str) := ⟨_, rfl⟩
 have lc3 : c3.length = c2.length + 1 := by rw [hc3]; exact List.length_append
 have jc3 : ∀ w, (Op.stringOp .add (bs c2) (⟨#[40]⟩ : ByteArray)).run Tryz.prog w = .ok (.string (bs c3)) w := fun w => by rw [hc3]; exact add_big c2 ([40] : Str) (by first | omega | (simp; omega)) w
 obtain ⟨c4, hc4⟩ : ∃ c, c = c3 ++ t := ⟨_, rfl⟩
 have lc4 : c4.length = c3.length + t.length := by rw [hc4]; exact List.length_append
 have jc4 : ∀ w, (Op.stringOp .add (bs c3) (bs t)).run Tryz.prog w = .ok (.string (bs c4)) w := fun w => by rw [hc4]; exact add_big c3 t (by first | omega | (simp; omega)) w
 obtain ⟨c5, hc5⟩ : ∃ c, c = c4 ++ ([41] : Str) := ⟨_, rfl⟩
 have lc5 : c5.length = c4.length + 1 := by rw [hc5]; exact List.length_append
 have jc5 : ∀ w, (Op.stringOp .add (bs c4) (⟨#[41]⟩ : ByteArray)).run Tryz.prog w = .ok (.string (bs c5)) w := fun w => by rw [hc5]; exact add_big c4 ([41] : Str) (by first | omega | (simp; omega)) w
 obtain ⟨g1, hg1⟩ : ∃ c, c = ([32, 101, 108, 115, 101, 32] : Str) ++ u := ⟨_, rfl⟩
 have lg1 : g1.length = 6 + u.length := by rw [hg1]; exact List.length_append
 have jg1 : ∀ w, (Op.stringOp .add (⟨#[32, 101, 108, 115, 101, 32]⟩ : ByteArray) (bs u)).run Tryz.prog w = .ok (.string (bs g1)) w := fun w => by rw [hg1]; exact add_big ([32, 101, 108, 115, 101, 32] : Str) u (by first | omega | (simp; omega)) w
 obtain ⟨k1, hk1⟩ : ∃ c, c = c5 ++ g1 := ⟨_, rfl⟩
 have lk1 : k1.length = c5.length + g1.length := by rw [hk1]; exact List.length_append
 have jk1 : ∀ w, (Op.stringOp .add (bs c5) (bs g1)).run Tryz.prog w = .ok (.string (bs k1)) w := fun w => by rw [hk1]; exact add_big c5 g1 (by first | omega | (simp; omega)) w
 have HFN := hI (show k1 = T from by rw [hT, hk1, hg1, hc5, hc4, hc3, hc2, hc1])
 clear hT hc1 lc1 hc2 lc2 hc3 lc3 hc4 lc4 hc5 lc5 hg1 lg1 hk1 lk1 hl1 hla hl3 hl4 hs hm ht hlx hl5 hu
 obtain ⟨W0, hW0⟩ : ∃ W0 : World, W0 = w.alloc (.cells (exC 6 0 s m A na ca (some ⟨b, q, none⟩) 1 co).toArray 27) := ⟨_, rfl⟩
 rw [<- hW0] at hb
 have HWB := hI (show ∀ W, Bz W0 W -> Below w.heap.size w W from fun W h => hb.trans (h.b.mono hb.size))
 have HT1 := hI (show ∀ W, Bz W0 W -> Calls Tryz.prog 112 #[.slice A na ca] W fun e' w' => e' = .returned (.string (bs t)) /\ Below W.heap.size W w' from fun W h => ih (d + 1) W S A na ca (hw.below (HWB.out W h)) hch (by omega) (hA.below (HWB.out W h)))
 have HT2 := hI (show ∀ W, Bz W0 W -> Calls Tryz.prog 111 #[.agg xc.toArray] W fun e' w' => e' = .returned (.string (bs u)) /\ Below W.heap.size W w' from fun W h => HOX (d + 1) W S xc (hw.below (HWB.out W h)) hcx (by omega) (hxv.below (HWB.out W h)))
 obtain ⟨xk, xn, xs, xm, xa, xo⟩ := x
 obtain ⟨A2, na2, ca2, O2, no2, co2, rfl, -, -⟩ := hxv.open_
 have HXC := hI (show ∀ W, Bz W0 W -> (W.cell? ⟨b, q, none⟩ = some (.int .i64 xk) /\ W.cell? ⟨b, q + 1, none⟩ = some (.int .i64 xn) /\ W.cell? ⟨b, q + 2, none⟩ = some (.string (bs xs)) /\ W.cell? ⟨b, q + 3, none⟩ = some (.string (bs xm)) /\ W.cell? ⟨b, q + 4, none⟩ = some (.slice A2 na2 ca2) /\ W.cell? ⟨b, q + 5, none⟩ = some (.slice O2 no2 co2)) from fun W h => exC_at (rangeAt_keep hrow ((HWB.out W h).block b hbl)))
 unfold exC at HT2
 have HSC := hI (show ∀ W, Bz W0 W -> (W.cell? ⟨w.heap.size, 2, none⟩ = some (.string (bs s)) /\ W.cell? ⟨w.heap.size, 3, none⟩ = some (.string (bs m)) /\ W.cell? ⟨w.heap.size, 4, none⟩ = some (.slice A na ca) /\ W.cell? ⟨w.heap.size, 5, none⟩ = some (.slice (some ⟨b, q, none⟩) 1 co)) from fun W h => by
  subst hW0
  have hn := heap_alloc_new w (.cells (exC 6 0 s m A na ca (some ⟨b, q, none⟩) 1 co).toArray 27)
  exact ⟨cell_of_Bz h (by rw [cell_of_row _ _ _ _ _ _ hn]; rfl) (lt_of_block hn), cell_of_Bz h (by rw [cell_of_row _ _ _ _ _ _ hn]; rfl) (lt_of_block hn), cell_of_Bz h (by rw [cell_of_row _ _ _ _ _ _ hn]; rfl) (lt_of_block hn), cell_of_Bz h (by rw [cell_of_row _ _ _ _ _ _ hn]; rfl) (lt_of_block hn)⟩)
 clear ih hch hco hc hz hx hA hO hw hb HOX hcx hxv hrow hbl
 unfold exC at hW0
 unfold exC
 go_enter Tryz.func85, Tryz.ntmps85
 go_upto_region 16 with fail
 rw [<- hW0]
 clear hW0
 have z0 : Bz W0 W0 := ⟨Below.refl _ _⟩
 have z1 := z0.drew
 go_region_held3 (fun W => (W.cell? ⟨w.heap.size, 2, none⟩ = some (.string (bs s)) /\ W.cell? ⟨w.heap.size, 3, none⟩ = some (.string (bs m)) /\ W.cell? ⟨w.heap.size, 4, none⟩ = some (.slice A na ca) /\ W.cell? ⟨w.heap.size, 5, none⟩ = some (.slice (some ⟨b, q, none⟩) 1 co))) (exact HSC.out _ (by assumption)) (
  (go_at_call 112; with_reducible refine (HT1.out _ (by assumption)).mono ?_; rintro e wt ⟨rfl, hb⟩; have zt := Bz.next (by assumption) hb; clear hb))
 all_goals
  obtain ⟨e0, e1, e2, e3, e4, e5⟩ := HXC.out _ (by assumption)
  obtain ⟨g2, g3, g4, g5⟩ := HSC.out _ (by assumption)
  go_wp2_with fail
  refine (HT2.out _ (by assumption)).mono ?_
  rintro e ws ⟨rfl, hb⟩
  have zs := Bz.next (by assumption) hb
  clear hb e0 e1 e2 e3 e4 e5 g2 g3 g4 g5
  go_wp2
  go_ret
  exact ⟨congrArg (fun x => Ending.returned (.string (bs x))) HFN.out, HWB.out _ (by assumption)⟩
theorem textAt_any (e : Ex) : TextAt e := by
 obtain ⟨N, hN⟩ : ∃ N, N = e.size := ⟨_, rfl⟩
 induction N using Nat.strongRecOn generalizing e with
 | _ N ih =>
  intro d w S cs hw hc hz hx
  have key : ∀ x : Ex, x.size < e.size -> TextAt x := fun x hlt => ih x.size (by omega) x rfl
  clear ih hN
  rcases (shape_of hc).1 with ⟨n, hn⟩ | ⟨n, hn⟩ | ⟨s, hs⟩ | ⟨x, hcx⟩ | ⟨x, hcx⟩ | ⟨m, x, y, hm, h1, h2⟩ | ⟨s, m, a, o, hs, hm, ha, h1, ho, h2⟩ | ⟨s, a, hs, ha, h1⟩
  ·exact text_num n d w S cs hw hc hz hx
  ·exact text_bool n d w S cs hw hc hz hx
  ·exact text_var s d w S cs hw hc hz hx
  ·exact text_not x (key x (by rw [Ex.size, Ex.sizes, Ex.sizes]; omega)) d w S cs hw hc hz hx
  ·exact text_neg x (key x (by rw [Ex.size, Ex.sizes, Ex.sizes]; omega)) d w S cs hw hc hz hx
  ·exact text_bin m x y (key x (by rw [Ex.size, Ex.sizes, Ex.sizes, Ex.sizes]; omega)) (key y (by rw [Ex.size, Ex.sizes, Ex.sizes, Ex.sizes]; omega)) hm d w S cs hw hc hz hx
  ·have hl := listAt_of (l := a) fun x hx => key x (by rw [Ex.size]; have := Ex.sizes_mem hx; omega)
   match o, ho, key, hc, hz, hx with
   | [], _, _, hc, hz, hx => exact text_call s m a hl hs hm d w S cs hw hc hz hx
   | [x], _, key, hc, hz, hx => exact text_else s m a x hl (key x (by rw [Ex.size, Ex.sizes, Ex.sizes]; omega)) hs hm d w S cs hw hc hz hx
  have hl := listAt_of (l := a) fun x hx => key x (by rw [Ex.size]; have := Ex.sizes_mem hx; omega)
  exact text_host s a hl hs d w S cs hw hc hz hx
open Go.RowKit
/-- A printer in a block of its own that holds these bytes. -/
def PB (B b : Nat) (l : Str) (w : World) : Prop := Lib.IsBuilder 81 5 B b (Lib.byteCells l) w /\ (l = [] -> w.heap[b]? = some (.cells #[.pointer none, .slice none 0 0] 81 (0, 0)))
theorem u63 : (Tryz.prog.info? 79).map (·.size) = some 2 := by kernel_rfl
theorem lies63 : liesAt Tryz.prog Tryz.prog.depth 81 (2 / Tryz.prog.cellsOf 81) 0 79 1 = true := by kernel_rfl
theorem infoU8 : (Tryz.prog.info? 5).map (fun i => (i.zero, i.size, i.bytes)) = some (some (.int .u8 0), 1, 1) := by kernel_rfl
/-- No cells but the printer's and bytes have changed. -/
structure Fr (b : Nat) (w w' : World) : Prop where
 size : w.heap.size <= w'.heap.size
 block : ∀ k cs T fr, k ≠ b -> T ≠ 5 -> w.heap[k]? = some (.cells cs T fr) -> w'.heap[k]? = some (.cells cs T fr)
theorem Fr.trans {b : Nat} {w w1 w2 : World} (h : Fr b w w1) (h' : Fr b w1 w2) : Fr b w w2 :=
 ⟨Nat.le_trans h.size h'.size, fun k cs T fr hk hT hc => h'.block k cs T fr hk hT (h.block k cs T fr hk hT hc)⟩
theorem Fr.of_below {b : Nat} {w w' : World} (h : Below w.heap.size w w') : Fr b w w' :=
 ⟨h.size, fun k cs T fr _ _ hc => (h.block k (lt_of_block hc)).trans hc⟩
theorem copyCheck_used (b : Nat) (w : World) (h0 : w.cell? ⟨b, 0, none⟩ = some (.pointer (some ⟨b, 0, none⟩))) :
  Calls Tryz.prog 82 #[.pointer (some ⟨b, 0, none⟩)] w fun e w' => e = .returned (.tuple #[]) /\ w' = w := by
 obtain ⟨j, hj, _⟩ := Option.map_eq_some_iff.1 u63
 go_enter Tryz.func82, Tryz.ntmps82
 go_wp2
 try rw [Lib.run_neq_ptr_same w _ Tryz.underlying77 hj]
 try go_wp2
 go_end0
 exact ⟨rfl, rfl⟩
theorem copyCheck_fresh (b : Nat) (w : World) (h0 : w.cell? ⟨b, 0, none⟩ = some (.pointer none)) (hsh : w.shape? b = some (81, 2)) (hfz : w.frozen? ⟨b, 0, none⟩ = false) :
  Calls Tryz.prog 82 #[.pointer (some ⟨b, 0, none⟩)] w fun e w' => e = .returned (.tuple #[]) /\ w' = w.setCell ⟨b, 0, none⟩ (.pointer (some ⟨b, 0, none⟩)) := by
 obtain ⟨j, hj, hjs⟩ := Option.map_eq_some_iff.1 u63
 go_enter Tryz.func82, Tryz.ntmps82
 go_wp2
 rw [Lib.run_to_unsafe w ⟨b, 0, none⟩ Tryz.underlying77 Tryz.underlying167 hj (by rw [hjs]; decide) hsh (Nat.zero_lt_succ 1)]
 simp only [Result.andThen]
 rw [Oper.upon_value]
 go_wp2
 rw [run_callFunc_extern Tryz.func106 (by kernel_rfl) (by kernel_rfl) (by kernel_rfl) (e := Extern.AbiNoEscape.same) (by kernel_rfl)]
 rw [Lib.run_noEscape]
 simp only [Result.andThen]
 rw [Oper.upon_value]
 go_wp2
 rw [Lib.run_from_unsafe w ⟨b, 0, none⟩ Tryz.underlying167 Tryz.underlying77 hj hsh lies63]
 simp only [Result.andThen]
 rw [Oper.upon_value]
 go_wp2
 go_end0
 exact ⟨rfl, rfl⟩
theorem copyCheck_any (B b : Nat) (bs : List Value) (w : World) (h : Lib.IsBuilder 81 5 B b bs w) :
  Calls Tryz.prog 82 #[.pointer (some ⟨b, 0, none⟩)] w fun e w' => e = .returned (.tuple #[]) /\ (Lib.BuilderAt 81 5 B b (.pointer (some ⟨b, 0, none⟩)) bs w' /\ Below B w w' /\ Fr b w w') := by
 rcases h with h | h
 ·refine (copyCheck_fresh b w h.cell0 h.shape h.frozen0).mono ?_
  rintro e w' ⟨rfl, rfl⟩
  exact ⟨rfl, h.used _, (Below.refl B w).setCell (p := ⟨b, 0, none⟩) h.1 _, ⟨by simp [World.setCell], fun k cs T fr hk _ hc => (Below.heap_setCell _ _ _ _ (fun e => hk (by simp [e]))).trans hc⟩⟩
 refine (copyCheck_used b w h.cell0).mono ?_
 rintro e w' ⟨rfl, rfl⟩
 exact ⟨rfl, h, Below.refl B _, Fr.of_below (Below.refl _ _)⟩
theorem write_any (B b : Nat) (l s : Str) (w : World) (h : Lib.IsBuilder 81 5 B b (Lib.byteCells l) w) (hlen : l.length + s.length <= 1000000000) (hBw : B <= w.heap.size) :
  Calls Tryz.prog 49 #[.pointer (some ⟨b, 0, none⟩), .string (bs s)] w fun e w' => e = .returned (.tuple #[.int .i64 (bs s).size, .nilIface]) /\ (Lib.BuilderAt 81 5 B b (.pointer (some ⟨b, 0, none⟩)) (Lib.byteCells (l ++ s)) w' /\ Below B w w' /\ Fr b w w') := by
 obtain ⟨i0, hi, hz0, hz1, hz2⟩ := info_parts (P := Tryz.prog) infoU8
 have e1 : Lib.byteCells (l ++ s) = Lib.byteCells l ++ Lib.strCells (bs s) := by unfold Lib.byteCells Lib.strCells; rw [List.map_append, bs_list]
 have e2 : (Lib.byteCells l).length = l.length := Lib.byteCells_length l
 have e3 : (bs s).size = s.length := rfl
 rw [e1]
 generalize Lib.byteCells l = L at *
 have hl2 : L.length + (bs s).size <= 140737488355328 := by omega
 generalize bs s = bsS at *
 clear e1 e3
 go_enter Tryz.func49, Tryz.ntmps49
 go_wp2_with (go_at_call 82; refine (copyCheck_any B b L _ h).mono ?_)
 rintro e w1 ⟨rfl, h1, hb1, hf1⟩
 obtain ⟨hB, v, hbk, hown, hne⟩ := h1
 have c0 : w1.cell? ⟨b, 0, none⟩ = some (.pointer (some ⟨b, 0, none⟩)) := by rw [Lib.cell_of_heap hbk]; rfl
 have c1 : w1.cell? ⟨b, 1, none⟩ = some v := by rw [Lib.cell_of_heap hbk]; rfl
 go_wp2_with (at_builtin; refine Lib.wpList_append_own_string _ rfl _ _ 58 9 rfl B 5 i0 Tryz.underlying58 Tryz.underlying9 hi hz0 hz1 hz2 _ _ _ rfl hown bsS rfl ?c3 ?c4 ?c5 ?_)
 case c3 => unfold maxLen; omega
 case c4 => omega
 case c5 => have := hb1.size; omega
 intro v' w2 hown' hgrow _
 have hlt : b < w1.heap.size := by
  rcases Nat.lt_or_ge b w1.heap.size with h' | h'
  ·exact h'
  simp [Array.getElem?_eq_none h'] at hbk
 have hb2 : w2.heap[b]? = some (.cells #[.pointer (some ⟨b, 0, none⟩), v] 81 (0, 0)) := by
  rw [hgrow.block b hlt (fun e => hne e.symm)]
  exact hbk
 have d0 : w2.cell? ⟨b, 0, none⟩ = some (.pointer (some ⟨b, 0, none⟩)) := by rw [Lib.cell_of_heap hb2]; rfl
 have d1 : w2.cell? ⟨b, 1, none⟩ = some v := by rw [Lib.cell_of_heap hb2]; rfl
 have f1 : w2.frozen? ⟨b, 1, none⟩ = false := Lib.frozen_of_heap hb2 1
 have hf2 := hf1.trans (b := b) (w2 := w2.setCell ⟨b, 1, none⟩ v') ⟨by have := hgrow.size; simp [World.setCell]; exact this, fun k cs T fr hkb hT hc =>
  (Below.heap_setCell _ _ _ _ (fun e => hkb (by simp [e]))).trans ((hgrow.block k (lt_of_block hc) (fun e => Lib.ownBlock_ne hown hc hT e.symm)).trans hc)⟩
 obtain ⟨ao, n', cap, rfl⟩ : ∃ ao n' cap, v' = .slice ao n' cap := by
  rcases hown'.2 with ⟨hv, _⟩ | ⟨g, cap, cur, hv, _⟩
  ·exact ⟨_, _, _, hv⟩
  exact ⟨_, _, _, hv⟩
 go_wp2
 go_ret2
 refine ⟨rfl, ?_, ?_, hf2⟩
 ·exact Lib.BuilderAt.put (T := 81) (e := 5) hB hb2 (bs' := L ++ Lib.strCells bsS) (by rw [List.length_append, Lib.strCells_length, e2]; simpa [e2] using hown') (by decide)
 exact (hb1.grown hgrow (by have := hb1.size; omega) (fun k hk => (hown.lt k hk).1)).setCell (p := ⟨b, 1, none⟩) hB _
theorem len_any (B b : Nat) (l : Str) (w : World) (h : Lib.IsBuilder 81 5 B b (Lib.byteCells l) w) :
  Calls Tryz.prog 28 #[.pointer (some ⟨b, 0, none⟩)] w fun e w' => e = .returned (.int .i64 l.length) /\ w' = w := by
 obtain ⟨p, hB, v, hbk, hown, hne⟩ : ∃ p, Lib.BuilderAt 81 5 B b p (Lib.byteCells l) w := by
  rcases h with h | h
  ·exact ⟨_, h⟩
  exact ⟨_, h⟩
 rw [Lib.byteCells_length] at hown
 obtain ⟨A, c, rfl⟩ : ∃ A c, v = .slice A l.length c := by
  rcases hown.2 with ⟨hv, h0⟩ | ⟨g, cap, cur, hv, _⟩
  ·exact ⟨none, 0, by rw [hv, h0]⟩
  exact ⟨_, _, hv⟩
 have c1 : w.cell? ⟨b, 1, none⟩ = some (.slice A l.length c) := by rw [Lib.cell_of_heap hbk]; rfl
 clear hown hbk h hne
 go_enter Tryz.func28, Tryz.ntmps28
 go_wp2
 go_ret
 exact ⟨rfl, rfl⟩
theorem cellsU8 : Tryz.prog.cellsOf 5 = 1 := by kernel_rfl
theorem string_some (B b : Nat) (l : Str) (w : World) (h : Lib.IsBuilder 81 5 B b (Lib.byteCells l) w) (h0 : l ≠ []) :
  Calls Tryz.prog 29 #[.pointer (some ⟨b, 0, none⟩)] w fun e w' => e = .returned (.string (bs l)) /\ Below B w w' := by
 obtain ⟨p, hB, v, hbk, hown, hne⟩ : ∃ p, Lib.BuilderAt 81 5 B b p (Lib.byteCells l) w := by
  rcases h with h | h
  ·exact ⟨_, h⟩
  exact ⟨_, h⟩
 have hl0 : l.length ≠ 0 := by simpa using h0
 rw [Lib.byteCells_length] at hown
 obtain ⟨g, cap, cur, rfl, hbg, hg, hnc, hcm, hcs, htake⟩ : ∃ g cap cur, v = .slice (some ⟨g, 0, none⟩) l.length cap /\ B <= g /\ w.heap[g]? = some (.cells cur 5 (0, 0)) /\ l.length <= cap /\ cap <= maxLen /\ cur.size = cap * 1 /\ cur.toList.take (l.length * 1) = Lib.byteCells l := by
  rcases hown.2 with ⟨_, hz⟩ | ⟨g, cap, cur, hv, r⟩
  ·exact absurd hz hl0
  exact ⟨g, cap, cur, hv, r⟩
 have c1 : w.drew.cell? ⟨b, 1, none⟩ = some (.slice (some ⟨g, 0, none⟩) l.length cap) := by
  have : w.drew.heap[b]? = some (.cells #[p, .slice (some ⟨g, 0, none⟩) l.length cap] 81 (0, 0)) := hbk
  rw [Lib.cell_of_heap this]; rfl
 have hSD : (Builtin.unsafeSliceData_ #[58] 128 #[.slice (some ⟨g, 0, none⟩) l.length cap]).run Tryz.prog w.drew = .ok (.pointer (some ⟨g, 0, none⟩)) w.drew :=
  Lib.run_unsafeSliceData_row _ _ _ _ _ _ (by omega)
 have hUS : (Builtin.unsafeString_ #[128, 3] 9 #[.pointer (some ⟨g, 0, none⟩), .int .i64 l.length]).run Tryz.prog w.drew = .ok (.string (bs l)) (w.drew.freeze ⟨g, 0, none⟩ l.length) := by
  refine Lib.run_unsafeString_row w.drew 128 3 9 5 Tryz.underlying128 cellsU8 g cur.size (by have hg' : w.drew.heap[g]? = some (.cells cur 5 (0, 0)) := hg; simp [World.shape?, hg']) l h0 (by omega) (by unfold maxLen at hcm; omega) ?_
  intro j x hx
  have := hown.cells (g := g) rfl j (.int .u8 x.toNat) (by simp [Lib.byteCells, hx])
  exact this
 clear hown hcs htake hcm hnc hne h
 go_enter Tryz.func29, Tryz.ntmps29
 go_wp2
 go_region
 all_goals (go_wp2; go_ret; exact ⟨rfl, Lib.below_freeze (Below.drew (Below.refl B w)) (p := ⟨g, 0, none⟩) hbg _⟩)
theorem string_nil (B b : Nat) (p : Value) (w : World) (hbk : w.heap[b]? = some (.cells #[p, .slice none 0 0] 81 (0, 0))) :
  Calls Tryz.prog 29 #[.pointer (some ⟨b, 0, none⟩)] w fun e w' => e = .returned (.string (bs [])) /\ Below B w w' := by
 have hUS : ∀ (W : World) (q : Option Addr), (Builtin.unsafeString_ #[128, 3] 9 #[.pointer q, .int .i64 0]).run Tryz.prog W = .ok (.string .empty) W := fun W q => Lib.run_unsafeString_none W _ _ _ q
 have c1 : w.drew.cell? ⟨b, 1, none⟩ = some (.slice none 0 0) := by
  have : w.drew.heap[b]? = some (.cells #[p, .slice none 0 0] 81 (0, 0)) := hbk
  rw [Lib.cell_of_heap this]; rfl
 have hSD : (Builtin.unsafeSliceData_ #[58] 128 #[.slice none 0 0]).run Tryz.prog w.drew = .ok (.pointer none) w.drew := rfl
 go_enter Tryz.func29, Tryz.ntmps29
 go_wp2
 go_region
 all_goals (go_wp2; go_ret; exact ⟨rfl, Below.drew (Below.refl B w)⟩)
theorem PB.lt {B b : Nat} {l : Str} {w : World} (h : PB B b l w) : B <= b /\ b < w.heap.size := by
 rcases h.1 with h | h
 ·exact ⟨h.1, h.lt⟩
 exact ⟨h.1, h.lt⟩
theorem BuilderAt.keep_ {T e : TypeId} {B b : Nat} {p : Value} {bs : List Value} {w w' : World} (h : Lib.BuilderAt T e B b p bs w) (hb : Below w.heap.size w w') : Lib.BuilderAt T e B b p bs w' := by
 obtain ⟨hB, v, hbk, hown, hne⟩ := h
 have hlt : b < w.heap.size := Lib.BuilderAt.lt ⟨hB, v, hbk, hown, hne⟩
 exact ⟨hB, v, (hb.block b hlt).trans hbk, hown.kept (row := none) ⟨hb.os, hb.tape, hb.output, hb.size, fun k hk _ => hb.block k hk⟩ (by cases hv : v.ownBlock <;> simp), hne⟩
theorem PB.keep {B b : Nat} {l : Str} {w w' : World} (h : PB B b l w) (hb : Below w.heap.size w w') : PB B b l w' := by
 refine ⟨?_, fun hl => (hb.block b h.lt.2).trans (h.2 hl)⟩
 rcases h.1 with h1 | h1
 ·exact .inl (BuilderAt.keep_ h1 hb)
 exact .inr (BuilderAt.keep_ h1 hb)
theorem PB.fresh (w : World) : PB w.heap.size w.heap.size [] (w.alloc (.cells #[.pointer none, .slice none 0 0] 81)) :=
 ⟨Lib.fresh_isBuilder _ _ w, fun _ => heap_alloc_new w _⟩
theorem string_any (B b : Nat) (l : Str) (w : World) (h : PB B b l w) :
  Calls Tryz.prog 29 #[.pointer (some ⟨b, 0, none⟩)] w fun e w' => e = .returned (.string (bs l)) /\ Below B w w' := by
 by_cases hl : l = []
 ·subst hl
  exact string_nil B b _ w (h.2 rfl)
 exact string_some B b l w h.1 hl
/-- A line's text. -/
def lineT (d : Nat) (s : Str) : Str := Lib.repeatL [32, 32] d ++ s ++ [10]
theorem repeat_any (d : Nat) (w : World) (hd : d <= 1000) : Calls Tryz.prog 50 #[.string ⟨#[32, 32]⟩, .int .i64 (d : Int)] w fun e w' => e = .returned (.string (bs (Lib.repeatL [32, 32] d))) /\ Below w.heap.size w w' :=
 Tryz.strings_Repeat ⟨#[32, 32]⟩ d w (by omega) (by rw [show (⟨#[32, 32]⟩ : ByteArray).size = 2 from rfl]; omega)
theorem line_any (B b : Nat) (l s : Str) (d : Nat) (w : World) (hd : d <= 1000) (h : PB B b l w) (hlen : l.length + s.length <= 900000000) (hBw : B <= w.heap.size) :
  Calls Tryz.prog 25 #[.pointer (some ⟨b, 0, none⟩), .int .i64 (d : Int), .string (bs s)] w fun e w' => e = .returned (.tuple #[]) /\ PB B b (l ++ lineT d s) w' /\ Below B w w' /\ Fr b w w' := by
 have HR := hI (fun W => repeat_any d W hd)
 have hr : (Lib.repeatL [32, 32] d).length = d * 2 := Lib.repeatL_length _ _
 obtain ⟨R, hR⟩ : ∃ R, R = Lib.repeatL [32, 32] d := ⟨_, rfl⟩
 rw [<- hR] at HR hr
 obtain ⟨c1, hc1⟩ : ∃ c, c = R ++ s := ⟨_, rfl⟩
 have l1 : c1.length = R.length + s.length := by rw [hc1, List.length_append]
 have j1 : ∀ w, (Op.stringOp .add (bs R) (bs s)).run Tryz.prog w = .ok (.string (bs c1)) w := fun w => by rw [hc1]; exact add_big R s (by omega) w
 obtain ⟨c2, hc2⟩ : ∃ c, c = c1 ++ ([10] : Str) := ⟨_, rfl⟩
 have l2 : c2.length = c1.length + 1 := by rw [hc2]; exact List.length_append
 have j2 : ∀ w, (Op.stringOp .add (bs c1) (⟨#[10]⟩ : ByteArray)).run Tryz.prog w = .ok (.string (bs c2)) w := fun w => by rw [hc2]; exact add_big c1 [10] (by simp; omega) w
 have hF : lineT d s = c2 := by rw [lineT, <- hR, hc2, hc1]
 have hne : c2 ≠ [] := by rw [hc2]; simp
 rw [hF]
 have HH := hI h
 have HW := hI (show ∀ W, Below w.heap.size w W -> Calls Tryz.prog 49 #[.pointer (some ⟨b, 0, none⟩), .string (bs c2)] W fun e w' => e = .returned (.tuple #[.int .i64 (bs c2).size, .nilIface]) /\ (Lib.BuilderAt 81 5 B b (.pointer (some ⟨b, 0, none⟩)) (Lib.byteCells (l ++ c2)) w' /\ Below B W w' /\ Fr b W w') from fun W hb => write_any B b l c2 W (h.keep hb).1 (by omega) (by have := hb.size; omega))
 have HNE := hI hne
 have HBW := hI hBw
 clear hR hc1 l1 hc2 l2 hF hlen hd hr h hne
 have zz : Bz w w.drew := ⟨(Below.refl _ _).drew⟩
 go_enter Tryz.func25, Tryz.ntmps25
 go_upto_region 0 with fail
 go_region_held3 (fun W => True) (trivial) (first
  | (go_at_call 50; refine (HR.out _).mono ?_; rintro e w1 ⟨rfl, hb⟩; have z1 := Bz.next zz hb; clear hb)
  | (go_at_call 49; refine (HW.out _ z1.b).mono ?_; rintro e w2 ⟨rfl, h2, hb2, hf2⟩; have H2 := hI h2; have HB2 := hI ((z1.b.mono HBW.out).trans hb2); have HF2 := hI ((Fr.of_below z1.b).trans hf2); clear h2 hb2 hf2))
 all_goals
  go_end0
  exact ⟨rfl, ⟨.inr H2.out, fun h => absurd (List.append_eq_nil_iff.1 h).2 HNE.out⟩, HB2.out, HF2.out⟩
open Go.RowKit
mutual
/-- A statement's lines. -/
def txS (d : Nat) : St -> Str
 | .mk k s n e b l => if k = 0 then lineT d ([108, 101, 116, 32] ++ s ++ [32, 61, 32] ++ txE e ++ [59]) else if k = 1 then lineT d (s ++ [32, 61, 32] ++ txE e ++ [59])
  else if k = 2 then lineT d (txE e ++ [59]) else if k = 5 then lineT d ([114, 101, 116, 117, 114, 110, 32] ++ txE e ++ [59]) else if k = 6 then lineT d ([97, 98, 111, 114, 116, 32] ++ Lib.itoa n ++ [59])
  else if k = 4 then lineT d ([114, 101, 112, 101, 97, 116, 32] ++ Lib.itoa n ++ [32, 123]) ++ txSs (d + 1) b ++ lineT d [125]
  else lineT d ([105, 102, 32] ++ txE e ++ [32, 123]) ++ txSs (d + 1) b ++ (if l.length = 0 then [] else lineT d [125, 32, 101, 108, 115, 101, 32, 123] ++ txSs (d + 1) l) ++ lineT d [125]
def txSs (d : Nat) : List St -> Str
 | [] => []
 | s :: t => txS d s ++ txSs d t
end
theorem chkSs_all {d : Int} : ∀ {l : List St}, chkSs d l = 0 -> ∀ x ∈ l, chkS d x = 0
 | [], _, x, h => by cases h
 | e :: t, h, x, hx => by
  rw [chkSs] at h
  split at h
  ·exact absurd h (by assumption)
  rename_i h3
  rcases List.mem_cons.1 hx with rfl | hx
  ·exact Classical.not_not.1 h3
  exact chkSs_all h x hx
theorem chkS_fields {d k n : Int} {s : Str} {e : Ex} {b l : List St} (h : chkS d (.mk k s n e b l) = 0) : d <= 12 /\ 0 <= k /\ k <= 6 /\ (¬ ((¬ k <= 1 /\ s ≠ []) ∨ (¬ (k = 4 ∨ k = 6) /\ n ≠ 0) ∨ (k ≠ 3 /\ 0 < l.length) ∨ (k ≠ 3 /\ k ≠ 4 /\ 0 < b.length) ∨ (hasX k = false /\ emptyE e = false) ∨ (k = 2 /\ e.kind ≠ 6 /\ e.kind ≠ 7))) /\ (k <= 1 -> nameOk s = true) /\ 0 <= n /\ (k = 4 -> n <= 64) /\ (hasX k = true -> chkE 1 e = 0) /\ chkSs (d + 1) b = 0 /\ chkSs (d + 1) l = 0 := by
 rw [chkS] at h
 split at h
 ·exact absurd h (by assumption)
 rename_i h0
 have hh : headS d k s n e b.length l.length = 0 := Classical.not_not.1 h0
 split at h
 ·rename_i h1; exact absurd h h1.2
 rename_i h1
 split at h
 ·exact absurd h (by assumption)
 rename_i h2
 unfold headS at hh
 split at hh
 ·cases hh
 split at hh
 ·cases hh
 split at hh
 ·cases hh
 split at hh
 ·cases hh
 split at hh
 ·cases hh
 rename_i e1 e2 e3 e4 e5
 refine ⟨by omega, by omega, by omega, e3, fun hk => ?_, by omega, fun hk => by omega, fun hx => Classical.byContradiction fun hc => h1 ⟨hx, hc⟩, Classical.not_not.1 h2, h⟩
 cases hq : nameOk s with
 | true => rfl
 | false => exact absurd ⟨hk, hq⟩ e4
theorem empty_of {e : Ex} (h : emptyE e = true) : e = .mk 0 0 [] [] [] [] := by
 obtain ⟨k, n, s, m, a, o⟩ := e
 unfold emptyE at h
 simp only [Bool.and_eq_true, decide_eq_true_eq, beq_iff_eq, Ex.kind, Ex.num, Ex.name, Ex.meth, Ex.args, Ex.orr, List.length_eq_zero_iff] at h
 obtain ⟨⟨⟨⟨⟨h1, h2⟩, rfl⟩, rfl⟩, rfl⟩, rfl⟩ := h
 obtain rfl : k = 0 := of_decide_eq_true h1
 obtain rfl : n = 0 := of_decide_eq_true h2
 rfl
/-- The shapes of valid statements. -/
inductive ShapeS (d : Int) : St -> Prop where
 | let_ (s : Str) (e : Ex) (hs : nameOk s = true) (he : chkE 1 e = 0) : ShapeS d (.mk 0 s 0 e [] [])
 | set_ (s : Str) (e : Ex) (hs : nameOk s = true) (he : chkE 1 e = 0) : ShapeS d (.mk 1 s 0 e [] [])
 | do_ (e : Ex) (hk : e.kind = 6 ∨ e.kind = 7) (he : chkE 1 e = 0) : ShapeS d (.mk 2 [] 0 e [] [])
 | if_ (e : Ex) (b l : List St) (he : chkE 1 e = 0) (hb : chkSs (d + 1) b = 0) (hl : chkSs (d + 1) l = 0) : ShapeS d (.mk 3 [] 0 e b l)
 | repeat_ (n : Int) (b : List St) (h0 : 0 <= n) (h1 : n <= 64) (hb : chkSs (d + 1) b = 0) : ShapeS d (.mk 4 [] n (.mk 0 0 [] [] [] []) b [])
 | return_ (e : Ex) (he : chkE 1 e = 0) : ShapeS d (.mk 5 [] 0 e [] [])
 | abort_ (n : Int) (h0 : 0 <= n) : ShapeS d (.mk 6 [] n (.mk 0 0 [] [] [] []) [] [])
theorem shapeS_of {d : Int} {x : St} (h : chkS d x = 0) : ShapeS d x /\ d <= 12 := by
 obtain ⟨k, s, n, e, b, l⟩ := x
 obtain ⟨hd, hk0, hk6, hf, hs, hn, h64, hx, hb, hl⟩ := chkS_fields h
 refine ⟨?_, hd⟩
 have f1 : ¬ k <= 1 -> s = [] := fun h => Classical.byContradiction fun hc => hf (.inl ⟨h, hc⟩)
 have f2 : ¬ (k = 4 ∨ k = 6) -> n = 0 := fun h => Classical.byContradiction fun hc => hf (.inr (.inl ⟨h, hc⟩))
 have f3 : k ≠ 3 -> l = [] := fun h => List.eq_nil_of_length_eq_zero (Nat.eq_zero_of_not_pos fun hc => hf (.inr (.inr (.inl ⟨h, hc⟩))))
 have f4 : k ≠ 3 -> k ≠ 4 -> b = [] := fun h h' => List.eq_nil_of_length_eq_zero (Nat.eq_zero_of_not_pos fun hc => hf (.inr (.inr (.inr (.inl ⟨h, h', hc⟩)))))
 have f5 : hasX k = false -> emptyE e = true := fun h => by
  cases hq : emptyE e with
  | true => rfl
  | false => exact absurd (.inr (.inr (.inr (.inr (.inl ⟨h, hq⟩))))) hf
 have f6 : k = 2 -> e.kind = 6 ∨ e.kind = 7 := fun h => Classical.byContradiction fun hc => hf (.inr (.inr (.inr (.inr (.inr ⟨h, fun h6 => hc (.inl h6), fun h7 => hc (.inr h7)⟩)))))
 clear hf h
 have hk : k = 0 ∨ k = 1 ∨ k = 2 ∨ k = 3 ∨ k = 4 ∨ k = 5 ∨ k = 6 := by omega
 rcases hk with rfl | rfl | rfl | rfl | rfl | rfl | rfl
 ·obtain rfl := f2 (by decide); obtain rfl := f3 (by decide); obtain rfl := f4 (by decide) (by decide)
  exact .let_ s e (hs (by decide)) (hx rfl)
 ·obtain rfl := f2 (by decide); obtain rfl := f3 (by decide); obtain rfl := f4 (by decide) (by decide)
  exact .set_ s e (hs (by decide)) (hx rfl)
 ·obtain rfl := f1 (by decide); obtain rfl := f2 (by decide); obtain rfl := f3 (by decide); obtain rfl := f4 (by decide) (by decide)
  exact .do_ e (f6 rfl) (hx rfl)
 ·obtain rfl := f1 (by decide); obtain rfl := f2 (by decide)
  exact .if_ e b l (hx rfl) hb hl
 ·obtain rfl := f1 (by decide); obtain rfl := f3 (by decide); obtain rfl := empty_of (f5 rfl)
  exact .repeat_ n b hn (h64 rfl) hb
 ·obtain rfl := f1 (by decide); obtain rfl := f2 (by decide); obtain rfl := f3 (by decide); obtain rfl := f4 (by decide) (by decide)
  exact .return_ e (hx rfl)
 obtain rfl := f1 (by decide); obtain rfl := f3 (by decide); obtain rfl := f4 (by decide) (by decide); obtain rfl := empty_of (f5 rfl)
 exact .abort_ n hn
theorem lineT_len (d : Nat) (s : Str) : (lineT d s).length = d * 2 + s.length + 1 := by
 unfold lineT
 rw [List.length_append, List.length_append, Lib.repeatL_length]
 rfl
/-- The printer's state behind some calls: its text is l; block q holds X. -/
structure Pz (B b : Nat) (w : World) (q : Nat) (T : TypeId) (X : Array Value) (l : Str) (W : World) : Prop where
 pb : PB B b l W
 bl : Below B w W
 fr : Fr b w W
 sz : B <= W.heap.size
 bx : W.heap[q]? = some (.cells X T (0, 0))
 qb : q ≠ b
 ty : T ≠ 5
section
variable {B b : Nat} {w : World} {q : Nat} {T : TypeId} {X : Array Value} {l l' : Str} {W W' : World}
theorem Pz.next (h : Pz B b w q T X l W) (hb : Below W.heap.size W W') : Pz B b w q T X l W' :=
 ⟨h.pb.keep hb, h.bl.trans (hb.mono h.sz), h.fr.trans (Fr.of_below hb), Nat.le_trans h.sz hb.size, (hb.block q (lt_of_block h.bx)).trans h.bx, h.qb, h.ty⟩
theorem Pz.put (h : Pz B b w q T X l W) (hp : PB B b l' W') (hb : Below B W W') (hf : Fr b W W') : Pz B b w q T X l' W' :=
 ⟨hp, h.bl.trans hb, h.fr.trans hf, Nat.le_trans h.sz hb.size, hf.block q _ _ _ h.qb h.ty h.bx, h.qb, h.ty⟩
theorem Pz.drew (h : Pz B b w q T X l W) : Pz B b w q T X l W.drew := h.next (Below.refl _ _).drew
theorem Pz.start (h : PB B b l w) (hB : B <= w.heap.size) (hT : T ≠ 5) : Pz B b w w.heap.size T X l (w.alloc (.cells X T)) :=
 have hb : Below w.heap.size w (w.alloc (.cells X T)) := (Below.refl _ _).alloc (Nat.le_refl _) _
 ⟨h.keep hb, hb.mono hB, Fr.of_below hb, Nat.le_trans hB hb.size, heap_alloc_new w _, Nat.ne_of_gt h.lt.2, hT⟩
end
def StmtAt (e : St) : Prop := ∀ (d : Nat) (D : Int) (w0 : World) (S : Nat -> Prop) (cs : List Value) (B b : Nat) (l : Str) (w : World), D = (d : Int) -> SxW w0 -> chkS D e = 0 -> e.size <= 100000 -> l.length + (txS d e).length <= 800000000 -> SV w0 S e cs -> Below w0.heap.size w0 w -> w0.heap.size <= B -> B <= w.heap.size -> PB B b l w ->
 Calls Tryz.prog 52 #[.pointer (some ⟨b, 0, none⟩), .int .i64 D, .agg cs.toArray] w fun e' w' => e' = .returned (.tuple #[]) /\ PB B b (l ++ txS d e) w' /\ Below B w w' /\ Fr b w w'
def AllAt (ls : List St) : Prop := ∀ (d : Nat) (D : Int) (w0 : World) (S : Nat -> Prop) (A : Option Addr) (n c : Nat) (B b : Nat) (l : Str) (w : World), D = (d : Int) -> SxW w0 -> chkSs D ls = 0 -> St.sizes ls <= 100000 -> l.length + (txSs d ls).length <= 800000000 -> SL w0 S A n c ls -> Below w0.heap.size w0 w -> w0.heap.size <= B -> B <= w.heap.size -> PB B b l w ->
 Calls Tryz.prog 27 #[.pointer (some ⟨b, 0, none⟩), .int .i64 D, .slice A n c] w fun e' w' => e' = .returned (.tuple #[]) /\ PB B b (l ++ txSs d ls) w' /\ Below B w w' /\ Fr b w w'
theorem txSs_take {d : Nat} {l : List St} {q : Nat} {x : St} (h : l[q]? = some x) : txSs d (l.take (q + 1)) = txSs d (l.take q) ++ txS d x := by
 induction l generalizing q with
 | nil => simp at h
 | cons e t ih =>
  cases q with
  | zero =>
   obtain rfl : e = x := by simpa using h
   simp [txSs]
  | succ q =>
   rw [List.take_succ_cons, List.take_succ_cons, txSs, txSs, ih (by simpa using h), List.append_assoc]
theorem txSs_take_len (d : Nat) (l : List St) (q : Nat) : (txSs d (l.take q)).length <= (txSs d l).length := by
 induction l generalizing q with
 | nil => simp
 | cons e t ih =>
  cases q with
  | zero => simp [txSs]
  | succ q =>
   rw [List.take_succ_cons, txSs, txSs, List.length_append, List.length_append]
   have := ih q
   omega
theorem allAt_of {ls : List St} (h : ∀ x ∈ ls, StmtAt x) : AllAt ls := by
 intro d D w0 S A n c B b l w hD hw hc hz hlen hl hB0 hwB hBw hp
 have HIN := hI h
 have HL := hI hl
 have HLN := hI hl.1.1
 have HWS := hI hw
 have HC := hI (chkSs_all hc)
 have HZ := hI hz
 have HB0 := hI hB0
 have HWB := hI hwB
 have HLE := hI hlen
 have HDD := hI hD
 have hn6 : (n : Int) <= 100000 := by have := hl.1.1; have := St.len_sizes ls; omega
 have z0 : PB B b (l ++ txSs d (ls.take 0)) w /\ Below B w w /\ Fr b w w /\ B <= w.heap.size := ⟨by rw [List.take_zero, txSs, List.append_nil]; exact hp, Below.refl _ _, Fr.of_below (Below.refl _ _), hBw⟩
 have Z0 := hI z0
 clear h hl hw hc hz hlen hB0 hwB hBw hp z0 hD
 go_enter Tryz.func27, Tryz.ntmps27
 go_wp2_with fail
 go_loopw [10] (fun i wx => ∃ k : Nat, k <= ls.length /\ i = .int .i64 k /\ Hid (PB B b (l ++ txSs d (ls.take k)) wx /\ Below B w wx /\ Fr b w wx /\ B <= wx.heap.size)) (fun i _ => ls.length - (intOf i).toNat)
 case atStart => exact ⟨0, Nat.zero_le _, rfl, Z0⟩
 case round =>
  clear Z0
  obtain ⟨k, hk, rfl, Z⟩ := hrel
  by_cases hlt : k < ls.length
  ·have hi2 : (k : Int) < (n : Int) := by have := HLN.out; omega
   have hbase := HB0.out.trans (Z.out.2.1.mono HWB.out)
   obtain ⟨x, bq, off, cs, hx, rfl, hb, hS, hxv, hrow⟩ := HL.out.at k (by have := HLN.out; omega)
   have HQL := hI hlt
   have hmem := List.mem_of_getElem? hx
   have hbb := hbase.alloc hbase.size (.cells cs.toArray 74)
   have ha : Below wr.heap.size wr (wr.alloc (.cells cs.toArray 74)) := (Below.refl _ _).alloc (Nat.le_refl _) _
   have hlen2 : (l ++ txSs d (ls.take k)).length + (txS d x).length <= 800000000 := by
    have h1 := txSs_take_len d ls (k + 1)
    rw [txSs_take hx, List.length_append] at h1
    have := HLE.out
    rw [List.length_append]
    omega
   have HTX := hI (HIN.out x hmem d D w0 S cs B b _ _ HDD.out HWS.out (HC.out x hmem) (by have := St.sizes_mem hmem; have := HZ.out; omega) hlen2 hxv hbb HWB.out (Nat.le_trans Z.out.2.2.2 ha.size) (Z.out.1.keep ha))
   have HAL := hI ha
   have HSN := hI (show l ++ txSs d (ls.take (k + 1)) = (l ++ txSs d (ls.take k)) ++ txS d x by rw [txSs_take hx, List.append_assoc])
   have hrow2 := rangeAt_keep hrow (hbase.block bq hb)
   obtain ⟨xk, xs, xn, xe, xb, xl⟩ := x
   obtain ⟨ex, B2, nb2, cb2, L2, nl2, cl2, rfl, hex, -, -⟩ := hxv.open_
   obtain ⟨ek, en, es, em, ea, eo⟩ := xe
   obtain ⟨A2, na2, ca2, O2, no2, co2, rfl, -, -⟩ := hex.open_
   obtain ⟨e0, e1, e2, e3, e4, e5, e6, e7, e8, e9, e10⟩ := stC_at hrow2
   clear hx hb hS hxv hrow hrow2 hlt hmem hbb ha hlen2 hex hbase
   unfold stC exC at HTX HAL
   simp only [List.cons_append, List.nil_append] at HTX HAL
   go_wp2_with fail
   refine HTX.out.mono ?_
   rintro e wo ⟨rfl, hp2, hb2, hf2⟩
   have Z2 : Hid (PB B b (l ++ txSs d (ls.take (k + 1))) wo /\ Below B w wo /\ Fr b w wo /\ B <= wo.heap.size) := hI ⟨by rw [HSN.out]; exact hp2, (Z.out.2.1.trans (HAL.out.mono Z.out.2.2.2)).trans hb2, (Z.out.2.2.1.trans (Fr.of_below HAL.out)).trans hf2, Nat.le_trans (Nat.le_trans Z.out.2.2.2 HAL.out.size) hb2.size⟩
   clear hp2 hb2 hf2 e0 e1 e2 e3 e4 e5 e6 e7 e8 e9 e10 HTX Z
   go_wp2
   go_roundw
   case rel => exact ⟨k + 1, HQL.out, by go_num, Z2⟩
   case measure => exact meas_up _ _ HQL.out
  have hi2 : ¬ (k : Int) < (n : Int) := by have := HLN.out; omega
  have HF := hI (show ls.take k = ls from List.take_of_length_le (by omega))
  rw [HF.out] at Z
  clear hlt hk
  go_wp2
  go_end0
  exact ⟨rfl, Z.out.1, Z.out.2.1, Z.out.2.2.1⟩
open Go.RowKit
theorem stmt_let (s : Str) (e : Ex) : StmtAt (.mk 0 s 0 e [] []) := by
 intro d D w0 S cs B b l w hD hw hc hz hlen hx hB0 hwB hBw hp
 obtain ⟨hd12, -, -, -, hsn, hn0, hn64, hce, hcb, hcl⟩ := chkS_fields hc
 have hnr := hx.num
 obtain ⟨ex, Bb, nb, cb, Ls, nl, cl, rfl, hex, hbB, hbL⟩ := hx.open_
 have hd1000 : d <= 1000 := by omega
 simp only [St.size, St.sizes] at hz
 have z0 := Pz.start (T := 74) (X := (stC 0 s 0 ex Bb nb cb Ls nl cl).toArray) hp hBw (by decide)
 have HBS := hI (show ∀ W, Below B w W -> Below w0.heap.size w0 W from fun W h => hB0.trans (h.mono hwB))
 have hce1 := hce rfl
 have hlt := txE_len e 1 hce1 hex.wd
 have HT0 := textAt_any e
 unfold TextAt at HT0
 obtain ⟨t, ht⟩ : ∃ t, t = txE e := ⟨_, rfl⟩
 rw [<- ht] at HT0 hlt
 have hls := name_len (hsn (by decide))
 obtain ⟨T, hT⟩ : ∃ T, T = txS d (.mk 0 s 0 e [] []) := ⟨_, rfl⟩
 rw [<- hT] at hlen ⊢
 rw [txS, if_pos rfl, <- ht] at hT
 obtain ⟨c1, hc1⟩ : ∃ c, c = ([108, 101, 116, 32] : Str) ++ s := ⟨_, rfl⟩
 have lc1 : c1.length = 4 + s.length := by rw [hc1]; exact List.length_append
 have jc1 : ∀ w, (Op.stringOp .add (⟨#[108, 101, 116, 32]⟩ : ByteArray) (bs s)).run Tryz.prog w = .ok (.string (bs c1)) w := fun w => by rw [hc1]; exact add_big ([108, 101, 116, 32] : Str) s (by first | omega | (simp; omega)) w
 obtain ⟨c2, hc2⟩ : ∃ c, c = c1 ++ ([32, 61, 32] : Str) := ⟨_, rfl⟩
 have lc2 : c2.length = c1.length + 3 := by rw [hc2]; exact List.length_append
 have jc2 : ∀ w, (Op.stringOp .add (bs c1) (⟨#[32, 61, 32]⟩ : ByteArray)).run Tryz.prog w = .ok (.string (bs c2)) w := fun w => by rw [hc2]; exact add_big c1 ([32, 61, 32] : Str) (by first | omega | (simp; omega)) w
 obtain ⟨c3, hc3⟩ : ∃ c, c = c2 ++ t := ⟨_, rfl⟩
 have lc3 : c3.length = c2.length + t.length := by rw [hc3]; exact List.length_append
 have jc3 : ∀ w, (Op.stringOp .add (bs c2) (bs t)).run Tryz.prog w = .ok (.string (bs c3)) w := fun w => by rw [hc3]; exact add_big c2 t (by first | omega | (simp; omega)) w
 obtain ⟨c4, hc4⟩ : ∃ c, c = c3 ++ ([59] : Str) := ⟨_, rfl⟩
 have lc4 : c4.length = c3.length + 1 := by rw [hc4]; exact List.length_append
 have jc4 : ∀ w, (Op.stringOp .add (bs c3) (⟨#[59]⟩ : ByteArray)).run Tryz.prog w = .ok (.string (bs c4)) w := fun w => by rw [hc4]; exact add_big c3 ([59] : Str) (by first | omega | (simp; omega)) w
 rw [<- hc1, <- hc2, <- hc3, <- hc4] at hT
 have hTl := congrArg List.length hT
 rw [lineT_len] at hTl
 obtain ⟨ek, en, es, em, ea, eo⟩ := e
 obtain ⟨A2, na2, ca2, O2, no2, co2, rfl, -, -⟩ := hex.open_
 have z0 : Pz B b w w.heap.size 74 #[.int .i64 0, .string (bs s), .int .i64 0, .int .i64 ek, .int .i64 en, .string (bs es), .string (bs em), .slice A2 na2 ca2, .slice O2 no2 co2, .slice Bb nb cb, .slice Ls nl cl] l (w.alloc (.cells #[.int .i64 0, .string (bs s), .int .i64 0, .int .i64 ek, .int .i64 en, .string (bs es), .string (bs em), .slice A2 na2 ca2, .slice O2 no2 co2, .slice Bb nb cb, .slice Ls nl cl] 74)) := z0
 have HC := hI (show ∀ l' W, Pz B b w w.heap.size 74 #[.int .i64 0, .string (bs s), .int .i64 0, .int .i64 ek, .int .i64 en, .string (bs es), .string (bs em), .slice A2 na2 ca2, .slice O2 no2 co2, .slice Bb nb cb, .slice Ls nl cl] l' W -> (W.cell? ⟨w.heap.size, 0, none⟩ = some (.int .i64 0) /\ W.cell? ⟨w.heap.size, 1, none⟩ = some (.string (bs s)) /\ W.cell? ⟨w.heap.size, 2, none⟩ = some (.int .i64 0) /\ W.cell? ⟨w.heap.size, 3, none⟩ = some (.int .i64 ek) /\ W.cell? ⟨w.heap.size, 4, none⟩ = some (.int .i64 en) /\ W.cell? ⟨w.heap.size, 5, none⟩ = some (.string (bs es)) /\ W.cell? ⟨w.heap.size, 6, none⟩ = some (.string (bs em)) /\ W.cell? ⟨w.heap.size, 7, none⟩ = some (.slice A2 na2 ca2) /\ W.cell? ⟨w.heap.size, 8, none⟩ = some (.slice O2 no2 co2) /\ W.cell? ⟨w.heap.size, 9, none⟩ = some (.slice Bb nb cb) /\ W.cell? ⟨w.heap.size, 10, none⟩ = some (.slice Ls nl cl)) from fun l' W z => st_cells z.bx)
 have HW := hI (show ∀ l' W, Pz B b w w.heap.size 74 #[.int .i64 0, .string (bs s), .int .i64 0, .int .i64 ek, .int .i64 en, .string (bs es), .string (bs em), .slice A2 na2 ca2, .slice O2 no2 co2, .slice Bb nb cb, .slice Ls nl cl] l' W -> SxW W from fun l' W z => hw.below (HBS.out W z.bl))
 have HT := hI (show ∀ l' W, Pz B b w w.heap.size 74 #[.int .i64 0, .string (bs s), .int .i64 0, .int .i64 ek, .int .i64 en, .string (bs es), .string (bs em), .slice A2 na2 ca2, .slice O2 no2 co2, .slice Bb nb cb, .slice Ls nl cl] l' W -> Calls Tryz.prog 85 #[.agg #[.int .i64 ek, .int .i64 en, .string (bs es), .string (bs em), .slice A2 na2 ca2, .slice O2 no2 co2]] W fun e' w' => e' = .returned (.string (bs t)) /\ Below W.heap.size W w' from fun l' W z => HT0 1 W S _ (HW.out l' W z) hce1 (by omega) (hex.below (HBS.out W z.bl)))
 have HL1 := hI (show ∀ W, Pz B b w w.heap.size 74 #[.int .i64 0, .string (bs s), .int .i64 0, .int .i64 ek, .int .i64 en, .string (bs es), .string (bs em), .slice A2 na2 ca2, .slice O2 no2 co2, .slice Bb nb cb, .slice Ls nl cl] (l) W -> Calls Tryz.prog 25 #[.pointer (some ⟨b, 0, none⟩), .int .i64 D, .string (bs c4)] W fun e w' => e = .returned (.tuple #[]) /\ PB B b (l ++ lineT d c4) w' /\ Below B W w' /\ Fr b W w' from fun W z => by
  rw [hD]
  exact line_any B b (l) c4 d W hd1000 z.pb (by omega) z.sz)
 have HEND := hI (show l ++ lineT d c4 = l ++ T from by rw [hT]; all_goals simp only [List.append_assoc])
 clear hT hTl hc1 lc1 hc2 lc2 hc3 lc3 hc4 lc4 ht hlt HT0 hex hbB hbL hcb hcl hce hsn hn0 hn64 hnr hc hz hlen hx hB0 hwB hBw hp hd1000 hw hD hce1 hls
 unfold stC exC
 simp only [List.cons_append, List.nil_append]
 go_enter Tryz.func52, Tryz.ntmps52
 go_upto_region 3 with fail
 have z1 := z0.drew
 go_region_held3 (fun W => (W.cell? ⟨w.heap.size, 0, none⟩ = some (.int .i64 0) /\ W.cell? ⟨w.heap.size, 1, none⟩ = some (.string (bs s)) /\ W.cell? ⟨w.heap.size, 2, none⟩ = some (.int .i64 0) /\ W.cell? ⟨w.heap.size, 3, none⟩ = some (.int .i64 ek) /\ W.cell? ⟨w.heap.size, 4, none⟩ = some (.int .i64 en) /\ W.cell? ⟨w.heap.size, 5, none⟩ = some (.string (bs es)) /\ W.cell? ⟨w.heap.size, 6, none⟩ = some (.string (bs em)) /\ W.cell? ⟨w.heap.size, 7, none⟩ = some (.slice A2 na2 ca2) /\ W.cell? ⟨w.heap.size, 8, none⟩ = some (.slice O2 no2 co2) /\ W.cell? ⟨w.heap.size, 9, none⟩ = some (.slice Bb nb cb) /\ W.cell? ⟨w.heap.size, 10, none⟩ = some (.slice Ls nl cl))) (exact HC.out _ _ (by assumption)) (first
  | (go_at_call 85; refine (HT.out _ _ (by assumption)).mono ?_; rintro e wt ⟨rfl, hb⟩; have zt := Pz.next (by assumption) hb; clear hb)
  | (go_at_call 25; refine (HL1.out _ (by assumption)).mono ?_; rintro e ws ⟨rfl, hp', hb', hf'⟩; have zs := Pz.put (by assumption) hp' hb' hf'; clear hp' hb' hf'))
 all_goals
  try go_wp2
  go_end0
  have zf := zs
  rw [HEND.out] at zf
  exact ⟨rfl, zf.pb, zf.bl, zf.fr⟩
theorem stmt_set (s : Str) (e : Ex) : StmtAt (.mk 1 s 0 e [] []) := by
 intro d D w0 S cs B b l w hD hw hc hz hlen hx hB0 hwB hBw hp
 obtain ⟨hd12, -, -, -, hsn, hn0, hn64, hce, hcb, hcl⟩ := chkS_fields hc
 have hnr := hx.num
 obtain ⟨ex, Bb, nb, cb, Ls, nl, cl, rfl, hex, hbB, hbL⟩ := hx.open_
 have hd1000 : d <= 1000 := by omega
 simp only [St.size, St.sizes] at hz
 have z0 := Pz.start (T := 74) (X := (stC 1 s 0 ex Bb nb cb Ls nl cl).toArray) hp hBw (by decide)
 have HBS := hI (show ∀ W, Below B w W -> Below w0.heap.size w0 W from fun W h => hB0.trans (h.mono hwB))
 have hce1 := hce rfl
 have hlt := txE_len e 1 hce1 hex.wd
 have HT0 := textAt_any e
 unfold TextAt at HT0
 obtain ⟨t, ht⟩ : ∃ t, t = txE e := ⟨_, rfl⟩
 rw [<- ht] at HT0 hlt
 have hls := name_len (hsn (by decide))
 obtain ⟨T, hT⟩ : ∃ T, T = txS d (.mk 1 s 0 e [] []) := ⟨_, rfl⟩
 rw [<- hT] at hlen ⊢
 rw [txS, if_neg (by decide), if_pos rfl, <- ht] at hT
 obtain ⟨c1, hc1⟩ : ∃ c, c = s ++ ([32, 61, 32] : Str) := ⟨_, rfl⟩
 have lc1 : c1.length = s.length + 3 := by rw [hc1]; exact List.length_append
 have jc1 : ∀ w, (Op.stringOp .add (bs s) (⟨#[32, 61, 32]⟩ : ByteArray)).run Tryz.prog w = .ok (.string (bs c1)) w := fun w => by rw [hc1]; exact add_big s ([32, 61, 32] : Str) (by first | omega | (simp; omega)) w
 obtain ⟨c2, hc2⟩ : ∃ c, c = c1 ++ t := ⟨_, rfl⟩
 have lc2 : c2.length = c1.length + t.length := by rw [hc2]; exact List.length_append
 have jc2 : ∀ w, (Op.stringOp .add (bs c1) (bs t)).run Tryz.prog w = .ok (.string (bs c2)) w := fun w => by rw [hc2]; exact add_big c1 t (by first | omega | (simp; omega)) w
 obtain ⟨c3, hc3⟩ : ∃ c, c = c2 ++ ([59] : Str) := ⟨_, rfl⟩
 have lc3 : c3.length = c2.length + 1 := by rw [hc3]; exact List.length_append
 have jc3 : ∀ w, (Op.stringOp .add (bs c2) (⟨#[59]⟩ : ByteArray)).run Tryz.prog w = .ok (.string (bs c3)) w := fun w => by rw [hc3]; exact add_big c2 ([59] : Str) (by first | omega | (simp; omega)) w
 rw [<- hc1, <- hc2, <- hc3] at hT
 have hTl := congrArg List.length hT
 rw [lineT_len] at hTl
 obtain ⟨ek, en, es, em, ea, eo⟩ := e
 obtain ⟨A2, na2, ca2, O2, no2, co2, rfl, -, -⟩ := hex.open_
 have z0 : Pz B b w w.heap.size 74 #[.int .i64 1, .string (bs s), .int .i64 0, .int .i64 ek, .int .i64 en, .string (bs es), .string (bs em), .slice A2 na2 ca2, .slice O2 no2 co2, .slice Bb nb cb, .slice Ls nl cl] l (w.alloc (.cells #[.int .i64 1, .string (bs s), .int .i64 0, .int .i64 ek, .int .i64 en, .string (bs es), .string (bs em), .slice A2 na2 ca2, .slice O2 no2 co2, .slice Bb nb cb, .slice Ls nl cl] 74)) := z0
 have HC := hI (show ∀ l' W, Pz B b w w.heap.size 74 #[.int .i64 1, .string (bs s), .int .i64 0, .int .i64 ek, .int .i64 en, .string (bs es), .string (bs em), .slice A2 na2 ca2, .slice O2 no2 co2, .slice Bb nb cb, .slice Ls nl cl] l' W -> (W.cell? ⟨w.heap.size, 0, none⟩ = some (.int .i64 1) /\ W.cell? ⟨w.heap.size, 1, none⟩ = some (.string (bs s)) /\ W.cell? ⟨w.heap.size, 2, none⟩ = some (.int .i64 0) /\ W.cell? ⟨w.heap.size, 3, none⟩ = some (.int .i64 ek) /\ W.cell? ⟨w.heap.size, 4, none⟩ = some (.int .i64 en) /\ W.cell? ⟨w.heap.size, 5, none⟩ = some (.string (bs es)) /\ W.cell? ⟨w.heap.size, 6, none⟩ = some (.string (bs em)) /\ W.cell? ⟨w.heap.size, 7, none⟩ = some (.slice A2 na2 ca2) /\ W.cell? ⟨w.heap.size, 8, none⟩ = some (.slice O2 no2 co2) /\ W.cell? ⟨w.heap.size, 9, none⟩ = some (.slice Bb nb cb) /\ W.cell? ⟨w.heap.size, 10, none⟩ = some (.slice Ls nl cl)) from fun l' W z => st_cells z.bx)
 have HW := hI (show ∀ l' W, Pz B b w w.heap.size 74 #[.int .i64 1, .string (bs s), .int .i64 0, .int .i64 ek, .int .i64 en, .string (bs es), .string (bs em), .slice A2 na2 ca2, .slice O2 no2 co2, .slice Bb nb cb, .slice Ls nl cl] l' W -> SxW W from fun l' W z => hw.below (HBS.out W z.bl))
 have HT := hI (show ∀ l' W, Pz B b w w.heap.size 74 #[.int .i64 1, .string (bs s), .int .i64 0, .int .i64 ek, .int .i64 en, .string (bs es), .string (bs em), .slice A2 na2 ca2, .slice O2 no2 co2, .slice Bb nb cb, .slice Ls nl cl] l' W -> Calls Tryz.prog 85 #[.agg #[.int .i64 ek, .int .i64 en, .string (bs es), .string (bs em), .slice A2 na2 ca2, .slice O2 no2 co2]] W fun e' w' => e' = .returned (.string (bs t)) /\ Below W.heap.size W w' from fun l' W z => HT0 1 W S _ (HW.out l' W z) hce1 (by omega) (hex.below (HBS.out W z.bl)))
 have HL1 := hI (show ∀ W, Pz B b w w.heap.size 74 #[.int .i64 1, .string (bs s), .int .i64 0, .int .i64 ek, .int .i64 en, .string (bs es), .string (bs em), .slice A2 na2 ca2, .slice O2 no2 co2, .slice Bb nb cb, .slice Ls nl cl] (l) W -> Calls Tryz.prog 25 #[.pointer (some ⟨b, 0, none⟩), .int .i64 D, .string (bs c3)] W fun e w' => e = .returned (.tuple #[]) /\ PB B b (l ++ lineT d c3) w' /\ Below B W w' /\ Fr b W w' from fun W z => by
  rw [hD]
  exact line_any B b (l) c3 d W hd1000 z.pb (by omega) z.sz)
 have HEND := hI (show l ++ lineT d c3 = l ++ T from by rw [hT]; all_goals simp only [List.append_assoc])
 clear hT hTl hc1 lc1 hc2 lc2 hc3 lc3 ht hlt HT0 hex hbB hbL hcb hcl hce hsn hn0 hn64 hnr hc hz hlen hx hB0 hwB hBw hp hd1000 hw hD hce1 hls
 unfold stC exC
 simp only [List.cons_append, List.nil_append]
 go_enter Tryz.func52, Tryz.ntmps52
 go_upto_region 5 with fail
 have z1 := z0.drew
 go_region_held3 (fun W => (W.cell? ⟨w.heap.size, 0, none⟩ = some (.int .i64 1) /\ W.cell? ⟨w.heap.size, 1, none⟩ = some (.string (bs s)) /\ W.cell? ⟨w.heap.size, 2, none⟩ = some (.int .i64 0) /\ W.cell? ⟨w.heap.size, 3, none⟩ = some (.int .i64 ek) /\ W.cell? ⟨w.heap.size, 4, none⟩ = some (.int .i64 en) /\ W.cell? ⟨w.heap.size, 5, none⟩ = some (.string (bs es)) /\ W.cell? ⟨w.heap.size, 6, none⟩ = some (.string (bs em)) /\ W.cell? ⟨w.heap.size, 7, none⟩ = some (.slice A2 na2 ca2) /\ W.cell? ⟨w.heap.size, 8, none⟩ = some (.slice O2 no2 co2) /\ W.cell? ⟨w.heap.size, 9, none⟩ = some (.slice Bb nb cb) /\ W.cell? ⟨w.heap.size, 10, none⟩ = some (.slice Ls nl cl))) (exact HC.out _ _ (by assumption)) (first
  | (go_at_call 85; refine (HT.out _ _ (by assumption)).mono ?_; rintro e wt ⟨rfl, hb⟩; have zt := Pz.next (by assumption) hb; clear hb)
  | (go_at_call 25; refine (HL1.out _ (by assumption)).mono ?_; rintro e ws ⟨rfl, hp', hb', hf'⟩; have zs := Pz.put (by assumption) hp' hb' hf'; clear hp' hb' hf'))
 all_goals
  try go_wp2
  go_end0
  have zf := zs
  rw [HEND.out] at zf
  exact ⟨rfl, zf.pb, zf.bl, zf.fr⟩
theorem stmt_do (e : Ex) : StmtAt (.mk 2 [] 0 e [] []) := by
 intro d D w0 S cs B b l w hD hw hc hz hlen hx hB0 hwB hBw hp
 obtain ⟨hd12, -, -, -, hsn, hn0, hn64, hce, hcb, hcl⟩ := chkS_fields hc
 have hnr := hx.num
 obtain ⟨ex, Bb, nb, cb, Ls, nl, cl, rfl, hex, hbB, hbL⟩ := hx.open_
 have hd1000 : d <= 1000 := by omega
 simp only [St.size, St.sizes] at hz
 have z0 := Pz.start (T := 74) (X := (stC 2 [] 0 ex Bb nb cb Ls nl cl).toArray) hp hBw (by decide)
 have HBS := hI (show ∀ W, Below B w W -> Below w0.heap.size w0 W from fun W h => hB0.trans (h.mono hwB))
 have hce1 := hce rfl
 have hlt := txE_len e 1 hce1 hex.wd
 have HT0 := textAt_any e
 unfold TextAt at HT0
 obtain ⟨t, ht⟩ : ∃ t, t = txE e := ⟨_, rfl⟩
 rw [<- ht] at HT0 hlt
 obtain ⟨T, hT⟩ : ∃ T, T = txS d (.mk 2 [] 0 e [] []) := ⟨_, rfl⟩
 rw [<- hT] at hlen ⊢
 rw [txS, if_neg (by decide), if_neg (by decide), if_pos rfl, <- ht] at hT
 obtain ⟨c1, hc1⟩ : ∃ c, c = t ++ ([59] : Str) := ⟨_, rfl⟩
 have lc1 : c1.length = t.length + 1 := by rw [hc1]; exact List.length_append
 have jc1 : ∀ w, (Op.stringOp .add (bs t) (⟨#[59]⟩ : ByteArray)).run Tryz.prog w = .ok (.string (bs c1)) w := fun w => by rw [hc1]; exact add_big t ([59] : Str) (by first | omega | (simp; omega)) w
 rw [<- hc1] at hT
 have hTl := congrArg List.length hT
 rw [lineT_len] at hTl
 obtain ⟨ek, en, es, em, ea, eo⟩ := e
 obtain ⟨A2, na2, ca2, O2, no2, co2, rfl, -, -⟩ := hex.open_
 have z0 : Pz B b w w.heap.size 74 #[.int .i64 2, .string (bs []), .int .i64 0, .int .i64 ek, .int .i64 en, .string (bs es), .string (bs em), .slice A2 na2 ca2, .slice O2 no2 co2, .slice Bb nb cb, .slice Ls nl cl] l (w.alloc (.cells #[.int .i64 2, .string (bs []), .int .i64 0, .int .i64 ek, .int .i64 en, .string (bs es), .string (bs em), .slice A2 na2 ca2, .slice O2 no2 co2, .slice Bb nb cb, .slice Ls nl cl] 74)) := z0
 have HC := hI (show ∀ l' W, Pz B b w w.heap.size 74 #[.int .i64 2, .string (bs []), .int .i64 0, .int .i64 ek, .int .i64 en, .string (bs es), .string (bs em), .slice A2 na2 ca2, .slice O2 no2 co2, .slice Bb nb cb, .slice Ls nl cl] l' W -> (W.cell? ⟨w.heap.size, 0, none⟩ = some (.int .i64 2) /\ W.cell? ⟨w.heap.size, 1, none⟩ = some (.string (bs [])) /\ W.cell? ⟨w.heap.size, 2, none⟩ = some (.int .i64 0) /\ W.cell? ⟨w.heap.size, 3, none⟩ = some (.int .i64 ek) /\ W.cell? ⟨w.heap.size, 4, none⟩ = some (.int .i64 en) /\ W.cell? ⟨w.heap.size, 5, none⟩ = some (.string (bs es)) /\ W.cell? ⟨w.heap.size, 6, none⟩ = some (.string (bs em)) /\ W.cell? ⟨w.heap.size, 7, none⟩ = some (.slice A2 na2 ca2) /\ W.cell? ⟨w.heap.size, 8, none⟩ = some (.slice O2 no2 co2) /\ W.cell? ⟨w.heap.size, 9, none⟩ = some (.slice Bb nb cb) /\ W.cell? ⟨w.heap.size, 10, none⟩ = some (.slice Ls nl cl)) from fun l' W z => st_cells z.bx)
 have HW := hI (show ∀ l' W, Pz B b w w.heap.size 74 #[.int .i64 2, .string (bs []), .int .i64 0, .int .i64 ek, .int .i64 en, .string (bs es), .string (bs em), .slice A2 na2 ca2, .slice O2 no2 co2, .slice Bb nb cb, .slice Ls nl cl] l' W -> SxW W from fun l' W z => hw.below (HBS.out W z.bl))
 have HT := hI (show ∀ l' W, Pz B b w w.heap.size 74 #[.int .i64 2, .string (bs []), .int .i64 0, .int .i64 ek, .int .i64 en, .string (bs es), .string (bs em), .slice A2 na2 ca2, .slice O2 no2 co2, .slice Bb nb cb, .slice Ls nl cl] l' W -> Calls Tryz.prog 85 #[.agg #[.int .i64 ek, .int .i64 en, .string (bs es), .string (bs em), .slice A2 na2 ca2, .slice O2 no2 co2]] W fun e' w' => e' = .returned (.string (bs t)) /\ Below W.heap.size W w' from fun l' W z => HT0 1 W S _ (HW.out l' W z) hce1 (by omega) (hex.below (HBS.out W z.bl)))
 have HL1 := hI (show ∀ W, Pz B b w w.heap.size 74 #[.int .i64 2, .string (bs []), .int .i64 0, .int .i64 ek, .int .i64 en, .string (bs es), .string (bs em), .slice A2 na2 ca2, .slice O2 no2 co2, .slice Bb nb cb, .slice Ls nl cl] (l) W -> Calls Tryz.prog 25 #[.pointer (some ⟨b, 0, none⟩), .int .i64 D, .string (bs c1)] W fun e w' => e = .returned (.tuple #[]) /\ PB B b (l ++ lineT d c1) w' /\ Below B W w' /\ Fr b W w' from fun W z => by
  rw [hD]
  exact line_any B b (l) c1 d W hd1000 z.pb (by omega) z.sz)
 have HEND := hI (show l ++ lineT d c1 = l ++ T from by rw [hT]; all_goals simp only [List.append_assoc])
 clear hT hTl hc1 lc1 ht hlt HT0 hex hbB hbL hcb hcl hce hsn hn0 hn64 hnr hc hz hlen hx hB0 hwB hBw hp hd1000 hw hD hce1
 unfold stC exC
 simp only [List.cons_append, List.nil_append]
 go_enter Tryz.func52, Tryz.ntmps52
 obtain ⟨c0, c1, c2, c3, c4, c5, c6, c7, c8, c9, c10⟩ := HC.out _ _ z0
 go_wp2_with fail
 refine (HT.out _ _ z0).mono ?_
 rintro e wt ⟨rfl, hb⟩
 have z1 := z0.next hb
 clear hb c0 c1 c2 c3 c4 c5 c6 c7 c8 c9 c10 z0
 obtain ⟨c0, c1, c2, c3, c4, c5, c6, c7, c8, c9, c10⟩ := HC.out _ _ z1
 go_wp2_with fail
 refine (HL1.out _ z1).mono ?_
 rintro e w2 ⟨rfl, hp', hb', hf'⟩
 have z2 := z1.put hp' hb' hf'
 clear hp' hb' hf' c0 c1 c2 c3 c4 c5 c6 c7 c8 c9 c10 z1
 try go_wp2
 go_end0
 rw [HEND.out] at z2
 exact ⟨rfl, z2.pb, z2.bl, z2.fr⟩
theorem stmt_return (e : Ex) : StmtAt (.mk 5 [] 0 e [] []) := by
 intro d D w0 S cs B b l w hD hw hc hz hlen hx hB0 hwB hBw hp
 obtain ⟨hd12, -, -, -, hsn, hn0, hn64, hce, hcb, hcl⟩ := chkS_fields hc
 have hnr := hx.num
 obtain ⟨ex, Bb, nb, cb, Ls, nl, cl, rfl, hex, hbB, hbL⟩ := hx.open_
 have hd1000 : d <= 1000 := by omega
 simp only [St.size, St.sizes] at hz
 have z0 := Pz.start (T := 74) (X := (stC 5 [] 0 ex Bb nb cb Ls nl cl).toArray) hp hBw (by decide)
 have HBS := hI (show ∀ W, Below B w W -> Below w0.heap.size w0 W from fun W h => hB0.trans (h.mono hwB))
 have hce1 := hce rfl
 have hlt := txE_len e 1 hce1 hex.wd
 have HT0 := textAt_any e
 unfold TextAt at HT0
 obtain ⟨t, ht⟩ : ∃ t, t = txE e := ⟨_, rfl⟩
 rw [<- ht] at HT0 hlt
 obtain ⟨T, hT⟩ : ∃ T, T = txS d (.mk 5 [] 0 e [] []) := ⟨_, rfl⟩
 rw [<- hT] at hlen ⊢
 rw [txS, if_neg (by decide), if_neg (by decide), if_neg (by decide), if_pos rfl, <- ht] at hT
 obtain ⟨c1, hc1⟩ : ∃ c, c = ([114, 101, 116, 117, 114, 110, 32] : Str) ++ t := ⟨_, rfl⟩
 have lc1 : c1.length = 7 + t.length := by rw [hc1]; exact List.length_append
 have jc1 : ∀ w, (Op.stringOp .add (⟨#[114, 101, 116, 117, 114, 110, 32]⟩ : ByteArray) (bs t)).run Tryz.prog w = .ok (.string (bs c1)) w := fun w => by rw [hc1]; exact add_big ([114, 101, 116, 117, 114, 110, 32] : Str) t (by first | omega | (simp; omega)) w
 obtain ⟨c2, hc2⟩ : ∃ c, c = c1 ++ ([59] : Str) := ⟨_, rfl⟩
 have lc2 : c2.length = c1.length + 1 := by rw [hc2]; exact List.length_append
 have jc2 : ∀ w, (Op.stringOp .add (bs c1) (⟨#[59]⟩ : ByteArray)).run Tryz.prog w = .ok (.string (bs c2)) w := fun w => by rw [hc2]; exact add_big c1 ([59] : Str) (by first | omega | (simp; omega)) w
 rw [<- hc1, <- hc2] at hT
 have hTl := congrArg List.length hT
 rw [lineT_len] at hTl
 obtain ⟨ek, en, es, em, ea, eo⟩ := e
 obtain ⟨A2, na2, ca2, O2, no2, co2, rfl, -, -⟩ := hex.open_
 have z0 : Pz B b w w.heap.size 74 #[.int .i64 5, .string (bs []), .int .i64 0, .int .i64 ek, .int .i64 en, .string (bs es), .string (bs em), .slice A2 na2 ca2, .slice O2 no2 co2, .slice Bb nb cb, .slice Ls nl cl] l (w.alloc (.cells #[.int .i64 5, .string (bs []), .int .i64 0, .int .i64 ek, .int .i64 en, .string (bs es), .string (bs em), .slice A2 na2 ca2, .slice O2 no2 co2, .slice Bb nb cb, .slice Ls nl cl] 74)) := z0
 have HC := hI (show ∀ l' W, Pz B b w w.heap.size 74 #[.int .i64 5, .string (bs []), .int .i64 0, .int .i64 ek, .int .i64 en, .string (bs es), .string (bs em), .slice A2 na2 ca2, .slice O2 no2 co2, .slice Bb nb cb, .slice Ls nl cl] l' W -> (W.cell? ⟨w.heap.size, 0, none⟩ = some (.int .i64 5) /\ W.cell? ⟨w.heap.size, 1, none⟩ = some (.string (bs [])) /\ W.cell? ⟨w.heap.size, 2, none⟩ = some (.int .i64 0) /\ W.cell? ⟨w.heap.size, 3, none⟩ = some (.int .i64 ek) /\ W.cell? ⟨w.heap.size, 4, none⟩ = some (.int .i64 en) /\ W.cell? ⟨w.heap.size, 5, none⟩ = some (.string (bs es)) /\ W.cell? ⟨w.heap.size, 6, none⟩ = some (.string (bs em)) /\ W.cell? ⟨w.heap.size, 7, none⟩ = some (.slice A2 na2 ca2) /\ W.cell? ⟨w.heap.size, 8, none⟩ = some (.slice O2 no2 co2) /\ W.cell? ⟨w.heap.size, 9, none⟩ = some (.slice Bb nb cb) /\ W.cell? ⟨w.heap.size, 10, none⟩ = some (.slice Ls nl cl)) from fun l' W z => st_cells z.bx)
 have HW := hI (show ∀ l' W, Pz B b w w.heap.size 74 #[.int .i64 5, .string (bs []), .int .i64 0, .int .i64 ek, .int .i64 en, .string (bs es), .string (bs em), .slice A2 na2 ca2, .slice O2 no2 co2, .slice Bb nb cb, .slice Ls nl cl] l' W -> SxW W from fun l' W z => hw.below (HBS.out W z.bl))
 have HT := hI (show ∀ l' W, Pz B b w w.heap.size 74 #[.int .i64 5, .string (bs []), .int .i64 0, .int .i64 ek, .int .i64 en, .string (bs es), .string (bs em), .slice A2 na2 ca2, .slice O2 no2 co2, .slice Bb nb cb, .slice Ls nl cl] l' W -> Calls Tryz.prog 85 #[.agg #[.int .i64 ek, .int .i64 en, .string (bs es), .string (bs em), .slice A2 na2 ca2, .slice O2 no2 co2]] W fun e' w' => e' = .returned (.string (bs t)) /\ Below W.heap.size W w' from fun l' W z => HT0 1 W S _ (HW.out l' W z) hce1 (by omega) (hex.below (HBS.out W z.bl)))
 have HL1 := hI (show ∀ W, Pz B b w w.heap.size 74 #[.int .i64 5, .string (bs []), .int .i64 0, .int .i64 ek, .int .i64 en, .string (bs es), .string (bs em), .slice A2 na2 ca2, .slice O2 no2 co2, .slice Bb nb cb, .slice Ls nl cl] (l) W -> Calls Tryz.prog 25 #[.pointer (some ⟨b, 0, none⟩), .int .i64 D, .string (bs c2)] W fun e w' => e = .returned (.tuple #[]) /\ PB B b (l ++ lineT d c2) w' /\ Below B W w' /\ Fr b W w' from fun W z => by
  rw [hD]
  exact line_any B b (l) c2 d W hd1000 z.pb (by omega) z.sz)
 have HEND := hI (show l ++ lineT d c2 = l ++ T from by rw [hT]; all_goals simp only [List.append_assoc])
 clear hT hTl hc1 lc1 hc2 lc2 ht hlt HT0 hex hbB hbL hcb hcl hce hsn hn0 hn64 hnr hc hz hlen hx hB0 hwB hBw hp hd1000 hw hD hce1
 unfold stC exC
 simp only [List.cons_append, List.nil_append]
 go_enter Tryz.func52, Tryz.ntmps52
 obtain ⟨c0, c1, c2, c3, c4, c5, c6, c7, c8, c9, c10⟩ := HC.out _ _ z0
 go_wp2_with fail
 refine (HT.out _ _ z0).mono ?_
 rintro e wt ⟨rfl, hb⟩
 have z1 := z0.next hb
 clear hb c0 c1 c2 c3 c4 c5 c6 c7 c8 c9 c10 z0
 obtain ⟨c0, c1, c2, c3, c4, c5, c6, c7, c8, c9, c10⟩ := HC.out _ _ z1
 go_wp2_with fail
 refine (HL1.out _ z1).mono ?_
 rintro e w2 ⟨rfl, hp', hb', hf'⟩
 have z2 := z1.put hp' hb' hf'
 clear hp' hb' hf' c0 c1 c2 c3 c4 c5 c6 c7 c8 c9 c10 z1
 try go_wp2
 go_end0
 rw [HEND.out] at z2
 exact ⟨rfl, z2.pb, z2.bl, z2.fr⟩
theorem stmt_abort (n : Int) : StmtAt (.mk 6 [] n (.mk 0 0 [] [] [] []) [] []) := by
 intro d D w0 S cs B b l w hD hw hc hz hlen hx hB0 hwB hBw hp
 obtain ⟨hd12, -, -, -, hsn, hn0, hn64, hce, hcb, hcl⟩ := chkS_fields hc
 have hnr := hx.num
 obtain ⟨ex, Bb, nb, cb, Ls, nl, cl, rfl, hex, hbB, hbL⟩ := hx.open_
 have hd1000 : d <= 1000 := by omega
 simp only [St.size, St.sizes] at hz
 have z0 := Pz.start (T := 74) (X := (stC 6 [] n ex Bb nb cb Ls nl cl).toArray) hp hBw (by decide)
 have HBS := hI (show ∀ W, Below B w W -> Below w0.heap.size w0 W from fun W h => hB0.trans (h.mono hwB))
 have hlt := Lib.itoa_length_le n hnr.1 hnr.2
 have HT0 := fmtI_any n hnr
 obtain ⟨t, ht⟩ : ∃ t, t = Lib.itoa n := ⟨_, rfl⟩
 rw [<- ht] at HT0 hlt
 obtain ⟨T, hT⟩ : ∃ T, T = txS d (.mk 6 [] n (.mk 0 0 [] [] [] []) [] []) := ⟨_, rfl⟩
 rw [<- hT] at hlen ⊢
 rw [txS, if_neg (by decide), if_neg (by decide), if_neg (by decide), if_neg (by decide), if_pos rfl, <- ht] at hT
 obtain ⟨c1, hc1⟩ : ∃ c, c = ([97, 98, 111, 114, 116, 32] : Str) ++ t := ⟨_, rfl⟩
 have lc1 : c1.length = 6 + t.length := by rw [hc1]; exact List.length_append
 have jc1 : ∀ w, (Op.stringOp .add (⟨#[97, 98, 111, 114, 116, 32]⟩ : ByteArray) (bs t)).run Tryz.prog w = .ok (.string (bs c1)) w := fun w => by rw [hc1]; exact add_big ([97, 98, 111, 114, 116, 32] : Str) t (by first | omega | (simp; omega)) w
 obtain ⟨c2, hc2⟩ : ∃ c, c = c1 ++ ([59] : Str) := ⟨_, rfl⟩
 have lc2 : c2.length = c1.length + 1 := by rw [hc2]; exact List.length_append
 have jc2 : ∀ w, (Op.stringOp .add (bs c1) (⟨#[59]⟩ : ByteArray)).run Tryz.prog w = .ok (.string (bs c2)) w := fun w => by rw [hc2]; exact add_big c1 ([59] : Str) (by first | omega | (simp; omega)) w
 rw [<- hc1, <- hc2] at hT
 have hTl := congrArg List.length hT
 rw [lineT_len] at hTl
 obtain ⟨A2, na2, ca2, O2, no2, co2, rfl, -, -⟩ := hex.open_
 have z0 : Pz B b w w.heap.size 74 #[.int .i64 6, .string (bs []), .int .i64 n, .int .i64 0, .int .i64 0, .string (bs []), .string (bs []), .slice A2 na2 ca2, .slice O2 no2 co2, .slice Bb nb cb, .slice Ls nl cl] l (w.alloc (.cells #[.int .i64 6, .string (bs []), .int .i64 n, .int .i64 0, .int .i64 0, .string (bs []), .string (bs []), .slice A2 na2 ca2, .slice O2 no2 co2, .slice Bb nb cb, .slice Ls nl cl] 74)) := z0
 have HC := hI (show ∀ l' W, Pz B b w w.heap.size 74 #[.int .i64 6, .string (bs []), .int .i64 n, .int .i64 0, .int .i64 0, .string (bs []), .string (bs []), .slice A2 na2 ca2, .slice O2 no2 co2, .slice Bb nb cb, .slice Ls nl cl] l' W -> (W.cell? ⟨w.heap.size, 0, none⟩ = some (.int .i64 6) /\ W.cell? ⟨w.heap.size, 1, none⟩ = some (.string (bs [])) /\ W.cell? ⟨w.heap.size, 2, none⟩ = some (.int .i64 n) /\ W.cell? ⟨w.heap.size, 3, none⟩ = some (.int .i64 0) /\ W.cell? ⟨w.heap.size, 4, none⟩ = some (.int .i64 0) /\ W.cell? ⟨w.heap.size, 5, none⟩ = some (.string (bs [])) /\ W.cell? ⟨w.heap.size, 6, none⟩ = some (.string (bs [])) /\ W.cell? ⟨w.heap.size, 7, none⟩ = some (.slice A2 na2 ca2) /\ W.cell? ⟨w.heap.size, 8, none⟩ = some (.slice O2 no2 co2) /\ W.cell? ⟨w.heap.size, 9, none⟩ = some (.slice Bb nb cb) /\ W.cell? ⟨w.heap.size, 10, none⟩ = some (.slice Ls nl cl)) from fun l' W z => st_cells z.bx)
 have HW := hI (show ∀ l' W, Pz B b w w.heap.size 74 #[.int .i64 6, .string (bs []), .int .i64 n, .int .i64 0, .int .i64 0, .string (bs []), .string (bs []), .slice A2 na2 ca2, .slice O2 no2 co2, .slice Bb nb cb, .slice Ls nl cl] l' W -> SxW W from fun l' W z => hw.below (HBS.out W z.bl))
 have HT := hI (show ∀ l' W, Pz B b w w.heap.size 74 #[.int .i64 6, .string (bs []), .int .i64 n, .int .i64 0, .int .i64 0, .string (bs []), .string (bs []), .slice A2 na2 ca2, .slice O2 no2 co2, .slice Bb nb cb, .slice Ls nl cl] l' W -> Calls Tryz.prog 86 #[.int .i64 n, .int .i64 10] W fun e' w' => e' = .returned (.string (bs t)) /\ Below W.heap.size W w' from fun l' W z => HT0 W (HW.out l' W z))
 have HL1 := hI (show ∀ W, Pz B b w w.heap.size 74 #[.int .i64 6, .string (bs []), .int .i64 n, .int .i64 0, .int .i64 0, .string (bs []), .string (bs []), .slice A2 na2 ca2, .slice O2 no2 co2, .slice Bb nb cb, .slice Ls nl cl] (l) W -> Calls Tryz.prog 25 #[.pointer (some ⟨b, 0, none⟩), .int .i64 D, .string (bs c2)] W fun e w' => e = .returned (.tuple #[]) /\ PB B b (l ++ lineT d c2) w' /\ Below B W w' /\ Fr b W w' from fun W z => by
  rw [hD]
  exact line_any B b (l) c2 d W hd1000 z.pb (by omega) z.sz)
 have HEND := hI (show l ++ lineT d c2 = l ++ T from by rw [hT]; all_goals simp only [List.append_assoc])
 clear hT hTl hc1 lc1 hc2 lc2 ht hlt HT0 hex hbB hbL hcb hcl hce hsn hn0 hn64 hnr hc hz hlen hx hB0 hwB hBw hp hd1000 hw hD
 unfold stC exC
 simp only [List.cons_append, List.nil_append]
 go_enter Tryz.func52, Tryz.ntmps52
 obtain ⟨c0, c1, c2, c3, c4, c5, c6, c7, c8, c9, c10⟩ := HC.out _ _ z0
 go_wp2_with fail
 refine (HT.out _ _ z0).mono ?_
 rintro e wt ⟨rfl, hb⟩
 have z1 := z0.next hb
 clear hb c0 c1 c2 c3 c4 c5 c6 c7 c8 c9 c10 z0
 obtain ⟨c0, c1, c2, c3, c4, c5, c6, c7, c8, c9, c10⟩ := HC.out _ _ z1
 go_wp2_with fail
 refine (HL1.out _ z1).mono ?_
 rintro e w2 ⟨rfl, hp', hb', hf'⟩
 have z2 := z1.put hp' hb' hf'
 clear hp' hb' hf' c0 c1 c2 c3 c4 c5 c6 c7 c8 c9 c10 z1
 try go_wp2
 go_end0
 rw [HEND.out] at z2
 exact ⟨rfl, z2.pb, z2.bl, z2.fr⟩
theorem stmt_repeat (n : Int) (b1 : List St) (ihb : AllAt b1) : StmtAt (.mk 4 [] n (.mk 0 0 [] [] [] []) b1 []) := by
 intro d D w0 S cs B b l w hD hw hc hz hlen hx hB0 hwB hBw hp
 obtain ⟨hd12, -, -, -, hsn, hn0, hn64, hce, hcb, hcl⟩ := chkS_fields hc
 have hnr := hx.num
 obtain ⟨ex, Bb, nb, cb, Ls, nl, cl, rfl, hex, hbB, hbL⟩ := hx.open_
 have hd1000 : d <= 1000 := by omega
 simp only [St.size, St.sizes] at hz
 have z0 := Pz.start (T := 74) (X := (stC 4 [] n ex Bb nb cb Ls nl cl).toArray) hp hBw (by decide)
 have HBS := hI (show ∀ W, Below B w W -> Below w0.heap.size w0 W from fun W h => hB0.trans (h.mono hwB))
 have hlt := Lib.itoa_length_le n hnr.1 hnr.2
 have HT0 := fmtI_any n hnr
 obtain ⟨t, ht⟩ : ∃ t, t = Lib.itoa n := ⟨_, rfl⟩
 rw [<- ht] at HT0 hlt
 obtain ⟨T, hT⟩ : ∃ T, T = txS d (.mk 4 [] n (.mk 0 0 [] [] [] []) b1 []) := ⟨_, rfl⟩
 rw [<- hT] at hlen ⊢
 rw [txS, if_neg (by decide), if_neg (by decide), if_neg (by decide), if_neg (by decide), if_neg (by decide), if_pos rfl, <- ht] at hT
 obtain ⟨c1, hc1⟩ : ∃ c, c = ([114, 101, 112, 101, 97, 116, 32] : Str) ++ t := ⟨_, rfl⟩
 have lc1 : c1.length = 7 + t.length := by rw [hc1]; exact List.length_append
 have jc1 : ∀ w, (Op.stringOp .add (⟨#[114, 101, 112, 101, 97, 116, 32]⟩ : ByteArray) (bs t)).run Tryz.prog w = .ok (.string (bs c1)) w := fun w => by rw [hc1]; exact add_big ([114, 101, 112, 101, 97, 116, 32] : Str) t (by first | omega | (simp; omega)) w
 obtain ⟨c2, hc2⟩ : ∃ c, c = c1 ++ ([32, 123] : Str) := ⟨_, rfl⟩
 have lc2 : c2.length = c1.length + 2 := by rw [hc2]; exact List.length_append
 have jc2 : ∀ w, (Op.stringOp .add (bs c1) (⟨#[32, 123]⟩ : ByteArray)).run Tryz.prog w = .ok (.string (bs c2)) w := fun w => by rw [hc2]; exact add_big c1 ([32, 123] : Str) (by first | omega | (simp; omega)) w
 rw [<- hc1, <- hc2] at hT
 obtain ⟨tb, htb⟩ : ∃ tb, tb = txSs (d + 1) b1 := ⟨_, rfl⟩
 rw [<- htb] at hT
 have hTl := congrArg List.length hT
 simp only [List.length_append, lineT_len] at hTl
 obtain ⟨A2, na2, ca2, O2, no2, co2, rfl, -, -⟩ := hex.open_
 have z0 : Pz B b w w.heap.size 74 #[.int .i64 4, .string (bs []), .int .i64 n, .int .i64 0, .int .i64 0, .string (bs []), .string (bs []), .slice A2 na2 ca2, .slice O2 no2 co2, .slice Bb nb cb, .slice Ls nl cl] l (w.alloc (.cells #[.int .i64 4, .string (bs []), .int .i64 n, .int .i64 0, .int .i64 0, .string (bs []), .string (bs []), .slice A2 na2 ca2, .slice O2 no2 co2, .slice Bb nb cb, .slice Ls nl cl] 74)) := z0
 have HC := hI (show ∀ l' W, Pz B b w w.heap.size 74 #[.int .i64 4, .string (bs []), .int .i64 n, .int .i64 0, .int .i64 0, .string (bs []), .string (bs []), .slice A2 na2 ca2, .slice O2 no2 co2, .slice Bb nb cb, .slice Ls nl cl] l' W -> (W.cell? ⟨w.heap.size, 0, none⟩ = some (.int .i64 4) /\ W.cell? ⟨w.heap.size, 1, none⟩ = some (.string (bs [])) /\ W.cell? ⟨w.heap.size, 2, none⟩ = some (.int .i64 n) /\ W.cell? ⟨w.heap.size, 3, none⟩ = some (.int .i64 0) /\ W.cell? ⟨w.heap.size, 4, none⟩ = some (.int .i64 0) /\ W.cell? ⟨w.heap.size, 5, none⟩ = some (.string (bs [])) /\ W.cell? ⟨w.heap.size, 6, none⟩ = some (.string (bs [])) /\ W.cell? ⟨w.heap.size, 7, none⟩ = some (.slice A2 na2 ca2) /\ W.cell? ⟨w.heap.size, 8, none⟩ = some (.slice O2 no2 co2) /\ W.cell? ⟨w.heap.size, 9, none⟩ = some (.slice Bb nb cb) /\ W.cell? ⟨w.heap.size, 10, none⟩ = some (.slice Ls nl cl)) from fun l' W z => st_cells z.bx)
 have HW := hI (show ∀ l' W, Pz B b w w.heap.size 74 #[.int .i64 4, .string (bs []), .int .i64 n, .int .i64 0, .int .i64 0, .string (bs []), .string (bs []), .slice A2 na2 ca2, .slice O2 no2 co2, .slice Bb nb cb, .slice Ls nl cl] l' W -> SxW W from fun l' W z => hw.below (HBS.out W z.bl))
 have HT := hI (show ∀ l' W, Pz B b w w.heap.size 74 #[.int .i64 4, .string (bs []), .int .i64 n, .int .i64 0, .int .i64 0, .string (bs []), .string (bs []), .slice A2 na2 ca2, .slice O2 no2 co2, .slice Bb nb cb, .slice Ls nl cl] l' W -> Calls Tryz.prog 86 #[.int .i64 n, .int .i64 10] W fun e' w' => e' = .returned (.string (bs t)) /\ Below W.heap.size W w' from fun l' W z => HT0 W (HW.out l' W z))
 have HL1 := hI (show ∀ W, Pz B b w w.heap.size 74 #[.int .i64 4, .string (bs []), .int .i64 n, .int .i64 0, .int .i64 0, .string (bs []), .string (bs []), .slice A2 na2 ca2, .slice O2 no2 co2, .slice Bb nb cb, .slice Ls nl cl] (l) W -> Calls Tryz.prog 25 #[.pointer (some ⟨b, 0, none⟩), .int .i64 D, .string (bs c2)] W fun e w' => e = .returned (.tuple #[]) /\ PB B b (l ++ lineT d c2) w' /\ Below B W w' /\ Fr b W w' from fun W z => by
  rw [hD]
  exact line_any B b (l) c2 d W hd1000 z.pb (by omega) z.sz)
 have HA1 := hI (show ∀ W, Pz B b w w.heap.size 74 #[.int .i64 4, .string (bs []), .int .i64 n, .int .i64 0, .int .i64 0, .string (bs []), .string (bs []), .slice A2 na2 ca2, .slice O2 no2 co2, .slice Bb nb cb, .slice Ls nl cl] (l ++ lineT d c2) W -> Calls Tryz.prog 27 #[.pointer (some ⟨b, 0, none⟩), .int .i64 (D + 1), .slice Bb nb cb] W fun e w' => e = .returned (.tuple #[]) /\ PB B b (l ++ lineT d c2 ++ tb) w' /\ Below B W w' /\ Fr b W w' from fun W z => by
  rw [htb]
  exact ihb (d + 1) (D + 1) w0 S Bb nb cb B b (l ++ lineT d c2) W (by rw [hD]; rfl) hw hcb (by omega) (by rw [<- htb]; simp only [List.length_append, lineT_len]; omega) hbB (HBS.out W z.bl) hwB z.sz z.pb)
 have HL2 := hI (show ∀ W, Pz B b w w.heap.size 74 #[.int .i64 4, .string (bs []), .int .i64 n, .int .i64 0, .int .i64 0, .string (bs []), .string (bs []), .slice A2 na2 ca2, .slice O2 no2 co2, .slice Bb nb cb, .slice Ls nl cl] (l ++ lineT d c2 ++ tb) W -> Calls Tryz.prog 25 #[.pointer (some ⟨b, 0, none⟩), .int .i64 D, .string ⟨#[125]⟩] W fun e w' => e = .returned (.tuple #[]) /\ PB B b (l ++ lineT d c2 ++ tb ++ lineT d ([125] : Str)) w' /\ Below B W w' /\ Fr b W w' from fun W z => by
  rw [hD]
  exact line_any B b (l ++ lineT d c2 ++ tb) ([125] : Str) d W hd1000 z.pb (by simp only [List.length_append, lineT_len]; simp only [List.length_cons, List.length_nil] at hTl ⊢; omega) z.sz)
 have HEND := hI (show l ++ lineT d c2 ++ tb ++ lineT d ([125] : Str) = l ++ T from by rw [hT]; all_goals simp only [List.append_assoc])
 have hdb : D <= 12 := hd12
 have hdb0 : 0 <= D := by omega
 clear hT hTl hc1 lc1 hc2 lc2 ht hlt HT0 hex hbB hbL hcb hcl hce hsn hn0 hn64 hnr hc hz hlen hx hB0 hwB hBw hp hd1000 hw hD
 unfold stC exC
 simp only [List.cons_append, List.nil_append]
 go_enter Tryz.func52, Tryz.ntmps52
 obtain ⟨c0, c1, c2, c3, c4, c5, c6, c7, c8, c9, c10⟩ := HC.out _ _ z0
 go_wp2_with fail
 refine (HT.out _ _ z0).mono ?_
 rintro e wt ⟨rfl, hb⟩
 have z1 := z0.next hb
 clear hb c0 c1 c2 c3 c4 c5 c6 c7 c8 c9 c10 z0
 obtain ⟨c0, c1, c2, c3, c4, c5, c6, c7, c8, c9, c10⟩ := HC.out _ _ z1
 go_wp2_with fail
 refine (HL1.out _ z1).mono ?_
 rintro e w2 ⟨rfl, hp', hb', hf'⟩
 have z2 := z1.put hp' hb' hf'
 clear hp' hb' hf' c0 c1 c2 c3 c4 c5 c6 c7 c8 c9 c10 z1
 obtain ⟨c0, c1, c2, c3, c4, c5, c6, c7, c8, c9, c10⟩ := HC.out _ _ z2
 go_wp2_with fail
 refine (HA1.out _ z2).mono ?_
 rintro e w3 ⟨rfl, hp', hb', hf'⟩
 have z3 := z2.put hp' hb' hf'
 clear hp' hb' hf' c0 c1 c2 c3 c4 c5 c6 c7 c8 c9 c10 z2
 obtain ⟨c0, c1, c2, c3, c4, c5, c6, c7, c8, c9, c10⟩ := HC.out _ _ z3
 go_wp2_with fail
 refine (HL2.out _ z3).mono ?_
 rintro e w6 ⟨rfl, hp', hb', hf'⟩
 have z6 := z3.put hp' hb' hf'
 clear hp' hb' hf' c0 c1 c2 c3 c4 c5 c6 c7 c8 c9 c10 z3
 try go_wp2
 go_end0
 rw [HEND.out] at z6
 exact ⟨rfl, z6.pb, z6.bl, z6.fr⟩
theorem stmt_if (e : Ex) (b1 : List St) (ihb : AllAt b1) : StmtAt (.mk 3 [] 0 e b1 []) := by
 intro d D w0 S cs B b l w hD hw hc hz hlen hx hB0 hwB hBw hp
 obtain ⟨hd12, -, -, -, hsn, hn0, hn64, hce, hcb, hcl⟩ := chkS_fields hc
 have hnr := hx.num
 obtain ⟨ex, Bb, nb, cb, Ls, nl, cl, rfl, hex, hbB, hbL⟩ := hx.open_
 have hd1000 : d <= 1000 := by omega
 simp only [St.size, St.sizes] at hz
 have z0 := Pz.start (T := 74) (X := (stC 3 [] 0 ex Bb nb cb Ls nl cl).toArray) hp hBw (by decide)
 have HBS := hI (show ∀ W, Below B w W -> Below w0.heap.size w0 W from fun W h => hB0.trans (h.mono hwB))
 have hce1 := hce rfl
 have hlt := txE_len e 1 hce1 hex.wd
 have HT0 := textAt_any e
 unfold TextAt at HT0
 obtain ⟨t, ht⟩ : ∃ t, t = txE e := ⟨_, rfl⟩
 rw [<- ht] at HT0 hlt
 obtain ⟨T, hT⟩ : ∃ T, T = txS d (.mk 3 [] 0 e b1 []) := ⟨_, rfl⟩
 rw [<- hT] at hlen ⊢
 rw [txS, if_neg (by decide), if_neg (by decide), if_neg (by decide), if_neg (by decide), if_neg (by decide), if_neg (by decide), <- ht] at hT
 obtain ⟨c1, hc1⟩ : ∃ c, c = ([105, 102, 32] : Str) ++ t := ⟨_, rfl⟩
 have lc1 : c1.length = 3 + t.length := by rw [hc1]; exact List.length_append
 have jc1 : ∀ w, (Op.stringOp .add (⟨#[105, 102, 32]⟩ : ByteArray) (bs t)).run Tryz.prog w = .ok (.string (bs c1)) w := fun w => by rw [hc1]; exact add_big ([105, 102, 32] : Str) t (by first | omega | (simp; omega)) w
 obtain ⟨c2, hc2⟩ : ∃ c, c = c1 ++ ([32, 123] : Str) := ⟨_, rfl⟩
 have lc2 : c2.length = c1.length + 2 := by rw [hc2]; exact List.length_append
 have jc2 : ∀ w, (Op.stringOp .add (bs c1) (⟨#[32, 123]⟩ : ByteArray)).run Tryz.prog w = .ok (.string (bs c2)) w := fun w => by rw [hc2]; exact add_big c1 ([32, 123] : Str) (by first | omega | (simp; omega)) w
 rw [<- hc1, <- hc2] at hT
 obtain ⟨tb, htb⟩ : ∃ tb, tb = txSs (d + 1) b1 := ⟨_, rfl⟩
 rw [<- htb] at hT
 rw [if_pos (show ([] : List St).length = 0 from rfl), List.append_nil] at hT
 have hTl := congrArg List.length hT
 simp only [List.length_append, lineT_len] at hTl
 obtain ⟨ek, en, es, em, ea, eo⟩ := e
 obtain ⟨A2, na2, ca2, O2, no2, co2, rfl, -, -⟩ := hex.open_
 have z0 : Pz B b w w.heap.size 74 #[.int .i64 3, .string (bs []), .int .i64 0, .int .i64 ek, .int .i64 en, .string (bs es), .string (bs em), .slice A2 na2 ca2, .slice O2 no2 co2, .slice Bb nb cb, .slice Ls nl cl] l (w.alloc (.cells #[.int .i64 3, .string (bs []), .int .i64 0, .int .i64 ek, .int .i64 en, .string (bs es), .string (bs em), .slice A2 na2 ca2, .slice O2 no2 co2, .slice Bb nb cb, .slice Ls nl cl] 74)) := z0
 have HC := hI (show ∀ l' W, Pz B b w w.heap.size 74 #[.int .i64 3, .string (bs []), .int .i64 0, .int .i64 ek, .int .i64 en, .string (bs es), .string (bs em), .slice A2 na2 ca2, .slice O2 no2 co2, .slice Bb nb cb, .slice Ls nl cl] l' W -> (W.cell? ⟨w.heap.size, 0, none⟩ = some (.int .i64 3) /\ W.cell? ⟨w.heap.size, 1, none⟩ = some (.string (bs [])) /\ W.cell? ⟨w.heap.size, 2, none⟩ = some (.int .i64 0) /\ W.cell? ⟨w.heap.size, 3, none⟩ = some (.int .i64 ek) /\ W.cell? ⟨w.heap.size, 4, none⟩ = some (.int .i64 en) /\ W.cell? ⟨w.heap.size, 5, none⟩ = some (.string (bs es)) /\ W.cell? ⟨w.heap.size, 6, none⟩ = some (.string (bs em)) /\ W.cell? ⟨w.heap.size, 7, none⟩ = some (.slice A2 na2 ca2) /\ W.cell? ⟨w.heap.size, 8, none⟩ = some (.slice O2 no2 co2) /\ W.cell? ⟨w.heap.size, 9, none⟩ = some (.slice Bb nb cb) /\ W.cell? ⟨w.heap.size, 10, none⟩ = some (.slice Ls nl cl)) from fun l' W z => st_cells z.bx)
 have HW := hI (show ∀ l' W, Pz B b w w.heap.size 74 #[.int .i64 3, .string (bs []), .int .i64 0, .int .i64 ek, .int .i64 en, .string (bs es), .string (bs em), .slice A2 na2 ca2, .slice O2 no2 co2, .slice Bb nb cb, .slice Ls nl cl] l' W -> SxW W from fun l' W z => hw.below (HBS.out W z.bl))
 have HT := hI (show ∀ l' W, Pz B b w w.heap.size 74 #[.int .i64 3, .string (bs []), .int .i64 0, .int .i64 ek, .int .i64 en, .string (bs es), .string (bs em), .slice A2 na2 ca2, .slice O2 no2 co2, .slice Bb nb cb, .slice Ls nl cl] l' W -> Calls Tryz.prog 85 #[.agg #[.int .i64 ek, .int .i64 en, .string (bs es), .string (bs em), .slice A2 na2 ca2, .slice O2 no2 co2]] W fun e' w' => e' = .returned (.string (bs t)) /\ Below W.heap.size W w' from fun l' W z => HT0 1 W S _ (HW.out l' W z) hce1 (by omega) (hex.below (HBS.out W z.bl)))
 have HL1 := hI (show ∀ W, Pz B b w w.heap.size 74 #[.int .i64 3, .string (bs []), .int .i64 0, .int .i64 ek, .int .i64 en, .string (bs es), .string (bs em), .slice A2 na2 ca2, .slice O2 no2 co2, .slice Bb nb cb, .slice Ls nl cl] (l) W -> Calls Tryz.prog 25 #[.pointer (some ⟨b, 0, none⟩), .int .i64 D, .string (bs c2)] W fun e w' => e = .returned (.tuple #[]) /\ PB B b (l ++ lineT d c2) w' /\ Below B W w' /\ Fr b W w' from fun W z => by
  rw [hD]
  exact line_any B b (l) c2 d W hd1000 z.pb (by omega) z.sz)
 have HA1 := hI (show ∀ W, Pz B b w w.heap.size 74 #[.int .i64 3, .string (bs []), .int .i64 0, .int .i64 ek, .int .i64 en, .string (bs es), .string (bs em), .slice A2 na2 ca2, .slice O2 no2 co2, .slice Bb nb cb, .slice Ls nl cl] (l ++ lineT d c2) W -> Calls Tryz.prog 27 #[.pointer (some ⟨b, 0, none⟩), .int .i64 (D + 1), .slice Bb nb cb] W fun e w' => e = .returned (.tuple #[]) /\ PB B b (l ++ lineT d c2 ++ tb) w' /\ Below B W w' /\ Fr b W w' from fun W z => by
  rw [htb]
  exact ihb (d + 1) (D + 1) w0 S Bb nb cb B b (l ++ lineT d c2) W (by rw [hD]; rfl) hw hcb (by omega) (by rw [<- htb]; simp only [List.length_append, lineT_len]; omega) hbB (HBS.out W z.bl) hwB z.sz z.pb)
 have HL2 := hI (show ∀ W, Pz B b w w.heap.size 74 #[.int .i64 3, .string (bs []), .int .i64 0, .int .i64 ek, .int .i64 en, .string (bs es), .string (bs em), .slice A2 na2 ca2, .slice O2 no2 co2, .slice Bb nb cb, .slice Ls nl cl] (l ++ lineT d c2 ++ tb) W -> Calls Tryz.prog 25 #[.pointer (some ⟨b, 0, none⟩), .int .i64 D, .string ⟨#[125]⟩] W fun e w' => e = .returned (.tuple #[]) /\ PB B b (l ++ lineT d c2 ++ tb ++ lineT d ([125] : Str)) w' /\ Below B W w' /\ Fr b W w' from fun W z => by
  rw [hD]
  exact line_any B b (l ++ lineT d c2 ++ tb) ([125] : Str) d W hd1000 z.pb (by simp only [List.length_append, lineT_len]; simp only [List.length_cons, List.length_nil] at hTl ⊢; omega) z.sz)
 have HEND := hI (show l ++ lineT d c2 ++ tb ++ lineT d ([125] : Str) = l ++ T from by rw [hT]; all_goals simp only [List.append_assoc])
 obtain rfl : nl = 0 := hbL.1.1
 have hdb : D <= 12 := hd12
 have hdb0 : 0 <= D := by omega
 clear hT hTl hc1 lc1 hc2 lc2 ht hlt HT0 hex hbB hbL hcb hcl hce hsn hn0 hn64 hnr hc hz hlen hx hB0 hwB hBw hp hd1000 hw hD hce1
 unfold stC exC
 simp only [List.cons_append, List.nil_append]
 go_enter Tryz.func52, Tryz.ntmps52
 obtain ⟨c0, c1, c2, c3, c4, c5, c6, c7, c8, c9, c10⟩ := HC.out _ _ z0
 go_wp2_with fail
 refine (HT.out _ _ z0).mono ?_
 rintro e wt ⟨rfl, hb⟩
 have z1 := z0.next hb
 clear hb c0 c1 c2 c3 c4 c5 c6 c7 c8 c9 c10 z0
 obtain ⟨c0, c1, c2, c3, c4, c5, c6, c7, c8, c9, c10⟩ := HC.out _ _ z1
 go_wp2_with fail
 refine (HL1.out _ z1).mono ?_
 rintro e w2 ⟨rfl, hp', hb', hf'⟩
 have z2 := z1.put hp' hb' hf'
 clear hp' hb' hf' c0 c1 c2 c3 c4 c5 c6 c7 c8 c9 c10 z1
 obtain ⟨c0, c1, c2, c3, c4, c5, c6, c7, c8, c9, c10⟩ := HC.out _ _ z2
 go_wp2_with fail
 refine (HA1.out _ z2).mono ?_
 rintro e w3 ⟨rfl, hp', hb', hf'⟩
 have z3 := z2.put hp' hb' hf'
 clear hp' hb' hf' c0 c1 c2 c3 c4 c5 c6 c7 c8 c9 c10 z2
 obtain ⟨c0, c1, c2, c3, c4, c5, c6, c7, c8, c9, c10⟩ := HC.out _ _ z3
 go_wp2_with fail
 refine (HL2.out _ z3).mono ?_
 rintro e w6 ⟨rfl, hp', hb', hf'⟩
 have z6 := z3.put hp' hb' hf'
 clear hp' hb' hf' c0 c1 c2 c3 c4 c5 c6 c7 c8 c9 c10 z3
 try go_wp2
 go_end0
 rw [HEND.out] at z6
 exact ⟨rfl, z6.pb, z6.bl, z6.fr⟩
theorem stmt_ifelse (e : Ex) (b1 l1 : List St) (ihb : AllAt b1) (ihl : AllAt l1) (hl1 : l1 ≠ []) : StmtAt (.mk 3 [] 0 e b1 l1) := by
 intro d D w0 S cs B b l w hD hw hc hz hlen hx hB0 hwB hBw hp
 obtain ⟨hd12, -, -, -, hsn, hn0, hn64, hce, hcb, hcl⟩ := chkS_fields hc
 have hnr := hx.num
 obtain ⟨ex, Bb, nb, cb, Ls, nl, cl, rfl, hex, hbB, hbL⟩ := hx.open_
 have hd1000 : d <= 1000 := by omega
 simp only [St.size, St.sizes] at hz
 have z0 := Pz.start (T := 74) (X := (stC 3 [] 0 ex Bb nb cb Ls nl cl).toArray) hp hBw (by decide)
 have HBS := hI (show ∀ W, Below B w W -> Below w0.heap.size w0 W from fun W h => hB0.trans (h.mono hwB))
 have hce1 := hce rfl
 have hlt := txE_len e 1 hce1 hex.wd
 have HT0 := textAt_any e
 unfold TextAt at HT0
 obtain ⟨t, ht⟩ : ∃ t, t = txE e := ⟨_, rfl⟩
 rw [<- ht] at HT0 hlt
 obtain ⟨T, hT⟩ : ∃ T, T = txS d (.mk 3 [] 0 e b1 l1) := ⟨_, rfl⟩
 rw [<- hT] at hlen ⊢
 rw [txS, if_neg (by decide), if_neg (by decide), if_neg (by decide), if_neg (by decide), if_neg (by decide), if_neg (by decide), <- ht] at hT
 obtain ⟨c1, hc1⟩ : ∃ c, c = ([105, 102, 32] : Str) ++ t := ⟨_, rfl⟩
 have lc1 : c1.length = 3 + t.length := by rw [hc1]; exact List.length_append
 have jc1 : ∀ w, (Op.stringOp .add (⟨#[105, 102, 32]⟩ : ByteArray) (bs t)).run Tryz.prog w = .ok (.string (bs c1)) w := fun w => by rw [hc1]; exact add_big ([105, 102, 32] : Str) t (by first | omega | (simp; omega)) w
 obtain ⟨c2, hc2⟩ : ∃ c, c = c1 ++ ([32, 123] : Str) := ⟨_, rfl⟩
 have lc2 : c2.length = c1.length + 2 := by rw [hc2]; exact List.length_append
 have jc2 : ∀ w, (Op.stringOp .add (bs c1) (⟨#[32, 123]⟩ : ByteArray)).run Tryz.prog w = .ok (.string (bs c2)) w := fun w => by rw [hc2]; exact add_big c1 ([32, 123] : Str) (by first | omega | (simp; omega)) w
 rw [<- hc1, <- hc2] at hT
 obtain ⟨tb, htb⟩ : ∃ tb, tb = txSs (d + 1) b1 := ⟨_, rfl⟩
 rw [<- htb] at hT
 rw [if_neg (fun h => hl1 (List.eq_nil_of_length_eq_zero h))] at hT
 obtain ⟨tl, htl⟩ : ∃ tl, tl = txSs (d + 1) l1 := ⟨_, rfl⟩
 rw [<- htl] at hT
 have hTl := congrArg List.length hT
 simp only [List.length_append, lineT_len] at hTl
 obtain ⟨ek, en, es, em, ea, eo⟩ := e
 obtain ⟨A2, na2, ca2, O2, no2, co2, rfl, -, -⟩ := hex.open_
 have z0 : Pz B b w w.heap.size 74 #[.int .i64 3, .string (bs []), .int .i64 0, .int .i64 ek, .int .i64 en, .string (bs es), .string (bs em), .slice A2 na2 ca2, .slice O2 no2 co2, .slice Bb nb cb, .slice Ls nl cl] l (w.alloc (.cells #[.int .i64 3, .string (bs []), .int .i64 0, .int .i64 ek, .int .i64 en, .string (bs es), .string (bs em), .slice A2 na2 ca2, .slice O2 no2 co2, .slice Bb nb cb, .slice Ls nl cl] 74)) := z0
 have HC := hI (show ∀ l' W, Pz B b w w.heap.size 74 #[.int .i64 3, .string (bs []), .int .i64 0, .int .i64 ek, .int .i64 en, .string (bs es), .string (bs em), .slice A2 na2 ca2, .slice O2 no2 co2, .slice Bb nb cb, .slice Ls nl cl] l' W -> (W.cell? ⟨w.heap.size, 0, none⟩ = some (.int .i64 3) /\ W.cell? ⟨w.heap.size, 1, none⟩ = some (.string (bs [])) /\ W.cell? ⟨w.heap.size, 2, none⟩ = some (.int .i64 0) /\ W.cell? ⟨w.heap.size, 3, none⟩ = some (.int .i64 ek) /\ W.cell? ⟨w.heap.size, 4, none⟩ = some (.int .i64 en) /\ W.cell? ⟨w.heap.size, 5, none⟩ = some (.string (bs es)) /\ W.cell? ⟨w.heap.size, 6, none⟩ = some (.string (bs em)) /\ W.cell? ⟨w.heap.size, 7, none⟩ = some (.slice A2 na2 ca2) /\ W.cell? ⟨w.heap.size, 8, none⟩ = some (.slice O2 no2 co2) /\ W.cell? ⟨w.heap.size, 9, none⟩ = some (.slice Bb nb cb) /\ W.cell? ⟨w.heap.size, 10, none⟩ = some (.slice Ls nl cl)) from fun l' W z => st_cells z.bx)
 have HW := hI (show ∀ l' W, Pz B b w w.heap.size 74 #[.int .i64 3, .string (bs []), .int .i64 0, .int .i64 ek, .int .i64 en, .string (bs es), .string (bs em), .slice A2 na2 ca2, .slice O2 no2 co2, .slice Bb nb cb, .slice Ls nl cl] l' W -> SxW W from fun l' W z => hw.below (HBS.out W z.bl))
 have HT := hI (show ∀ l' W, Pz B b w w.heap.size 74 #[.int .i64 3, .string (bs []), .int .i64 0, .int .i64 ek, .int .i64 en, .string (bs es), .string (bs em), .slice A2 na2 ca2, .slice O2 no2 co2, .slice Bb nb cb, .slice Ls nl cl] l' W -> Calls Tryz.prog 85 #[.agg #[.int .i64 ek, .int .i64 en, .string (bs es), .string (bs em), .slice A2 na2 ca2, .slice O2 no2 co2]] W fun e' w' => e' = .returned (.string (bs t)) /\ Below W.heap.size W w' from fun l' W z => HT0 1 W S _ (HW.out l' W z) hce1 (by omega) (hex.below (HBS.out W z.bl)))
 have HL1 := hI (show ∀ W, Pz B b w w.heap.size 74 #[.int .i64 3, .string (bs []), .int .i64 0, .int .i64 ek, .int .i64 en, .string (bs es), .string (bs em), .slice A2 na2 ca2, .slice O2 no2 co2, .slice Bb nb cb, .slice Ls nl cl] (l) W -> Calls Tryz.prog 25 #[.pointer (some ⟨b, 0, none⟩), .int .i64 D, .string (bs c2)] W fun e w' => e = .returned (.tuple #[]) /\ PB B b (l ++ lineT d c2) w' /\ Below B W w' /\ Fr b W w' from fun W z => by
  rw [hD]
  exact line_any B b (l) c2 d W hd1000 z.pb (by omega) z.sz)
 have HA1 := hI (show ∀ W, Pz B b w w.heap.size 74 #[.int .i64 3, .string (bs []), .int .i64 0, .int .i64 ek, .int .i64 en, .string (bs es), .string (bs em), .slice A2 na2 ca2, .slice O2 no2 co2, .slice Bb nb cb, .slice Ls nl cl] (l ++ lineT d c2) W -> Calls Tryz.prog 27 #[.pointer (some ⟨b, 0, none⟩), .int .i64 (D + 1), .slice Bb nb cb] W fun e w' => e = .returned (.tuple #[]) /\ PB B b (l ++ lineT d c2 ++ tb) w' /\ Below B W w' /\ Fr b W w' from fun W z => by
  rw [htb]
  exact ihb (d + 1) (D + 1) w0 S Bb nb cb B b (l ++ lineT d c2) W (by rw [hD]; rfl) hw hcb (by omega) (by rw [<- htb]; simp only [List.length_append, lineT_len]; omega) hbB (HBS.out W z.bl) hwB z.sz z.pb)
 have HL3 := hI (show ∀ W, Pz B b w w.heap.size 74 #[.int .i64 3, .string (bs []), .int .i64 0, .int .i64 ek, .int .i64 en, .string (bs es), .string (bs em), .slice A2 na2 ca2, .slice O2 no2 co2, .slice Bb nb cb, .slice Ls nl cl] (l ++ lineT d c2 ++ tb) W -> Calls Tryz.prog 25 #[.pointer (some ⟨b, 0, none⟩), .int .i64 D, .string ⟨#[125, 32, 101, 108, 115, 101, 32, 123]⟩] W fun e w' => e = .returned (.tuple #[]) /\ PB B b (l ++ lineT d c2 ++ tb ++ lineT d ([125, 32, 101, 108, 115, 101, 32, 123] : Str)) w' /\ Below B W w' /\ Fr b W w' from fun W z => by
  rw [hD]
  exact line_any B b (l ++ lineT d c2 ++ tb) ([125, 32, 101, 108, 115, 101, 32, 123] : Str) d W hd1000 z.pb (by simp only [List.length_append, lineT_len]; simp only [List.length_cons, List.length_nil] at hTl ⊢; omega) z.sz)
 have HA2 := hI (show ∀ W, Pz B b w w.heap.size 74 #[.int .i64 3, .string (bs []), .int .i64 0, .int .i64 ek, .int .i64 en, .string (bs es), .string (bs em), .slice A2 na2 ca2, .slice O2 no2 co2, .slice Bb nb cb, .slice Ls nl cl] (l ++ lineT d c2 ++ tb ++ lineT d ([125, 32, 101, 108, 115, 101, 32, 123] : Str)) W -> Calls Tryz.prog 27 #[.pointer (some ⟨b, 0, none⟩), .int .i64 (D + 1), .slice Ls nl cl] W fun e w' => e = .returned (.tuple #[]) /\ PB B b (l ++ lineT d c2 ++ tb ++ lineT d ([125, 32, 101, 108, 115, 101, 32, 123] : Str) ++ tl) w' /\ Below B W w' /\ Fr b W w' from fun W z => by
  rw [htl]
  exact ihl (d + 1) (D + 1) w0 S Ls nl cl B b (l ++ lineT d c2 ++ tb ++ lineT d ([125, 32, 101, 108, 115, 101, 32, 123] : Str)) W (by rw [hD]; rfl) hw hcl (by omega) (by rw [<- htl]; simp only [List.length_append, lineT_len]; simp only [List.length_cons, List.length_nil] at hTl ⊢; omega) hbL (HBS.out W z.bl) hwB z.sz z.pb)
 have HL2 := hI (show ∀ W, Pz B b w w.heap.size 74 #[.int .i64 3, .string (bs []), .int .i64 0, .int .i64 ek, .int .i64 en, .string (bs es), .string (bs em), .slice A2 na2 ca2, .slice O2 no2 co2, .slice Bb nb cb, .slice Ls nl cl] (l ++ lineT d c2 ++ tb ++ lineT d ([125, 32, 101, 108, 115, 101, 32, 123] : Str) ++ tl) W -> Calls Tryz.prog 25 #[.pointer (some ⟨b, 0, none⟩), .int .i64 D, .string ⟨#[125]⟩] W fun e w' => e = .returned (.tuple #[]) /\ PB B b (l ++ lineT d c2 ++ tb ++ lineT d ([125, 32, 101, 108, 115, 101, 32, 123] : Str) ++ tl ++ lineT d ([125] : Str)) w' /\ Below B W w' /\ Fr b W w' from fun W z => by
  rw [hD]
  exact line_any B b (l ++ lineT d c2 ++ tb ++ lineT d ([125, 32, 101, 108, 115, 101, 32, 123] : Str) ++ tl) ([125] : Str) d W hd1000 z.pb (by simp only [List.length_append, lineT_len]; simp only [List.length_cons, List.length_nil] at hTl ⊢; omega) z.sz)
 have HEND := hI (show l ++ lineT d c2 ++ tb ++ lineT d ([125, 32, 101, 108, 115, 101, 32, 123] : Str) ++ tl ++ lineT d ([125] : Str) = l ++ T from by rw [hT]; all_goals simp only [List.append_assoc])
 have hnl : 0 < (nl : Int) := by have h1 := hbL.1.1; have h2 : 0 < l1.length := List.length_pos_iff.2 hl1; omega
 have hdb : D <= 12 := hd12
 have hdb0 : 0 <= D := by omega
 clear hT hTl hc1 lc1 hc2 lc2 ht hlt HT0 hex hbB hbL hcb hcl hce hsn hn0 hn64 hnr hc hz hlen hx hB0 hwB hBw hp hd1000 hw hD hce1
 unfold stC exC
 simp only [List.cons_append, List.nil_append]
 go_enter Tryz.func52, Tryz.ntmps52
 obtain ⟨c0, c1, c2, c3, c4, c5, c6, c7, c8, c9, c10⟩ := HC.out _ _ z0
 go_wp2_with fail
 refine (HT.out _ _ z0).mono ?_
 rintro e wt ⟨rfl, hb⟩
 have z1 := z0.next hb
 clear hb c0 c1 c2 c3 c4 c5 c6 c7 c8 c9 c10 z0
 obtain ⟨c0, c1, c2, c3, c4, c5, c6, c7, c8, c9, c10⟩ := HC.out _ _ z1
 go_wp2_with fail
 refine (HL1.out _ z1).mono ?_
 rintro e w2 ⟨rfl, hp', hb', hf'⟩
 have z2 := z1.put hp' hb' hf'
 clear hp' hb' hf' c0 c1 c2 c3 c4 c5 c6 c7 c8 c9 c10 z1
 obtain ⟨c0, c1, c2, c3, c4, c5, c6, c7, c8, c9, c10⟩ := HC.out _ _ z2
 go_wp2_with fail
 refine (HA1.out _ z2).mono ?_
 rintro e w3 ⟨rfl, hp', hb', hf'⟩
 have z3 := z2.put hp' hb' hf'
 clear hp' hb' hf' c0 c1 c2 c3 c4 c5 c6 c7 c8 c9 c10 z2
 obtain ⟨c0, c1, c2, c3, c4, c5, c6, c7, c8, c9, c10⟩ := HC.out _ _ z3
 go_wp2_with fail
 refine (HL3.out _ z3).mono ?_
 rintro e w4 ⟨rfl, hp', hb', hf'⟩
 have z4 := z3.put hp' hb' hf'
 clear hp' hb' hf' c0 c1 c2 c3 c4 c5 c6 c7 c8 c9 c10 z3
 obtain ⟨c0, c1, c2, c3, c4, c5, c6, c7, c8, c9, c10⟩ := HC.out _ _ z4
 go_wp2_with fail
 refine (HA2.out _ z4).mono ?_
 rintro e w5 ⟨rfl, hp', hb', hf'⟩
 have z5 := z4.put hp' hb' hf'
 clear hp' hb' hf' c0 c1 c2 c3 c4 c5 c6 c7 c8 c9 c10 z4
 obtain ⟨c0, c1, c2, c3, c4, c5, c6, c7, c8, c9, c10⟩ := HC.out _ _ z5
 go_wp2_with fail
 refine (HL2.out _ z5).mono ?_
 rintro e w6 ⟨rfl, hp', hb', hf'⟩
 have z6 := z5.put hp' hb' hf'
 clear hp' hb' hf' c0 c1 c2 c3 c4 c5 c6 c7 c8 c9 c10 z5
 try go_wp2
 go_end0
 rw [HEND.out] at z6
 exact ⟨rfl, z6.pb, z6.bl, z6.fr⟩
open Go.RowKit
theorem stmtAt_any (e : St) : StmtAt e := by
 obtain ⟨N, hN⟩ : ∃ N, N = e.size := ⟨_, rfl⟩
 induction N using Nat.strongRecOn generalizing e with
 | _ N ih =>
  intro d D w0 S cs B b l w hD hw hc hz hlen hx hB0 hwB hBw hp
  have key : ∀ x : St, x.size < e.size -> StmtAt x := fun x hlt => ih x.size (by omega) x rfl
  clear ih hN
  rcases (shapeS_of hc).1 with ⟨s, x, hs, he⟩ | ⟨s, x, hs, he⟩ | ⟨x, hk, he⟩ | ⟨x, bb, ll, he, hb, hl⟩ | ⟨n, bb, h0, h1, hb⟩ | ⟨x, he⟩ | ⟨n, h0⟩
  ·exact stmt_let s x d D w0 S cs B b l w hD hw hc hz hlen hx hB0 hwB hBw hp
  ·exact stmt_set s x d D w0 S cs B b l w hD hw hc hz hlen hx hB0 hwB hBw hp
  ·exact stmt_do x d D w0 S cs B b l w hD hw hc hz hlen hx hB0 hwB hBw hp
  ·have ihb : AllAt bb := allAt_of fun y hy => key y (by rw [St.size]; have := St.sizes_mem hy; omega)
   by_cases hl0 : ll = []
   ·subst hl0
    exact stmt_if x bb ihb d D w0 S cs B b l w hD hw hc hz hlen hx hB0 hwB hBw hp
   exact stmt_ifelse x bb ll ihb (allAt_of fun y hy => key y (by rw [St.size]; have := St.sizes_mem hy; omega)) hl0 d D w0 S cs B b l w hD hw hc hz hlen hx hB0 hwB hBw hp
  ·exact stmt_repeat n bb (allAt_of fun y hy => key y (by rw [St.size]; have := St.sizes_mem hy; omega)) d D w0 S cs B b l w hD hw hc hz hlen hx hB0 hwB hBw hp
  ·exact stmt_return x d D w0 S cs B b l w hD hw hc hz hlen hx hB0 hwB hBw hp
  exact stmt_abort n d D w0 S cs B b l w hD hw hc hz hlen hx hB0 hwB hBw hp
theorem allAt_any (l : List St) : AllAt l := allAt_of fun e _ => stmtAt_any e
mutual
/-- Its numbers are int64. -/
def St.Wd : St -> Prop
 | .mk _ _ n e b l => InR n /\ e.Wd /\ St.Wds b /\ St.Wds l
def St.Wds : List St -> Prop
 | [] => True
 | e :: t => e.Wd /\ St.Wds t
end
theorem St.Wds_mem : ∀ {l : List St}, St.Wds l -> ∀ e ∈ l, e.Wd
 | a :: t, h, e, he => by
  rw [St.Wds] at h
  rcases List.mem_cons.1 he with rfl | he
  ·exact h.1
  exact St.Wds_mem h.2 e he
mutual
theorem SV.wd {w : World} {S : Nat -> Prop} : ∀ {e : St} {cs : List Value}, SV w S e cs -> e.Wd
 | .mk k s n e b l, cs, h => by
  rw [SV] at h
  obtain ⟨ex, B, nb, cb, L, nl, cl, h1, h0, h2, h3, h4, h5, h6⟩ := h
  rw [St.Wd]
  refine ⟨h0, h2.wd, ?_, ?_⟩
  ·cases b with
   | nil => rw [St.Wds]; trivial
   | cons e t =>
    obtain ⟨b, q, _, _, _, hx⟩ := h5 (by rw [h3.1]; simp)
    exact SLf.wd hx
  cases l with
  | nil => rw [St.Wds]; trivial
  | cons e t =>
   obtain ⟨b, q, _, _, _, hx⟩ := h6 (by rw [h4.1]; simp)
   exact SLf.wd hx
theorem SLf.wd {w : World} {S : Nat -> Prop} {b q : Nat} : ∀ {i : Nat} {l : List St}, SLf w S b q i l -> St.Wds l
 | _, [], _ => by rw [St.Wds]; trivial
 | i, e :: t, h => by
  rw [SLf] at h
  obtain ⟨⟨cs, h1, _⟩, h3⟩ := h
  rw [St.Wds]
  exact ⟨SV.wd h1, SLf.wd h3⟩
end
theorem SL.wds {w : World} {S : Nat -> Prop} {A : Option Addr} {n c : Nat} {l : List St} (h : SL w S A n c l) : St.Wds l := by
 cases l with
 | nil => rw [St.Wds]; trivial
 | cons e t =>
  obtain ⟨b, q, _, _, _, hx⟩ := h.2 (by rw [h.1.1]; simp)
  exact SLf.wd hx
theorem txSs_len {d : Nat} : ∀ {l : List St}, (∀ x ∈ l, (txS d x).length <= 300 * x.size) -> (txSs d l).length <= 300 * St.sizes l
 | [], _ => by simp [txSs, St.sizes]
 | e :: t, h => by
  have h1 := h e (by simp)
  have h2 := txSs_len (l := t) fun x hx => h x (by simp [hx])
  rw [txSs, St.sizes, List.length_append, Nat.mul_add]
  omega
theorem txS_len (e : St) : ∀ d : Nat, chkS (d : Int) e = 0 -> e.Wd -> (txS d e).length <= 300 * e.size := by
 obtain ⟨N, hN⟩ : ∃ N, N = e.size := ⟨_, rfl⟩
 induction N using Nat.strongRecOn generalizing e with
 | _ N ih =>
  intro d h hw
  obtain ⟨hsh, hd⟩ := shapeS_of h
  have key : ∀ l : List St, (∀ x ∈ l, x.size < e.size) -> chkSs ((d : Int) + 1) l = 0 -> St.Wds l -> (txSs (d + 1) l).length <= 300 * St.sizes l := fun l h1 h2 h3 =>
   txSs_len fun x hx => ih x.size (by have := h1 x hx; omega) x rfl (d + 1) (chkSs_all h2 x hx) (St.Wds_mem h3 x hx)
  clear ih hN h
  rcases hsh with ⟨s, x, hs, he⟩ | ⟨s, x, hs, he⟩ | ⟨x, hk, he⟩ | ⟨x, bb, ll, he, hb, hl⟩ | ⟨n, bb, h0, h1, hb⟩ | ⟨x, he⟩ | ⟨n, h0⟩
  all_goals rw [St.Wd] at hw
  ·have h1 := name_len hs
   have h2 := txE_len x 1 he hw.2.1
   rw [txS, if_pos rfl, lineT_len, St.size]
   simp only [List.length_append, List.length_cons, List.length_nil]
   omega
  ·have h1 := name_len hs
   have h2 := txE_len x 1 he hw.2.1
   rw [txS, if_neg (by decide), if_pos rfl, lineT_len, St.size]
   simp only [List.length_append, List.length_cons, List.length_nil]
   omega
  ·have h2 := txE_len x 1 he hw.2.1
   rw [txS, if_neg (by decide), if_neg (by decide), if_pos rfl, lineT_len, St.size]
   simp only [List.length_append, List.length_cons, List.length_nil]
   omega
  ·have h2 := txE_len x 1 he hw.2.1
   have h3 := key bb (fun y hy => by rw [St.size]; have := St.sizes_mem hy; omega) hb hw.2.2.1
   have h4 := key ll (fun y hy => by rw [St.size]; have := St.sizes_mem hy; omega) hl hw.2.2.2
   have h5 : (if ll.length = 0 then [] else lineT d [125, 32, 101, 108, 115, 101, 32, 123] ++ txSs (d + 1) ll).length <= 40 + 300 * St.sizes ll := by
    split
    ·simp
    rw [List.length_append, lineT_len]
    simp only [List.length_cons, List.length_nil]
    omega
   rw [txS, if_neg (by decide), if_neg (by decide), if_neg (by decide), if_neg (by decide), if_neg (by decide), if_neg (by decide), St.size]
   rw [List.length_append, List.length_append, List.length_append, lineT_len, lineT_len]
   simp only [List.length_append, List.length_cons, List.length_nil] at h5 ⊢
   omega
  ·have h2 := Lib.itoa_length_le n hw.1.1 hw.1.2
   have h3 := key bb (fun y hy => by rw [St.size]; have := St.sizes_mem hy; omega) hb hw.2.2.1
   rw [txS, if_neg (by decide), if_neg (by decide), if_neg (by decide), if_neg (by decide), if_neg (by decide), if_pos rfl, St.size]
   simp only [List.length_append, lineT_len, List.length_cons, List.length_nil]
   omega
  ·have h2 := txE_len x 1 he hw.2.1
   rw [txS, if_neg (by decide), if_neg (by decide), if_neg (by decide), if_pos rfl, lineT_len, St.size]
   simp only [List.length_append, List.length_cons, List.length_nil]
   omega
  have h2 := Lib.itoa_length_le n hw.1.1 hw.1.2
  rw [txS, if_neg (by decide), if_neg (by decide), if_neg (by decide), if_neg (by decide), if_pos rfl, lineT_len, St.size]
  simp only [List.length_append, List.length_cons, List.length_nil]
  omega
/-- strings.Join of a slice of strings. -/
theorem join_ss {w : World} {S : Nat -> Prop} {A : Option Addr} {n c : Nat} {l : List Str} (h : SS w S A n c l) (sep : Str) (hN : l.length <= 100000) (hlen : (Lib.join l sep).length <= 100000000) :
  Calls Tryz.prog 26 #[.slice A n c, .string (bs sep)] w fun e w' => e = .returned (.string (bs (Lib.join l sep))) /\ Below w.heap.size w w' := by
 cases l with
 | nil =>
  obtain rfl : n = 0 := h.1
  refine (Tryz.strings_Join_none A c (bs sep) w).mono ?_
  rintro e w' ⟨rfl, rfl⟩
  exact ⟨rfl, Below.refl _ _⟩
 | cons x t =>
  obtain ⟨b, q, rfl, hb, _, hcell⟩ := h.2.2 (by rw [h.1]; simp)
  have e : ((x :: t).map bs).map (fun s => s.data.toList) = x :: t := by
   rw [List.map_map]
   exact (List.map_congr_left fun y _ => rfl).trans (List.map_id _)
  have hJ := Tryz.strings_Join b q c ((x :: t).map bs) (bs sep) w (fun j y hy => by
   rw [List.getElem?_map] at hy
   obtain ⟨z, hz, rfl⟩ := Option.map_eq_some_iff.1 hy
   obtain ⟨cs, ⟨s, hs, rfl⟩, hr⟩ := hcell j (by rw [h.1]; exact (List.getElem?_eq_some_iff.1 hz).1)
   obtain rfl : z = s := by rw [hz] at hs; injection hs
   have := hr 0 _ rfl
   simpa using this) hb (by rw [List.length_map]; omega) (by rw [List.length_map, <- h.1]; exact h.2.1.1) (by rw [e, bs_list]; omega)
  rw [e, bs_list, List.length_map, <- h.1] at hJ
  exact hJ
end Go.Proofs.YtkakbidllpjopaaGreatDoor
