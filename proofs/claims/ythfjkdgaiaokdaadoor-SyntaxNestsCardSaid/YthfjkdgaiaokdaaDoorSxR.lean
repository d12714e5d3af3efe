/- The walk of Expr.text (printed by wip/gensxr.py). Conditions: valid expressions; the library's tables are laid (SxW); at most 100000 parts. -/
import Derived.Test.YthfjkdgaiaokdaaDoorSxQ
set_option linter.unusedVariables false
set_option linter.unusedSimpArgs false
namespace Go.Proofs.YthfjkdgaiaokdaaDoor
open Go.RowKit

theorem fmtB_any (b : Bool) (w : World) : Calls Tryd.prog 81 #[.bool b] w fun e w' => e = .returned (.string (bs (Lib.formatBool b))) ∧ w' = w := Tryd.strconv_FormatBool b w
/-- The one element of a slice of expressions. -/
theorem XL.one_ {w : World} {S : Nat → Prop} {A : Option Addr} {n c : Nat} {x : Ex} (h : XL w S A n c [x]) : n = 1 ∧ ∃ b q cs, A = some ⟨b, q, none⟩ ∧ b < w.heap.size ∧ XV w S x cs ∧ w.rangeAt b q cs := by
  have hn : n = 1 := h.1.1
  obtain ⟨e, b, q, cs, he, h1, h2, _, h3, h4⟩ := h.at 0 (by omega)
  obtain rfl : x = e := by simpa using he
  exact ⟨hn, b, q, cs, h1, h2, h3, by simpa using h4⟩
theorem XL.two_ {w : World} {S : Nat → Prop} {A : Option Addr} {n c : Nat} {x y : Ex} (h : XL w S A n c [x, y]) : n = 2 ∧ ∃ b q cs ds, A = some ⟨b, q, none⟩ ∧ b < w.heap.size ∧ XV w S x cs ∧ w.rangeAt b q cs ∧ XV w S y ds ∧ w.rangeAt b (q + 6) ds := by
  have hn : n = 2 := h.1.1
  obtain ⟨e, b, q, cs, he, h1, h2, _, h3, h4⟩ := h.at 0 (by omega)
  obtain ⟨e', b', q', ds, he', h1', h2', _, h3', h4'⟩ := h.at 1 (by omega)
  obtain rfl : x = e := by simpa using he
  obtain rfl : y = e' := by simpa using he'
  rw [h1] at h1'
  injection h1' with h1'
  injection h1' with e1 e2
  subst e1 e2
  exact ⟨hn, b, q, cs, ds, h1, h2, h3, by simpa using h4, h3', by simpa using h4'⟩

set_option maxRecDepth 100000 in
set_option maxHeartbeats 12800000 in
theorem text_num (n : Int) (d : Int) (w : World) (S : Nat → Prop) (cs : List Value) (hw : SxW w) (hc : chkE d (Ex.mk 0 n [] [] [] []) = 0) (hz : (Ex.mk 0 n [] [] [] []).size ≤ 100000) (hx : XV w S (Ex.mk 0 n [] [] [] []) cs) :
    Calls Tryd.prog 66 #[.agg cs.toArray] w fun e' w' => e' = .returned (.string (bs (txE (Ex.mk 0 n [] [] [] [])))) ∧ Below w.heap.size w w' := by
  have hb := (Below.refl w.heap.size w).alloc (Nat.le_refl _) (.cells cs.toArray 44)
  have HT := Lib.hid (fmtI_any n hx.num _ (hw.below hb))
  rw [show txE (.mk 0 n [] [] [] []) = Lib.itoa n from by rw [txE, if_pos rfl]]
  obtain ⟨A, na, ca, O, no, co, rfl, -, -⟩ := hx.open_
  clear hx hc hz hw hb
  unfold exC at HT ⊢
  go_enter Tryd.func66, Tryd.ntmps66
  go_wp2_with fail
  refine HT.out.mono ?_
  rintro e w1 ⟨rfl, hb⟩
  go_wp2
  go_ret
  exact ⟨rfl, below_new hb⟩
set_option maxRecDepth 100000 in
set_option maxHeartbeats 12800000 in
theorem text_bool (n : Int) (d : Int) (w : World) (S : Nat → Prop) (cs : List Value) (hw : SxW w) (hc : chkE d (Ex.mk 1 n [] [] [] []) = 0) (hz : (Ex.mk 1 n [] [] [] []).size ≤ 100000) (hx : XV w S (Ex.mk 1 n [] [] [] []) cs) :
    Calls Tryd.prog 66 #[.agg cs.toArray] w fun e' w' => e' = .returned (.string (bs (txE (Ex.mk 1 n [] [] [] [])))) ∧ Below w.heap.size w w' := by
  have hb := (Below.refl w.heap.size w).alloc (Nat.le_refl _) (.cells cs.toArray 44)
  rw [show txE (.mk 1 n [] [] [] []) = Lib.formatBool (decide (n = 1)) from by rw [txE, if_neg (by decide), if_pos rfl]]
  have HT := Lib.hid (fun W => fmtB_any (decide (n = 1)) W)
  obtain ⟨A, na, ca, O, no, co, rfl, -, -⟩ := hx.open_
  have HB := Lib.hid hb
  have hn1 : (n == 1) = decide (n = 1) := rfl
  clear hx hc hz hw hb
  unfold exC at HB ⊢
  generalize decide (n = 1) = q at *
  go_enter Tryd.func66, Tryd.ntmps66
  go_wp2_with fail
  refine (HT.out _).mono ?_
  rintro e w1 ⟨rfl, h⟩
  subst w1
  go_wp2
  go_ret
  exact ⟨rfl, HB.out⟩
set_option maxRecDepth 100000 in
set_option maxHeartbeats 12800000 in
theorem text_var (s : Str) (d : Int) (w : World) (S : Nat → Prop) (cs : List Value) (hw : SxW w) (hc : chkE d (Ex.mk 2 0 s [] [] []) = 0) (hz : (Ex.mk 2 0 s [] [] []).size ≤ 100000) (hx : XV w S (Ex.mk 2 0 s [] [] []) cs) :
    Calls Tryd.prog 66 #[.agg cs.toArray] w fun e' w' => e' = .returned (.string (bs (txE (Ex.mk 2 0 s [] [] [])))) ∧ Below w.heap.size w w' := by
  have hb := (Below.refl w.heap.size w).alloc (Nat.le_refl _) (.cells cs.toArray 44)
  rw [show txE (.mk 2 0 s [] [] []) = s from by rw [txE, if_neg (by decide), if_neg (by decide), if_pos rfl]]
  obtain ⟨A, na, ca, O, no, co, rfl, -, -⟩ := hx.open_
  have HB := Lib.hid hb
  clear hx hc hz hw hb
  unfold exC at HB ⊢
  go_enter Tryd.func66, Tryd.ntmps66
  go_wp2
  go_ret
  exact ⟨rfl, HB.out⟩
set_option maxRecDepth 100000 in
set_option maxHeartbeats 12800000 in
theorem text_not (x : Ex) (ih : TextAt x) (d : Int) (w : World) (S : Nat → Prop) (cs : List Value) (hw : SxW w) (hc : chkE d (Ex.mk 3 0 [] [] [x] []) = 0) (hz : (Ex.mk 3 0 [] [] [x] []).size ≤ 100000) (hx : XV w S (Ex.mk 3 0 [] [] [x] []) cs) :
    Calls Tryd.prog 66 #[.agg cs.toArray] w fun e' w' => e' = .returned (.string (bs (txE (Ex.mk 3 0 [] [] [x] [])))) ∧ Below w.heap.size w w' := by
  have hb := (Below.refl w.heap.size w).alloc (Nat.le_refl _) (.cells cs.toArray 44)
  obtain ⟨-, -, -, -, -, -, -, hch, -⟩ := chkE_fields hc
  have hcx := hch x (by simp)
  obtain ⟨A, na, ca, O, no, co, rfl, hA, -⟩ := hx.open_
  obtain ⟨rfl, b, q, cs, rfl, hbl, hxv, hrow⟩ := hA.one_
  rw [Ex.size, Ex.sizes, Ex.sizes] at hz
  have HT := Lib.hid (operAt_of ih (d + 1) _ S cs (hw.below hb) hcx (by omega) (hxv.below hb))
  have HB := Lib.hid hb
  have hlen := par_len x (txE x)
  have hl2 := txE_len x _ hcx hxv.wd
  have hrow2 := rangeAt_keep hrow (hb.block b hbl)
  obtain ⟨T, hT⟩ : ∃ T, T = txE (Ex.mk 3 0 [] [] [x] []) := ⟨_, rfl⟩
  rw [← hT]
  rw [txE, if_neg (by decide), if_neg (by decide), if_neg (by decide), if_pos rfl] at hT
  change T = ([110, 111, 116, 32] : Str) ++ opE x at hT
  change (opE x).length ≤ _ at hlen
  obtain ⟨t, ht⟩ : ∃ t, t = opE x := ⟨_, rfl⟩
  rw [← ht] at HT hlen hT
  obtain ⟨c1, hc1⟩ : ∃ c, c = ([110, 111, 116, 32] : Str) ++ t := ⟨_, rfl⟩
  have lc1 : c1.length = 4 + t.length := by rw [hc1]; exact List.length_append
  have jc1 : ∀ w, (Op.stringOp .add (⟨#[110, 111, 116, 32]⟩ : ByteArray) (bs t)).run Tryd.prog w = .ok (.string (bs c1)) w := fun w => by rw [hc1]; exact add_big ([110, 111, 116, 32] : Str) t (by first | omega | (simp; omega)) w
  have HF := Lib.hid (show c1 = T from by rw [hT, hc1])
  clear ht hT hc1 lc1 hlen hl2 hcx hch hc hz hx hA hw hb
  obtain ⟨xk, xn, xs, xm, xa, xo⟩ := x
  obtain ⟨A2, na2, ca2, O2, no2, co2, rfl, -, -⟩ := hxv.open_
  unfold exC at HT HB hrow2
  obtain ⟨e0, e1, e2, e3, e4, e5⟩ := exC_at hrow2
  clear hrow hrow2 hxv hbl
  unfold exC
  go_enter Tryd.func66, Tryd.ntmps66
  go_wp2_with fail
  refine HT.out.mono ?_
  rintro e w1 ⟨rfl, hb⟩
  clear e0 e1 e2 e3 e4 e5
  go_wp2
  go_ret
  exact ⟨congrArg (fun x => Ending.returned (.string (bs x))) HF.out, below_new hb⟩
set_option maxRecDepth 100000 in
set_option maxHeartbeats 12800000 in
theorem text_neg (x : Ex) (ih : TextAt x) (d : Int) (w : World) (S : Nat → Prop) (cs : List Value) (hw : SxW w) (hc : chkE d (Ex.mk 4 0 [] [] [x] []) = 0) (hz : (Ex.mk 4 0 [] [] [x] []).size ≤ 100000) (hx : XV w S (Ex.mk 4 0 [] [] [x] []) cs) :
    Calls Tryd.prog 66 #[.agg cs.toArray] w fun e' w' => e' = .returned (.string (bs (txE (Ex.mk 4 0 [] [] [x] [])))) ∧ Below w.heap.size w w' := by
  have hb := (Below.refl w.heap.size w).alloc (Nat.le_refl _) (.cells cs.toArray 44)
  obtain ⟨-, -, -, -, -, -, -, hch, -⟩ := chkE_fields hc
  have hcx := hch x (by simp)
  obtain ⟨A, na, ca, O, no, co, rfl, hA, -⟩ := hx.open_
  obtain ⟨rfl, b, q, cs, rfl, hbl, hxv, hrow⟩ := hA.one_
  rw [Ex.size, Ex.sizes, Ex.sizes] at hz
  have HT := Lib.hid (operAt_of ih (d + 1) _ S cs (hw.below hb) hcx (by omega) (hxv.below hb))
  have HB := Lib.hid hb
  have hlen := par_len x (txE x)
  have hl2 := txE_len x _ hcx hxv.wd
  have hrow2 := rangeAt_keep hrow (hb.block b hbl)
  obtain ⟨T, hT⟩ : ∃ T, T = txE (Ex.mk 4 0 [] [] [x] []) := ⟨_, rfl⟩
  rw [← hT]
  rw [txE, if_neg (by decide), if_neg (by decide), if_neg (by decide), if_neg (by decide), if_pos rfl] at hT
  change T = ([45] : Str) ++ opE x at hT
  change (opE x).length ≤ _ at hlen
  obtain ⟨t, ht⟩ : ∃ t, t = opE x := ⟨_, rfl⟩
  rw [← ht] at HT hlen hT
  obtain ⟨c1, hc1⟩ : ∃ c, c = ([45] : Str) ++ t := ⟨_, rfl⟩
  have lc1 : c1.length = 1 + t.length := by rw [hc1]; exact List.length_append
  have jc1 : ∀ w, (Op.stringOp .add (⟨#[45]⟩ : ByteArray) (bs t)).run Tryd.prog w = .ok (.string (bs c1)) w := fun w => by rw [hc1]; exact add_big ([45] : Str) t (by first | omega | (simp; omega)) w
  have HF := Lib.hid (show c1 = T from by rw [hT, hc1])
  clear ht hT hc1 lc1 hlen hl2 hcx hch hc hz hx hA hw hb
  obtain ⟨xk, xn, xs, xm, xa, xo⟩ := x
  obtain ⟨A2, na2, ca2, O2, no2, co2, rfl, -, -⟩ := hxv.open_
  unfold exC at HT HB hrow2
  obtain ⟨e0, e1, e2, e3, e4, e5⟩ := exC_at hrow2
  clear hrow hrow2 hxv hbl
  unfold exC
  go_enter Tryd.func66, Tryd.ntmps66
  go_wp2_with fail
  refine HT.out.mono ?_
  rintro e w1 ⟨rfl, hb⟩
  clear e0 e1 e2 e3 e4 e5
  go_wp2
  go_ret
  exact ⟨congrArg (fun x => Ending.returned (.string (bs x))) HF.out, below_new hb⟩
end Go.Proofs.YthfjkdgaiaokdaaDoor
