/- The walks of the reference's operand and Text (printed by wip/gensys.py). Conditions: valid expressions; at most 100000 parts. -/
import Derived.Test.YthfjkdgaiaokdaaDoorSyR
set_option linter.unusedVariables false
set_option linter.unusedSimpArgs false
namespace Go.Proofs.YthfjkdgaiaokdaaDoor
open Go.RowKit

def RTextAt (e : Ex) : Prop := ∀ (d : Int) (w : World) (S : Nat → Prop) (cs : List Value), SxW w → chkE d e = 0 → e.size ≤ 100000 → XV w S e cs → Calls Tryd.prog 46 #[.agg cs.toArray] w fun e' w' => e' = .returned (.string (bs (txE e))) ∧ Below w.heap.size w w'
def ROperAt (e : Ex) : Prop := ∀ (d : Int) (w : World) (S : Nat → Prop) (cs : List Value), SxW w → chkE d e = 0 → e.size ≤ 100000 → XV w S e cs → Calls Tryd.prog 68 #[.agg cs.toArray] w fun e' w' => e' = .returned (.string (bs (opE e))) ∧ Below w.heap.size w w'
theorem join_snoc (sep x : Str) : ∀ (l : List Str), Lib.join (l ++ [x]) sep = if l.length = 0 then x else Lib.join l sep ++ sep ++ x
  | [] => by simp [Lib.join, List.intercalate]
  | [a] => by simp [Lib.join, List.intercalate]
  | a :: b :: t => by
    have ih := join_snoc sep x (b :: t)
    have e : ∀ (y : Str) (r : List Str), Lib.join (a :: y :: r) sep = a ++ sep ++ Lib.join (y :: r) sep := fun y r => by simp [Lib.join, List.intercalate]
    rw [if_neg (by simp)] at ih
    rw [if_neg (by simp), List.cons_append, List.cons_append, e, e, ← List.cons_append, ih]
    simp only [List.append_assoc]
theorem sizes_take : ∀ (l : List Ex) (q : Nat), Ex.sizes (l.take q) ≤ Ex.sizes l
  | [], q => by rw [List.take_nil]; exact Nat.le_refl _
  | e :: t, 0 => by rw [List.take_zero, Ex.sizes]; exact Nat.zero_le _
  | e :: t, q + 1 => by
    have := sizes_take t q
    rw [List.take_succ_cons, Ex.sizes, Ex.sizes]
    omega
theorem Ex.Wds_take : ∀ (l : List Ex) (q : Nat), Ex.Wds l → Ex.Wds (l.take q)
  | [], q, _ => by rw [List.take_nil, Ex.Wds]; trivial
  | e :: t, 0, _ => by rw [List.take_zero, Ex.Wds]; trivial
  | e :: t, q + 1, h => by
    rw [Ex.Wds] at h
    rw [List.take_succ_cons, Ex.Wds]
    exact ⟨h.1, Ex.Wds_take t q h.2⟩
/-- The arguments' texts so far. -/
def jt (a : List Ex) (q : Nat) : Str := Lib.join ((a.take q).map txE) [44, 32]
theorem jt_up {a : List Ex} {q : Nat} {x : Ex} (h : a[q]? = some x) : jt a (q + 1) = if q = 0 then txE x else jt a q ++ [44, 32] ++ txE x := by
  have hq := (List.getElem?_eq_some_iff.1 h).1
  unfold jt
  rw [List.take_add_one, h, List.map_append]
  show Lib.join ((a.take q).map txE ++ [txE x]) [44, 32] = _
  rw [join_snoc, List.length_map, List.length_take, Nat.min_eq_left (by omega)]
theorem jt_zero (a : List Ex) : jt a 0 = [] := by unfold jt; rw [List.take_zero]; rfl
theorem jt_all (a : List Ex) {q : Nat} (h : a.length ≤ q) : jt a q = Lib.join (a.map txE) [44, 32] := by unfold jt; rw [List.take_of_length_le h]
theorem jt_len {a : List Ex} {d : Int} (q : Nat) (h : ∀ x ∈ a, chkE d x = 0) (hw : Ex.Wds a) (hz : Ex.sizes a ≤ 100000) : (jt a q).length ≤ 13200000 := by
  have h1 := sizes_take a q
  have h2 := texts_len (l := a.take q) (fun x hx => h x (List.mem_of_mem_take hx)) (Ex.Wds_take a q hw) (by omega)
  have h3 := Ex.len_sizes (a.take q)
  unfold jt
  omega
set_option maxRecDepth 100000 in
set_option maxHeartbeats 12800000 in
theorem roperand_par (k n : Int) (s m : Str) (a o : List Ex) (d : Int) (w : World) (S : Nat → Prop) (cs : List Value) (hw : SxW w) (hc : chkE d (.mk k n s m a o) = 0) (hz : (Ex.mk k n s m a o).size ≤ 100000) (hx : XV w S (.mk k n s m a o) cs) (ih : RTextAt (.mk k n s m a o)) :
    Calls Tryd.prog 68 #[.agg cs.toArray] w fun e' w' => e' = .returned (.string (bs (opE (.mk k n s m a o)))) ∧ Below w.heap.size w w' := by
  have hb := (Below.refl w.heap.size w).alloc (Nat.le_refl _) (.cells cs.toArray 83)
  have HT := Lib.hid (ih d _ S cs (hw.below hb) hc hz (hx.below hb))
  have HB := Lib.hid hb
  have hlen := txE_len _ d hc hx.wd
  obtain ⟨A, na, ca, O, no, co, rfl, hA, hO⟩ := hx.open_
  obtain ⟨t, ht⟩ : ∃ t, t = txE (.mk k n s m a o) := ⟨_, rfl⟩
  obtain ⟨-, hk0, hk7, -⟩ := chkE_fields hc
  have e : opE (.mk k n s m a o) = if k = 5 ∨ k = 3 ∨ k = 4 ∨ (k = 6 ∧ 0 < no) then [40] ++ t ++ [41] else t := by
    rw [ht, hO.1.1]; rfl
  rw [← ht] at HT hlen
  obtain ⟨T, hT⟩ : ∃ T, T = opE (.mk k n s m a o) := ⟨_, rfl⟩
  rw [← hT]
  rw [e] at hT
  obtain ⟨c1, hc1⟩ : ∃ c, c = ([40] : Str) ++ t := ⟨_, rfl⟩
  have lc1 : c1.length = 1 + t.length := by rw [hc1]; exact List.length_append
  have jc1 : ∀ w, (Op.stringOp .add (⟨#[40]⟩ : ByteArray) (bs t)).run Tryd.prog w = .ok (.string (bs c1)) w := fun w => by rw [hc1]; exact add_big ([40] : Str) t (by first | omega | (simp; omega)) w
  obtain ⟨c2, hc2⟩ : ∃ c, c = c1 ++ ([41] : Str) := ⟨_, rfl⟩
  have lc2 : c2.length = c1.length + 1 := by rw [hc2]; exact List.length_append
  have jc2 : ∀ w, (Op.stringOp .add (bs c1) (⟨#[41]⟩ : ByteArray)).run Tryd.prog w = .ok (.string (bs c2)) w := fun w => by rw [hc2]; exact add_big c1 ([41] : Str) (by first | omega | (simp; omega)) w
  have hcc : c2 = [40] ++ t ++ [41] := by rw [hc2, hc1]
  rw [← hcc] at hT
  clear hb hw hc hz hx ih hA hO e ht hlen hc1 hc2 lc1 lc2 hcc
  unfold exC at HT HB ⊢
  have hk : k = 0 ∨ k = 1 ∨ k = 2 ∨ k = 3 ∨ k = 4 ∨ k = 5 ∨ k = 6 ∨ k = 7 := by omega
  clear hk0 hk7
  rcases hk with rfl | rfl | rfl | rfl | rfl | rfl | rfl | rfl
  · skip
    obtain rfl : T = t := by rw [hT, if_neg (by omega)]
    clear hT jc1 jc2
    go_enter Tryd.func68, Tryd.ntmps68
    go_wp2_with fail
    refine HT.out.mono ?_
    rintro e w1 ⟨rfl, hb⟩
    go_wp2
    go_ret
    exact ⟨rfl, below_new hb⟩
  · skip
    obtain rfl : T = t := by rw [hT, if_neg (by omega)]
    clear hT jc1 jc2
    go_enter Tryd.func68, Tryd.ntmps68
    go_wp2_with fail
    refine HT.out.mono ?_
    rintro e w1 ⟨rfl, hb⟩
    go_wp2
    go_ret
    exact ⟨rfl, below_new hb⟩
  · skip
    obtain rfl : T = t := by rw [hT, if_neg (by omega)]
    clear hT jc1 jc2
    go_enter Tryd.func68, Tryd.ntmps68
    go_wp2_with fail
    refine HT.out.mono ?_
    rintro e w1 ⟨rfl, hb⟩
    go_wp2
    go_ret
    exact ⟨rfl, below_new hb⟩
  · skip
    obtain rfl : T = c2 := by rw [hT, if_pos (by omega)]
    clear hT
    go_enter Tryd.func68, Tryd.ntmps68
    go_wp2_with fail
    refine HT.out.mono ?_
    rintro e w1 ⟨rfl, hb⟩
    go_wp2
    go_ret
    exact ⟨rfl, below_new hb⟩
  · skip
    obtain rfl : T = c2 := by rw [hT, if_pos (by omega)]
    clear hT
    go_enter Tryd.func68, Tryd.ntmps68
    go_wp2_with fail
    refine HT.out.mono ?_
    rintro e w1 ⟨rfl, hb⟩
    go_wp2
    go_ret
    exact ⟨rfl, below_new hb⟩
  · skip
    obtain rfl : T = c2 := by rw [hT, if_pos (by omega)]
    clear hT
    go_enter Tryd.func68, Tryd.ntmps68
    go_wp2_with fail
    refine HT.out.mono ?_
    rintro e w1 ⟨rfl, hb⟩
    go_wp2
    go_ret
    exact ⟨rfl, below_new hb⟩
  · by_cases no0 : 0 < (no : Int)
    · skip
      obtain rfl : T = c2 := by rw [hT, if_pos (by omega)]
      clear hT
      go_enter Tryd.func68, Tryd.ntmps68
      go_wp2_with fail
      refine HT.out.mono ?_
      rintro e w1 ⟨rfl, hb⟩
      go_wp2
      go_ret
      exact ⟨rfl, below_new hb⟩
    · skip
      obtain rfl : T = t := by rw [hT, if_neg (by omega)]
      clear hT jc1 jc2
      go_enter Tryd.func68, Tryd.ntmps68
      go_wp2_with fail
      refine HT.out.mono ?_
      rintro e w1 ⟨rfl, hb⟩
      go_wp2
      go_ret
      exact ⟨rfl, below_new hb⟩
  · skip
    obtain rfl : T = t := by rw [hT, if_neg (by omega)]
    clear hT jc1 jc2
    go_enter Tryd.func68, Tryd.ntmps68
    go_wp2_with fail
    refine HT.out.mono ?_
    rintro e w1 ⟨rfl, hb⟩
    go_wp2
    go_ret
    exact ⟨rfl, below_new hb⟩
theorem roperAt_of {e : Ex} (h : RTextAt e) : ROperAt e := by
  obtain ⟨k, n, s, m, a, o⟩ := e
  exact fun d w S cs hw hc hz hx => roperand_par k n s m a o d w S cs hw hc hz hx h
set_option maxRecDepth 100000 in
set_option maxHeartbeats 12800000 in
theorem rtext_num (n : Int) (d : Int) (w : World) (S : Nat → Prop) (cs : List Value) (hw : SxW w) (hc : chkE d (Ex.mk 0 n [] [] [] []) = 0) (hz : (Ex.mk 0 n [] [] [] []).size ≤ 100000) (hx : XV w S (Ex.mk 0 n [] [] [] []) cs) :
    Calls Tryd.prog 46 #[.agg cs.toArray] w fun e' w' => e' = .returned (.string (bs (txE (Ex.mk 0 n [] [] [] [])))) ∧ Below w.heap.size w w' := by
  have hb := (Below.refl w.heap.size w).alloc (Nat.le_refl _) (.cells cs.toArray 83)
  have hn0 := (chkE_fields hc).2.2.2.2.2.2.1 (by decide)
  have HT := Lib.hid (number_any n hn0.1 hx.num.2 (w.alloc (.cells cs.toArray 83)))
  rw [show txE (.mk 0 n [] [] [] []) = Lib.itoa n from by rw [txE, if_pos rfl]]
  obtain ⟨A, na, ca, O, no, co, rfl, -, -⟩ := hx.open_
  clear hx hc hz hw hb hn0
  unfold exC at HT ⊢
  go_enter Tryd.func46, Tryd.ntmps46
  go_wp2_with fail
  refine HT.out.mono ?_
  rintro e w1 ⟨rfl, hb⟩
  go_wp2
  go_ret
  exact ⟨rfl, below_new hb⟩
set_option maxRecDepth 100000 in
set_option maxHeartbeats 12800000 in
theorem rtext_bool (n : Int) (d : Int) (w : World) (S : Nat → Prop) (cs : List Value) (hw : SxW w) (hc : chkE d (Ex.mk 1 n [] [] [] []) = 0) (hz : (Ex.mk 1 n [] [] [] []).size ≤ 100000) (hx : XV w S (Ex.mk 1 n [] [] [] []) cs) :
    Calls Tryd.prog 46 #[.agg cs.toArray] w fun e' w' => e' = .returned (.string (bs (txE (Ex.mk 1 n [] [] [] [])))) ∧ Below w.heap.size w w' := by
  have hb := (Below.refl w.heap.size w).alloc (Nat.le_refl _) (.cells cs.toArray 83)
  rw [show txE (.mk 1 n [] [] [] []) = Lib.formatBool (decide (n = 1)) from by rw [txE, if_neg (by decide), if_pos rfl]]
  obtain ⟨A, na, ca, O, no, co, rfl, -, -⟩ := hx.open_
  have HB := Lib.hid hb
  clear hx hc hz hw hb
  unfold exC at HB ⊢
  by_cases hn : n = 1
  · subst hn
    go_enter Tryd.func46, Tryd.ntmps46
    go_wp2
    go_ret
    exact ⟨rfl, HB.out⟩
  · have HE := Lib.hid (show Lib.formatBool (decide (n = 1)) = Lib.formatBool false by rw [decide_eq_false hn])
    have hn1 : (n == 1) = false := by simp [hn]
    rw [HE.out]
    clear HE
    go_enter Tryd.func46, Tryd.ntmps46
    go_wp2
    go_ret
    exact ⟨rfl, HB.out⟩
set_option maxRecDepth 100000 in
set_option maxHeartbeats 12800000 in
theorem rtext_var (s : Str) (d : Int) (w : World) (S : Nat → Prop) (cs : List Value) (hw : SxW w) (hc : chkE d (Ex.mk 2 0 s [] [] []) = 0) (hz : (Ex.mk 2 0 s [] [] []).size ≤ 100000) (hx : XV w S (Ex.mk 2 0 s [] [] []) cs) :
    Calls Tryd.prog 46 #[.agg cs.toArray] w fun e' w' => e' = .returned (.string (bs (txE (Ex.mk 2 0 s [] [] [])))) ∧ Below w.heap.size w w' := by
  have hb := (Below.refl w.heap.size w).alloc (Nat.le_refl _) (.cells cs.toArray 83)
  rw [show txE (.mk 2 0 s [] [] []) = s from by rw [txE, if_neg (by decide), if_neg (by decide), if_pos rfl]]
  obtain ⟨A, na, ca, O, no, co, rfl, -, -⟩ := hx.open_
  have HB := Lib.hid hb
  clear hx hc hz hw hb
  unfold exC at HB ⊢
  go_enter Tryd.func46, Tryd.ntmps46
  go_wp2
  go_ret
  exact ⟨rfl, HB.out⟩
set_option maxRecDepth 100000 in
set_option maxHeartbeats 12800000 in
theorem rtext_not (x : Ex) (ih : RTextAt x) (d : Int) (w : World) (S : Nat → Prop) (cs : List Value) (hw : SxW w) (hc : chkE d (Ex.mk 3 0 [] [] [x] []) = 0) (hz : (Ex.mk 3 0 [] [] [x] []).size ≤ 100000) (hx : XV w S (Ex.mk 3 0 [] [] [x] []) cs) :
    Calls Tryd.prog 46 #[.agg cs.toArray] w fun e' w' => e' = .returned (.string (bs (txE (Ex.mk 3 0 [] [] [x] [])))) ∧ Below w.heap.size w w' := by
  have hb := (Below.refl w.heap.size w).alloc (Nat.le_refl _) (.cells cs.toArray 83)
  obtain ⟨-, -, -, -, -, -, -, hch, -⟩ := chkE_fields hc
  have hcx := hch x (by simp)
  obtain ⟨A, na, ca, O, no, co, rfl, hA, -⟩ := hx.open_
  obtain ⟨rfl, b, q, cs, rfl, hbl, hxv, hrow⟩ := hA.one_
  rw [Ex.size, Ex.sizes, Ex.sizes] at hz
  have HT := Lib.hid (roperAt_of ih (d + 1) _ S cs (hw.below hb) hcx (by omega) (hxv.below hb))
  have HB := Lib.hid hb
  have hlen := par_len x (txE x)
  have hl2 := txE_len x _ hcx hxv.wd
  have hrow2 := rangeAt_keep hrow (hb.block b hbl)
  obtain ⟨T, hT⟩ : ∃ T, T = txE (Ex.mk 3 0 [] [] [x] []) := ⟨_, rfl⟩
  rw [← hT]
  rw [txE, if_neg (by decide), if_neg (by decide), if_neg (by decide), if_pos rfl] at hT
  change T = ([110, 111, 116, 32] : Str) ++ opE x at hT
  change (opE x).length ≤ _ at hlen
  obtain ⟨t, ht⟩ : ∃ t, t = opE x := ⟨_, rfl⟩
  rw [← ht] at HT hlen hT
  obtain ⟨c1, hc1⟩ : ∃ c, c = ([110, 111, 116, 32] : Str) ++ t := ⟨_, rfl⟩
  have lc1 : c1.length = 4 + t.length := by rw [hc1]; exact List.length_append
  have jc1 : ∀ w, (Op.stringOp .add (⟨#[110, 111, 116, 32]⟩ : ByteArray) (bs t)).run Tryd.prog w = .ok (.string (bs c1)) w := fun w => by rw [hc1]; exact add_big ([110, 111, 116, 32] : Str) t (by first | omega | (simp; omega)) w
  have HF := Lib.hid (show c1 = T from by rw [hT, hc1])
  clear ht hT hc1 lc1 hlen hl2 hcx hch hc hz hx hA hw hb
  obtain ⟨xk, xn, xs, xm, xa, xo⟩ := x
  obtain ⟨A2, na2, ca2, O2, no2, co2, rfl, -, -⟩ := hxv.open_
  unfold exC at HT HB hrow2
  obtain ⟨e0, e1, e2, e3, e4, e5⟩ := exC_at hrow2
  clear hrow hrow2 hxv hbl
  unfold exC
  go_enter Tryd.func46, Tryd.ntmps46
  go_wp2_with fail
  refine HT.out.mono ?_
  rintro e w1 ⟨rfl, hb⟩
  clear e0 e1 e2 e3 e4 e5
  go_wp2
  go_ret
  exact ⟨congrArg (fun x => Ending.returned (.string (bs x))) HF.out, below_new hb⟩
set_option maxRecDepth 100000 in
set_option maxHeartbeats 12800000 in
theorem rtext_neg (x : Ex) (ih : RTextAt x) (d : Int) (w : World) (S : Nat → Prop) (cs : List Value) (hw : SxW w) (hc : chkE d (Ex.mk 4 0 [] [] [x] []) = 0) (hz : (Ex.mk 4 0 [] [] [x] []).size ≤ 100000) (hx : XV w S (Ex.mk 4 0 [] [] [x] []) cs) :
    Calls Tryd.prog 46 #[.agg cs.toArray] w fun e' w' => e' = .returned (.string (bs (txE (Ex.mk 4 0 [] [] [x] [])))) ∧ Below w.heap.size w w' := by
  have hb := (Below.refl w.heap.size w).alloc (Nat.le_refl _) (.cells cs.toArray 83)
  obtain ⟨-, -, -, -, -, -, -, hch, -⟩ := chkE_fields hc
  have hcx := hch x (by simp)
  obtain ⟨A, na, ca, O, no, co, rfl, hA, -⟩ := hx.open_
  obtain ⟨rfl, b, q, cs, rfl, hbl, hxv, hrow⟩ := hA.one_
  rw [Ex.size, Ex.sizes, Ex.sizes] at hz
  have HT := Lib.hid (roperAt_of ih (d + 1) _ S cs (hw.below hb) hcx (by omega) (hxv.below hb))
  have HB := Lib.hid hb
  have hlen := par_len x (txE x)
  have hl2 := txE_len x _ hcx hxv.wd
  have hrow2 := rangeAt_keep hrow (hb.block b hbl)
  obtain ⟨T, hT⟩ : ∃ T, T = txE (Ex.mk 4 0 [] [] [x] []) := ⟨_, rfl⟩
  rw [← hT]
  rw [txE, if_neg (by decide), if_neg (by decide), if_neg (by decide), if_neg (by decide), if_pos rfl] at hT
  change T = ([45] : Str) ++ opE x at hT
  change (opE x).length ≤ _ at hlen
  obtain ⟨t, ht⟩ : ∃ t, t = opE x := ⟨_, rfl⟩
  rw [← ht] at HT hlen hT
  obtain ⟨c1, hc1⟩ : ∃ c, c = ([45] : Str) ++ t := ⟨_, rfl⟩
  have lc1 : c1.length = 1 + t.length := by rw [hc1]; exact List.length_append
  have jc1 : ∀ w, (Op.stringOp .add (⟨#[45]⟩ : ByteArray) (bs t)).run Tryd.prog w = .ok (.string (bs c1)) w := fun w => by rw [hc1]; exact add_big ([45] : Str) t (by first | omega | (simp; omega)) w
  have HF := Lib.hid (show c1 = T from by rw [hT, hc1])
  clear ht hT hc1 lc1 hlen hl2 hcx hch hc hz hx hA hw hb
  obtain ⟨xk, xn, xs, xm, xa, xo⟩ := x
  obtain ⟨A2, na2, ca2, O2, no2, co2, rfl, -, -⟩ := hxv.open_
  unfold exC at HT HB hrow2
  obtain ⟨e0, e1, e2, e3, e4, e5⟩ := exC_at hrow2
  clear hrow hrow2 hxv hbl
  unfold exC
  go_enter Tryd.func46, Tryd.ntmps46
  go_wp2_with fail
  refine HT.out.mono ?_
  rintro e w1 ⟨rfl, hb⟩
  clear e0 e1 e2 e3 e4 e5
  go_wp2
  go_ret
  exact ⟨congrArg (fun x => Ending.returned (.string (bs x))) HF.out, below_new hb⟩
set_option maxRecDepth 100000 in
set_option maxHeartbeats 12800000 in
theorem rtext_bin (m : Str) (x y : Ex) (ihx : RTextAt x) (ihy : RTextAt y) (hm : sgns.contains m = true) (d : Int) (w : World) (S : Nat → Prop) (cs : List Value) (hw : SxW w) (hc : chkE d (Ex.mk 5 0 [] m [x, y] []) = 0) (hz : (Ex.mk 5 0 [] m [x, y] []).size ≤ 100000) (hx : XV w S (Ex.mk 5 0 [] m [x, y] []) cs) :
    Calls Tryd.prog 46 #[.agg cs.toArray] w fun e' w' => e' = .returned (.string (bs (txE (Ex.mk 5 0 [] m [x, y] [])))) ∧ Below w.heap.size w w' := by
  have hb := (Below.refl w.heap.size w).alloc (Nat.le_refl _) (.cells cs.toArray 83)
  obtain ⟨-, -, -, -, -, -, -, hch, -⟩ := chkE_fields hc
  have hcx := hch x (by simp)
  have hcy := hch y (by simp)
  obtain ⟨A, na, ca, O, no, co, rfl, hA, -⟩ := hx.open_
  obtain ⟨rfl, b, q, cs, ds, rfl, hbl, hxv, hrow, hyv, hrowy⟩ := hA.two_
  rw [Ex.size, Ex.sizes, Ex.sizes, Ex.sizes] at hz
  have hlx := par_len x (txE x)
  have hly := par_len y (txE y)
  have hl1 := txE_len x _ hcx hxv.wd
  have hl2 := txE_len y _ hcy hyv.wd
  have hl3 := sgn_len hm
  obtain ⟨T, hT⟩ : ∃ T, T = txE (Ex.mk 5 0 [] m [x, y] []) := ⟨_, rfl⟩
  rw [← hT]
  rw [txE, if_neg (by decide), if_neg (by decide), if_neg (by decide), if_neg (by decide), if_neg (by decide), if_pos rfl] at hT
  change T = opE x ++ ([32] : Str) ++ m ++ [32] ++ opE y at hT
  change (opE x).length ≤ _ at hlx
  change (opE y).length ≤ _ at hly
  have HOX := roperAt_of ihx
  have HOY := roperAt_of ihy
  unfold ROperAt at HOX HOY
  obtain ⟨t, ht⟩ : ∃ t, t = opE x := ⟨_, rfl⟩
  obtain ⟨u, hu⟩ : ∃ u, u = opE y := ⟨_, rfl⟩
  rw [← ht] at HOX hlx hT
  rw [← hu] at HOY hly hT
  obtain ⟨c1, hc1⟩ : ∃ c, c = t ++ ([32] : Str) := ⟨_, rfl⟩
  have lc1 : c1.length = t.length + 1 := by rw [hc1]; exact List.length_append
  have jc1 : ∀ w, (Op.stringOp .add (bs t) (⟨#[32]⟩ : ByteArray)).run Tryd.prog w = .ok (.string (bs c1)) w := fun w => by rw [hc1]; exact add_big t ([32] : Str) (by first | omega | (simp; omega)) w
  obtain ⟨c2, hc2⟩ : ∃ c, c = c1 ++ m := ⟨_, rfl⟩
  have lc2 : c2.length = c1.length + m.length := by rw [hc2]; exact List.length_append
  have jc2 : ∀ w, (Op.stringOp .add (bs c1) (bs m)).run Tryd.prog w = .ok (.string (bs c2)) w := fun w => by rw [hc2]; exact add_big c1 m (by first | omega | (simp; omega)) w
  obtain ⟨c3, hc3⟩ : ∃ c, c = c2 ++ ([32] : Str) := ⟨_, rfl⟩
  have lc3 : c3.length = c2.length + 1 := by rw [hc3]; exact List.length_append
  have jc3 : ∀ w, (Op.stringOp .add (bs c2) (⟨#[32]⟩ : ByteArray)).run Tryd.prog w = .ok (.string (bs c3)) w := fun w => by rw [hc3]; exact add_big c2 ([32] : Str) (by first | omega | (simp; omega)) w
  obtain ⟨c4, hc4⟩ : ∃ c, c = c3 ++ u := ⟨_, rfl⟩
  have lc4 : c4.length = c3.length + u.length := by rw [hc4]; exact List.length_append
  have jc4 : ∀ w, (Op.stringOp .add (bs c3) (bs u)).run Tryd.prog w = .ok (.string (bs c4)) w := fun w => by rw [hc4]; exact add_big c3 u (by first | omega | (simp; omega)) w
  have HFN := Lib.hid (show c4 = T from by rw [hT, hc4, hc3, hc2, hc1])
  clear hT hc1 lc1 hc2 lc2 hc3 lc3 hc4 lc4 hlx hly hl1 hl2 hl3 hm ht hu hch
  obtain ⟨W0, hW0⟩ : ∃ W0 : World, W0 = w.alloc (.cells (exC 5 0 [] m (some ⟨b, q, none⟩) 2 ca O no co).toArray 83) := ⟨_, rfl⟩
  rw [← hW0] at hb
  have HWB := Lib.hid (show ∀ W, Bz W0 W → Below w.heap.size w W from fun W h => hb.trans (h.b.mono hb.size))
  have HT1 := Lib.hid (show ∀ W, Bz W0 W → Calls Tryd.prog 68 #[.agg cs.toArray] W fun e' w' => e' = .returned (.string (bs t)) ∧ Below W.heap.size W w' from fun W h => HOX (d + 1) W S cs (hw.below (HWB.out W h)) hcx (by omega) (hxv.below (HWB.out W h)))
  have HT2 := Lib.hid (show ∀ W, Bz W0 W → Calls Tryd.prog 68 #[.agg ds.toArray] W fun e' w' => e' = .returned (.string (bs u)) ∧ Below W.heap.size W w' from fun W h => HOY (d + 1) W S ds (hw.below (HWB.out W h)) hcy (by omega) (hyv.below (HWB.out W h)))
  obtain ⟨xk, xn, xs, xm, xa, xo⟩ := x
  obtain ⟨yk, yn, ys, ym, ya, yo⟩ := y
  obtain ⟨A2, na2, ca2, O2, no2, co2, rfl, -, -⟩ := hxv.open_
  obtain ⟨A3, na3, ca3, O3, no3, co3, rfl, -, -⟩ := hyv.open_
  have HSC := Lib.hid (show ∀ W, Bz W0 W → (W.cell? ⟨w.heap.size, 3, none⟩ = some (.string (bs m)) ∧ W.cell? ⟨w.heap.size, 4, none⟩ = some (.slice (some ⟨b, q, none⟩) 2 ca) ∧ W.cell? ⟨b, q, none⟩ = some (.int .i64 xk) ∧ W.cell? ⟨b, q + 1, none⟩ = some (.int .i64 xn) ∧ W.cell? ⟨b, q + 2, none⟩ = some (.string (bs xs)) ∧ W.cell? ⟨b, q + 3, none⟩ = some (.string (bs xm)) ∧ W.cell? ⟨b, q + 4, none⟩ = some (.slice A2 na2 ca2) ∧ W.cell? ⟨b, q + 5, none⟩ = some (.slice O2 no2 co2) ∧ W.cell? ⟨b, q + 6, none⟩ = some (.int .i64 yk) ∧ W.cell? ⟨b, q + 7, none⟩ = some (.int .i64 yn) ∧ W.cell? ⟨b, q + 8, none⟩ = some (.string (bs ys)) ∧ W.cell? ⟨b, q + 9, none⟩ = some (.string (bs ym)) ∧ W.cell? ⟨b, q + 10, none⟩ = some (.slice A3 na3 ca3) ∧ W.cell? ⟨b, q + 11, none⟩ = some (.slice O3 no3 co3)) from fun W h => by
    obtain ⟨e0, e1, e2, e3, e4, e5⟩ := exC_at (rangeAt_keep hrow ((HWB.out W h).block b hbl))
    obtain ⟨f0, f1, f2, f3, f4, f5⟩ := exC_at (rangeAt_keep hrowy ((HWB.out W h).block b hbl))
    subst hW0
    have hn := heap_alloc_new w (.cells (exC 5 0 [] m (some ⟨b, q, none⟩) 2 ca O no co).toArray 83)
    exact ⟨cell_of_Bz h (by rw [cell_of_row _ _ _ _ _ _ hn]; rfl) (lt_of_block hn), cell_of_Bz h (by rw [cell_of_row _ _ _ _ _ _ hn]; rfl) (lt_of_block hn), e0, e1, e2, e3, e4, e5, f0, f1, f2, f3, f4, f5⟩)
  clear HOX HOY hcx hcy hc hz hx hA hw hxv hyv hrow hrowy hbl hb
  unfold exC at HT1 HT2 hW0
  unfold exC
  go_enter Tryd.func46, Tryd.ntmps46
  go_upto_region 15 with fail
  rw [← hW0]
  clear hW0
  have z0 : Bz W0 W0 := ⟨Below.refl _ _⟩
  have z1 := z0.drew
  go_region_held3 (fun W => (W.cell? ⟨w.heap.size, 3, none⟩ = some (.string (bs m)) ∧ W.cell? ⟨w.heap.size, 4, none⟩ = some (.slice (some ⟨b, q, none⟩) 2 ca) ∧ W.cell? ⟨b, q, none⟩ = some (.int .i64 xk) ∧ W.cell? ⟨b, q + 1, none⟩ = some (.int .i64 xn) ∧ W.cell? ⟨b, q + 2, none⟩ = some (.string (bs xs)) ∧ W.cell? ⟨b, q + 3, none⟩ = some (.string (bs xm)) ∧ W.cell? ⟨b, q + 4, none⟩ = some (.slice A2 na2 ca2) ∧ W.cell? ⟨b, q + 5, none⟩ = some (.slice O2 no2 co2) ∧ W.cell? ⟨b, q + 6, none⟩ = some (.int .i64 yk) ∧ W.cell? ⟨b, q + 7, none⟩ = some (.int .i64 yn) ∧ W.cell? ⟨b, q + 8, none⟩ = some (.string (bs ys)) ∧ W.cell? ⟨b, q + 9, none⟩ = some (.string (bs ym)) ∧ W.cell? ⟨b, q + 10, none⟩ = some (.slice A3 na3 ca3) ∧ W.cell? ⟨b, q + 11, none⟩ = some (.slice O3 no3 co3))) (exact HSC.out _ (by assumption)) (first
    | (go_at_call 68; with_reducible refine (HT1.out _ (by assumption)).mono ?_; rintro e wt ⟨rfl, hb⟩; have zt := Bz.next (by assumption) hb; clear hb)
    | (go_at_call 68; with_reducible refine (HT2.out _ (by assumption)).mono ?_; rintro e ws ⟨rfl, hb⟩; have zs := Bz.next (by assumption) hb; clear hb))
  all_goals
    go_wp2
    go_ret
    exact ⟨congrArg (fun x => Ending.returned (.string (bs x))) HFN.out, HWB.out _ (by assumption)⟩
set_option maxRecDepth 100000 in
set_option maxHeartbeats 12800000 in
theorem rtext_host (s : Str) (a : List Ex) (ih : ∀ y ∈ a, RTextAt y) (hs : nameOk s = true) (d : Int) (w : World) (S : Nat → Prop) (cs : List Value) (hw : SxW w) (hc : chkE d (Ex.mk 7 0 s [] a []) = 0) (hz : (Ex.mk 7 0 s [] a []).size ≤ 100000) (hx : XV w S (Ex.mk 7 0 s [] a []) cs) :
    Calls Tryd.prog 46 #[.agg cs.toArray] w fun e' w' => e' = .returned (.string (bs (txE (Ex.mk 7 0 s [] a [])))) ∧ Below w.heap.size w w' := by
  have hb := (Below.refl w.heap.size w).alloc (Nat.le_refl _) (.cells cs.toArray 83)
  obtain ⟨-, -, -, -, -, -, -, hch, hco⟩ := chkE_fields hc
  obtain ⟨A, na, ca, O, no, co, rfl, hA, hO⟩ := hx.open_
  rw [Ex.size] at hz
  have hla := Ex.len_sizes a
  have hl3 := name_len hs
  obtain rfl : no = 0 := hO.1.1
  have hn6 : (na : Int) ≤ 100000 := by have := hA.1.1; omega
  obtain ⟨T, hT⟩ : ∃ T, T = txE (Ex.mk 7 0 s [] a []) := ⟨_, rfl⟩
  rw [← hT]
  rw [txE, if_neg (by decide), if_neg (by decide), if_neg (by decide), if_neg (by decide), if_neg (by decide), if_neg (by decide), if_pos rfl, txEs_map] at hT
  obtain ⟨g1, hg1⟩ : ∃ c, c = ([104, 111, 115, 116, 46] : Str) ++ s := ⟨_, rfl⟩
  have lg1 : g1.length = 5 + s.length := by rw [hg1]; exact List.length_append
  have jg1 : ∀ w, (Op.stringOp .add (⟨#[104, 111, 115, 116, 46]⟩ : ByteArray) (bs s)).run Tryd.prog w = .ok (.string (bs g1)) w := fun w => by rw [hg1]; exact add_big ([104, 111, 115, 116, 46] : Str) s (by first | omega | (simp; omega)) w
  obtain ⟨g2, hg2⟩ : ∃ c, c = g1 ++ ([40] : Str) := ⟨_, rfl⟩
  have lg2 : g2.length = g1.length + 1 := by rw [hg2]; exact List.length_append
  have jg2 : ∀ w, (Op.stringOp .add (bs g1) (⟨#[40]⟩ : ByteArray)).run Tryd.prog w = .ok (.string (bs g2)) w := fun w => by rw [hg2]; exact add_big g1 ([40] : Str) (by first | omega | (simp; omega)) w
  obtain ⟨J, hJ⟩ : ∃ J, J = Lib.join (a.map txE) [44, 32] := ⟨_, rfl⟩
  rw [← hJ] at hT
  have HFN := Lib.hid (show T = g2 ++ J ++ [41] from by rw [hT, hg2, hg1])
  have HJ := Lib.hid hJ
  have hPl : g2.length ≤ 100 := by omega
  clear hT hJ hg1 lg1 hg2 lg2 hs
  obtain ⟨W0, hW0⟩ : ∃ W0 : World, W0 = w.alloc (.cells (exC 7 0 s [] A na ca O 0 co).toArray 83) := ⟨_, rfl⟩
  rw [← hW0] at hb
  have HWB := Lib.hid (show ∀ W, Bz W0 W → Below w.heap.size w W from fun W h => hb.trans (h.b.mono hb.size))
  have HF := Lib.hid (show ∀ W, Bz W0 W → (W.cell? ⟨w.heap.size, 0, none⟩ = some (.int .i64 7) ∧ W.cell? ⟨w.heap.size, 2, none⟩ = some (.string (bs s)) ∧ W.cell? ⟨w.heap.size, 3, none⟩ = some (.string (bs [])) ∧ W.cell? ⟨w.heap.size, 4, none⟩ = some (.slice A na ca) ∧ W.cell? ⟨w.heap.size, 5, none⟩ = some (.slice O 0 co)) from fun W h => by
    subst hW0
    have hn := heap_alloc_new w (.cells (exC 7 0 s [] A na ca O 0 co).toArray 83)
    have h2 := fun j v (hv : (exC 7 0 s [] A na ca O 0 co).toArray[j]? = some v) => cell_of_Bz h (g := w.heap.size) (j := j) (v := v) (by rw [cell_of_row _ _ _ _ _ _ hn]; exact hv) (lt_of_block hn)
    exact ⟨h2 0 _ rfl, h2 2 _ rfl, h2 3 _ rfl, h2 4 _ rfl, h2 5 _ rfl⟩)
  have HTX := Lib.hid (show ∀ y ∈ a, ∀ cs W, XV w S y cs → Bz W0 W → Calls Tryd.prog 46 #[.agg cs.toArray] W fun e' w' => e' = .returned (.string (bs (txE y))) ∧ Below W.heap.size W w' from fun y hy cs W hv h => ih y hy (d + 1) W S cs (hw.below (HWB.out W h)) (hch y hy) (by have := Ex.sizes_mem hy; omega) (hv.below (HWB.out W h)))
  have HTL := Lib.hid (show ∀ y ∈ a, (txE y).length ≤ 13000000 from fun y hy => by
    have h1 := txE_len y _ (hch y hy) (Ex.Wds_mem hA.wds y hy)
    have h2 := Ex.sizes_mem hy
    omega)
  have HJL := Lib.hid (show ∀ q, (jt a q).length ≤ 13200000 from fun q => jt_len q hch hA.wds (by omega))
  have HL := Lib.hid hA
  have HLN := Lib.hid hA.1.1
  clear ih hch hco hc hz hx hA hO hw hb hla hl3
  unfold exC at hW0
  unfold exC
  go_enter Tryd.func46, Tryd.ntmps46
  go_upto_region 1 with fail
  rw [← hW0]
  clear hW0
  have z0 : Bz W0 W0 := ⟨Below.refl _ _⟩
  obtain ⟨g0, g2', g3', g4', g5'⟩ := HF.out _ z0
  go_wp2_with fail
  clear g0 g2' g3' g4' g5' jg1 jg2
  have HP0 := Lib.hid (show g2 = g2 ++ jt a 0 by rw [jt_zero, List.append_nil])
  generalize g2 = P at *
  go_loopw [3, 4] (fun out i wr => ∃ (q : Nat) (Z : Str), q ≤ a.length ∧ out = .string (bs Z) ∧ i = .int .i64 q ∧ Hid (Z = P ++ jt a q) ∧ Bz W0 wr) (fun _ i _ => a.length - (intOf i).toNat)
  case atStart => exact ⟨0, P, Nat.zero_le _, rfl, rfl, HP0, z0⟩
  case round =>
    clear z0 HP0
    obtain ⟨q1, Z, hq, rfl, rfl, n1, zr⟩ := hrel
    obtain ⟨wv, hwv⟩ : ∃ wv, wv = wr := ⟨_, rfl⟩
    subst hwv
    obtain ⟨g0, g2', g3', g4', g5'⟩ := HF.out _ zr
    have lZ : Z.length ≤ 13200100 := by rw [n1.out, List.length_append]; have := HJL.out q1; omega
    by_cases hl : q1 < a.length
    · have hi2 : (q1 : Int) < (na : Int) := by have := HLN.out; omega
      obtain ⟨y, b1, off, cs, hy, rfl, hb1, hS1, hyv, hrow1⟩ := HL.out.at q1 (by have := HLN.out; omega)
      have HQL := Lib.hid hl
      have hmem := List.mem_of_getElem? hy
      have HTY := Lib.hid (HTX.out y hmem cs wv hyv zr)
      have lt := HTL.out y hmem
      obtain ⟨t, ht⟩ : ∃ t, t = txE y := ⟨_, rfl⟩
      have HUP := Lib.hid (show jt a (q1 + 1) = if q1 = 0 then t else jt a q1 ++ [44, 32] ++ t by rw [jt_up hy, ht])
      rw [← ht] at HTY lt
      have hrow2 := rangeAt_keep hrow1 ((HWB.out _ zr).block b1 hb1)
      obtain ⟨yk, yn, ys, ym, ya, yo⟩ := y
      obtain ⟨A3, na3, ca3, O3, no3, co3, rfl, -, -⟩ := hyv.open_
      obtain ⟨e0, e1, e2, e3, e4, e5⟩ := exC_at hrow2
      clear hy hb1 hS1 hyv hrow1 hrow2 hl hmem ht
      unfold exC at HTY
      by_cases hq0 : q1 = 0
      · have hq1 : ¬ (0 : Int) < (q1 : Int) := by omega
        obtain ⟨c1, hc1⟩ : ∃ c, c = Z ++ t := ⟨_, rfl⟩
        have lc1 : c1.length = Z.length + t.length := by rw [hc1]; exact List.length_append
        have jc1 : ∀ w, (Op.stringOp .add (bs Z) (bs t)).run Tryd.prog w = .ok (.string (bs c1)) w := fun w => by rw [hc1]; exact add_big Z t (by first | omega | (simp; omega)) w
        have HZ2 := Lib.hid (show c1 = P ++ jt a (q1 + 1) by rw [hc1, n1.out, HUP.out, if_pos hq0, hq0, jt_zero, List.append_nil])
        clear hc1 lc1 hq0
        go_wp2_with fail
        refine HTY.out.mono ?_
        rintro e wo ⟨rfl, hbo⟩
        have zo := zr.next hbo
        clear hbo HTY e0 e1 e2 e3 e4 e5 g0 g2' g3' g4' g5' zr n1 HUP
        go_wp2
        go_roundw
        case rel => exact ⟨q1 + 1, c1, HQL.out, rfl, by go_num, HZ2, zo⟩
        case measure => exact meas_up _ _ HQL.out
      · have hq1 : (0 : Int) < (q1 : Int) := by omega
        obtain ⟨c1, hc1⟩ : ∃ c, c = Z ++ ([44, 32] : Str) := ⟨_, rfl⟩
        have lc1 : c1.length = Z.length + 2 := by rw [hc1]; exact List.length_append
        have jc1 : ∀ w, (Op.stringOp .add (bs Z) (⟨#[44, 32]⟩ : ByteArray)).run Tryd.prog w = .ok (.string (bs c1)) w := fun w => by rw [hc1]; exact add_big Z ([44, 32] : Str) (by first | omega | (simp; omega)) w
        obtain ⟨c2, hc2⟩ : ∃ c, c = c1 ++ t := ⟨_, rfl⟩
        have lc2 : c2.length = c1.length + t.length := by rw [hc2]; exact List.length_append
        have jc2 : ∀ w, (Op.stringOp .add (bs c1) (bs t)).run Tryd.prog w = .ok (.string (bs c2)) w := fun w => by rw [hc2]; exact add_big c1 t (by first | omega | (simp; omega)) w
        have HZ2 := Lib.hid (show c2 = P ++ jt a (q1 + 1) by rw [hc2, hc1, n1.out, HUP.out, if_neg hq0]; simp only [List.append_assoc])
        clear hc1 lc1 hc2 lc2 hq0
        go_wp2_with fail
        refine HTY.out.mono ?_
        rintro e wo ⟨rfl, hbo⟩
        have zo := zr.next hbo
        clear hbo HTY e0 e1 e2 e3 e4 e5 g0 g2' g3' g4' g5' zr n1 HUP
        go_wp2
        go_roundw
        case rel => exact ⟨q1 + 1, c2, HQL.out, rfl, by go_num, HZ2, zo⟩
        case measure => exact meas_up _ _ HQL.out
    · have hi2 : ¬ (q1 : Int) < (na : Int) := by have := HLN.out; omega
      have HZJ := Lib.hid (show Z = P ++ J by rw [n1.out, jt_all a (by omega), HJ.out])
      obtain ⟨f1, hf1⟩ : ∃ c, c = Z ++ ([41] : Str) := ⟨_, rfl⟩
      have lf1 : f1.length = Z.length + 1 := by rw [hf1]; exact List.length_append
      have jf1 : ∀ w, (Op.stringOp .add (bs Z) (⟨#[41]⟩ : ByteArray)).run Tryd.prog w = .ok (.string (bs f1)) w := fun w => by rw [hf1]; exact add_big Z ([41] : Str) (by first | omega | (simp; omega)) w
      have HR := Lib.hid (show f1 = T by rw [HFN.out, hf1, HZJ.out])
      clear hf1 lf1 hl hq n1 lZ
      go_wp2
      go_ret
      exact ⟨congrArg (fun x => Ending.returned (.string (bs x))) HR.out, HWB.out _ zr⟩
set_option maxRecDepth 100000 in
set_option maxHeartbeats 12800000 in
theorem rtext_call (s m : Str) (a : List Ex) (ih : ∀ y ∈ a, RTextAt y) (hs : nameOk s = true) (hm : nameOk m = true) (d : Int) (w : World) (S : Nat → Prop) (cs : List Value) (hw : SxW w) (hc : chkE d (Ex.mk 6 0 s m a []) = 0) (hz : (Ex.mk 6 0 s m a []).size ≤ 100000) (hx : XV w S (Ex.mk 6 0 s m a []) cs) :
    Calls Tryd.prog 46 #[.agg cs.toArray] w fun e' w' => e' = .returned (.string (bs (txE (Ex.mk 6 0 s m a [])))) ∧ Below w.heap.size w w' := by
  have hb := (Below.refl w.heap.size w).alloc (Nat.le_refl _) (.cells cs.toArray 83)
  obtain ⟨-, -, -, -, -, -, -, hch, hco⟩ := chkE_fields hc
  obtain ⟨A, na, ca, O, no, co, rfl, hA, hO⟩ := hx.open_
  rw [Ex.size] at hz
  have hla := Ex.len_sizes a
  have hl3 := name_len hs
  have hl4 := name_len hm
  obtain rfl : no = 0 := hO.1.1
  have hn6 : (na : Int) ≤ 100000 := by have := hA.1.1; omega
  obtain ⟨T, hT⟩ : ∃ T, T = txE (Ex.mk 6 0 s m a []) := ⟨_, rfl⟩
  rw [← hT]
  rw [txE, if_neg (by decide), if_neg (by decide), if_neg (by decide), if_neg (by decide), if_neg (by decide), if_neg (by decide), if_neg (by decide), txEs_map] at hT
  rw [if_pos (show ([] : List Ex).length = 0 from rfl), List.append_nil] at hT
  obtain ⟨g1, hg1⟩ : ∃ c, c = ([104, 111, 115, 116, 46] : Str) ++ s := ⟨_, rfl⟩
  have lg1 : g1.length = 5 + s.length := by rw [hg1]; exact List.length_append
  have jg1 : ∀ w, (Op.stringOp .add (⟨#[104, 111, 115, 116, 46]⟩ : ByteArray) (bs s)).run Tryd.prog w = .ok (.string (bs g1)) w := fun w => by rw [hg1]; exact add_big ([104, 111, 115, 116, 46] : Str) s (by first | omega | (simp; omega)) w
  obtain ⟨g2, hg2⟩ : ∃ c, c = g1 ++ ([40] : Str) := ⟨_, rfl⟩
  have lg2 : g2.length = g1.length + 1 := by rw [hg2]; exact List.length_append
  have jg2 : ∀ w, (Op.stringOp .add (bs g1) (⟨#[40]⟩ : ByteArray)).run Tryd.prog w = .ok (.string (bs g2)) w := fun w => by rw [hg2]; exact add_big g1 ([40] : Str) (by first | omega | (simp; omega)) w
  obtain ⟨p1, hp1⟩ : ∃ c, c = s ++ ([46] : Str) := ⟨_, rfl⟩
  have lp1 : p1.length = s.length + 1 := by rw [hp1]; exact List.length_append
  have jp1 : ∀ w, (Op.stringOp .add (bs s) (⟨#[46]⟩ : ByteArray)).run Tryd.prog w = .ok (.string (bs p1)) w := fun w => by rw [hp1]; exact add_big s ([46] : Str) (by first | omega | (simp; omega)) w
  obtain ⟨p2, hp2⟩ : ∃ c, c = p1 ++ m := ⟨_, rfl⟩
  have lp2 : p2.length = p1.length + m.length := by rw [hp2]; exact List.length_append
  have jp2 : ∀ w, (Op.stringOp .add (bs p1) (bs m)).run Tryd.prog w = .ok (.string (bs p2)) w := fun w => by rw [hp2]; exact add_big p1 m (by first | omega | (simp; omega)) w
  obtain ⟨p3, hp3⟩ : ∃ c, c = p2 ++ ([40] : Str) := ⟨_, rfl⟩
  have lp3 : p3.length = p2.length + 1 := by rw [hp3]; exact List.length_append
  have jp3 : ∀ w, (Op.stringOp .add (bs p2) (⟨#[40]⟩ : ByteArray)).run Tryd.prog w = .ok (.string (bs p3)) w := fun w => by rw [hp3]; exact add_big p2 ([40] : Str) (by first | omega | (simp; omega)) w
  obtain ⟨J, hJ⟩ : ∃ J, J = Lib.join (a.map txE) [44, 32] := ⟨_, rfl⟩
  rw [← hJ] at hT
  have HFN := Lib.hid (show T = p3 ++ J ++ [41] from by rw [hT, hp3, hp2, hp1])
  have HJ := Lib.hid hJ
  have hPl : p3.length ≤ 100 := by omega
  clear hT hJ hg1 lg1 hg2 lg2 hp1 lp1 hp2 lp2 hp3 lp3 hs hm
  obtain ⟨W0, hW0⟩ : ∃ W0 : World, W0 = w.alloc (.cells (exC 6 0 s m A na ca O 0 co).toArray 83) := ⟨_, rfl⟩
  rw [← hW0] at hb
  have HWB := Lib.hid (show ∀ W, Bz W0 W → Below w.heap.size w W from fun W h => hb.trans (h.b.mono hb.size))
  have HF := Lib.hid (show ∀ W, Bz W0 W → (W.cell? ⟨w.heap.size, 0, none⟩ = some (.int .i64 6) ∧ W.cell? ⟨w.heap.size, 2, none⟩ = some (.string (bs s)) ∧ W.cell? ⟨w.heap.size, 3, none⟩ = some (.string (bs m)) ∧ W.cell? ⟨w.heap.size, 4, none⟩ = some (.slice A na ca) ∧ W.cell? ⟨w.heap.size, 5, none⟩ = some (.slice O 0 co)) from fun W h => by
    subst hW0
    have hn := heap_alloc_new w (.cells (exC 6 0 s m A na ca O 0 co).toArray 83)
    have h2 := fun j v (hv : (exC 6 0 s m A na ca O 0 co).toArray[j]? = some v) => cell_of_Bz h (g := w.heap.size) (j := j) (v := v) (by rw [cell_of_row _ _ _ _ _ _ hn]; exact hv) (lt_of_block hn)
    exact ⟨h2 0 _ rfl, h2 2 _ rfl, h2 3 _ rfl, h2 4 _ rfl, h2 5 _ rfl⟩)
  have HTX := Lib.hid (show ∀ y ∈ a, ∀ cs W, XV w S y cs → Bz W0 W → Calls Tryd.prog 46 #[.agg cs.toArray] W fun e' w' => e' = .returned (.string (bs (txE y))) ∧ Below W.heap.size W w' from fun y hy cs W hv h => ih y hy (d + 1) W S cs (hw.below (HWB.out W h)) (hch y hy) (by have := Ex.sizes_mem hy; omega) (hv.below (HWB.out W h)))
  have HTL := Lib.hid (show ∀ y ∈ a, (txE y).length ≤ 13000000 from fun y hy => by
    have h1 := txE_len y _ (hch y hy) (Ex.Wds_mem hA.wds y hy)
    have h2 := Ex.sizes_mem hy
    omega)
  have HJL := Lib.hid (show ∀ q, (jt a q).length ≤ 13200000 from fun q => jt_len q hch hA.wds (by omega))
  have HL := Lib.hid hA
  have HLN := Lib.hid hA.1.1
  clear ih hch hco hc hz hx hA hO hw hb hla hl3 hl4
  unfold exC at hW0
  unfold exC
  go_enter Tryd.func46, Tryd.ntmps46
  go_upto_region 1 with fail
  rw [← hW0]
  clear hW0
  have z0 : Bz W0 W0 := ⟨Below.refl _ _⟩
  obtain ⟨g0, g2', g3', g4', g5'⟩ := HF.out _ z0
  go_wp2_with fail
  clear g0 g2' g3' g4' g5' jg1 jg2 jp1 jp2 jp3
  have HP0 := Lib.hid (show p3 = p3 ++ jt a 0 by rw [jt_zero, List.append_nil])
  generalize p3 = P at *
  go_loopw [3, 4] (fun out i wr => ∃ (q : Nat) (Z : Str), q ≤ a.length ∧ out = .string (bs Z) ∧ i = .int .i64 q ∧ Hid (Z = P ++ jt a q) ∧ Bz W0 wr) (fun _ i _ => a.length - (intOf i).toNat)
  case atStart => exact ⟨0, P, Nat.zero_le _, rfl, rfl, HP0, z0⟩
  case round =>
    clear z0 HP0
    obtain ⟨q1, Z, hq, rfl, rfl, n1, zr⟩ := hrel
    obtain ⟨wv, hwv⟩ : ∃ wv, wv = wr := ⟨_, rfl⟩
    subst hwv
    obtain ⟨g0, g2', g3', g4', g5'⟩ := HF.out _ zr
    have lZ : Z.length ≤ 13200100 := by rw [n1.out, List.length_append]; have := HJL.out q1; omega
    by_cases hl : q1 < a.length
    · have hi2 : (q1 : Int) < (na : Int) := by have := HLN.out; omega
      obtain ⟨y, b1, off, cs, hy, rfl, hb1, hS1, hyv, hrow1⟩ := HL.out.at q1 (by have := HLN.out; omega)
      have HQL := Lib.hid hl
      have hmem := List.mem_of_getElem? hy
      have HTY := Lib.hid (HTX.out y hmem cs wv hyv zr)
      have lt := HTL.out y hmem
      obtain ⟨t, ht⟩ : ∃ t, t = txE y := ⟨_, rfl⟩
      have HUP := Lib.hid (show jt a (q1 + 1) = if q1 = 0 then t else jt a q1 ++ [44, 32] ++ t by rw [jt_up hy, ht])
      rw [← ht] at HTY lt
      have hrow2 := rangeAt_keep hrow1 ((HWB.out _ zr).block b1 hb1)
      obtain ⟨yk, yn, ys, ym, ya, yo⟩ := y
      obtain ⟨A3, na3, ca3, O3, no3, co3, rfl, -, -⟩ := hyv.open_
      obtain ⟨e0, e1, e2, e3, e4, e5⟩ := exC_at hrow2
      clear hy hb1 hS1 hyv hrow1 hrow2 hl hmem ht
      unfold exC at HTY
      by_cases hq0 : q1 = 0
      · have hq1 : ¬ (0 : Int) < (q1 : Int) := by omega
        obtain ⟨c1, hc1⟩ : ∃ c, c = Z ++ t := ⟨_, rfl⟩
        have lc1 : c1.length = Z.length + t.length := by rw [hc1]; exact List.length_append
        have jc1 : ∀ w, (Op.stringOp .add (bs Z) (bs t)).run Tryd.prog w = .ok (.string (bs c1)) w := fun w => by rw [hc1]; exact add_big Z t (by first | omega | (simp; omega)) w
        have HZ2 := Lib.hid (show c1 = P ++ jt a (q1 + 1) by rw [hc1, n1.out, HUP.out, if_pos hq0, hq0, jt_zero, List.append_nil])
        clear hc1 lc1 hq0
        go_wp2_with fail
        refine HTY.out.mono ?_
        rintro e wo ⟨rfl, hbo⟩
        have zo := zr.next hbo
        clear hbo HTY e0 e1 e2 e3 e4 e5 g0 g2' g3' g4' g5' zr n1 HUP
        go_wp2
        go_roundw
        case rel => exact ⟨q1 + 1, c1, HQL.out, rfl, by go_num, HZ2, zo⟩
        case measure => exact meas_up _ _ HQL.out
      · have hq1 : (0 : Int) < (q1 : Int) := by omega
        obtain ⟨c1, hc1⟩ : ∃ c, c = Z ++ ([44, 32] : Str) := ⟨_, rfl⟩
        have lc1 : c1.length = Z.length + 2 := by rw [hc1]; exact List.length_append
        have jc1 : ∀ w, (Op.stringOp .add (bs Z) (⟨#[44, 32]⟩ : ByteArray)).run Tryd.prog w = .ok (.string (bs c1)) w := fun w => by rw [hc1]; exact add_big Z ([44, 32] : Str) (by first | omega | (simp; omega)) w
        obtain ⟨c2, hc2⟩ : ∃ c, c = c1 ++ t := ⟨_, rfl⟩
        have lc2 : c2.length = c1.length + t.length := by rw [hc2]; exact List.length_append
        have jc2 : ∀ w, (Op.stringOp .add (bs c1) (bs t)).run Tryd.prog w = .ok (.string (bs c2)) w := fun w => by rw [hc2]; exact add_big c1 t (by first | omega | (simp; omega)) w
        have HZ2 := Lib.hid (show c2 = P ++ jt a (q1 + 1) by rw [hc2, hc1, n1.out, HUP.out, if_neg hq0]; simp only [List.append_assoc])
        clear hc1 lc1 hc2 lc2 hq0
        go_wp2_with fail
        refine HTY.out.mono ?_
        rintro e wo ⟨rfl, hbo⟩
        have zo := zr.next hbo
        clear hbo HTY e0 e1 e2 e3 e4 e5 g0 g2' g3' g4' g5' zr n1 HUP
        go_wp2
        go_roundw
        case rel => exact ⟨q1 + 1, c2, HQL.out, rfl, by go_num, HZ2, zo⟩
        case measure => exact meas_up _ _ HQL.out
    · have hi2 : ¬ (q1 : Int) < (na : Int) := by have := HLN.out; omega
      have HZJ := Lib.hid (show Z = P ++ J by rw [n1.out, jt_all a (by omega), HJ.out])
      obtain ⟨f1, hf1⟩ : ∃ c, c = Z ++ ([41] : Str) := ⟨_, rfl⟩
      have lf1 : f1.length = Z.length + 1 := by rw [hf1]; exact List.length_append
      have jf1 : ∀ w, (Op.stringOp .add (bs Z) (⟨#[41]⟩ : ByteArray)).run Tryd.prog w = .ok (.string (bs f1)) w := fun w => by rw [hf1]; exact add_big Z ([41] : Str) (by first | omega | (simp; omega)) w
      have HR := Lib.hid (show f1 = T by rw [HFN.out, hf1, HZJ.out])
      clear hf1 lf1 hl hq n1 lZ
      go_wp2
      go_ret
      exact ⟨congrArg (fun x => Ending.returned (.string (bs x))) HR.out, HWB.out _ zr⟩
set_option maxRecDepth 100000 in
set_option maxHeartbeats 12800000 in
theorem rtext_else (s m : Str) (a : List Ex) (x : Ex) (ih : ∀ y ∈ a, RTextAt y) (ihx : RTextAt x) (hs : nameOk s = true) (hm : nameOk m = true) (d : Int) (w : World) (S : Nat → Prop) (cs : List Value) (hw : SxW w) (hc : chkE d (Ex.mk 6 0 s m a [x]) = 0) (hz : (Ex.mk 6 0 s m a [x]).size ≤ 100000) (hx : XV w S (Ex.mk 6 0 s m a [x]) cs) :
    Calls Tryd.prog 46 #[.agg cs.toArray] w fun e' w' => e' = .returned (.string (bs (txE (Ex.mk 6 0 s m a [x])))) ∧ Below w.heap.size w w' := by
  have hb := (Below.refl w.heap.size w).alloc (Nat.le_refl _) (.cells cs.toArray 83)
  obtain ⟨-, -, -, -, -, -, -, hch, hco⟩ := chkE_fields hc
  obtain ⟨A, na, ca, O, no, co, rfl, hA, hO⟩ := hx.open_
  rw [Ex.size] at hz
  have hla := Ex.len_sizes a
  have hl3 := name_len hs
  have hl4 := name_len hm
  obtain ⟨rfl, b, q, xc, rfl, hbl, hxv, hrow⟩ := hO.one_
  have hcx := hco x (by simp)
  rw [Ex.sizes, Ex.sizes] at hz
  have hlx := par_len x (txE x)
  have hl5 := txE_len x _ hcx hxv.wd
  change (opE x).length ≤ _ at hlx
  have HOX := roperAt_of ihx
  unfold ROperAt at HOX
  have hn6 : (na : Int) ≤ 100000 := by have := hA.1.1; omega
  obtain ⟨T, hT⟩ : ∃ T, T = txE (Ex.mk 6 0 s m a [x]) := ⟨_, rfl⟩
  rw [← hT]
  rw [txE, if_neg (by decide), if_neg (by decide), if_neg (by decide), if_neg (by decide), if_neg (by decide), if_neg (by decide), if_neg (by decide), txEs_map] at hT
  change T = s ++ [46] ++ m ++ [40] ++ Lib.join (a.map txE) [44, 32] ++ [41] ++ ([32, 101, 108, 115, 101, 32] ++ opE x) at hT
  obtain ⟨u, hu⟩ : ∃ u, u = opE x := ⟨_, rfl⟩
  rw [← hu] at HOX hlx hT
  obtain ⟨g1, hg1⟩ : ∃ c, c = ([104, 111, 115, 116, 46] : Str) ++ s := ⟨_, rfl⟩
  have lg1 : g1.length = 5 + s.length := by rw [hg1]; exact List.length_append
  have jg1 : ∀ w, (Op.stringOp .add (⟨#[104, 111, 115, 116, 46]⟩ : ByteArray) (bs s)).run Tryd.prog w = .ok (.string (bs g1)) w := fun w => by rw [hg1]; exact add_big ([104, 111, 115, 116, 46] : Str) s (by first | omega | (simp; omega)) w
  obtain ⟨g2, hg2⟩ : ∃ c, c = g1 ++ ([40] : Str) := ⟨_, rfl⟩
  have lg2 : g2.length = g1.length + 1 := by rw [hg2]; exact List.length_append
  have jg2 : ∀ w, (Op.stringOp .add (bs g1) (⟨#[40]⟩ : ByteArray)).run Tryd.prog w = .ok (.string (bs g2)) w := fun w => by rw [hg2]; exact add_big g1 ([40] : Str) (by first | omega | (simp; omega)) w
  obtain ⟨p1, hp1⟩ : ∃ c, c = s ++ ([46] : Str) := ⟨_, rfl⟩
  have lp1 : p1.length = s.length + 1 := by rw [hp1]; exact List.length_append
  have jp1 : ∀ w, (Op.stringOp .add (bs s) (⟨#[46]⟩ : ByteArray)).run Tryd.prog w = .ok (.string (bs p1)) w := fun w => by rw [hp1]; exact add_big s ([46] : Str) (by first | omega | (simp; omega)) w
  obtain ⟨p2, hp2⟩ : ∃ c, c = p1 ++ m := ⟨_, rfl⟩
  have lp2 : p2.length = p1.length + m.length := by rw [hp2]; exact List.length_append
  have jp2 : ∀ w, (Op.stringOp .add (bs p1) (bs m)).run Tryd.prog w = .ok (.string (bs p2)) w := fun w => by rw [hp2]; exact add_big p1 m (by first | omega | (simp; omega)) w
  obtain ⟨p3, hp3⟩ : ∃ c, c = p2 ++ ([40] : Str) := ⟨_, rfl⟩
  have lp3 : p3.length = p2.length + 1 := by rw [hp3]; exact List.length_append
  have jp3 : ∀ w, (Op.stringOp .add (bs p2) (⟨#[40]⟩ : ByteArray)).run Tryd.prog w = .ok (.string (bs p3)) w := fun w => by rw [hp3]; exact add_big p2 ([40] : Str) (by first | omega | (simp; omega)) w
  obtain ⟨J, hJ⟩ : ∃ J, J = Lib.join (a.map txE) [44, 32] := ⟨_, rfl⟩
  rw [← hJ] at hT
  have HFN := Lib.hid (show T = p3 ++ J ++ [41] ++ [32, 101, 108, 115, 101, 32] ++ u from by rw [hT, hp3, hp2, hp1]; simp only [List.append_assoc])
  have HJ := Lib.hid hJ
  have hPl : p3.length ≤ 100 := by omega
  clear hT hJ hg1 lg1 hg2 lg2 hp1 lp1 hp2 lp2 hp3 lp3 hs hm
  obtain ⟨W0, hW0⟩ : ∃ W0 : World, W0 = w.alloc (.cells (exC 6 0 s m A na ca (some ⟨b, q, none⟩) 1 co).toArray 83) := ⟨_, rfl⟩
  rw [← hW0] at hb
  have HWB := Lib.hid (show ∀ W, Bz W0 W → Below w.heap.size w W from fun W h => hb.trans (h.b.mono hb.size))
  have HF := Lib.hid (show ∀ W, Bz W0 W → (W.cell? ⟨w.heap.size, 0, none⟩ = some (.int .i64 6) ∧ W.cell? ⟨w.heap.size, 2, none⟩ = some (.string (bs s)) ∧ W.cell? ⟨w.heap.size, 3, none⟩ = some (.string (bs m)) ∧ W.cell? ⟨w.heap.size, 4, none⟩ = some (.slice A na ca) ∧ W.cell? ⟨w.heap.size, 5, none⟩ = some (.slice (some ⟨b, q, none⟩) 1 co)) from fun W h => by
    subst hW0
    have hn := heap_alloc_new w (.cells (exC 6 0 s m A na ca (some ⟨b, q, none⟩) 1 co).toArray 83)
    have h2 := fun j v (hv : (exC 6 0 s m A na ca (some ⟨b, q, none⟩) 1 co).toArray[j]? = some v) => cell_of_Bz h (g := w.heap.size) (j := j) (v := v) (by rw [cell_of_row _ _ _ _ _ _ hn]; exact hv) (lt_of_block hn)
    exact ⟨h2 0 _ rfl, h2 2 _ rfl, h2 3 _ rfl, h2 4 _ rfl, h2 5 _ rfl⟩)
  have HTX := Lib.hid (show ∀ y ∈ a, ∀ cs W, XV w S y cs → Bz W0 W → Calls Tryd.prog 46 #[.agg cs.toArray] W fun e' w' => e' = .returned (.string (bs (txE y))) ∧ Below W.heap.size W w' from fun y hy cs W hv h => ih y hy (d + 1) W S cs (hw.below (HWB.out W h)) (hch y hy) (by have := Ex.sizes_mem hy; omega) (hv.below (HWB.out W h)))
  have HTL := Lib.hid (show ∀ y ∈ a, (txE y).length ≤ 13000000 from fun y hy => by
    have h1 := txE_len y _ (hch y hy) (Ex.Wds_mem hA.wds y hy)
    have h2 := Ex.sizes_mem hy
    omega)
  have HJL := Lib.hid (show ∀ q, (jt a q).length ≤ 13200000 from fun q => jt_len q hch hA.wds (by omega))
  have HL := Lib.hid hA
  have HLN := Lib.hid hA.1.1
  have HT2 := Lib.hid (show ∀ W, Bz W0 W → Calls Tryd.prog 68 #[.agg xc.toArray] W fun e' w' => e' = .returned (.string (bs u)) ∧ Below W.heap.size W w' from fun W h => HOX (d + 1) W S xc (hw.below (HWB.out W h)) hcx (by omega) (hxv.below (HWB.out W h)))
  have hul : u.length ≤ 13000002 := by omega
  obtain ⟨xk, xn, xs, xm, xa, xo⟩ := x
  obtain ⟨A2, na2, ca2, O2, no2, co2, rfl, -, -⟩ := hxv.open_
  have HXC := Lib.hid (show ∀ W, Bz W0 W → (W.cell? ⟨b, q, none⟩ = some (.int .i64 xk) ∧ W.cell? ⟨b, q + 1, none⟩ = some (.int .i64 xn) ∧ W.cell? ⟨b, q + 2, none⟩ = some (.string (bs xs)) ∧ W.cell? ⟨b, q + 3, none⟩ = some (.string (bs xm)) ∧ W.cell? ⟨b, q + 4, none⟩ = some (.slice A2 na2 ca2) ∧ W.cell? ⟨b, q + 5, none⟩ = some (.slice O2 no2 co2)) from fun W h => exC_at (rangeAt_keep hrow ((HWB.out W h).block b hbl)))
  unfold exC at HT2
  clear HOX hcx hxv hrow hbl hlx hl5 hu ihx
  clear ih hch hco hc hz hx hA hO hw hb hla hl3 hl4
  unfold exC at hW0
  unfold exC
  go_enter Tryd.func46, Tryd.ntmps46
  go_upto_region 1 with fail
  rw [← hW0]
  clear hW0
  have z0 : Bz W0 W0 := ⟨Below.refl _ _⟩
  obtain ⟨g0, g2', g3', g4', g5'⟩ := HF.out _ z0
  go_wp2_with fail
  clear g0 g2' g3' g4' g5' jg1 jg2 jp1 jp2 jp3
  have HP0 := Lib.hid (show p3 = p3 ++ jt a 0 by rw [jt_zero, List.append_nil])
  generalize p3 = P at *
  go_loopw [3, 4] (fun out i wr => ∃ (q : Nat) (Z : Str), q ≤ a.length ∧ out = .string (bs Z) ∧ i = .int .i64 q ∧ Hid (Z = P ++ jt a q) ∧ Bz W0 wr) (fun _ i _ => a.length - (intOf i).toNat)
  case atStart => exact ⟨0, P, Nat.zero_le _, rfl, rfl, HP0, z0⟩
  case round =>
    clear z0 HP0
    obtain ⟨q1, Z, hq, rfl, rfl, n1, zr⟩ := hrel
    obtain ⟨wv, hwv⟩ : ∃ wv, wv = wr := ⟨_, rfl⟩
    subst hwv
    obtain ⟨g0, g2', g3', g4', g5'⟩ := HF.out _ zr
    have lZ : Z.length ≤ 13200100 := by rw [n1.out, List.length_append]; have := HJL.out q1; omega
    by_cases hl : q1 < a.length
    · have hi2 : (q1 : Int) < (na : Int) := by have := HLN.out; omega
      obtain ⟨y, b1, off, cs, hy, rfl, hb1, hS1, hyv, hrow1⟩ := HL.out.at q1 (by have := HLN.out; omega)
      have HQL := Lib.hid hl
      have hmem := List.mem_of_getElem? hy
      have HTY := Lib.hid (HTX.out y hmem cs wv hyv zr)
      have lt := HTL.out y hmem
      obtain ⟨t, ht⟩ : ∃ t, t = txE y := ⟨_, rfl⟩
      have HUP := Lib.hid (show jt a (q1 + 1) = if q1 = 0 then t else jt a q1 ++ [44, 32] ++ t by rw [jt_up hy, ht])
      rw [← ht] at HTY lt
      have hrow2 := rangeAt_keep hrow1 ((HWB.out _ zr).block b1 hb1)
      obtain ⟨yk, yn, ys, ym, ya, yo⟩ := y
      obtain ⟨A3, na3, ca3, O3, no3, co3, rfl, -, -⟩ := hyv.open_
      obtain ⟨e0, e1, e2, e3, e4, e5⟩ := exC_at hrow2
      clear hy hb1 hS1 hyv hrow1 hrow2 hl hmem ht
      unfold exC at HTY
      by_cases hq0 : q1 = 0
      · have hq1 : ¬ (0 : Int) < (q1 : Int) := by omega
        obtain ⟨c1, hc1⟩ : ∃ c, c = Z ++ t := ⟨_, rfl⟩
        have lc1 : c1.length = Z.length + t.length := by rw [hc1]; exact List.length_append
        have jc1 : ∀ w, (Op.stringOp .add (bs Z) (bs t)).run Tryd.prog w = .ok (.string (bs c1)) w := fun w => by rw [hc1]; exact add_big Z t (by first | omega | (simp; omega)) w
        have HZ2 := Lib.hid (show c1 = P ++ jt a (q1 + 1) by rw [hc1, n1.out, HUP.out, if_pos hq0, hq0, jt_zero, List.append_nil])
        clear hc1 lc1 hq0
        go_wp2_with fail
        refine HTY.out.mono ?_
        rintro e wo ⟨rfl, hbo⟩
        have zo := zr.next hbo
        clear hbo HTY e0 e1 e2 e3 e4 e5 g0 g2' g3' g4' g5' zr n1 HUP
        go_wp2
        go_roundw
        case rel => exact ⟨q1 + 1, c1, HQL.out, rfl, by go_num, HZ2, zo⟩
        case measure => exact meas_up _ _ HQL.out
      · have hq1 : (0 : Int) < (q1 : Int) := by omega
        obtain ⟨c1, hc1⟩ : ∃ c, c = Z ++ ([44, 32] : Str) := ⟨_, rfl⟩
        have lc1 : c1.length = Z.length + 2 := by rw [hc1]; exact List.length_append
        have jc1 : ∀ w, (Op.stringOp .add (bs Z) (⟨#[44, 32]⟩ : ByteArray)).run Tryd.prog w = .ok (.string (bs c1)) w := fun w => by rw [hc1]; exact add_big Z ([44, 32] : Str) (by first | omega | (simp; omega)) w
        obtain ⟨c2, hc2⟩ : ∃ c, c = c1 ++ t := ⟨_, rfl⟩
        have lc2 : c2.length = c1.length + t.length := by rw [hc2]; exact List.length_append
        have jc2 : ∀ w, (Op.stringOp .add (bs c1) (bs t)).run Tryd.prog w = .ok (.string (bs c2)) w := fun w => by rw [hc2]; exact add_big c1 t (by first | omega | (simp; omega)) w
        have HZ2 := Lib.hid (show c2 = P ++ jt a (q1 + 1) by rw [hc2, hc1, n1.out, HUP.out, if_neg hq0]; simp only [List.append_assoc])
        clear hc1 lc1 hc2 lc2 hq0
        go_wp2_with fail
        refine HTY.out.mono ?_
        rintro e wo ⟨rfl, hbo⟩
        have zo := zr.next hbo
        clear hbo HTY e0 e1 e2 e3 e4 e5 g0 g2' g3' g4' g5' zr n1 HUP
        go_wp2
        go_roundw
        case rel => exact ⟨q1 + 1, c2, HQL.out, rfl, by go_num, HZ2, zo⟩
        case measure => exact meas_up _ _ HQL.out
    · have hi2 : ¬ (q1 : Int) < (na : Int) := by have := HLN.out; omega
      have HZJ := Lib.hid (show Z = P ++ J by rw [n1.out, jt_all a (by omega), HJ.out])
      obtain ⟨f1, hf1⟩ : ∃ c, c = Z ++ ([41] : Str) := ⟨_, rfl⟩
      have lf1 : f1.length = Z.length + 1 := by rw [hf1]; exact List.length_append
      have jf1 : ∀ w, (Op.stringOp .add (bs Z) (⟨#[41]⟩ : ByteArray)).run Tryd.prog w = .ok (.string (bs f1)) w := fun w => by rw [hf1]; exact add_big Z ([41] : Str) (by first | omega | (simp; omega)) w
      obtain ⟨f2, hf2⟩ : ∃ c, c = f1 ++ ([32, 101, 108, 115, 101, 32] : Str) := ⟨_, rfl⟩
      have lf2 : f2.length = f1.length + 6 := by rw [hf2]; exact List.length_append
      have jf2 : ∀ w, (Op.stringOp .add (bs f1) (⟨#[32, 101, 108, 115, 101, 32]⟩ : ByteArray)).run Tryd.prog w = .ok (.string (bs f2)) w := fun w => by rw [hf2]; exact add_big f1 ([32, 101, 108, 115, 101, 32] : Str) (by first | omega | (simp; omega)) w
      obtain ⟨f3, hf3⟩ : ∃ c, c = f2 ++ u := ⟨_, rfl⟩
      have lf3 : f3.length = f2.length + u.length := by rw [hf3]; exact List.length_append
      have jf3 : ∀ w, (Op.stringOp .add (bs f2) (bs u)).run Tryd.prog w = .ok (.string (bs f3)) w := fun w => by rw [hf3]; exact add_big f2 u (by first | omega | (simp; omega)) w
      have HR := Lib.hid (show f3 = T by rw [HFN.out, hf3, hf2, hf1, HZJ.out])
      clear hf1 lf1 hf2 lf2 hf3 lf3 hl hq n1 lZ
      obtain ⟨e0, e1, e2, e3, e4, e5⟩ := HXC.out _ zr
      go_wp2_with fail
      refine (HT2.out _ zr).mono ?_
      rintro e wo ⟨rfl, hbo⟩
      have zo := zr.next hbo
      clear hbo e0 e1 e2 e3 e4 e5 g0 g2' g3' g4' g5'
      go_wp2
      go_ret
      exact ⟨congrArg (fun x => Ending.returned (.string (bs x))) HR.out, HWB.out _ zo⟩
theorem rtextAt_any (e : Ex) : RTextAt e := by
  obtain ⟨N, hN⟩ : ∃ N, N = e.size := ⟨_, rfl⟩
  induction N using Nat.strongRecOn generalizing e with
  | _ N ih =>
    intro d w S cs hw hc hz hx
    have key : ∀ x : Ex, x.size < e.size → RTextAt x := fun x hlt => ih x.size (by omega) x rfl
    clear ih hN
    rcases (shape_of hc).1 with ⟨n, hn⟩ | ⟨n, hn⟩ | ⟨s, hs⟩ | ⟨x, hcx⟩ | ⟨x, hcx⟩ | ⟨m, x, y, hm, h1, h2⟩ | ⟨s, m, a, o, hs, hm, ha, h1, ho, h2⟩ | ⟨s, a, hs, ha, h1⟩
    · exact rtext_num n d w S cs hw hc hz hx
    · exact rtext_bool n d w S cs hw hc hz hx
    · exact rtext_var s d w S cs hw hc hz hx
    · exact rtext_not x (key x (by rw [Ex.size, Ex.sizes, Ex.sizes]; omega)) d w S cs hw hc hz hx
    · exact rtext_neg x (key x (by rw [Ex.size, Ex.sizes, Ex.sizes]; omega)) d w S cs hw hc hz hx
    · exact rtext_bin m x y (key x (by rw [Ex.size, Ex.sizes, Ex.sizes, Ex.sizes]; omega)) (key y (by rw [Ex.size, Ex.sizes, Ex.sizes, Ex.sizes]; omega)) hm d w S cs hw hc hz hx
    · have hl : ∀ y ∈ a, RTextAt y := fun x hx => key x (by rw [Ex.size]; have := Ex.sizes_mem hx; omega)
      match o, ho, key, hc, hz, hx with
      | [], _, _, hc, hz, hx => exact rtext_call s m a hl hs hm d w S cs hw hc hz hx
      | [x], _, key, hc, hz, hx => exact rtext_else s m a x hl (key x (by rw [Ex.size, Ex.sizes, Ex.sizes]; omega)) hs hm d w S cs hw hc hz hx
    · have hl : ∀ y ∈ a, RTextAt y := fun x hx => key x (by rw [Ex.size]; have := Ex.sizes_mem hx; omega)
      exact rtext_host s a hl hs d w S cs hw hc hz hx
end Go.Proofs.YthfjkdgaiaokdaaDoor
