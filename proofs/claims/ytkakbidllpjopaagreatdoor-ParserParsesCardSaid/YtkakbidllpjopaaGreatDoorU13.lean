/- The walks of Expr.operand and list (printed by wip/gensxq.py). Conditions: valid expressions; the library's tables are laid (SxW); at most 100000 parts. law45's conversions of the reference's expressions. Condition: at most 1000000 parts. law45's conversion of the reference's statements. Condition: at most 1000000 parts. law45's conversion of the reference's programs. Condition: at most 1000000 parts. The walk of Expr.text (printed by wip/gensxr.py). Conditions: valid expressions; the library's tables are laid (SxW); at most 100000 parts. -/
import Derived.Test.YtkakbidllpjopaaGreatDoorU12
import Derived.Laws.Concat
import Derived.Lib.AppendIntMem
import Derived.Test.YtkakbidllpjopaaGreatDoorU11
set_option linter.unusedVariables false
set_option linter.unusedSimpArgs false
set_option maxRecDepth 100000
set_option maxHeartbeats 12800000
namespace Go.Proofs.YtkakbidllpjopaaGreatDoor
open Go.RowKit
/-- A row of the call's own that holds strings. -/
abbrev OwnS (w : World) (base : Nat) (v : Value) (L : List (List UInt8)) : Prop := w.ownsRow base 9 1 v L.length (L.map fun x => Value.string (bs x))
theorem Tryz.infoS3 : (Tryz.prog.info? 9).map (fun i => (i.zero, i.size, i.bytes)) = some (some (.string ⟨#[]⟩), 1, 16) := by kernel_rfl
theorem infoS : ∃ i, Tryz.prog.info? 9 = some i /\ i.zero = some (.string ⟨#[]⟩) /\ i.size = 1 /\ i.bytes = 16 := by
 obtain ⟨i, h1, h2⟩ := Option.map_eq_some_iff.1 Tryz.infoS3
 injection h2 with h2 h3
 injection h3 with h3 h4
 exact ⟨i, h1, h2, h3, h4⟩
theorem OwnS.below {w w' : World} {base : Nat} {v : Value} {L : List (List UInt8)} (h : OwnS w base v L) (hb : Below w.heap.size w w') : OwnS w' base v L :=
 World.ownsRow.kept (row := none) h ⟨hb.os, hb.tape, hb.output, hb.size, fun k hk _ => hb.block k hk⟩ (by cases hv : v.ownBlock <;> simp)
/-- append of one string onto a row of the call's own. -/
theorem as_any {w : World} {ops : Array Oper} {rest : List Oper} {o : Oper} {a : Act} {Q : Exit -> Act -> World -> Prop} (hgd : o.guard = none) (s x : Operand)
  (ho : o.op = .call { callee := .builtin .append, args := #[s, x], argTypes := #[22, 22] }) (base : Nat) (v : Value) (L : List (List UInt8)) (hs : a.eval s = v) (hO : OwnS w base v L)
  (q : Nat) (u : List UInt8) (hx : a.eval x = .slice (some ⟨q, 0, none⟩) 1 1) (hq : q < w.heap.size) (hc : w.cell? ⟨q, 0, none⟩ = some (.string (bs u))) (h1 : L.length + 1 <= 100000) (hb : base <= w.heap.size)
  (h : ∀ v' w', OwnS w' base v' (L ++ [u]) -> w.grownBy w' v.ownBlock -> (v'.ownBlock = v.ownBlock ∨ v'.ownBlock = some w.heap.size) -> wpList Tryz.prog ops Q rest (a.put o.dst v') w') : wpList Tryz.prog ops Q (o :: rest) a w := by
 obtain ⟨ie, hie0, hie1, hie2, hie3⟩ := infoS
 have hR : Reads w (fun _ => True) 1 (some ⟨q, 0, none⟩) 1 [Value.string (bs u)] := ⟨rfl, fun _ => ⟨q, 0, rfl, hq, trivial, fun j y hy => by
  obtain rfl : j = 0 := by have := (List.getElem?_eq_some_iff.1 hy).1; simpa using this
  injection hy with hy
  subst hy
  exact hc⟩⟩
 refine wpList_append_any hgd s x 22 ho base 9 ie _ 1 16 Tryz.underlying22 hie0 hie1 hie2 hie3 rfl (by omega) v L.length _ hs hO (fun _ => True) _ 1 1 _ hx hR (by intro u hu; rw [List.mem_singleton.1 hu]; rfl) (by simp only [maxLen]; omega) (by omega) hb ?_
 intro v' w' h2 h3 h4
 refine h v' w' ?_ h3 h4
 show w'.ownsRow base _ 1 v' (L ++ [u]).length ((L ++ [u]).map fun x => Value.string (bs x))
 rw [List.map_append, List.length_append]
 exact h2
theorem join_own {w : World} {base : Nat} {v : Value} {L : List (List UInt8)} (h : OwnS w base v L) (sep : List UInt8) (hN : L.length <= 100000) (hlen : (Lib.join L sep).length <= 100000000) :
  Calls Tryz.prog 26 #[v, .string (bs sep)] w fun e w' => e = .returned (.string (bs (Lib.join L sep))) /\ Below w.heap.size w w' := by
 obtain ⟨A, c, rfl, hc, hA, hR⟩ := own_reads (S := fun _ => True) h (fun _ _ => trivial)
 cases L with
 | nil =>
  refine (Tryz.strings_Join_none A c (bs sep) w).mono ?_
  rintro e w' ⟨rfl, rfl⟩
  exact ⟨rfl, Below.refl _ _⟩
 | cons x t =>
  obtain ⟨b, o, rfl, hb, _, hcell⟩ := hR.2 (by simp)
  have e : ((x :: t).map bs).map (fun s => s.data.toList) = x :: t := by
   rw [List.map_map]
   exact (List.map_congr_left fun y _ => rfl).trans (List.map_id _)
  have hJ := Tryz.strings_Join b o c ((x :: t).map bs) (bs sep) w (fun j y hy => by
   rw [List.getElem?_map] at hy
   obtain ⟨z, hz, rfl⟩ := Option.map_eq_some_iff.1 hy
   exact hcell j _ (by rw [List.getElem?_map, hz]; rfl)) hb (by rw [List.length_map]; omega) (by rw [List.length_map]; exact hc) (by rw [e, bs_list]; omega)
  rw [e, bs_list, List.length_map] at hJ
  exact hJ
theorem own_bz {wo wb W : World} {base : Nat} {v : Value} {L : List (List UInt8)} {o : Obj} (h : OwnS wo base v L) (hk : Below wo.heap.size wo wb) (hb : Bz wb W) : OwnS (W.alloc o) base v L :=
 OwnS.below (OwnS.below (OwnS.below h hk) hb.b) ((Below.refl _ _).alloc (Nat.le_refl _) _)
theorem lt_new (W : World) (o : Obj) : W.heap.size < (W.alloc o).heap.size := by simp
theorem cell_new (W : World) (v : Value) {t : TypeId} : (W.alloc (.cells #[v] t)).cell? ⟨W.heap.size, 0, none⟩ = some v := by rw [World.cell?_alloc_at _ _ _ _ rfl]; rfl
theorem size_bz {w wo wb W : World} {o : Obj} (h : Below w.heap.size w wo) (hk : Below wo.heap.size wo wb) (hb : Bz wb W) : w.heap.size <= (W.alloc o).heap.size := by
 have h1 := h.size
 have h2 := hk.size
 have h3 := hb.b.size
 simp
 omega
theorem below_bz {w wb W w4 : World} {o : Obj} {v : Value} (h : Below w.heap.size w wb) (hb : Bz wb W) (hg : (W.alloc o).grownBy w4 v.ownBlock) (hv : ∀ q, v.ownBlock = some q -> w.heap.size <= q) : Below w.heap.size w w4 := by
 have h1 := h.trans (hb.b.mono h.size)
 exact (h1.alloc h1.size o).grown hg (by have := h1.size; simp; omega) hv
def TextAt (e : Ex) : Prop := ∀ (d : Int) (w : World) (S : Nat -> Prop) (cs : List Value), SxW w -> chkE d e = 0 -> e.size <= 100000 -> XV w S e cs -> Calls Tryz.prog 85 #[.agg cs.toArray] w fun e' w' => e' = .returned (.string (bs (txE e))) /\ Below w.heap.size w w'
def OperAt (e : Ex) : Prop := ∀ (d : Int) (w : World) (S : Nat -> Prop) (cs : List Value), SxW w -> chkE d e = 0 -> e.size <= 100000 -> XV w S e cs -> Calls Tryz.prog 111 #[.agg cs.toArray] w fun e' w' => e' = .returned (.string (bs (opE e))) /\ Below w.heap.size w w'
def ListAt (l : List Ex) : Prop := ∀ (d : Int) (w : World) (S : Nat -> Prop) (A : Option Addr) (n c : Nat), SxW w -> (∀ x ∈ l, chkE d x = 0) -> Ex.sizes l <= 100000 -> XL w S A n c l -> Calls Tryz.prog 112 #[.slice A n c] w fun e' w' => e' = .returned (.string (bs (Lib.join (l.map txE) [44, 32]))) /\ Below w.heap.size w w'
theorem add_big (x y : List UInt8) (h : x.length + y.length <= 1000000000) (w : World) : (Op.stringOp .add (bs x) (bs y)).run Tryz.prog w = .ok (.string (bs (x ++ y))) w := by
 unfold bs
 rw [run_string_add_sum w _ _ (by simp [ByteArray.size]; omega)]
 congr 2
theorem fmtI_any (n : Int) (h : InR n) (w : World) (hp : SxW w) :
  Calls Tryz.prog 86 #[.int .i64 n, .int .i64 10] w fun e w' => e = .returned (.string (bs (Lib.itoa n))) /\ Below w.heap.size w w' :=
 (Go.Proofs.Any.strconv_FormatInt_10 Tryz.laysM173 n h.1 h.2 w hp.pow).mono fun e w' ⟨he, k, os, hw⟩ => ⟨he, hw ▸ Lib.below_grow _ w (Nat.le_refl _) k os⟩
theorem operand_par (k n : Int) (s m : Str) (a o : List Ex) (d : Int) (w : World) (S : Nat -> Prop) (cs : List Value) (hw : SxW w) (hc : chkE d (.mk k n s m a o) = 0) (hz : (Ex.mk k n s m a o).size <= 100000) (hx : XV w S (.mk k n s m a o) cs) (ih : TextAt (.mk k n s m a o)) :
  Calls Tryz.prog 111 #[.agg cs.toArray] w fun e' w' => e' = .returned (.string (bs (opE (.mk k n s m a o)))) /\ Below w.heap.size w w' := by
 have hb := (Below.refl w.heap.size w).alloc (Nat.le_refl _) (.cells cs.toArray 27)
 have HT := hI (ih d _ S cs (hw.below hb) hc hz (hx.below hb))
 have HB := hI hb
 have hlen := txE_len _ d hc hx.wd
 obtain ⟨A, na, ca, O, no, co, rfl, hA, hO⟩ := hx.open_
 obtain ⟨t, ht⟩ : ∃ t, t = txE (.mk k n s m a o) := ⟨_, rfl⟩
 have e : opE (.mk k n s m a o) = if k = 5 ∨ k = 3 ∨ k = 4 ∨ (k = 6 /\ 0 < no) then [40] ++ t ++ [41] else t := by
  rw [ht, hO.1.1]; rfl
 rw [<- ht] at HT hlen
 obtain ⟨T, hT⟩ : ∃ T, T = opE (.mk k n s m a o) := ⟨_, rfl⟩
 rw [<- hT]
 rw [e] at hT
 obtain ⟨c1, hc1⟩ : ∃ c, c = ([40] : Str) ++ t := ⟨_, rfl⟩
 have lc1 : c1.length = 1 + t.length := by rw [hc1]; exact List.length_append
 have jc1 : ∀ w, (Op.stringOp .add (⟨#[40]⟩ : ByteArray) (bs t)).run Tryz.prog w = .ok (.string (bs c1)) w := fun w => by rw [hc1]; exact add_big ([40] : Str) t (by first | omega | (simp; omega)) w
 obtain ⟨c2, hc2⟩ : ∃ c, c = c1 ++ ([41] : Str) := ⟨_, rfl⟩
 have lc2 : c2.length = c1.length + 1 := by rw [hc2]; exact List.length_append
 have jc2 : ∀ w, (Op.stringOp .add (bs c1) (⟨#[41]⟩ : ByteArray)).run Tryz.prog w = .ok (.string (bs c2)) w := fun w => by rw [hc2]; exact add_big c1 ([41] : Str) (by first | omega | (simp; omega)) w
 have hcc : c2 = [40] ++ t ++ [41] := by rw [hc2, hc1]
 rw [<- hcc] at hT
 clear hb hw hc hz hx ih hA hO e ht hlen hc1 hc2 lc1 lc2 hcc
 unfold exC at HT HB ⊢
 by_cases k5 : k = 5
 ·subst k5
  obtain rfl : T = c2 := by rw [hT, if_pos (by omega)]
  clear hT
  go_enter Tryz.func111, Tryz.ntmps111
  go_wp2_with fail
  refine HT.out.mono ?_
  rintro e w1 ⟨rfl, hb⟩
  go_wp2
  go_ret
  exact ⟨rfl, below_new hb⟩
 by_cases k3 : k = 3
 ·subst k3
  obtain rfl : T = c2 := by rw [hT, if_pos (by omega)]
  clear hT
  go_enter Tryz.func111, Tryz.ntmps111
  go_wp2_with fail
  refine HT.out.mono ?_
  rintro e w1 ⟨rfl, hb⟩
  go_wp2
  go_ret
  exact ⟨rfl, below_new hb⟩
 by_cases k4 : k = 4
 ·subst k4
  obtain rfl : T = c2 := by rw [hT, if_pos (by omega)]
  clear hT
  go_enter Tryz.func111, Tryz.ntmps111
  go_wp2_with fail
  refine HT.out.mono ?_
  rintro e w1 ⟨rfl, hb⟩
  go_wp2
  go_ret
  exact ⟨rfl, below_new hb⟩
 by_cases k6 : k = 6
 ·subst k6
  by_cases no0 : 0 < (no : Int)
  ·obtain rfl : T = c2 := by rw [hT, if_pos (by omega)]
   clear hT
   go_enter Tryz.func111, Tryz.ntmps111
   go_wp2_with fail
   refine HT.out.mono ?_
   rintro e w1 ⟨rfl, hb⟩
   go_wp2
   go_ret
   exact ⟨rfl, below_new hb⟩
  obtain rfl : T = t := by rw [hT, if_neg (by omega)]
  clear hT jc1 jc2
  go_enter Tryz.func111, Tryz.ntmps111
  go_wp2_with fail
  refine HT.out.mono ?_
  rintro e w1 ⟨rfl, hb⟩
  go_wp2
  go_ret
  exact ⟨rfl, below_new hb⟩
 obtain rfl : T = t := by rw [hT, if_neg (by omega)]
 have k51 : (k == 5) = false := by simp [k5]
 have k31 : (k == 3) = false := by simp [k3]
 have k41 : (k == 4) = false := by simp [k4]
 have k61 : (k == 6) = false := by simp [k6]
 clear hT jc1 jc2 k5 k3 k4 k6
 go_enter Tryz.func111, Tryz.ntmps111
 go_wp2_with fail
 refine HT.out.mono ?_
 rintro e w1 ⟨rfl, hb⟩
 go_wp2
 go_ret
 exact ⟨rfl, below_new hb⟩
theorem operAt_of {e : Ex} (h : TextAt e) : OperAt e := by
 obtain ⟨k, n, s, m, a, o⟩ := e
 exact fun d w S cs hw hc hz hx => operand_par k n s m a o d w S cs hw hc hz hx h
theorem texts_len {l : List Ex} {d : Int} (h : ∀ x ∈ l, chkE d x = 0) (hw : Ex.Wds l) (hz : Ex.sizes l <= 100000) : (Lib.join (l.map txE) [44, 32]).length <= 130 * Ex.sizes l + l.length * 2 := by
 have hA : (l.map fun x => (txE x).length).sum <= 130 * (l.map Ex.size).sum := sum_le _ _ _ _ fun x hx => txE_len x d (h x hx) (Ex.Wds_mem hw x hx)
 have hj := join_len [44, 32] (l.map txE)
 rw [List.map_map, List.length_map] at hj
 have hj' : (Lib.join (l.map txE) [44, 32]).length <= (l.map fun x => (txE x).length).sum + l.length * 2 := hj
 rw [sizes_sum]
 omega
theorem XL.wds {w : World} {S : Nat -> Prop} {A : Option Addr} {n c : Nat} {l : List Ex} (h : XL w S A n c l) : Ex.Wds l := by
 cases l with
 | nil => rw [Ex.Wds]; trivial
 | cons e t =>
  obtain ⟨b, q, _, _, _, hx⟩ := h.2 (by rw [h.1.1]; simp)
  exact XLf.wd hx
theorem Ex.len_sizes : ∀ (l : List Ex), l.length <= Ex.sizes l
 | [] => Nat.zero_le _
 | e :: t => by
  have := Ex.len_sizes t
  obtain ⟨k, n, s, m, a, o⟩ := e
  rw [Ex.sizes, Ex.size, List.length_cons]
  omega
theorem listAt_of {l : List Ex} (h : ∀ x ∈ l, TextAt x) : ListAt l := by
 intro d w S A n c hw hc hz hl
 have HIN := hI h
 have HL := hI hl
 have HLN := hI hl.1.1
 have HWS := hI hw
 have HC := hI hc
 have HZ := hI hz
 have hn6 : (n : Int) <= 100000 := by have := hl.1.1; have := Ex.len_sizes l; omega
 have HJL := hI (texts_len hc hl.wds hz)
 have HO0 := hI (show OwnS w w.heap.size (.slice none 0 0) ((l.take 0).map txE) from World.ownsRow_nil _ _ _ _)
 have HB0 := hI (Below.refl w.heap.size w)
 obtain ⟨T, hT⟩ : ∃ T, T = Lib.join (l.map txE) [44, 32] := ⟨_, rfl⟩
 rw [<- hT]
 have HT := hI hT
 clear h hl hw hc hz hT
 go_enter Tryz.func112, Tryz.ntmps112
 go_wp2_with fail
 go_loopw [3, 8] (fun vv i wr => ∃ k : Nat, k <= l.length /\ i = .int .i64 k /\ Hid (OwnS wr w.heap.size vv ((l.take k).map txE)) /\ Hid (Below w.heap.size w wr)) (fun _ i _ => l.length - (intOf i).toNat)
 case atStart => exact ⟨0, Nat.zero_le _, rfl, HO0, HB0⟩
 case round =>
  clear HO0 HB0
  obtain ⟨k, hk, rfl, HO, HB⟩ := hrel
  by_cases hlt : k < l.length
  ·have hi2 : (k : Int) < (n : Int) := by have := HLN.out; omega
   obtain ⟨x, b, off, cs, hx, rfl, hb, hS, hxv, hrow⟩ := HL.out.at k (by have := HLN.out; omega)
   have HQL := hI hlt
   have HXQ := hI hx
   have hmem := List.mem_of_getElem? hx
   have hbb := HB.out.alloc HB.out.size (.cells cs.toArray 27)
   have HTX := hI (HIN.out x hmem d _ S cs (HWS.out.below hbb) (HC.out x hmem) (by have := Ex.sizes_mem hmem; have := HZ.out; omega) (hxv.below hbb))
   have HBB := hI hbb
   obtain ⟨t, ht⟩ : ∃ t, t = txE x := ⟨_, rfl⟩
   rw [<- ht] at HTX
   have HSN := hI (show (l.take (k + 1)).map txE = (l.take k).map txE ++ [t] by rw [List.take_add_one, hx, ht]; simp)
   have hrow2 := rangeAt_keep hrow (HB.out.block b hb)
   obtain ⟨xk, xn, xs, xm, xa, xo⟩ := x
   obtain ⟨A2, na2, ca2, O2, no2, co2, rfl, -, -⟩ := hxv.open_
   obtain ⟨e0, e1, e2, e3, e4, e5⟩ := exC_at hrow2
   have HK1 := hI (show Below wr.heap.size wr (wr.alloc (.cells (exC xk xn xs xm A2 na2 ca2 O2 no2 co2).toArray 27)) from (Below.refl _ _).alloc (Nat.le_refl _) _)
   clear hx hb hS hxv hrow hrow2 hlt hmem hbb ht
   unfold exC at HTX HBB HK1
   have HM := hI (show ((l.take k).map txE).length <= 100000 by rw [List.length_map, List.length_take]; have := Ex.len_sizes l; have := HZ.out; omega)
   have HLTK := hI (show ((l.take k).map txE).length + 1 <= 100000 by rw [List.length_map, List.length_take]; have := Ex.len_sizes l; have := HZ.out; have := HQL.out; omega)
   go_wp2_with fail
   refine HTX.out.mono ?_
   rintro e wo ⟨rfl, hbo⟩
   have zo : Bz (wr.alloc (.cells #[.int .i64 xk, .int .i64 xn, .string (bs xs), .string (bs xm), .slice A2 na2 ca2, .slice O2 no2 co2] 27)) wo := ⟨hbo⟩
   clear hbo e0 e1 e2 e3 e4 e5 HTX
   go_wp2_with ((at_builtin; refine as_any rfl (.tmp 12) (.tmp 15) rfl w.heap.size _ ((l.take k).map txE) rfl ?_ _ t rfl (lt_new _ _) (cell_new _ _) HLTK.out ?_ ?_))
   rotate_left
   rotate_left
   intro v3 w4 ho hg hv
   have hB4 := below_bz HBB.out (by assumption) hg (fun q hq => (HO.out.lt q hq).1)
   have HO4 := hI ho
   have HB4 := hI hB4
   clear ho hg hv hB4
   go_wp2
   go_roundw
   case rel => exact ⟨k + 1, HQL.out, by go_num, hI (by rw [HSN.out, List.map_take]; exact HO4.out), HB4⟩
   case measure => exact meas_up _ _ HQL.out
   ·exact own_bz HO.out HK1.out (by assumption)
   exact size_bz HB.out HK1.out (by assumption)
  have hi2 : ¬ (k : Int) < (n : Int) := by have := HLN.out; omega
  have HF := hI (show l.take k = l from List.take_of_length_le (by omega))
  rw [HF.out] at HO
  have C4 := hI (join_own HO.out [44, 32] (by rw [List.length_map]; have := Ex.len_sizes l; have := HZ.out; omega) (by have := HJL.out; have := Ex.len_sizes l; have := HZ.out; omega))
  rw [<- HT.out] at C4
  have C5 : Hid (∀ x : Unit, Calls Tryz.prog 26 #[_, .string ⟨#[44, 32]⟩] wr fun e w' => e = .returned (.string (bs T)) /\ Below wr.heap.size wr w') := hI (fun _ => C4.out)
  clear C4 HT hlt hk
  go_wp2_with fail
  refine (C5.out ()).mono ?_
  rintro e w9 ⟨rfl, hb⟩
  have HB9 := hI (HB.out.trans (hb.mono HB.out.size))
  clear hb
  go_wp2
  go_ret
  exact ⟨rfl, HB9.out⟩
open Go.RowKit
/-- One expression's copy, as a call. -/
def RConvE (e : Ex) : Prop := ∀ (w : World) (S : Nat -> Prop) (cs : List Value), e.size <= 1000000 -> XV w S e cs -> Calls Tryz.prog 20 #[.agg cs.toArray] w fun e' w' => ∃ cs', e' = .returned (.agg cs'.toArray) /\ XV w' (fun b => w.heap.size <= b) e cs' /\ Below w.heap.size w w'
def RConvL (l : List Ex) : Prop := ∀ (w : World) (S : Nat -> Prop) (A : Option Addr) (n c : Nat), Ex.sizes l <= 1000000 -> XL w S A n c l -> Calls Tryz.prog 43 #[.slice A n c] w fun e' w' => ∃ A' c', e' = .returned (.slice A' n c') /\ XL w' (fun b => w.heap.size <= b) A' n c' l /\ Below w.heap.size w w'
theorem rconvE_of (k n : Int) (s m : Str) (a o : List Ex) (iha : RConvL a) (iho : RConvL o) : RConvE (.mk k n s m a o) := by
 intro w S cs hz hx
 have hn := hx.num
 obtain ⟨A, na, ca, O, no, co, rfl, hA, hO⟩ := hx.open_
 rw [Ex.size] at hz
 obtain ⟨W0, hW0⟩ : ∃ W0 : World, W0 = (w.alloc (.cells (exC k n s m A na ca O no co).toArray 54)).alloc (.cells #[.int .i64 0, .int .i64 0, .string ⟨#[]⟩, .string ⟨#[]⟩, .slice none 0 0, .slice none 0 0] 27) := ⟨_, rfl⟩
 have hs0 : W0.heap.size = w.heap.size + 2 := by rw [hW0]; simp
 have hb0 : Below w.heap.size w W0 := by rw [hW0]; exact ((Below.refl _ _).alloc (Nat.le_refl _) _).alloc (by simp) _
 have HG := hI (show ∀ W, Bz W0 W -> Below w.heap.size w W from fun W h => hb0.trans (h.b.mono hb0.size))
 have HQ := hI (show ∀ W, Bz W0 W -> W.heap[w.heap.size + 1]? = some (.cells #[.int .i64 0, .int .i64 0, .string ⟨#[]⟩, .string ⟨#[]⟩, .slice none 0 0, .slice none 0 0] 27 (0, 0)) from fun W h => (h.b.block _ (by omega)).trans (by rw [hW0]; exact heap_alloc2_new w _ _))
 have HF := hI (show ∀ W, Bz W0 W -> (W.cell? ⟨w.heap.size, 0, none⟩ = some (.int .i64 k) /\ W.cell? ⟨w.heap.size, 1, none⟩ = some (.int .i64 n) /\ W.cell? ⟨w.heap.size, 2, none⟩ = some (.string (bs s)) /\ W.cell? ⟨w.heap.size, 3, none⟩ = some (.string (bs m)) /\ W.cell? ⟨w.heap.size, 4, none⟩ = some (.slice A na ca) /\ W.cell? ⟨w.heap.size, 5, none⟩ = some (.slice O no co)) from fun W h => by
  subst hW0
  have hq : ((w.alloc (.cells (exC k n s m A na ca O no co).toArray 54)).alloc (.cells #[.int .i64 0, .int .i64 0, .string ⟨#[]⟩, .string ⟨#[]⟩, .slice none 0 0, .slice none 0 0] 27)).heap[w.heap.size]? = some (.cells (exC k n s m A na ca O no co).toArray 54 (0, 0)) := (heap_alloc_old _ _ (by simp)).trans (heap_alloc_new w _)
  have h2 := fun j v (hv : (exC k n s m A na ca O no co).toArray[j]? = some v) => cell_of_Bz h (g := w.heap.size) (j := j) (v := v) (by rw [cell_of_row _ _ _ _ _ _ hq]; exact hv) (lt_of_block hq)
  exact ⟨h2 0 _ rfl, h2 1 _ rfl, h2 2 _ rfl, h2 3 _ rfl, h2 4 _ rfl, h2 5 _ rfl⟩)
 have HKA := hI (show ∀ W, Bz W0 W -> Calls Tryz.prog 43 #[.slice A na ca] W fun e' w' => ∃ A' c', e' = .returned (.slice A' na c') /\ XL w' (fun b => W.heap.size <= b) A' na c' a /\ Below W.heap.size W w' from fun W h => iha W S A na ca (by omega) (hA.below (HG.out W h)))
 have HKO := hI (show ∀ W, Bz W0 W -> Calls Tryz.prog 43 #[.slice O no co] W fun e' w' => ∃ A' c', e' = .returned (.slice A' no c') /\ XL w' (fun b => W.heap.size <= b) A' no c' o /\ Below W.heap.size W w' from fun W h => iho W S O no co (by omega) (hO.below (HG.out W h)))
 have HN := hI hn
 have HS0 := hI hs0
 have z0 : Bz W0 W0 := ⟨Below.refl _ _⟩
 have z1 := z0.drew
 have HS1 := hI (show w.heap.size <= W0.drew.heap.size from by show w.heap.size <= W0.heap.size; omega)
 clear hx hA hO hz hb0 hs0 hn iha iho
 unfold exC at hW0
 unfold exC
 go_enter Tryz.func20, Tryz.ntmps20
 go_upto_region 1 with fail
 rw [<- hW0]
 clear hW0
 refine wp_region_held_drew (S := fun W => W.cell? ⟨w.heap.size, 0, none⟩ = some (.int .i64 k) /\ W.cell? ⟨w.heap.size, 1, none⟩ = some (.int .i64 n) /\ W.cell? ⟨w.heap.size, 2, none⟩ = some (.string (bs s)) /\ W.cell? ⟨w.heap.size, 3, none⟩ = some (.string (bs m)) /\ W.cell? ⟨w.heap.size, 4, none⟩ = some (.slice A na ca) /\ W.cell? ⟨w.heap.size, 5, none⟩ = some (.slice O no co)) (by kernel_rfl) (HF.out _ z1) (fun hHeld => ?_)
 refine wpAnyH_take (i := 0) (oi := ⟨some 3, _, _, _, _, _⟩) (v := .pointer (some ⟨w.heap.size, 0, none⟩)) rfl (by kernel_rfl) (by kernel_rfl) (by kernel_rfl) (fun _ _ _ h => h) (Or.inl ⟨by rfl, ?_⟩) hHeld ?_
 ·intro W hW
  obtain ⟨h0, h1, h2, h3, h4, h5⟩ := hW
  go_simp
 try simp only [Act.put, sA, sB, sC]
 refine wpAnyH_take (i := 1) (oi := ⟨some 4, _, _, _, _, _⟩) (v := .int .i64 k) rfl (by kernel_rfl) (by kernel_rfl) (by kernel_rfl) (fun _ _ _ h => h) (Or.inl ⟨by rfl, ?_⟩) hHeld ?_
 ·intro W hW
  obtain ⟨h0, h1, h2, h3, h4, h5⟩ := hW
  go_simp
 try simp only [Act.put, sA, sB, sC]
 refine wpAnyH_take (i := 2) (oi := ⟨some 5, _, _, _, _, _⟩) (v := .pointer (some ⟨w.heap.size, 1, none⟩)) rfl (by kernel_rfl) (by kernel_rfl) (by kernel_rfl) (fun _ _ _ h => h) (Or.inl ⟨by rfl, ?_⟩) hHeld ?_
 ·intro W hW
  obtain ⟨h0, h1, h2, h3, h4, h5⟩ := hW
  go_simp
 try simp only [Act.put, sA, sB, sC]
 refine wpAnyH_take (i := 3) (oi := ⟨some 6, _, _, _, _, _⟩) (v := .int .i64 n) rfl (by kernel_rfl) (by kernel_rfl) (by kernel_rfl) (fun _ _ _ h => h) (Or.inl ⟨by rfl, ?_⟩) hHeld ?_
 ·intro W hW
  obtain ⟨h0, h1, h2, h3, h4, h5⟩ := hW
  go_simp
 try simp only [Act.put, sA, sB, sC]
 refine wpAnyH_take (i := 4) (oi := ⟨some 7, _, _, _, _, _⟩) (v := .pointer (some ⟨w.heap.size, 2, none⟩)) rfl (by kernel_rfl) (by kernel_rfl) (by kernel_rfl) (fun _ _ _ h => h) (Or.inl ⟨by rfl, ?_⟩) hHeld ?_
 ·intro W hW
  obtain ⟨h0, h1, h2, h3, h4, h5⟩ := hW
  go_simp
 try simp only [Act.put, sA, sB, sC]
 refine wpAnyH_take (i := 5) (oi := ⟨some 8, _, _, _, _, _⟩) (v := .string (bs s)) rfl (by kernel_rfl) (by kernel_rfl) (by kernel_rfl) (fun _ _ _ h => h) (Or.inl ⟨by rfl, ?_⟩) hHeld ?_
 ·intro W hW
  obtain ⟨h0, h1, h2, h3, h4, h5⟩ := hW
  go_simp
 try simp only [Act.put, sA, sB, sC]
 refine wpAnyH_take (i := 6) (oi := ⟨some 9, _, _, _, _, _⟩) (v := .pointer (some ⟨w.heap.size, 3, none⟩)) rfl (by kernel_rfl) (by kernel_rfl) (by kernel_rfl) (fun _ _ _ h => h) (Or.inl ⟨by rfl, ?_⟩) hHeld ?_
 ·intro W hW
  obtain ⟨h0, h1, h2, h3, h4, h5⟩ := hW
  go_simp
 try simp only [Act.put, sA, sB, sC]
 refine wpAnyH_take (i := 7) (oi := ⟨some 10, _, _, _, _, _⟩) (v := .string (bs m)) rfl (by kernel_rfl) (by kernel_rfl) (by kernel_rfl) (fun _ _ _ h => h) (Or.inl ⟨by rfl, ?_⟩) hHeld ?_
 ·intro W hW
  obtain ⟨h0, h1, h2, h3, h4, h5⟩ := hW
  go_simp
 try simp only [Act.put, sA, sB, sC]
 refine wpAnyH_take (i := 8) (oi := ⟨some 11, _, _, _, _, _⟩) (v := .pointer (some ⟨w.heap.size, 4, none⟩)) rfl (by kernel_rfl) (by kernel_rfl) (by kernel_rfl) (fun _ _ _ h => h) (Or.inl ⟨by rfl, ?_⟩) hHeld ?_
 ·intro W hW
  obtain ⟨h0, h1, h2, h3, h4, h5⟩ := hW
  go_simp
 try simp only [Act.put, sA, sB, sC]
 refine wpAnyH_take (i := 9) (oi := ⟨some 12, _, _, _, _, _⟩) (v := .slice A na ca) rfl (by kernel_rfl) (by kernel_rfl) (by kernel_rfl) (fun _ _ _ h => h) (Or.inl ⟨by rfl, ?_⟩) hHeld ?_
 ·intro W hW
  obtain ⟨h0, h1, h2, h3, h4, h5⟩ := hW
  go_simp
 try simp only [Act.put, sA, sB, sC]
 refine wpAnyH_take (i := 11) (oi := ⟨some 14, _, _, _, _, _⟩) (v := .pointer (some ⟨w.heap.size, 5, none⟩)) rfl (by kernel_rfl) (by kernel_rfl) (by kernel_rfl) (fun _ _ _ h => h) (Or.inl ⟨by rfl, ?_⟩) hHeld ?_
 ·intro W hW
  obtain ⟨h0, h1, h2, h3, h4, h5⟩ := hW
  go_simp
 try simp only [Act.put, sA, sB, sC]
 refine wpAnyH_take (i := 12) (oi := ⟨some 15, _, _, _, _, _⟩) (v := .slice O no co) rfl (by kernel_rfl) (by kernel_rfl) (by kernel_rfl) (fun _ _ _ h => h) (Or.inl ⟨by rfl, ?_⟩) hHeld ?_
 ·intro W hW
  obtain ⟨h0, h1, h2, h3, h4, h5⟩ := hW
  go_simp
 try simp only [Act.put, sA, sB, sC]
 refine wpAnyH_ready (rs := [10]) (by kernel_rfl) (by simp) ?_
 refine AllReadyH.cons (o := ⟨some 13, _, _, _, _, _⟩) rfl (fun K hK => ?_) AllReadyH.nil
 ·skip
  refine Eq.mpr (if_pos (by kernel_rfl)) ?_
  go_simp
  refine (HKA.out _ z1).mono ?_
  rintro e w3 ⟨A1, c1, rfl, hx1, hb1⟩
  have z3 := z1.next hb1
  refine hK.out _ _ (HF.out _ z3) (fun hHeld2 => ?_)
  clear hK
  try simp only [Act.put, sA, sB, sC]
  refine wpAnyH_ready (rs := [13]) (by kernel_rfl) (by simp) ?_
  refine AllReadyH.cons (o := ⟨some 16, _, _, _, _, _⟩) rfl (fun K hK => ?_) AllReadyH.nil
  refine Eq.mpr (if_pos (by kernel_rfl)) ?_
  go_simp
  refine (HKO.out _ z3).mono ?_
  rintro e w4 ⟨A2, c2, rfl, hx2, hb2⟩
  have z4 := z3.next hb2
  refine hK.out _ _ (HF.out _ z4) (fun hHeld3 => ?_)
  clear hK
  try simp only [Act.put, sA, sB, sC]
  refine wpAnyH_take (i := 14) (oi := ⟨some 17, _, _, _, _, _⟩) (v := .agg #[.int .i64 k, .int .i64 n, .string (bs s), .string (bs m), .slice A1 na c1, .slice A2 no c2]) rfl (by kernel_rfl) (by kernel_rfl) (by kernel_rfl) (fun _ _ _ h => h) (Or.inl ⟨by rfl, ?_⟩) hHeld3 ?_
  ·intro W hW
   obtain ⟨h0, h1, h2, h3, h4, h5⟩ := hW
   go_simp
  try simp only [Act.put, sA, sB, sC]
  refine wpAnyH_ready (rs := [15]) (by kernel_rfl) (by simp) ?_
  refine AllReadyH.cons (o := ⟨none, _, _, _, _, _⟩) rfl (fun K hK => ?_) AllReadyH.nil
  refine Eq.mpr (if_pos (by kernel_rfl)) ?_
  refine wp_store_row 27 (.tmp 2) (.tmp 17) rfl (w.heap.size + 1) #[.int .i64 k, .int .i64 n, .string (bs s), .string (bs m), .slice A1 na c1, .slice A2 no c2] rfl rfl 27 _ (HQ.out _ z4) ex_size rfl (by simp [Value.oneCell']) ?_
  have HROW := hI (setRow_heap _ _ _ #[.int .i64 k, .int .i64 n, .string (bs s), .string (bs m), .slice A1 na c1, .slice A2 no c2] _ _ (HQ.out _ z4))
  have HBF := hI (below_setRow (HG.out _ z4) (Nat.le_succ w.heap.size) #[.int .i64 k, .int .i64 n, .string (bs s), .string (bs m), .slice A1 na c1, .slice A2 no c2])
  have HXV := hI (show XV (w4.setRow (w.heap.size + 1) #[.int .i64 k, .int .i64 n, .string (bs s), .string (bs m), .slice A1 na c1, .slice A2 no c2]) (fun b => w.heap.size <= b) (.mk k n s m a o) (exC k n s m A1 na c1 A2 no c2) from by
   have hw2 : w.heap.size + 2 <= w3.heap.size := by have h1 := HS0.out; have h2 := z3.b.size; omega
   have hS1 : w.heap.size + 2 <= W0.drew.heap.size := by have h1 := HS0.out; show w.heap.size + 2 <= W0.heap.size; omega
   have keep : ∀ {A' : Option Addr} {n' c' : Nat} {l' : List Ex}, XL w4 (fun b => w.heap.size + 2 <= b) A' n' c' l' -> XL (w4.setRow (w.heap.size + 1) #[.int .i64 k, .int .i64 n, .string (bs s), .string (bs m), .slice A1 na c1, .slice A2 no c2]) (fun b => w.heap.size <= b) A' n' c' l' := fun h => XL.keep (by simp [World.setRow]) (fun b _ hS => setRow_other _ _ _ _ (by omega)) (fun b _ hS => by omega) h
   exact XV.shut HN.out (keep (XL.more (hx1.below hb2) (fun b _ h => Nat.le_trans hS1 h))) (keep (XL.more hx2 (fun b _ h => Nat.le_trans hw2 h))))
  have HZ9 := hI (show ((w4.setRow (w.heap.size + 1) #[.int .i64 k, .int .i64 n, .string (bs s), .string (bs m), .slice A1 na c1, .slice A2 no c2]).cell? ⟨w.heap.size, 0, none⟩ = some (.int .i64 k) /\ (w4.setRow (w.heap.size + 1) #[.int .i64 k, .int .i64 n, .string (bs s), .string (bs m), .slice A1 na c1, .slice A2 no c2]).cell? ⟨w.heap.size, 1, none⟩ = some (.int .i64 n) /\ (w4.setRow (w.heap.size + 1) #[.int .i64 k, .int .i64 n, .string (bs s), .string (bs m), .slice A1 na c1, .slice A2 no c2]).cell? ⟨w.heap.size, 2, none⟩ = some (.string (bs s)) /\ (w4.setRow (w.heap.size + 1) #[.int .i64 k, .int .i64 n, .string (bs s), .string (bs m), .slice A1 na c1, .slice A2 no c2]).cell? ⟨w.heap.size, 3, none⟩ = some (.string (bs m)) /\ (w4.setRow (w.heap.size + 1) #[.int .i64 k, .int .i64 n, .string (bs s), .string (bs m), .slice A1 na c1, .slice A2 no c2]).cell? ⟨w.heap.size, 4, none⟩ = some (.slice A na ca) /\ (w4.setRow (w.heap.size + 1) #[.int .i64 k, .int .i64 n, .string (bs s), .string (bs m), .slice A1 na c1, .slice A2 no c2]).cell? ⟨w.heap.size, 5, none⟩ = some (.slice O no co)) from by
   obtain ⟨g0, g1, g2, g3, g4, g5⟩ := HF.out _ z4
   refine ⟨?_, ?_, ?_, ?_, ?_, ?_⟩ <;> (rw [cell_setRow_other _ _ _ _ (by show w.heap.size ≠ w.heap.size + 1; omega)]; assumption))
  generalize w4.setRow (w.heap.size + 1) #[.int .i64 k, .int .i64 n, .string (bs s), .string (bs m), .slice A1 na c1, .slice A2 no c2] = w9 at *
  refine hK.out _ _ HZ9.out (fun hHeld9 => ?_)
  clear hK
  try simp only [Act.put, sA, sB, sC]
  refine wpAnyH_done (by kernel_rfl) ?_ _
  go_wp2_with fail
  refine bodyPost_ret (results_cell_row rfl _ _ (w.heap.size + 1) _ _ _ _ rfl HROW.out Tryz.underlying27 rfl ex_size) rfl ⟨_, rfl, HXV.out, HBF.out⟩
theorem rconvL_of {l : List Ex} (h : ∀ e ∈ l, RConvE e) : RConvL l := by
 intro w S A n c hz hl
 have HIN := hI h
 have HL := hI hl
 have HLN := hI hl.1.1
 have HZ := hI hz
 have hn6 : (n : Int) <= 1000000 := by have := hl.1.1; have := Ex.len_sizes l; omega
 have HO0 := hI (show OwnG XV 27 6 w w.heap.size (.slice none 0 0) (l.take 0) from OwnG.nil w _)
 have HB0 := hI (Below.refl w.heap.size w)
 clear h hl hz
 go_enter Tryz.func43, Tryz.ntmps43
 go_wp2_with fail
 go_loopw [3, 8] (fun vv i wr => ∃ k : Nat, k <= l.length /\ i = .int .i64 k /\ Hid (OwnG XV 27 6 wr w.heap.size vv (l.take k)) /\ Hid (Below w.heap.size w wr)) (fun _ i _ => l.length - (intOf i).toNat)
 case atStart => exact ⟨0, Nat.zero_le _, rfl, HO0, HB0⟩
 case round =>
  clear HO0 HB0
  obtain ⟨k, hk, rfl, HO, B⟩ := hrel
  by_cases hlt : k < l.length
  ·have hi2 : (k : Int) < (n : Int) := by have := HLN.out; omega
   have WK : IntKind.i64.wrap ((k : Int) + 1) = ((k + 1 : Nat) : Int) := wrap_nat k 1 (by omega)
   obtain ⟨k1, hk1⟩ : ∃ z, z = k + 1 := ⟨_, rfl⟩
   rw [<- hk1] at WK
   have K1 := hI hk1
   obtain ⟨x, b, off, cs, hx, rfl, hb, hS, hxv, hrow⟩ := HL.out.at k (by have := HLN.out; omega)
   have HQL := hI hlt
   have hmem := List.mem_of_getElem? hx
   have HSN := hI (show l.take k1 = l.take k ++ [x] by rw [hk1, List.take_add_one, hx]; rfl)
   have hrow2 := rangeAt_keep hrow (B.out.block b hb)
   have HM := hI (show (l.take k).length + 1 <= 1000000 by rw [List.length_take]; have := Ex.len_sizes l; have := HZ.out; omega)
   obtain ⟨xk, xn, xs, xm, A2, na2, ca2, O2, no2, co2, rfl⟩ := hxv.cells6
   obtain ⟨e0, e1, e2, e3, e4, e5⟩ := exC_at hrow2
   obtain ⟨wx, hwx⟩ : ∃ W, W = wr.alloc (.cells #[.int .i64 xk, .int .i64 xn, .string (bs xs), .string (bs xm), .slice A2 na2 ca2, .slice O2 no2 co2] 54) := ⟨_, rfl⟩
   have hbx : Below wr.heap.size wr wx := by rw [hwx]; exact (Below.refl _ _).alloc (Nat.le_refl _) _
   have YB := hI (show HB 54 wx wr.heap.size #[.int .i64 xk, .int .i64 xn, .string (bs xs), .string (bs xm), .slice A2 na2 ca2, .slice O2 no2 co2] from by rw [hwx]; exact heap_alloc_new wr _)
   have HTX := hI (show Calls Tryz.prog 20 #[.agg #[.int .i64 xk, .int .i64 xn, .string (bs xs), .string (bs xm), .slice A2 na2 ca2, .slice O2 no2 co2]] wx _ from HIN.out x hmem wx S _ (by have := Ex.sizes_mem hmem; have := HZ.out; omega) ((hxv.below B.out).below hbx))
   have OL := hI fun k hk => (HO.out.lt k hk).2
   have HW := hI hbx.size
   have HBZ := hI B.out.size
   obtain h0 := HO.out
   clear HO
   have OW := hI (h0.below okXV hbx)
   clear h0
   replace B := hI (B.out.trans (hbx.mono B.out.size))
   clear hx hb hS hxv hrow hrow2 hlt hmem hbx hk1
   go_upto_region 5 with fail
   rw [<- hwx]
   clear hwx e0 e1 e2 e3 e4 e5
   generalize wr.heap.size = yb at *
   go_wp2_with (with_reducible refine at_load_ (t := 54) ?_; refine Hid.out ?_)
   refine hI ?_
   refine wpList_load_row rfl _ _ rfl yb rfl _ _ _ _ YB.out Tryz.underlying54 rfl rx_size ?_
   go_wp2_with fail
   refine HTX.out.mono ?_
   rintro e wo ⟨cs', rfl, hxo, hbo⟩
   obtain ⟨k3, n3, s3, m3, A3, na3, ca3, O3, no3, co3, rfl⟩ := hxo.cells6
   rw [show (exC k3 n3 s3 m3 A3 na3 ca3 O3 no3 co3).toArray = #[.int .i64 k3, .int .i64 n3, .string (bs s3), .string (bs m3), .slice A3 na3 ca3, .slice O3 no3 co3] from rfl]
   obtain ⟨wv, hwv⟩ : ∃ W, W = wo.alloc (.cells #[.int .i64 k3, .int .i64 n3, .string (bs s3), .string (bs m3), .slice A3 na3 ca3, .slice O3 no3 co3] 27) := ⟨_, rfl⟩
   have hbv : Below wo.heap.size wo wv := by rw [hwv]; exact (Below.refl _ _).alloc (Nat.le_refl _) _
   have hrv : wv.heap[wo.heap.size]? = some (.cells #[.int .i64 k3, .int .i64 n3, .string (bs s3), .string (bs m3), .slice A3 na3 ca3, .slice O3 no3 co3] 27 (0, 0)) := by rw [hwv]; exact heap_alloc_new wo _
   have HQV := hI (lt_of_block hrv)
   have HRV := hI (range_new (cs := exC k3 n3 s3 m3 A3 na3 ca3 O3 no3 co3) hrv)
   have VV := hI (hxo.below hbv)
   replace OW := hI ((OW.out.below okXV hbo).below okXV hbv)
   replace B := hI (B.out.trans (hbo.mono B.out.size))
   replace B := hI (B.out.trans (hbv.mono B.out.size))
   clear hbv hrv hxo hbo HTX YB
   go_wp2_with (at_builtin; refine Hid.out ?_)
   refine hI ?_
   rw [<- hwv]
   clear hwv
   generalize wo.heap.size = vb at *
   refine apG rfl (.tmp 12) (.tmp 15) rfl okXV apk_x w.heap.size wx.heap.size _ (l.take k) rfl OW.out vb x _ rfl HQV.out HRV.out VV.out HM.out B.out.size (fun k hk => Nat.lt_of_lt_of_le (OL.out k hk) HW.out) (Nat.le_trans HBZ.out HW.out) ?_
   intro v3 w4 ho hg
   have HO4 := hI ho
   have HB4 := hI (B.out.grown hg B.out.size (fun q hq => (OW.out.lt q hq).1))
   clear ho hg
   go_wp2
   go_roundw
   case rel => exact ⟨k1, by rw [K1.out]; exact HQL.out, rfl, by rw [HSN.out]; exact HO4, HB4⟩
   case measure => rw [K1.out]; exact meas_up _ _ HQL.out
  have hi2 : ¬ (k : Int) < (n : Int) := by have := HLN.out; omega
  have HF := hI (show l.take k = l from List.take_of_length_le (by omega))
  rw [HF.out] at HO
  clear hlt hk
  obtain ⟨A3, c3, hv3, hl3⟩ := HO.out.xl
  have HL3 := hI hl3
  clear hl3
  subst hv3
  go_wp2
  go_ret
  exact ⟨A3, c3, by rw [HLN.out]; rfl, by rw [HLN.out]; exact HL3.out, B.out⟩
theorem rconvE_any (e : Ex) : RConvE e := by
 obtain ⟨N, hN⟩ : ∃ N, N = e.size := ⟨_, rfl⟩
 induction N using Nat.strongRecOn generalizing e with
 | _ N ih =>
  obtain ⟨k, n, s, m, a, o⟩ := e
  exact rconvE_of k n s m a o (rconvL_of fun x hx => ih x.size (by have := Ex.sizes_mem hx; rw [hN, Ex.size]; omega) x rfl) (rconvL_of fun x hx => ih x.size (by have := Ex.sizes_mem hx; rw [hN, Ex.size]; omega) x rfl)
open Go.RowKit
/-- A row of the call's own that holds these. -/
def ROwnT (w : World) (base : Nat) (v : Value) (l : List St) : Prop := ∃ css : List (List Value), css.length = l.length /\ w.ownsRow base 74 11 v l.length css.flatten /\ (∀ cs ∈ css, cs.length = 11) /\ ∀ (i : Nat) (x : St), l[i]? = some x -> ∃ cs, css[i]? = some cs /\ SV w (fun b => base <= b /\ v.ownBlock ≠ some b) x cs
theorem ROwnT.nil (w : World) (base : Nat) : ROwnT w base (.slice none 0 0) [] := by
 refine ⟨[], rfl, ?_, ?_, ?_⟩
 ·exact World.ownsRow_nil _ _ _ _
 ·intro cs h
  cases h
 intro i x h
 simp at h
theorem ROwnT.below {w w' : World} {base : Nat} {v : Value} {l : List St} (h : ROwnT w base v l) (hb : Below w.heap.size w w') : ROwnT w' base v l := by
 obtain ⟨css, h1, h2, h3, h4⟩ := h
 refine ⟨css, h1, World.ownsRow.kept (row := none) h2 ⟨hb.os, hb.tape, hb.output, hb.size, fun k hk _ => hb.block k hk⟩ (by cases hv : v.ownBlock <;> simp), h3, fun i x hx => ?_⟩
 obtain ⟨cs, e1, e2⟩ := h4 i x hx
 exact ⟨cs, e1, e2.below hb⟩
theorem ROwnT.lt {w : World} {base : Nat} {v : Value} {l : List St} (h : ROwnT w base v l) : ∀ k, v.ownBlock = some k -> base <= k /\ k < w.heap.size := by
 obtain ⟨css, h1, h2, h3, h4⟩ := h
 exact fun k hk => h2.lt k hk
theorem ROwnT.list {w : World} {base : Nat} {v : Value} {l : List St} (h : ROwnT w base v l) : ∃ A c, v = .slice A l.length c /\ SL w (fun b => base <= b) A l.length c l := by
 obtain ⟨css, h1, h2, h3, h4⟩ := h
 have hlt := h2.lt
 obtain ⟨A, c, rfl, hc, hA, hR⟩ := own_reads (S := fun b => base <= b) h2 (fun _ h => h)
 refine ⟨A, c, rfl, ⟨rfl, hc, hA⟩, fun hn => ?_⟩
 obtain ⟨b, o, rfl, hb, hS, hcell⟩ := hR.2 hn
 refine ⟨b, o, rfl, hb, hS, SLf_of fun j x hj => ?_⟩
 obtain ⟨cs, e1, e2⟩ := h4 j x hj
 refine ⟨cs, e2.more fun b _ h => h.1, fun r u hu => ?_⟩
 have hf := flatG 11 css h3 j cs e1 r u hu
 have := hcell _ _ hf
 rw [Nat.zero_add, show o + j * 11 + r = o + (j * 11 + r) by omega]
 exact this
theorem ROwnT.push {w1 w2 : World} {base lo : Nat} {v v' : Value} {l : List St} {x : St} {cs : List Value} (h : ∃ css : List (List Value), css.length = l.length /\ (∀ cs ∈ css, cs.length = 11) /\ (∀ (i : Nat) (x : St), l[i]? = some x -> ∃ cs, css[i]? = some cs /\ SV w1 (fun b => base <= b /\ v.ownBlock ≠ some b) x cs) /\ w2.ownsRow base 74 11 v' (l.length + 1) (css.flatten ++ cs))
  (hv : ∀ k, v.ownBlock = some k -> k < lo) (hlo : base <= lo) (hx : SV w1 (fun b => lo <= b) x cs) (hg : w1.grownBy w2 v.ownBlock) (ho : v'.ownBlock = v.ownBlock ∨ v'.ownBlock = some w1.heap.size) : ROwnT w2 base v' (l ++ [x]) := by
 obtain ⟨css, h1, h3, h4, h2⟩ := h
 have keep : ∀ {y : St} {ds : List Value}, SV w1 (fun b => base <= b /\ v.ownBlock ≠ some b) y ds -> SV w2 (fun b => base <= b /\ v'.ownBlock ≠ some b) y ds := fun hy =>
  SV.keep hg.size (fun b hb hS => hg.block b hb (fun e => hS.2 e.symm)) (fun b hb hS => ⟨hS.1, by
   rcases ho with e | e
   ·rw [e]; exact hS.2
   rw [e]; intro e2; injection e2 with e2; omega⟩) hy
 refine ⟨css ++ [cs], by simp [h1], by rw [List.length_append, List.flatten_append]; simpa using h2, fun ds hd => ?_, fun i y hy => ?_⟩
 ·rcases List.mem_append.1 hd with h | h
  ·exact h3 ds h
  rw [List.mem_singleton.1 h]; exact hx.len
 by_cases hi : i < l.length
 ·rw [List.getElem?_append_left hi] at hy
  obtain ⟨ds, e1, e2⟩ := h4 i y hy
  exact ⟨ds, by rw [List.getElem?_append_left (by omega)]; exact e1, keep e2⟩
 have hil : i = l.length := by have := (List.getElem?_eq_some_iff.1 hy).1; simp at this; omega
 subst hil
 obtain rfl : x = y := by simpa using hy
 refine ⟨cs, by rw [<- h1]; simp, keep (SV.more hx fun b _ h => ⟨Nat.le_trans hlo h, fun e => by have := hv b e; omega⟩)⟩
theorem rinfoT3 : (Tryz.prog.info? 74).map (fun i => (i.zero, i.size, i.bytes)) = some (some (.agg #[.int .i64 0, .string ⟨#[]⟩, .int .i64 0, .int .i64 0, .int .i64 0, .string ⟨#[]⟩, .string ⟨#[]⟩, .slice none 0 0, .slice none 0 0, .slice none 0 0, .slice none 0 0]), 11, 176) := by kernel_rfl
theorem rinfoT : ∃ i, Tryz.prog.info? 74 = some i /\ i.zero = some (.agg #[.int .i64 0, .string ⟨#[]⟩, .int .i64 0, .int .i64 0, .int .i64 0, .string ⟨#[]⟩, .string ⟨#[]⟩, .slice none 0 0, .slice none 0 0, .slice none 0 0, .slice none 0 0]) /\ i.size = 11 /\ i.bytes = 176 := by
 obtain ⟨i, h1, h2⟩ := Option.map_eq_some_iff.1 rinfoT3
 injection h2 with h2 h3
 injection h3 with h3 h4
 exact ⟨i, h1, h2, h3, h4⟩
theorem rapT {w : World} {K : Act -> World -> Prop} {o : Oper} {a : Act} {Q : Exit -> Act -> World -> Prop} (s x : Operand)
  (ho : o.op = .call { callee := .builtin .append, args := #[s, x], argTypes := #[72, 72] }) (base lo : Nat) (v : Value) (l : List St) (hs : a.eval s = v) (hO : ROwnT w base v l)
  (q : Nat) (y : St) (cs : List Value) (hx : a.eval x = .slice (some ⟨q, 0, none⟩) 1 1) (hq : q < w.heap.size) (hc : w.rangeAt q 0 cs) (hy : SV w (fun b => lo <= b) y cs) (h1 : l.length + 1 <= 1000000) (hb : base <= w.heap.size) (hv : ∀ k, v.ownBlock = some k -> k < lo) (hlo : base <= lo)
  (h : ∀ v' w', ROwnT w' base v' (l ++ [y]) -> w.grownBy w' v.ownBlock -> K (a.put o.dst v') w') : o.wp Tryz.prog a w K Q := by
 obtain ⟨ie, hie0, hie1, hie2, hie3⟩ := rinfoT
 obtain ⟨css, c1, c2, c3, c4⟩ := hO
 have hR : Reads w (fun _ => True) 11 (some ⟨q, 0, none⟩) 1 cs := ⟨by rw [hy.len], fun _ => ⟨q, 0, rfl, hq, trivial, fun j y hy => by have := hc j y hy; simpa using this⟩⟩
 obtain ⟨v', w', hrun, h2, h3, h4⟩ := run_append_any (P := Tryz.prog) w base 72 o.type 74 ie _ 11 176 Tryz.underlying72 hie0 hie1 hie2 hie3 rfl (by omega) v l.length _ c2 (fun _ => True) _ 1 1 _ hR hy.one (by simp only [maxLen]; omega) (by omega) hb
 unfold Oper.wp execOp
 simp only [ho, resolve, invoke, builtin, Sem.run_bind, Sem.run_pure, Result.andThen_ok, List.map_toArray, List.map_cons, List.map_nil, hs, hx, hrun]
 exact h v' w' (ROwnT.push ⟨css, c1, c3, c4, h2⟩ hv hlo hy h3 h4) h3
def RConvS (l : List St) : Prop := ∀ (w : World) (S : Nat -> Prop) (A : Option Addr) (n c : Nat), St.sizes l <= 1000000 -> SL w S A n c l -> Calls Tryz.prog 39 #[.slice A n c] w fun e' w' => ∃ A' c', e' = .returned (.slice A' n c') /\ SL w' (fun b => w.heap.size <= b) A' n c' l /\ Below w.heap.size w w'
theorem rconvS_of {l : List St} (h : ∀ e ∈ l, RConvS e.body /\ RConvS e.els) : RConvS l := by
 intro w S A n c hz hl
 have HIN := hI h
 have HL := hI hl
 have HLN := hI hl.1.1
 have HZ := hI hz
 have hn6 : (n : Int) <= 1000000 := by have := hl.1.1; have := St.len_sizes l; omega
 have HO0 := hI (show ROwnT w w.heap.size (.slice none 0 0) (l.take 0) from ROwnT.nil w _)
 have HB0 := hI (Below.refl w.heap.size w)
 clear h hl hz
 go_enter Tryz.func39, Tryz.ntmps39
 go_wp2_with fail
 go_loopw [3, 8] (fun vv i wr => ∃ k : Nat, k <= l.length /\ i = .int .i64 k /\ Hid (ROwnT wr w.heap.size vv (l.take k)) /\ Hid (Below w.heap.size w wr)) (fun _ i _ => l.length - (intOf i).toNat)
 case atStart => exact ⟨0, Nat.zero_le _, rfl, HO0, HB0⟩
 case round =>
  clear HO0 HB0
  obtain ⟨k, hk, rfl, HO, HB⟩ := hrel
  obtain ⟨vv, hvv⟩ : ∃ vv, vv = u3 := ⟨_, rfl⟩
  subst hvv
  by_cases hlt : k < l.length
  ·have hi2 : (k : Int) < (n : Int) := by have := HLN.out; omega
   obtain ⟨x, b, off, cs, hx, rfl, hb, hS, hxv, hrow⟩ := HL.out.at k (by have := HLN.out; omega)
   have HQL := hI hlt
   have hmem := List.mem_of_getElem? hx
   have HSN := hI (show l.take (k + 1) = l.take k ++ [x] by rw [List.take_add_one, hx]; rfl)
   have hrow2 := rangeAt_keep hrow (HB.out.block b hb)
   have HM := hI (show (l.take k).length + 1 <= 1000000 by rw [List.length_take]; have := St.len_sizes l; have := HZ.out; omega)
   have hxz : x.size <= 1000000 := by have := St.sizes_mem hmem; have := HZ.out; omega
   have hih := HIN.out x hmem
   obtain ⟨xk, xs, xn, xe, xb, xl⟩ := x
   have HNR := hI hxv.num
   obtain ⟨ex, B2, nb2, cb2, L2, nl2, cl2, rfl, hex, hxb, hxl⟩ := hxv.open_
   rw [St.size] at hxz
   obtain ⟨ek, en, es, em, ea, eo⟩ := xe
   obtain ⟨A2, na2, ca2, O2, no2, co2, rfl, hxa, hxo⟩ := hex.open_
   have HLA := hI (And.intro hxa.1.1 hxo.1.1)
   obtain ⟨e0, e1, e2, e3, e4, e5, e6, e7, e8, e9, e10⟩ := stC_at hrow2
   obtain ⟨W0, hW0⟩ : ∃ W0 : World, W0 = wr.alloc (.cells #[.int .i64 xk, .string (bs xs), .int .i64 xn, .int .i64 ek, .int .i64 en, .string (bs es), .string (bs em), .slice A2 na2 ca2, .slice O2 no2 co2, .slice B2 nb2 cb2, .slice L2 nl2 cl2] 136) := ⟨_, rfl⟩
   have HROW := hI (show W0.heap[wr.heap.size]? = some (.cells #[.int .i64 xk, .string (bs xs), .int .i64 xn, .int .i64 ek, .int .i64 en, .string (bs es), .string (bs em), .slice A2 na2 ca2, .slice O2 no2 co2, .slice B2 nb2 cb2, .slice L2 nl2 cl2] 136 (0, 0)) from by rw [hW0]; exact heap_alloc_new wr _)
   have HLT := hI (show wr.heap.size < W0.heap.size from by rw [hW0]; exact lt_new _ _)
   have HAL := hI (show Below wr.heap.size wr W0 from by rw [hW0]; exact (Below.refl _ _).alloc (Nat.le_refl _) _)
   have HF := hI (show ∀ W, Bz W0 W -> (W.cell? ⟨wr.heap.size, 0, none⟩ = some (.int .i64 xk) /\ W.cell? ⟨wr.heap.size, 1, none⟩ = some (.string (bs xs)) /\ W.cell? ⟨wr.heap.size, 2, none⟩ = some (.int .i64 xn) /\ W.cell? ⟨wr.heap.size, 3, none⟩ = some (.int .i64 ek) /\ W.cell? ⟨wr.heap.size, 4, none⟩ = some (.int .i64 en) /\ W.cell? ⟨wr.heap.size, 5, none⟩ = some (.string (bs es)) /\ W.cell? ⟨wr.heap.size, 6, none⟩ = some (.string (bs em)) /\ W.cell? ⟨wr.heap.size, 7, none⟩ = some (.slice A2 na2 ca2) /\ W.cell? ⟨wr.heap.size, 8, none⟩ = some (.slice O2 no2 co2) /\ W.cell? ⟨wr.heap.size, 9, none⟩ = some (.slice B2 nb2 cb2) /\ W.cell? ⟨wr.heap.size, 10, none⟩ = some (.slice L2 nl2 cl2)) from fun W h => st_cells ((h.b.block _ HLT.out).trans HROW.out))
   have HG := hI (show ∀ W, Bz W0 W -> Below w.heap.size w W from fun W h => (HB.out.trans (HAL.out.mono HB.out.size)).trans (h.b.mono (Nat.le_trans HB.out.size HAL.out.size)))
   have KE := hI (show ∀ W, Bz W0 W -> Calls Tryz.prog 20 #[.agg #[.int .i64 ek, .int .i64 en, .string (bs es), .string (bs em), .slice A2 na2 ca2, .slice O2 no2 co2]] W fun e' w' => ∃ cs', e' = .returned (.agg cs'.toArray) /\ XV w' (fun b => W0.heap.size <= b) (.mk ek en es em ea eo) cs' /\ Below W.heap.size W w' from fun W h => (rconvE_any _ W S _ (by omega) (hex.below (HG.out W h))).mono (by
    rintro e w' ⟨cs', h1, h2, h3⟩
    exact ⟨cs', h1, h2.more fun b _ hb => Nat.le_trans h.b.size hb, h3⟩))
   have KB := hI (show ∀ W, Bz W0 W -> Calls Tryz.prog 39 #[.slice B2 nb2 cb2] W fun e' w' => ∃ A' c', e' = .returned (.slice A' nb2 c') /\ SL w' (fun b => W.heap.size <= b) A' nb2 c' xb /\ Below W.heap.size W w' from fun W h => hih.1 W S B2 nb2 cb2 (by show St.sizes xb <= _; omega) (hxb.below (HG.out W h)))
   have KL := hI (show ∀ W, Bz W0 W -> Calls Tryz.prog 39 #[.slice L2 nl2 cl2] W fun e' w' => ∃ A' c', e' = .returned (.slice A' nl2 c') /\ SL w' (fun b => W.heap.size <= b) A' nl2 c' xl /\ Below W.heap.size W w' from fun W h => hih.2 W S L2 nl2 cl2 (by show St.sizes xl <= _; omega) (hxl.below (HG.out W h)))
   clear hx hb hS hxv hrow hrow2 hlt hmem hex hxb hxl hxa hxo hih hxz
   go_upto_region 5 with fail
   rw [<- hW0]
   clear hW0 e0 e1 e2 e3 e4 e5 e6 e7 e8 e9 e10
   have z0 : Bz W0 W0 := ⟨Below.refl _ _⟩
   have z1 := z0.drew
   refine wp_region_held_drew (S := fun W => W.cell? ⟨wr.heap.size, 0, none⟩ = some (.int .i64 xk) /\ W.cell? ⟨wr.heap.size, 1, none⟩ = some (.string (bs xs)) /\ W.cell? ⟨wr.heap.size, 2, none⟩ = some (.int .i64 xn) /\ W.cell? ⟨wr.heap.size, 3, none⟩ = some (.int .i64 ek) /\ W.cell? ⟨wr.heap.size, 4, none⟩ = some (.int .i64 en) /\ W.cell? ⟨wr.heap.size, 5, none⟩ = some (.string (bs es)) /\ W.cell? ⟨wr.heap.size, 6, none⟩ = some (.string (bs em)) /\ W.cell? ⟨wr.heap.size, 7, none⟩ = some (.slice A2 na2 ca2) /\ W.cell? ⟨wr.heap.size, 8, none⟩ = some (.slice O2 no2 co2) /\ W.cell? ⟨wr.heap.size, 9, none⟩ = some (.slice B2 nb2 cb2) /\ W.cell? ⟨wr.heap.size, 10, none⟩ = some (.slice L2 nl2 cl2)) (by kernel_rfl) (HF.out _ z1) (fun hHeld => ?_)
   refine wpAnyH_take (i := 0) (oi := ⟨some 12, _, _, _, _, _⟩) (v := vv) rfl (by kernel_rfl) (by kernel_rfl) (by kernel_rfl) (fun _ _ _ h => h) (Or.inl ⟨by rfl, ?_⟩) hHeld ?_
   ·intro W hW
    obtain ⟨h0, h1, h2, h3, h4, h5, h6, h7, h8, h9, h10⟩ := hW
    go_simp
   try simp only [Act.put, sA, sB, sC]
   refine wpAnyH_take (i := 1) (oi := ⟨some 13, _, _, _, _, _⟩) (v := .pointer (some ⟨wr.heap.size, 0, none⟩)) rfl (by kernel_rfl) (by kernel_rfl) (by kernel_rfl) (fun _ _ _ h => h) (Or.inl ⟨by rfl, ?_⟩) hHeld ?_
   ·intro W hW
    obtain ⟨h0, h1, h2, h3, h4, h5, h6, h7, h8, h9, h10⟩ := hW
    go_simp
   try simp only [Act.put, sA, sB, sC]
   refine wpAnyH_take (i := 2) (oi := ⟨some 14, _, _, _, _, _⟩) (v := .int .i64 xk) rfl (by kernel_rfl) (by kernel_rfl) (by kernel_rfl) (fun _ _ _ h => h) (Or.inl ⟨by rfl, ?_⟩) hHeld ?_
   ·intro W hW
    obtain ⟨h0, h1, h2, h3, h4, h5, h6, h7, h8, h9, h10⟩ := hW
    go_simp
   try simp only [Act.put, sA, sB, sC]
   refine wpAnyH_take (i := 3) (oi := ⟨some 15, _, _, _, _, _⟩) (v := .pointer (some ⟨wr.heap.size, 1, none⟩)) rfl (by kernel_rfl) (by kernel_rfl) (by kernel_rfl) (fun _ _ _ h => h) (Or.inl ⟨by rfl, ?_⟩) hHeld ?_
   ·intro W hW
    obtain ⟨h0, h1, h2, h3, h4, h5, h6, h7, h8, h9, h10⟩ := hW
    go_simp
   try simp only [Act.put, sA, sB, sC]
   refine wpAnyH_take (i := 4) (oi := ⟨some 16, _, _, _, _, _⟩) (v := .string (bs xs)) rfl (by kernel_rfl) (by kernel_rfl) (by kernel_rfl) (fun _ _ _ h => h) (Or.inl ⟨by rfl, ?_⟩) hHeld ?_
   ·intro W hW
    obtain ⟨h0, h1, h2, h3, h4, h5, h6, h7, h8, h9, h10⟩ := hW
    go_simp
   try simp only [Act.put, sA, sB, sC]
   refine wpAnyH_take (i := 5) (oi := ⟨some 17, _, _, _, _, _⟩) (v := .pointer (some ⟨wr.heap.size, 2, none⟩)) rfl (by kernel_rfl) (by kernel_rfl) (by kernel_rfl) (fun _ _ _ h => h) (Or.inl ⟨by rfl, ?_⟩) hHeld ?_
   ·intro W hW
    obtain ⟨h0, h1, h2, h3, h4, h5, h6, h7, h8, h9, h10⟩ := hW
    go_simp
   try simp only [Act.put, sA, sB, sC]
   refine wpAnyH_take (i := 6) (oi := ⟨some 18, _, _, _, _, _⟩) (v := .int .i64 xn) rfl (by kernel_rfl) (by kernel_rfl) (by kernel_rfl) (fun _ _ _ h => h) (Or.inl ⟨by rfl, ?_⟩) hHeld ?_
   ·intro W hW
    obtain ⟨h0, h1, h2, h3, h4, h5, h6, h7, h8, h9, h10⟩ := hW
    go_simp
   try simp only [Act.put, sA, sB, sC]
   refine wpAnyH_take (i := 7) (oi := ⟨some 19, _, _, _, _, _⟩) (v := .pointer (some ⟨wr.heap.size, 3, none⟩)) rfl (by kernel_rfl) (by kernel_rfl) (by kernel_rfl) (fun _ _ _ h => h) (Or.inl ⟨by rfl, ?_⟩) hHeld ?_
   ·intro W hW
    obtain ⟨h0, h1, h2, h3, h4, h5, h6, h7, h8, h9, h10⟩ := hW
    go_simp
   try simp only [Act.put, sA, sB, sC]
   refine wpAnyH_take (i := 8) (oi := ⟨some 20, _, _, _, _, _⟩) (v := .agg #[.int .i64 ek, .int .i64 en, .string (bs es), .string (bs em), .slice A2 na2 ca2, .slice O2 no2 co2]) rfl (by kernel_rfl) (by kernel_rfl) (by kernel_rfl) (fun _ _ _ h => h) (Or.inl ⟨by rfl, ?_⟩) hHeld ?_
   ·intro W hW
    obtain ⟨h0, h1, h2, h3, h4, h5, h6, h7, h8, h9, h10⟩ := hW
    go_simp
   try simp only [Act.put, sA, sB, sC]
   refine wpAnyH_take (i := 10) (oi := ⟨some 22, _, _, _, _, _⟩) (v := .pointer (some ⟨wr.heap.size, 9, none⟩)) rfl (by kernel_rfl) (by kernel_rfl) (by kernel_rfl) (fun _ _ _ h => h) (Or.inl ⟨by rfl, ?_⟩) hHeld ?_
   ·intro W hW
    obtain ⟨h0, h1, h2, h3, h4, h5, h6, h7, h8, h9, h10⟩ := hW
    go_simp
   try simp only [Act.put, sA, sB, sC]
   refine wpAnyH_take (i := 11) (oi := ⟨some 23, _, _, _, _, _⟩) (v := .slice B2 nb2 cb2) rfl (by kernel_rfl) (by kernel_rfl) (by kernel_rfl) (fun _ _ _ h => h) (Or.inl ⟨by rfl, ?_⟩) hHeld ?_
   ·intro W hW
    obtain ⟨h0, h1, h2, h3, h4, h5, h6, h7, h8, h9, h10⟩ := hW
    go_simp
   try simp only [Act.put, sA, sB, sC]
   refine wpAnyH_take (i := 13) (oi := ⟨some 25, _, _, _, _, _⟩) (v := .pointer (some ⟨wr.heap.size, 10, none⟩)) rfl (by kernel_rfl) (by kernel_rfl) (by kernel_rfl) (fun _ _ _ h => h) (Or.inl ⟨by rfl, ?_⟩) hHeld ?_
   ·intro W hW
    obtain ⟨h0, h1, h2, h3, h4, h5, h6, h7, h8, h9, h10⟩ := hW
    go_simp
   try simp only [Act.put, sA, sB, sC]
   refine wpAnyH_take (i := 14) (oi := ⟨some 26, _, _, _, _, _⟩) (v := .slice L2 nl2 cl2) rfl (by kernel_rfl) (by kernel_rfl) (by kernel_rfl) (fun _ _ _ h => h) (Or.inl ⟨by rfl, ?_⟩) hHeld ?_
   ·intro W hW
    obtain ⟨h0, h1, h2, h3, h4, h5, h6, h7, h8, h9, h10⟩ := hW
    go_simp
   try simp only [Act.put, sA, sB, sC]
   refine wpAnyH_ready (rs := [9]) (by kernel_rfl) (by simp) ?_
   refine AllReadyH.cons (o := ⟨some 21, _, _, _, _, _⟩) rfl (fun K hK => ?_) AllReadyH.nil
   refine Eq.mpr (if_pos (by kernel_rfl)) ?_
   go_simp
   refine (KE.out _ z1).mono ?_
   rintro e w2 ⟨cs3, rfl, hx3, hbz2⟩
   obtain ⟨A3, na3, ca3, O3, no3, co3, rfl, ha3, ho3⟩ := hx3.open_
   obtain rfl : na3 = na2 := ha3.1.1.trans HLA.out.1.symm
   obtain rfl : no3 = no2 := ho3.1.1.trans HLA.out.2.symm
   unfold exC
   have z2 := z1.next hbz2
   refine hK.out _ _ (HF.out _ z2) (fun hHeld2 => ?_)
   clear hK
   try simp only [Act.put, sA, sB, sC]
   refine wpAnyH_ready (rs := [12]) (by kernel_rfl) (by simp) ?_
   refine AllReadyH.cons (o := ⟨some 24, _, _, _, _, _⟩) rfl (fun K hK => ?_) AllReadyH.nil
   refine Eq.mpr (if_pos (by kernel_rfl)) ?_
   go_simp
   refine (KB.out _ z2).mono ?_
   rintro e w3 ⟨B3, cb3, rfl, hB3, hbz3⟩
   have z3 := z2.next hbz3
   refine hK.out _ _ (HF.out _ z3) (fun hHeld3 => ?_)
   clear hK
   try simp only [Act.put, sA, sB, sC]
   refine wpAnyH_ready (rs := [15]) (by kernel_rfl) (by simp) ?_
   refine AllReadyH.cons (o := ⟨some 27, _, _, _, _, _⟩) rfl (fun K hK => ?_) AllReadyH.nil
   refine Eq.mpr (if_pos (by kernel_rfl)) ?_
   go_simp
   refine (KL.out _ z3).mono ?_
   rintro e w4 ⟨L3, cl3, rfl, hL3, hbz4⟩
   have z4 := z3.next hbz4
   refine hK.out _ _ (HF.out _ z4) (fun hHeld4 => ?_)
   clear hK
   try simp only [Act.put, sA, sB, sC]
   refine wpAnyH_take (i := 16) (oi := ⟨some 28, _, _, _, _, _⟩) (v := .agg #[.int .i64 xk, .string (bs xs), .int .i64 xn, .int .i64 ek, .int .i64 en, .string (bs es), .string (bs em), .slice A3 na3 ca3, .slice O3 no3 co3, .slice B3 nb2 cb3, .slice L3 nl2 cl3]) rfl (by kernel_rfl) (by kernel_rfl) (by kernel_rfl) (fun _ _ _ h => h) (Or.inl ⟨by rfl, ?_⟩) hHeld4 ?_
   ·intro W hW
    obtain ⟨h0, h1, h2, h3, h4, h5, h6, h7, h8, h9, h10⟩ := hW
    go_simp
   try simp only [Act.put, sA, sB, sC]
   refine wpAnyH_ready (rs := [17]) (by kernel_rfl) (by simp) ?_
   refine AllReadyH.cons (o := ⟨some 29, _, _, _, _, _⟩) rfl (fun K hK => ?_) AllReadyH.nil
   refine Eq.mpr (if_pos (by kernel_rfl)) ?_
   go_simp
   have z5 := Bz.alloc z4 (.cells #[.int .i64 xk, .string (bs xs), .int .i64 xn, .int .i64 ek, .int .i64 en, .string (bs es), .string (bs em), .slice A3 na3 ca3, .slice O3 no3 co3, .slice B3 nb2 cb3, .slice L3 nl2 cl3] 74)
   refine hK.out _ _ (HF.out _ z5) (fun hHeld5 => ?_)
   clear hK
   try simp only [Act.put, sA, sB, sC]
   refine wpAnyH_ready (rs := [18]) (by kernel_rfl) (by simp) ?_
   refine AllReadyH.cons (o := ⟨some 30, _, _, _, _, _⟩) rfl (fun K hK => ?_) AllReadyH.nil
   refine Eq.mpr (if_pos (by kernel_rfl)) ?_
   have hb5 : Below wr.heap.size wr (w4.alloc (.cells #[.int .i64 xk, .string (bs xs), .int .i64 xn, .int .i64 ek, .int .i64 en, .string (bs es), .string (bs em), .slice A3 na3 ca3, .slice O3 no3 co3, .slice B3 nb2 cb3, .slice L3 nl2 cl3] 74)) := HAL.out.trans (z5.b.mono HAL.out.size)
   have hxs : SV (w4.alloc (.cells #[.int .i64 xk, .string (bs xs), .int .i64 xn, .int .i64 ek, .int .i64 en, .string (bs es), .string (bs em), .slice A3 na3 ca3, .slice O3 no3 co3, .slice B3 nb2 cb3, .slice L3 nl2 cl3] 74)) (fun b => wr.heap.size <= b) (.mk xk xs xn (.mk ek en es em ea eo) xb xl) (stC xk xs xn (exC ek en es em A3 na3 ca3 O3 no3 co3) B3 nb2 cb3 L3 nl2 cl3) := by
    have hal : Below w4.heap.size w4 (w4.alloc (.cells #[.int .i64 xk, .string (bs xs), .int .i64 xn, .int .i64 ek, .int .i64 en, .string (bs es), .string (bs em), .slice A3 na3 ca3, .slice O3 no3 co3, .slice B3 nb2 cb3, .slice L3 nl2 cl3] 74)) := (Below.refl _ _).alloc (Nat.le_refl _) _
    have s1 : wr.heap.size <= W0.heap.size := HAL.out.size
    have s2 : wr.heap.size <= w2.heap.size := Nat.le_trans s1 z2.b.size
    have s3 : wr.heap.size <= w3.heap.size := Nat.le_trans s1 z3.b.size
    exact SV.shut HNR.out ((XV.more ((hx3.below hbz3).below hbz4) (fun b _ h => Nat.le_trans s1 h)).below hal) ((SL.more (hB3.below hbz4) (fun b _ h => Nat.le_trans s2 h)).below hal) ((SL.more hL3 (fun b _ h => Nat.le_trans s3 h)).below hal)
   refine rapT (.tmp 12) (.tmp 29) rfl w.heap.size wr.heap.size vv (l.take k) rfl (HO.out.below hb5) w4.heap.size _ _ rfl (lt_new _ _) ?_ hxs HM.out (Nat.le_trans HB.out.size hb5.size) (fun q hq => (HO.out.lt q hq).2) HB.out.size ?_
   ·exact fun j v hv => by rw [cell_of_row _ _ _ _ _ _ (heap_alloc_new w4 _), Nat.zero_add, List.getElem?_toArray]; exact hv
   intro v6 w6 ho6 hg6
   have z6 : (w6.cell? ⟨wr.heap.size, 0, none⟩ = some (.int .i64 xk) /\ w6.cell? ⟨wr.heap.size, 1, none⟩ = some (.string (bs xs)) /\ w6.cell? ⟨wr.heap.size, 2, none⟩ = some (.int .i64 xn) /\ w6.cell? ⟨wr.heap.size, 3, none⟩ = some (.int .i64 ek) /\ w6.cell? ⟨wr.heap.size, 4, none⟩ = some (.int .i64 en) /\ w6.cell? ⟨wr.heap.size, 5, none⟩ = some (.string (bs es)) /\ w6.cell? ⟨wr.heap.size, 6, none⟩ = some (.string (bs em)) /\ w6.cell? ⟨wr.heap.size, 7, none⟩ = some (.slice A2 na3 ca2) /\ w6.cell? ⟨wr.heap.size, 8, none⟩ = some (.slice O2 no3 co2) /\ w6.cell? ⟨wr.heap.size, 9, none⟩ = some (.slice B2 nb2 cb2) /\ w6.cell? ⟨wr.heap.size, 10, none⟩ = some (.slice L2 nl2 cl2)) := by
    have hq : w6.heap[wr.heap.size]? = some (.cells #[.int .i64 xk, .string (bs xs), .int .i64 xn, .int .i64 ek, .int .i64 en, .string (bs es), .string (bs em), .slice A2 na3 ca2, .slice O2 no3 co2, .slice B2 nb2 cb2, .slice L2 nl2 cl2] 136 (0, 0)) := (hg6.block _ (Nat.lt_of_lt_of_le HLT.out z5.b.size) (by intro e; have := (HO.out.lt _ e.symm).2; omega)).trans ((z5.b.block _ HLT.out).trans HROW.out)
    exact st_cells hq
   have HO6 := hI (show ROwnT w6 w.heap.size v6 (l.take (k + 1)) by rw [HSN.out]; exact ho6)
   have HB6 := hI ((HB.out.trans (hb5.mono HB.out.size)).grown hg6 (Nat.le_trans HB.out.size hb5.size) (fun q hq => (HO.out.lt q hq).1))
   refine hK.out _ _ z6 (fun hHeld6 => ?_)
   clear hK
   try simp only [Act.put, sA, sB, sC]
   refine wpAnyH_take (i := 19) (oi := ⟨some 3, _, _, _, _, _⟩) (v := v6) rfl (by kernel_rfl) (by kernel_rfl) (by kernel_rfl) (fun _ _ _ h => h) (Or.inl ⟨by rfl, ?_⟩) hHeld6 ?_
   ·intro W hW
    obtain ⟨h0, h1, h2, h3, h4, h5, h6, h7, h8, h9, h10⟩ := hW
    go_simp
   try simp only [Act.put, sA, sB, sC]
   refine wpAnyH_done (by kernel_rfl) ?_ _
   go_wp2_with fail
   go_roundw
   case rel => exact ⟨k + 1, HQL.out, by go_num, HO6, HB6⟩
   case measure => exact meas_up _ _ HQL.out
  have hi2 : ¬ (k : Int) < (n : Int) := by have := HLN.out; omega
  have HF := hI (show l.take k = l from List.take_of_length_le (by omega))
  rw [HF.out] at HO
  clear hlt hk
  obtain ⟨A3, c3, hv3, hl3⟩ := HO.out.list
  have HL3 := hI hl3
  have HV3 := hI hv3
  clear hl3
  subst hv3
  go_wp2
  go_ret
  exact ⟨A3, c3, by rw [HLN.out]; rfl, by rw [HLN.out]; exact HL3.out, HB.out⟩
theorem rconvS_size (N : Nat) : ∀ l : List St, St.sizes l <= N -> RConvS l := by
 induction N using Nat.strongRecOn with
 | _ N ih =>
  intro l hl
  refine rconvS_of fun e he => ?_
  have h1 := St.sizes_mem he
  obtain ⟨k, s, n, x, b, l'⟩ := e
  rw [St.size] at h1
  exact ⟨ih (St.sizes b) (by omega) b (Nat.le_refl _), ih (St.sizes l') (by omega) l' (Nat.le_refl _)⟩
theorem rconvS_any (l : List St) : RConvS l := rconvS_size _ l (Nat.le_refl _)
open Go.RowKit
/-- An operation whose parameters lie where they lay at the world wb. -/
def OW (wb : World) (S0 : Nat -> Prop) (w : World) (S : Nat -> Prop) (o : Oper') (cs : List Value) : Prop := ∃ (P : Option Addr) (np cp : Nat) (B : Option Addr) (nb cb : Nat), cs = [.string (bs o.name), .slice P np cp, .slice B nb cb] /\ SS wb S0 P np cp o.params /\ SL w S B nb cb o.body
theorem okOW {wb : World} {S0 : Nat -> Prop} : VOk (OW wb S0) 3 :=
 ⟨fun h1 h2 h3 h => by
  obtain ⟨P, np, cp, B, nb, cb, e, hp, hb⟩ := h
  exact ⟨P, np, cp, B, nb, cb, e, hp, hb.keep h1 h2 h3⟩,
  fun h => by obtain ⟨P, np, cp, B, nb, cb, rfl, -⟩ := h; rfl,
  fun h => by obtain ⟨P, np, cp, B, nb, cb, rfl, -⟩ := h; simp [Value.oneCell']⟩
/-- The program so far, in memory: the box pb, the rows of stores and of operations. -/
structure CB (wb : World) (S0 : Nat -> Prop) (base pb : Nat) (w : World) (vD vO : Value) (ds : List Decl') (os : List Oper') : Prop where
 box : HB 36 w pb #[vD, vO]
 d : OwnG DcV 83 2 w base vD ds
 o : OwnG (AV (OW wb S0) fun b => vD.ownBlock = some b) 76 3 w base vO os
 ne : ∀ k, vD.ownBlock = some k -> vO.ownBlock ≠ some k
theorem CB.below {wb : World} {S0 : Nat -> Prop} {base pb : Nat} {w w' : World} {vD vO : Value} {ds : List Decl'} {os : List Oper'} (h : CB wb S0 base pb w vD vO ds os) (hb : Below w.heap.size w w') : CB wb S0 base pb w' vD vO ds os :=
 ⟨h.box.below hb, h.d.below okDcV hb, h.o.below (okAV okOW) hb, h.ne⟩
theorem CB.pushD {wb : World} {S0 : Nat -> Prop} {pb : Nat} {w : World} {vD vO : Value} {ds : List Decl'} {os : List Oper'} (h : CB wb S0 (pb + 1) pb w vD vO ds os) (hb : pb + 1 <= w.heap.size) (q : Nat) (x : Decl') (ty : TypeId) (hq : q < w.heap.size) (hc : w.rangeAt q 0 [.string (bs x.name), .string (bs x.kind)]) (hn : ds.length + 1 <= 1000000) :
  ∃ v' w', (Builtin.append_ #[33, 33] ty #[vD, .slice (some ⟨q, 0, none⟩) 1 1]).run Tryz.prog w = .ok v' w' /\ HB 36 w' pb #[vD, vO] /\ Below (pb + 1) w w' /\ CB wb S0 (pb + 1) pb (w'.setCell ⟨pb, 0, none⟩ v') v' vO (ds ++ [x]) os /\ Below pb w' (w'.setCell ⟨pb, 0, none⟩ v') := by
 have hlt := h.d.lt
 have hlo := h.o.lt
 obtain ⟨v', w', e1, e2, e3, e4⟩ := OwnG.app (t := 33) (ty := ty) okDcV apk_d h.d w.heap.size q x _ hq hc rfl hn hb (fun k hk => (hlt k hk).2) hb
 have hB : Below (pb + 1) w w' := ⟨e3.os, e3.tape, e3.output, e3.size, fun k hk => e3.block k (by omega) (fun e => by have := (hlt k e.symm).1; omega)⟩
 have hbox : HB 36 w' pb #[vD, vO] := (hB.block pb (by omega)).trans h.box
 have hn' : ∀ k, v'.ownBlock = some k -> pb + 1 <= k /\ vO.ownBlock ≠ some k := fun k hk => by
  rcases e4 with e | e
  ·rw [e] at hk; exact ⟨(hlt k hk).1, h.ne k hk⟩
  rw [e] at hk
  have := Option.some.inj hk
  exact ⟨by omega, fun e => by have := (hlo k e).2; omega⟩
 have ho := OwnG.av (X' := fun b => v'.ownBlock = some b) okOW h.o e3 (fun k hk => ⟨h.ne k hk, hk⟩) (fun b hb2 hx => by
  rcases e4 with e | e
  ·rw [<- e]; exact hx
  rw [e] at hx; have := Option.some.inj hx; omega)
 have gb := gr_put w' pb 0 v'
 refine ⟨v', w', e1, hbox, hB, ⟨HB.set hbox 0 v', e2.dc gb (fun k hk e => by have := (hn' k e).1; have := Option.some.inj hk; omega), ho.gr (okAV okOW) gb (fun k hk => by have := Option.some.inj hk; omega), fun k hk => (hn' k hk).2⟩, below_gr gb (by have := hB.size; omega) (Nat.le_refl _)⟩
theorem CB.pushO {wb : World} {S0 : Nat -> Prop} {pb lo : Nat} {w : World} {vD vO : Value} {ds : List Decl'} {os : List Oper'} (h : CB wb S0 (pb + 1) pb w vD vO ds os) (hb : pb + 1 <= w.heap.size) (q : Nat) (x : Oper') (cs : List Value) (ty : TypeId) (hq : q < w.heap.size) (hc : w.rangeAt q 0 cs) (hx : OW wb S0 w (fun k => lo <= k) x cs) (hlo : pb + 1 <= lo) (hv : ∀ k, vO.ownBlock = some k -> k < lo) (hd : ∀ k, vD.ownBlock = some k -> k < lo) (hn : os.length + 1 <= 1000000) :
  ∃ v' w', (Builtin.append_ #[34, 34] ty #[vO, .slice (some ⟨q, 0, none⟩) 1 1]).run Tryz.prog w = .ok v' w' /\ HB 36 w' pb #[vD, vO] /\ Below (pb + 1) w w' /\ CB wb S0 (pb + 1) pb (w'.setCell ⟨pb, 1, none⟩ v') vD v' ds (os ++ [x]) /\ Below pb w' (w'.setCell ⟨pb, 1, none⟩ v') /\ w.grownBy w' vO.ownBlock := by
 have hlt := h.d.lt
 have hlo2 := h.o.lt
 have hx2 : AV (OW wb S0) (fun b => vD.ownBlock = some b) w (fun b => lo <= b) x cs := okOW.keep (Nat.le_refl _) (fun _ _ _ => rfl) (fun b _ hb2 => ⟨hb2, fun e => by have := hd b e; omega⟩) hx
 obtain ⟨v', w', e1, e2, e3, e4⟩ := OwnG.app (t := 34) (ty := ty) (okAV okOW) apk_o h.o lo q x cs hq hc hx2 hn hb hv hlo
 have hB : Below (pb + 1) w w' := ⟨e3.os, e3.tape, e3.output, e3.size, fun k hk => e3.block k (by omega) (fun e => by have := (hlo2 k e.symm).1; omega)⟩
 have hbox : HB 36 w' pb #[vD, vO] := (hB.block pb (by omega)).trans h.box
 have hne : ∀ k, vD.ownBlock = some k -> v'.ownBlock ≠ some k := fun k hk e => by
  rcases e4 with e5 | e5
  ·rw [e5] at e; exact h.ne k hk e
  rw [e5] at e
  have := Option.some.inj e
  have := (hlt k hk).2
  omega
 have hd2 := h.d.dc e3 (fun k hk e => h.ne k e hk)
 have gb := gr_put w' pb 1 v'
 exact ⟨v', w', e1, hbox, hB, ⟨HB.set hbox 1 v', hd2.dc gb (fun k hk e => by have := (hlt k e).1; have := Option.some.inj hk; omega), e2.gr (okAV okOW) gb (fun k hk => by have := Option.some.inj hk; omega), hne⟩, below_gr gb (by have := hB.size; omega) (Nat.le_refl _), e3⟩
/-- append, its run known. -/
theorem wpList_app_run {P : Program} {w : World} {ops : Array Oper} {rest : List Oper} {o : Oper} {a : Act} {Q : Exit -> Act -> World -> Prop} (hgd : o.guard = none) (s x : Operand) (t : TypeId)
  (ho : o.op = .call { callee := .builtin .append, args := #[s, x], argTypes := #[t, t] }) (v u v' : Value) (w' : World) (hs : a.eval s = v) (hx : a.eval x = u) (hrun : (Builtin.append_ #[t, t] o.type #[v, u]).run P w = .ok v' w')
  (h : wpList P ops Q rest (a.put o.dst v') w') : wpList P ops Q (o :: rest) a w :=
 wpList_plain hgd fun _ hK => by
  unfold Oper.wp execOp
  simp only [ho, resolve, invoke, builtin, Sem.run_bind, Sem.run_pure, Result.andThen_ok, List.map_toArray, List.map_cons, List.map_nil, hs, hx, hrun]
  exact hK _ _ h
theorem CB.pv {wb : World} {S0 : Nat -> Prop} {base pb : Nat} {w : World} {vD vO : Value} {ds : List Decl'} {os : List Oper'} (h : CB wb S0 base pb w vD vO ds os) (hb : Below wb.heap.size wb w) : PV w (fun b => S0 b ∨ base <= b) ⟨ds, os⟩ (.agg #[vD, vO]) := by
 obtain ⟨A1, c1, e1, h1⟩ := h.d.dl
 obtain ⟨A2, c2, e2, h3⟩ := (h.o.un okOW).row okOW
 subst e1
 subst e2
 exact ⟨A1, _, c1, A2, _, c2, rfl, h1.keep (Nat.le_refl _) (fun _ _ _ => rfl) (fun b _ h => .inr h), rfl, h3.keep (Nat.le_refl _) (fun _ _ _ => rfl) (fun b _ h => .inr h) (fun i cs h => by
  obtain ⟨x, hx, P, np, cp, B, nb, cb, e, f2, f3⟩ := h
  exact ⟨x, hx, P, np, cp, B, nb, cb, e, f2.keep hb.size (fun b hb2 _ => hb.block b hb2) (fun b _ h => .inl h), f3.more fun b _ h => .inr h⟩)⟩
theorem HB.gro {t : TypeId} {w w' : World} {r : Nat} {row : Option Nat} {u : Array Value} (h : HB t w r u) (hg : w.grownBy w' row) (hk : ∀ k, row = some k -> r ≠ k) : HB t w' r u := (hg.block r (lt_of_block h) (fun e => hk r e.symm rfl)).trans h
theorem rconvP_any (p : Prog') (w : World) (S : Nat -> Prop) (v : Value) (hv : PV w S p v) (hz : ∀ o ∈ p.opers, St.sizes o.body <= 1000000) (hd : p.stores.length <= 900000) (ho : p.opers.length <= 900000) : Calls Tryz.prog 17 #[v] w fun e w' => ∃ v', e = .returned v' /\ PV w' (fun b => S b ∨ w.heap.size <= b) p v' /\ Below w.heap.size w w' := by
 obtain ⟨D, nd, cd, O, no, co, rfl, h1, h2⟩ := hv
 have HD := hI (show DL w (fun b => S b /\ b < w.heap.size) D nd cd p.stores from h1.keep (Nat.le_refl _) (fun _ _ _ => rfl) (fun b hb h => ⟨h, hb⟩))
 have HO := hI (show OL w (fun b => S b /\ b < w.heap.size) O no co p.opers from h2.keep (Nat.le_refl _) (fun _ _ _ => rfl) (fun b hb h => ⟨h, hb⟩))
 have HZ := hI hz
 have HDN := hI (And.intro h1.1 hd)
 have HON := hI (And.intro h2.1 ho)
 obtain ⟨w1, hw1⟩ : ∃ W, W = w.alloc (.cells #[.slice D nd cd, .slice O no co] 45) := ⟨_, rfl⟩
 obtain ⟨w2, hw2⟩ : ∃ W, W = w1.alloc (.cells #[.slice none 0 0, .slice none 0 0] 36) := ⟨_, rfl⟩
 obtain ⟨w3, hw3⟩ : ∃ W, W = w2.alloc (.cells #[.slice none 0 0, .slice none 0 0] 36) := ⟨_, rfl⟩
 have g1 : Below w.heap.size w w1 := by rw [hw1]; exact (Below.refl _ _).alloc (Nat.le_refl _) _
 have g2 : Below w1.heap.size w1 w2 := by rw [hw2]; exact (Below.refl _ _).alloc (Nat.le_refl _) _
 have g3 : Below w2.heap.size w2 w3 := by rw [hw3]; exact (Below.refl _ _).alloc (Nat.le_refl _) _
 have s1 : w1.heap.size = w.heap.size + 1 := by rw [hw1]; exact World.size_alloc ..
 have s2 : w2.heap.size = w.heap.size + 2 := by rw [hw2, World.size_alloc, s1]
 have P0 := hI (show HB 45 w2 w.heap.size #[.slice D nd cd, .slice O no co] from HB.below (by rw [hw1]; exact heap_alloc_new w _) g2)
 have X0 := hI (show HB 36 w2 (w.heap.size + 1) #[.slice none 0 0, .slice none 0 0] from by rw [<- s1, hw2]; exact heap_alloc_new w1 _)
 have CBX := hI (CB.mk (wb := w) (S0 := fun b => S b /\ b < w.heap.size) (base := w.heap.size + 2 + 1) (show HB 36 w3 (w.heap.size + 2) #[.slice none 0 0, .slice none 0 0] from by rw [<- s2, hw3]; exact heap_alloc_new w2 _) (OwnG.nil _ _) (OwnG.nil _ _) (fun k e => by cases e))
 have B00 := hI (g1.trans (g2.mono g1.size))
 have B := hI g3
 have SZ := hI s2
 rw [hw1] at hw2
 rw [hw2] at hw3
 clear h1 h2 hz hd ho g1 g2 g3 s1 s2
 go_enter Tryz.func17, Tryz.ntmps17
 go_upto_region 2 with fail
 rw [show w.heap.size + 1 + 1 = w.heap.size + 2 from rfl]
 rw [<- hw3]
 clear hw1 hw2 hw3
 have c00 : _ = some (Value.slice D nd cd) := (P0.out.below B.out).cell 0
 go_wp2_with fail
 clear c00
 go_loopw [11] (fun v11 wr => ∃ (k : Nat) (vD : Value), v11 = .int .i64 k /\ k <= p.stores.length /\ CB w (fun b => S b /\ b < w.heap.size) (w.heap.size + 2 + 1) (w.heap.size + 2) wr vD (.slice none 0 0) (p.stores.take k) [] /\ Below w2.heap.size w2 wr) (fun v11 _ => p.stores.length - (intOf v11).toNat)
 case atStart => exact ⟨0, _, rfl, Nat.zero_le _, CBX.out, B.out⟩
 case round =>
  clear CBX B
  obtain ⟨k, vD, rfl, hk, hC, hb⟩ := hrel
  have CBX := hI hC
  have B := hI hb
  clear hC hb
  by_cases hlt : k < p.stores.length
  ·have hi2 : (k : Int) < (nd : Int) := by have := HDN.out.1; omega
   have hn6 : (nd : Int) <= 900000 := by have := HDN.out; omega
   obtain ⟨b, q, cs, rfl, hbl, hS, ⟨⟨dn, dk⟩, hd1, rfl⟩, hrow⟩ := HD.out.2.at k (by have := HDN.out.1; omega)
   have HQL := hI hlt
   have HSN := hI (show p.stores.take (k + 1) = p.stores.take k ++ [⟨dn, dk⟩] by rw [List.take_add_one, hd1]; rfl)
   have hrow2 := rangeAt_keep hrow ((B00.out.trans (B.out.mono B00.out.size)).block b hbl)
   have e0 : wr.cell? ⟨b, q + k * 2, none⟩ = some (.string (bs dn)) := hrow2 0 _ rfl
   have e1 : wr.cell? ⟨b, q + k * 2 + 1, none⟩ = some (.string (bs dk)) := hrow2 1 _ rfl
   obtain ⟨W0, hW0⟩ : ∃ W, W = wr.alloc (.cells #[.string (bs dn), .string (bs dk)] 96) := ⟨_, rfl⟩
   have h0 : Below wr.heap.size wr W0 := by rw [hW0]; exact (Below.refl _ _).alloc (Nat.le_refl _) _
   have c5 : W0.cell? ⟨wr.heap.size, 0, none⟩ = some (.string (bs dn)) := HB.cell (show HB 96 W0 wr.heap.size #[.string (bs dn), .string (bs dk)] from by rw [hW0]; exact heap_alloc_new wr _) 0
   have c6 : W0.cell? ⟨wr.heap.size, 1, none⟩ = some (.string (bs dk)) := HB.cell (show HB 96 W0 wr.heap.size #[.string (bs dn), .string (bs dk)] from by rw [hW0]; exact heap_alloc_new wr _) 1
   have hc := CBX.out.below h0
   obtain ⟨W1, hW1⟩ : ∃ W, W = W0.alloc (.cells #[.string (bs dn), .string (bs dk)] 83) := ⟨_, rfl⟩
   have h1 : Below W0.heap.size W0 W1 := by rw [hW1]; exact (Below.refl _ _).alloc (Nat.le_refl _) _
   have hr1 : W1.heap[W0.heap.size]? = some (.cells #[.string (bs dn), .string (bs dk)] 83 (0, 0)) := by rw [hW1]; exact heap_alloc_new W0 _
   obtain ⟨v', w', run, hbox, hB, hCB, hBz⟩ := (hc.below h1).pushD (HB.lt (hc.below h1).box) W0.heap.size ⟨dn, dk⟩ 33 (lt_of_block hr1) (range_new (cs := [.string (bs dn), .string (bs dk)]) hr1) (by rw [List.length_take]; have := HDN.out.2; omega)
   obtain ⟨A9, c9', hv9, -⟩ := hCB.d.dl
   obtain ⟨n9, hn9⟩ : ∃ z : Nat, z = (p.stores.take k ++ [(⟨dn, dk⟩ : Decl')]).length := ⟨_, rfl⟩
   rw [<- hn9] at hv9
   clear hn9
   subst hv9
   have c7 : W0.cell? ⟨w.heap.size + 2, 0, none⟩ = some vD := HB.cell hc.box 0
   have c8 : w'.cell? ⟨w.heap.size + 2, 0, none⟩ = some vD := HB.cell hbox 0
   have c9 : w'.frozen? ⟨w.heap.size + 2, 0, none⟩ = false := HB.free hbox 0
   have HCB := hI hCB
   have HBB := hI (((B.out.trans (h0.mono B.out.size)).trans (h1.mono (Nat.le_trans B.out.size h0.size))).trans (((hB.mono (Nat.le_succ _)).trans hBz).mono (Nat.le_of_eq SZ.out)))
   rw [hW1] at run
   clear hbl hS hd1 hrow hrow2 h0 hc h1 hr1 hbox hB hCB hBz hlt hW1
   go_upto_region 5 with fail
   rw [<- hW0]
   clear hW0 e0 e1
   go_wp2_with (at_builtin; refine wpList_app_run rfl _ _ 33 rfl vD _ _ w' rfl rfl run ?_)
   go_roundw
   case rel => exact ⟨k + 1, _, by go_num, HQL.out, by rw [HSN.out]; exact HCB.out, HBB.out⟩
   case measure => exact meas_up _ _ HQL.out
  have hi2 : ¬ (k : Int) < (nd : Int) := by have := HDN.out.1; omega
  obtain h0 := CBX.out
  clear CBX
  rw [List.take_of_length_le (show p.stores.length <= k by omega)] at h0
  have CBX := hI h0
  clear h0 hlt hk
  have c01 : _ = some (Value.slice O no co) := (P0.out.below B.out).cell 1
  go_wp2_with fail
  clear c01
  go_loopw [29] (fun v29 wr => ∃ (k : Nat) (vO : Value), v29 = .int .i64 k /\ k <= p.opers.length /\ CB w (fun b => S b /\ b < w.heap.size) (w.heap.size + 2 + 1) (w.heap.size + 2) wr vD vO p.stores (p.opers.take k) /\ Below w2.heap.size w2 wr) (fun v29 _ => p.opers.length - (intOf v29).toNat)
  case atStart => exact ⟨0, _, rfl, Nat.zero_le _, CBX.out, B.out⟩
  case round =>
   clear CBX B
   obtain ⟨k, vO, rfl, hk, hC, hb⟩ := hrel
   have CBX := hI hC
   have B := hI hb
   clear hC hb
   by_cases hlt : k < p.opers.length
   ·have hi2 : (k : Int) < (no : Int) := by have := HON.out.1; omega
    have hn6 : (no : Int) <= 900000 := by have := HON.out; omega
    obtain ⟨b, q, cs, rfl, hbl, hS, ⟨⟨on, ps, bd⟩, hd1, P, np, cp, Q, nq, cq, rfl, hps, hbd⟩, hrow⟩ := HO.out.2.at k (by have := HON.out.1; omega)
    have HPS := hI hps
    have HLT := hI hlt
    have HSN := hI (show p.opers.take (k + 1) = p.opers.take k ++ [⟨on, ps, bd⟩] by rw [List.take_add_one, hd1]; rfl)
    have hbw := B00.out.trans (B.out.mono B00.out.size)
    have hrow2 := rangeAt_keep hrow (hbw.block b hbl)
    have e0 : wr.cell? ⟨b, q + k * 3, none⟩ = some (.string (bs on)) := hrow2 0 _ rfl
    have e1 : wr.cell? ⟨b, q + k * 3 + 1, none⟩ = some (.slice P np cp) := hrow2 1 _ rfl
    have e2 : wr.cell? ⟨b, q + k * 3 + 2, none⟩ = some (.slice Q nq cq) := hrow2 2 _ rfl
    obtain ⟨W0, hW0⟩ : ∃ W, W = wr.alloc (.cells #[.string (bs on), .slice P np cp, .slice Q nq cq] 103) := ⟨_, rfl⟩
    have h0 : Below wr.heap.size wr W0 := by rw [hW0]; exact (Below.refl _ _).alloc (Nat.le_refl _) _
    have SW := hI (show HB 103 W0.drew wr.heap.size #[.string (bs on), .slice P np cp, .slice Q nq cq] from by rw [hW0]; exact heap_alloc_new wr _)
    have h0d := h0.drew
    have CBN := hI (CBX.out.below h0d)
    have BQ := hI h0d
    have BN := hI (B.out.trans (h0d.mono B.out.size))
    have KC := hI (show ∀ W, Below wr.heap.size wr W -> Calls Tryz.prog 39 #[.slice Q nq cq] W fun e' w' => ∃ A' c', e' = .returned (.slice A' nq c') /\ SL w' (fun b => W.heap.size <= b) A' nq c' bd /\ Below W.heap.size W w' from fun W hW => rconvS_any bd W (fun b => S b /\ b < w.heap.size) Q nq cq (HZ.out _ (List.mem_of_getElem? hd1)) (hbd.below (hbw.trans (hW.mono hbw.size))))
    have HVO := hI (show ∀ k, vO.ownBlock = some k -> k < wr.heap.size from fun k hk => (CBX.out.o.lt k hk).2)
    have HVD := hI (show ∀ k, vD.ownBlock = some k -> k < wr.heap.size from fun k hk => (CBX.out.d.lt k hk).2)
    have HLO := hI (show w.heap.size + 2 + 1 <= wr.heap.size from HB.lt CBX.out.box)
    clear hbl hS hd1 hrow hrow2 hbw hps hbd hlt h0 h0d CBX B
    have CBX := CBN
    have B := BN
    clear CBN BN
    go_upto_region 10 with fail
    rw [<- hW0]
    clear hW0 e0 e1 e2
    refine wp_region_held_drew (S := fun W => HB 103 W wr.heap.size #[.string (bs on), .slice P np cp, .slice Q nq cq]) (by kernel_rfl) SW.out (fun hHeld => ?_)
    clear hHeld
    generalize W0.drew = wq at *
    refine wpAnyH_take (i := 0) (oi := ⟨some 33, _, _, _, _, _⟩) (v := .pointer (some ⟨w.heap.size + 2, 1, none⟩)) rfl (by kernel_rfl) (by kernel_rfl) (by kernel_rfl) (fun _ _ _ h => h) (Or.inl ⟨by rfl, ?_⟩) SW.out ?_
    ·intro W' hW
     go_simp
    try simp only [Act.put, sA, sB, sC]
    refine wpAnyH_take (i := 2) (oi := ⟨some 35, _, _, _, _, _⟩) (v := .pointer (some ⟨wr.heap.size, 0, none⟩)) rfl (by kernel_rfl) (by kernel_rfl) (by kernel_rfl) (fun _ _ _ h => h) (Or.inl ⟨by rfl, ?_⟩) SW.out ?_
    ·intro W' hW
     go_simp
    try simp only [Act.put, sA, sB, sC]
    refine wpAnyH_take (i := 3) (oi := ⟨some 36, _, _, _, _, _⟩) (v := .string (bs on)) rfl (by kernel_rfl) (by kernel_rfl) (by kernel_rfl) (fun _ _ _ h => h) (Or.inl ⟨by rfl, ?_⟩) SW.out ?_
    ·intro W' hW
     have c9 : _ = some ((.string (bs on)) : Value) := HB.cell hW 0
     go_simp
    try simp only [Act.put, sA, sB, sC]
    refine wpAnyH_take (i := 4) (oi := ⟨some 37, _, _, _, _, _⟩) (v := .pointer (some ⟨wr.heap.size, 1, none⟩)) rfl (by kernel_rfl) (by kernel_rfl) (by kernel_rfl) (fun _ _ _ h => h) (Or.inl ⟨by rfl, ?_⟩) SW.out ?_
    ·intro W' hW
     go_simp
    try simp only [Act.put, sA, sB, sC]
    refine wpAnyH_take (i := 5) (oi := ⟨some 38, _, _, _, _, _⟩) (v := .slice P np cp) rfl (by kernel_rfl) (by kernel_rfl) (by kernel_rfl) (fun _ _ _ h => h) (Or.inl ⟨by rfl, ?_⟩) SW.out ?_
    ·intro W' hW
     have c9 : _ = some ((.slice P np cp) : Value) := HB.cell hW 1
     go_simp
    try simp only [Act.put, sA, sB, sC]
    refine wpAnyH_take (i := 6) (oi := ⟨some 39, _, _, _, _, _⟩) (v := .pointer (some ⟨wr.heap.size, 2, none⟩)) rfl (by kernel_rfl) (by kernel_rfl) (by kernel_rfl) (fun _ _ _ h => h) (Or.inl ⟨by rfl, ?_⟩) SW.out ?_
    ·intro W' hW
     go_simp
    try simp only [Act.put, sA, sB, sC]
    refine wpAnyH_take (i := 7) (oi := ⟨some 40, _, _, _, _, _⟩) (v := .slice Q nq cq) rfl (by kernel_rfl) (by kernel_rfl) (by kernel_rfl) (fun _ _ _ h => h) (Or.inl ⟨by rfl, ?_⟩) SW.out ?_
    ·intro W' hW
     have c9 : _ = some ((.slice Q nq cq) : Value) := HB.cell hW 2
     go_simp
    try simp only [Act.put, sA, sB, sC]
    refine wpAnyH_ready (rs := [1, 8]) (by kernel_rfl) (by simp) ?_
    refine AllReadyH.cons (o := ⟨some 34, _, _, _, _, _⟩) rfl (fun K hK => ?_) (AllReadyH.cons (o := ⟨some 41, _, _, _, _, _⟩) rfl (fun K hK => ?_) AllReadyH.nil)
    ·have cob : _ = some vO := HB.cell CBX.out.box 1
     go_simp
     clear cob
     refine hK.out _ _ SW.out (fun hHeld => ?_)
     clear hK hHeld
     try simp only [Act.put, sA, sB, sC]
     refine wpAnyH_ready (rs := [8]) (by kernel_rfl) (by simp) ?_
     refine AllReadyH.cons (o := ⟨some 41, _, _, _, _, _⟩) rfl (fun K hK => ?_) AllReadyH.nil
     go_simp
     refine (KC.out wq BQ.out).mono ?_
     rintro e w4 ⟨Q2, cq2, rfl, hq, hb⟩
     have HQ2 := hI (show SL w4 (fun b => wr.heap.size <= b) Q2 nq cq2 bd from hq.more fun b _ h => Nat.le_trans BQ.out.size h)
     replace CBX := hI (CBX.out.below hb)
     replace SW := hI (SW.out.below hb)
     replace B := hI (B.out.trans (hb.mono B.out.size))
     replace BQ := hI (BQ.out.trans (hb.mono BQ.out.size))
     clear hq hb KC
     refine hK.out _ _ SW.out (fun hHeld => ?_)
     clear hK hHeld
     try simp only [Act.put, sA, sB, sC]
     refine wpAnyH_take (i := 9) (oi := ⟨some 42, _, _, _, _, _⟩) (v := .agg #[.string (bs on), .slice P np cp, .slice Q2 nq cq2]) rfl (by kernel_rfl) (by kernel_rfl) (by kernel_rfl) (fun _ _ _ h => h) (Or.inl ⟨by rfl, ?_⟩) SW.out ?_
     ·intro W' hW
      go_simp
     try simp only [Act.put, sA, sB, sC]
     refine wpAnyH_ready (rs := [10]) (by kernel_rfl) (by simp) ?_
     refine AllReadyH.cons (o := ⟨some 43, _, _, _, _, _⟩) rfl (fun K hK => ?_) AllReadyH.nil
     go_simp
     obtain ⟨wv, hwv⟩ : ∃ W, W = w4.alloc (.cells #[.string (bs on), .slice P np cp, .slice Q2 nq cq2] 76) := ⟨_, rfl⟩
     have hbv : Below w4.heap.size w4 wv := by rw [hwv]; exact (Below.refl _ _).alloc (Nat.le_refl _) _
     have hrv : wv.heap[w4.heap.size]? = some (.cells #[.string (bs on), .slice P np cp, .slice Q2 nq cq2] 76 (0, 0)) := by rw [hwv]; exact heap_alloc_new w4 _
     rw [<- hwv]
     clear hwv
     have HQV := hI (lt_of_block hrv)
     have HRV := hI (range_new (cs := [.string (bs on), .slice P np cp, .slice Q2 nq cq2]) hrv)
     replace CBX := hI (CBX.out.below hbv)
     replace SW := hI (SW.out.below hbv)
     replace B := hI (B.out.trans (hbv.mono B.out.size))
     replace BQ := hI (BQ.out.trans (hbv.mono BQ.out.size))
     replace HQ2 := hI (HQ2.out.below hbv)
     clear hbv hrv
     refine hK.out _ _ SW.out (fun hHeld => ?_)
     clear hK hHeld
     try simp only [Act.put, sA, sB, sC]
     obtain ⟨v', w', run, hbox, hB, hCB, hBz, hgr⟩ := CBX.out.pushO (lo := wr.heap.size) (HB.lt CBX.out.box) w4.heap.size ⟨on, ps, bd⟩ [.string (bs on), .slice P np cp, .slice Q2 nq cq2] 34 HQV.out HRV.out ⟨P, np, cp, Q2, nq, cq2, rfl, HPS.out, HQ2.out⟩ HLO.out HVO.out HVD.out (by rw [List.length_take]; have := HON.out.2; omega)
     obtain ⟨A9, c9', hv9, -⟩ := (hCB.o.un okOW).row okOW
     obtain ⟨n9, hn9⟩ : ∃ z : Nat, z = (p.opers.take k ++ [(⟨on, ps, bd⟩ : Oper')]).length := ⟨_, rfl⟩
     rw [<- hn9] at hv9
     clear hn9
     subst hv9
     have hss : HB 103 w' wr.heap.size #[.string (bs on), .slice P np cp, .slice Q nq cq] := HB.gro SW.out hgr (fun k hk e => by have := HVO.out k hk; omega)
     refine wpAnyH_ready (rs := [11]) (by kernel_rfl) (by simp) ?_
     refine AllReadyH.cons (o := ⟨some 44, _, _, _, _, _⟩) rfl (fun K hK => ?_) AllReadyH.nil
     refine step_app rfl (.tmp 34) (.tmp 43) 34 rfl _ _ rfl rfl run ?_
     refine hK.out _ _ hss (fun hHeld => ?_)
     clear hK hHeld
     try simp only [Act.put, sA, sB, sC]
     refine wpAnyH_take (i := 12) (oi := ⟨some 45, _, _, _, _, _⟩) (v := .pointer (some ⟨w.heap.size + 2, 1, none⟩)) rfl (by kernel_rfl) (by kernel_rfl) (by kernel_rfl) (fun _ _ _ h => h) (Or.inl ⟨by rfl, ?_⟩) hss ?_
     ·intro W' hW
      go_simp
     try simp only [Act.put, sA, sB, sC]
     refine wpAnyH_ready (rs := [13]) (by kernel_rfl) (by simp) ?_
     refine AllReadyH.cons (o := ⟨none, _, _, _, _, _⟩) rfl (fun K hK => ?_) AllReadyH.nil
     have cob : w'.cell? ⟨w.heap.size + 2, 1, none⟩ = some vO := HB.cell hbox 1
     have fob : w'.frozen? ⟨w.heap.size + 2, 1, none⟩ = false := HB.free hbox 1
     go_simp
     clear cob fob
     have hss2 : HB 103 (w'.setCell ⟨w.heap.size + 2, 1, none⟩ (.slice A9 n9 c9')) wr.heap.size #[.string (bs on), .slice P np cp, .slice Q nq cq] := HB.gr hss (gr_put w' (w.heap.size + 2) 1 _) (fun e => by have := HLO.out; omega)
     have HBB := hI (B.out.trans (((hB.mono (Nat.le_succ _)).trans hBz).mono (Nat.le_of_eq SZ.out)))
     refine hK.out _ _ hss2 (fun hHeld => ?_)
     clear hK hHeld
     try simp only [Act.put, sA, sB, sC]
     refine wpAnyH_done (by kernel_rfl) ?_ _
     go_wp2_with fail
     go_roundw
     case rel => exact ⟨k + 1, _, by go_num, HLT.out, by rw [HSN.out]; exact hCB, HBB.out⟩
     case measure => exact meas_up _ _ HLT.out
    go_simp
    refine (KC.out wq BQ.out).mono ?_
    rintro e w4 ⟨Q2, cq2, rfl, hq, hb⟩
    have HQ2 := hI (show SL w4 (fun b => wr.heap.size <= b) Q2 nq cq2 bd from hq.more fun b _ h => Nat.le_trans BQ.out.size h)
    replace CBX := hI (CBX.out.below hb)
    replace SW := hI (SW.out.below hb)
    replace B := hI (B.out.trans (hb.mono B.out.size))
    replace BQ := hI (BQ.out.trans (hb.mono BQ.out.size))
    clear hq hb KC
    refine hK.out _ _ SW.out (fun hHeld => ?_)
    clear hK hHeld
    try simp only [Act.put, sA, sB, sC]
    refine wpAnyH_take (i := 9) (oi := ⟨some 42, _, _, _, _, _⟩) (v := .agg #[.string (bs on), .slice P np cp, .slice Q2 nq cq2]) rfl (by kernel_rfl) (by kernel_rfl) (by kernel_rfl) (fun _ _ _ h => h) (Or.inl ⟨by rfl, ?_⟩) SW.out ?_
    ·intro W' hW
     go_simp
    try simp only [Act.put, sA, sB, sC]
    refine wpAnyH_ready (rs := [1, 10]) (by kernel_rfl) (by simp) ?_
    refine AllReadyH.cons (o := ⟨some 34, _, _, _, _, _⟩) rfl (fun K hK => ?_) (AllReadyH.cons (o := ⟨some 43, _, _, _, _, _⟩) rfl (fun K hK => ?_) AllReadyH.nil)
    ·have cob : _ = some vO := HB.cell CBX.out.box 1
     go_simp
     clear cob
     refine hK.out _ _ SW.out (fun hHeld => ?_)
     clear hK hHeld
     try simp only [Act.put, sA, sB, sC]
     refine wpAnyH_ready (rs := [10]) (by kernel_rfl) (by simp) ?_
     refine AllReadyH.cons (o := ⟨some 43, _, _, _, _, _⟩) rfl (fun K hK => ?_) AllReadyH.nil
     go_simp
     obtain ⟨wv, hwv⟩ : ∃ W, W = w4.alloc (.cells #[.string (bs on), .slice P np cp, .slice Q2 nq cq2] 76) := ⟨_, rfl⟩
     have hbv : Below w4.heap.size w4 wv := by rw [hwv]; exact (Below.refl _ _).alloc (Nat.le_refl _) _
     have hrv : wv.heap[w4.heap.size]? = some (.cells #[.string (bs on), .slice P np cp, .slice Q2 nq cq2] 76 (0, 0)) := by rw [hwv]; exact heap_alloc_new w4 _
     rw [<- hwv]
     clear hwv
     have HQV := hI (lt_of_block hrv)
     have HRV := hI (range_new (cs := [.string (bs on), .slice P np cp, .slice Q2 nq cq2]) hrv)
     replace CBX := hI (CBX.out.below hbv)
     replace SW := hI (SW.out.below hbv)
     replace B := hI (B.out.trans (hbv.mono B.out.size))
     replace BQ := hI (BQ.out.trans (hbv.mono BQ.out.size))
     replace HQ2 := hI (HQ2.out.below hbv)
     clear hbv hrv
     refine hK.out _ _ SW.out (fun hHeld => ?_)
     clear hK hHeld
     try simp only [Act.put, sA, sB, sC]
     obtain ⟨v', w', run, hbox, hB, hCB, hBz, hgr⟩ := CBX.out.pushO (lo := wr.heap.size) (HB.lt CBX.out.box) w4.heap.size ⟨on, ps, bd⟩ [.string (bs on), .slice P np cp, .slice Q2 nq cq2] 34 HQV.out HRV.out ⟨P, np, cp, Q2, nq, cq2, rfl, HPS.out, HQ2.out⟩ HLO.out HVO.out HVD.out (by rw [List.length_take]; have := HON.out.2; omega)
     obtain ⟨A9, c9', hv9, -⟩ := (hCB.o.un okOW).row okOW
     obtain ⟨n9, hn9⟩ : ∃ z : Nat, z = (p.opers.take k ++ [(⟨on, ps, bd⟩ : Oper')]).length := ⟨_, rfl⟩
     rw [<- hn9] at hv9
     clear hn9
     subst hv9
     have hss : HB 103 w' wr.heap.size #[.string (bs on), .slice P np cp, .slice Q nq cq] := HB.gro SW.out hgr (fun k hk e => by have := HVO.out k hk; omega)
     refine wpAnyH_ready (rs := [11]) (by kernel_rfl) (by simp) ?_
     refine AllReadyH.cons (o := ⟨some 44, _, _, _, _, _⟩) rfl (fun K hK => ?_) AllReadyH.nil
     refine step_app rfl (.tmp 34) (.tmp 43) 34 rfl _ _ rfl rfl run ?_
     refine hK.out _ _ hss (fun hHeld => ?_)
     clear hK hHeld
     try simp only [Act.put, sA, sB, sC]
     refine wpAnyH_take (i := 12) (oi := ⟨some 45, _, _, _, _, _⟩) (v := .pointer (some ⟨w.heap.size + 2, 1, none⟩)) rfl (by kernel_rfl) (by kernel_rfl) (by kernel_rfl) (fun _ _ _ h => h) (Or.inl ⟨by rfl, ?_⟩) hss ?_
     ·intro W' hW
      go_simp
     try simp only [Act.put, sA, sB, sC]
     refine wpAnyH_ready (rs := [13]) (by kernel_rfl) (by simp) ?_
     refine AllReadyH.cons (o := ⟨none, _, _, _, _, _⟩) rfl (fun K hK => ?_) AllReadyH.nil
     have cob : w'.cell? ⟨w.heap.size + 2, 1, none⟩ = some vO := HB.cell hbox 1
     have fob : w'.frozen? ⟨w.heap.size + 2, 1, none⟩ = false := HB.free hbox 1
     go_simp
     clear cob fob
     have hss2 : HB 103 (w'.setCell ⟨w.heap.size + 2, 1, none⟩ (.slice A9 n9 c9')) wr.heap.size #[.string (bs on), .slice P np cp, .slice Q nq cq] := HB.gr hss (gr_put w' (w.heap.size + 2) 1 _) (fun e => by have := HLO.out; omega)
     have HBB := hI (B.out.trans (((hB.mono (Nat.le_succ _)).trans hBz).mono (Nat.le_of_eq SZ.out)))
     refine hK.out _ _ hss2 (fun hHeld => ?_)
     clear hK hHeld
     try simp only [Act.put, sA, sB, sC]
     refine wpAnyH_done (by kernel_rfl) ?_ _
     go_wp2_with fail
     go_roundw
     case rel => exact ⟨k + 1, _, by go_num, HLT.out, by rw [HSN.out]; exact hCB, HBB.out⟩
     case measure => exact meas_up _ _ HLT.out
    go_simp
    obtain ⟨wv, hwv⟩ : ∃ W, W = w4.alloc (.cells #[.string (bs on), .slice P np cp, .slice Q2 nq cq2] 76) := ⟨_, rfl⟩
    have hbv : Below w4.heap.size w4 wv := by rw [hwv]; exact (Below.refl _ _).alloc (Nat.le_refl _) _
    have hrv : wv.heap[w4.heap.size]? = some (.cells #[.string (bs on), .slice P np cp, .slice Q2 nq cq2] 76 (0, 0)) := by rw [hwv]; exact heap_alloc_new w4 _
    rw [<- hwv]
    clear hwv
    have HQV := hI (lt_of_block hrv)
    have HRV := hI (range_new (cs := [.string (bs on), .slice P np cp, .slice Q2 nq cq2]) hrv)
    replace CBX := hI (CBX.out.below hbv)
    replace SW := hI (SW.out.below hbv)
    replace B := hI (B.out.trans (hbv.mono B.out.size))
    replace BQ := hI (BQ.out.trans (hbv.mono BQ.out.size))
    replace HQ2 := hI (HQ2.out.below hbv)
    clear hbv hrv
    refine hK.out _ _ SW.out (fun hHeld => ?_)
    clear hK hHeld
    try simp only [Act.put, sA, sB, sC]
    refine wpAnyH_ready (rs := [1]) (by kernel_rfl) (by simp) ?_
    refine AllReadyH.cons (o := ⟨some 34, _, _, _, _, _⟩) rfl (fun K hK => ?_) AllReadyH.nil
    have cob : _ = some vO := HB.cell CBX.out.box 1
    go_simp
    clear cob
    refine hK.out _ _ SW.out (fun hHeld => ?_)
    clear hK hHeld
    try simp only [Act.put, sA, sB, sC]
    obtain ⟨v', w', run, hbox, hB, hCB, hBz, hgr⟩ := CBX.out.pushO (lo := wr.heap.size) (HB.lt CBX.out.box) w4.heap.size ⟨on, ps, bd⟩ [.string (bs on), .slice P np cp, .slice Q2 nq cq2] 34 HQV.out HRV.out ⟨P, np, cp, Q2, nq, cq2, rfl, HPS.out, HQ2.out⟩ HLO.out HVO.out HVD.out (by rw [List.length_take]; have := HON.out.2; omega)
    obtain ⟨A9, c9', hv9, -⟩ := (hCB.o.un okOW).row okOW
    obtain ⟨n9, hn9⟩ : ∃ z : Nat, z = (p.opers.take k ++ [(⟨on, ps, bd⟩ : Oper')]).length := ⟨_, rfl⟩
    rw [<- hn9] at hv9
    clear hn9
    subst hv9
    have hss : HB 103 w' wr.heap.size #[.string (bs on), .slice P np cp, .slice Q nq cq] := HB.gro SW.out hgr (fun k hk e => by have := HVO.out k hk; omega)
    refine wpAnyH_ready (rs := [11]) (by kernel_rfl) (by simp) ?_
    refine AllReadyH.cons (o := ⟨some 44, _, _, _, _, _⟩) rfl (fun K hK => ?_) AllReadyH.nil
    refine step_app rfl (.tmp 34) (.tmp 43) 34 rfl _ _ rfl rfl run ?_
    refine hK.out _ _ hss (fun hHeld => ?_)
    clear hK hHeld
    try simp only [Act.put, sA, sB, sC]
    refine wpAnyH_take (i := 12) (oi := ⟨some 45, _, _, _, _, _⟩) (v := .pointer (some ⟨w.heap.size + 2, 1, none⟩)) rfl (by kernel_rfl) (by kernel_rfl) (by kernel_rfl) (fun _ _ _ h => h) (Or.inl ⟨by rfl, ?_⟩) hss ?_
    ·intro W' hW
     go_simp
    try simp only [Act.put, sA, sB, sC]
    refine wpAnyH_ready (rs := [13]) (by kernel_rfl) (by simp) ?_
    refine AllReadyH.cons (o := ⟨none, _, _, _, _, _⟩) rfl (fun K hK => ?_) AllReadyH.nil
    have cob : w'.cell? ⟨w.heap.size + 2, 1, none⟩ = some vO := HB.cell hbox 1
    have fob : w'.frozen? ⟨w.heap.size + 2, 1, none⟩ = false := HB.free hbox 1
    go_simp
    clear cob fob
    have hss2 : HB 103 (w'.setCell ⟨w.heap.size + 2, 1, none⟩ (.slice A9 n9 c9')) wr.heap.size #[.string (bs on), .slice P np cp, .slice Q nq cq] := HB.gr hss (gr_put w' (w.heap.size + 2) 1 _) (fun e => by have := HLO.out; omega)
    have HBB := hI (B.out.trans (((hB.mono (Nat.le_succ _)).trans hBz).mono (Nat.le_of_eq SZ.out)))
    refine hK.out _ _ hss2 (fun hHeld => ?_)
    clear hK hHeld
    try simp only [Act.put, sA, sB, sC]
    refine wpAnyH_done (by kernel_rfl) ?_ _
    go_wp2_with fail
    go_roundw
    case rel => exact ⟨k + 1, _, by go_num, HLT.out, by rw [HSN.out]; exact hCB, HBB.out⟩
    case measure => exact meas_up _ _ HLT.out
   have hi2 : ¬ (k : Int) < (no : Int) := by have := HON.out.1; omega
   obtain h0 := CBX.out
   clear CBX
   rw [List.take_of_length_le (show p.opers.length <= k by omega)] at h0
   have hbw := B00.out.trans (B.out.mono B00.out.size)
   obtain ⟨A8, c8, hv8, -⟩ := h0.d.dl
   obtain ⟨A7, c7, hv7, -⟩ := (h0.o.un okOW).row okOW
   subst hv8
   subst hv7
   have HPV := hI (h0.pv hbw)
   have HBX := hI h0.box
   have HBW := hI hbw
   clear h0 hlt hk hbw
   go_wp2_with (with_reducible refine at_load_ (t := 36) ?_; refine Hid.out ?_)
   refine hI ?_
   refine wpList_load_row rfl _ _ rfl (w.heap.size + 2) rfl _ _ _ _ HBX.out Tryz.underlying36 rfl pr_size ?_
   go_wp2_with (with_reducible refine at_store_ (t := 36) ?_; refine Hid.out ?_)
   refine hI ?_
   refine hb_put rfl _ _ rfl rfl (w.heap.size + 1) rfl rfl pr_size (by simp [Value.oneCell']) (X0.out.below B.out) rfl ?_
   intro wz hxz hgz hsz
   clear hsz
   have XZ := hI hxz
   have BZ := hI (HBW.out.trans (below_gr hgz (B := w.heap.size) HBW.out.size (Nat.le_succ _)))
   have HVZ := hI (HPV.out.gr (S' := fun b => S b ∨ w.heap.size <= b) hgz (fun b _ hk => by
    rcases hk with h | h
    ·exact ⟨fun e => by have := h.2; omega, .inl h.1⟩
    exact ⟨fun e => by omega, .inr (by omega)⟩))
   clear hxz hgz
   go_wp2_with fail
   refine bodyPost_ret (results_cell_row rfl _ _ (w.heap.size + 1) _ _ _ _ rfl XZ.out Tryz.underlying36 rfl pr_size) rfl ?_
   exact ⟨_, rfl, HVZ.out, BZ.out⟩
open Go.RowKit
theorem fmtB_any (b : Bool) (w : World) : Calls Tryz.prog 110 #[.bool b] w fun e w' => e = .returned (.string (bs (Lib.formatBool b))) /\ w' = w := Tryz.strconv_FormatBool b w
/-- The one element of a slice of expressions. -/
theorem XL.one_ {w : World} {S : Nat -> Prop} {A : Option Addr} {n c : Nat} {x : Ex} (h : XL w S A n c [x]) : n = 1 /\ ∃ b q cs, A = some ⟨b, q, none⟩ /\ b < w.heap.size /\ XV w S x cs /\ w.rangeAt b q cs := by
 have hn : n = 1 := h.1.1
 obtain ⟨e, b, q, cs, he, h1, h2, _, h3, h4⟩ := h.at 0 (by omega)
 obtain rfl : x = e := by simpa using he
 exact ⟨hn, b, q, cs, h1, h2, h3, by simpa using h4⟩
theorem XL.two_ {w : World} {S : Nat -> Prop} {A : Option Addr} {n c : Nat} {x y : Ex} (h : XL w S A n c [x, y]) : n = 2 /\ ∃ b q cs ds, A = some ⟨b, q, none⟩ /\ b < w.heap.size /\ XV w S x cs /\ w.rangeAt b q cs /\ XV w S y ds /\ w.rangeAt b (q + 6) ds := by
 have hn : n = 2 := h.1.1
 obtain ⟨e, b, q, cs, he, h1, h2, _, h3, h4⟩ := h.at 0 (by omega)
 obtain ⟨e', b', q', ds, he', h1', h2', _, h3', h4'⟩ := h.at 1 (by omega)
 obtain rfl : x = e := by simpa using he
 obtain rfl : y = e' := by simpa using he'
 rw [h1] at h1'
 injection h1' with h1'
 injection h1' with e1 e2
 subst e1 e2
 exact ⟨hn, b, q, cs, ds, h1, h2, h3, by simpa using h4, h3', by simpa using h4'⟩
theorem text_num (n : Int) (d : Int) (w : World) (S : Nat -> Prop) (cs : List Value) (hw : SxW w) (hc : chkE d (Ex.mk 0 n [] [] [] []) = 0) (hz : (Ex.mk 0 n [] [] [] []).size <= 100000) (hx : XV w S (Ex.mk 0 n [] [] [] []) cs) :
  Calls Tryz.prog 85 #[.agg cs.toArray] w fun e' w' => e' = .returned (.string (bs (txE (Ex.mk 0 n [] [] [] [])))) /\ Below w.heap.size w w' := by
 have hb := (Below.refl w.heap.size w).alloc (Nat.le_refl _) (.cells cs.toArray 27)
 have HT := hI (fmtI_any n hx.num _ (hw.below hb))
 rw [show txE (.mk 0 n [] [] [] []) = Lib.itoa n from by rw [txE, if_pos rfl]]
 obtain ⟨A, na, ca, O, no, co, rfl, -, -⟩ := hx.open_
 clear hx hc hz hw hb
 unfold exC at HT ⊢
 go_enter Tryz.func85, Tryz.ntmps85
 go_wp2_with fail
 refine HT.out.mono ?_
 rintro e w1 ⟨rfl, hb⟩
 go_wp2
 go_ret
 exact ⟨rfl, below_new hb⟩
theorem text_bool (n : Int) (d : Int) (w : World) (S : Nat -> Prop) (cs : List Value) (hw : SxW w) (hc : chkE d (Ex.mk 1 n [] [] [] []) = 0) (hz : (Ex.mk 1 n [] [] [] []).size <= 100000) (hx : XV w S (Ex.mk 1 n [] [] [] []) cs) :
  Calls Tryz.prog 85 #[.agg cs.toArray] w fun e' w' => e' = .returned (.string (bs (txE (Ex.mk 1 n [] [] [] [])))) /\ Below w.heap.size w w' := by
 have hb := (Below.refl w.heap.size w).alloc (Nat.le_refl _) (.cells cs.toArray 27)
 rw [show txE (.mk 1 n [] [] [] []) = Lib.formatBool (decide (n = 1)) from by rw [txE, if_neg (by decide), if_pos rfl]]
 have HT := hI (fun W => fmtB_any (decide (n = 1)) W)
 obtain ⟨A, na, ca, O, no, co, rfl, -, -⟩ := hx.open_
 have HB := hI hb
 have hn1 : (n == 1) = decide (n = 1) := rfl
 clear hx hc hz hw hb
 unfold exC at HB ⊢
 generalize decide (n = 1) = q at *
 go_enter Tryz.func85, Tryz.ntmps85
 go_wp2_with fail
 refine (HT.out _).mono ?_
 rintro e w1 ⟨rfl, h⟩
 subst w1
 go_wp2
 go_ret
 exact ⟨rfl, HB.out⟩
theorem text_var (s : Str) (d : Int) (w : World) (S : Nat -> Prop) (cs : List Value) (hw : SxW w) (hc : chkE d (Ex.mk 2 0 s [] [] []) = 0) (hz : (Ex.mk 2 0 s [] [] []).size <= 100000) (hx : XV w S (Ex.mk 2 0 s [] [] []) cs) :
  Calls Tryz.prog 85 #[.agg cs.toArray] w fun e' w' => e' = .returned (.string (bs (txE (Ex.mk 2 0 s [] [] [])))) /\ Below w.heap.size w w' := by
 have hb := (Below.refl w.heap.size w).alloc (Nat.le_refl _) (.cells cs.toArray 27)
 rw [show txE (.mk 2 0 s [] [] []) = s from by rw [txE, if_neg (by decide), if_neg (by decide), if_pos rfl]]
 obtain ⟨A, na, ca, O, no, co, rfl, -, -⟩ := hx.open_
 have HB := hI hb
 clear hx hc hz hw hb
 unfold exC at HB ⊢
 go_enter Tryz.func85, Tryz.ntmps85
 go_wp2
 go_ret
 exact ⟨rfl, HB.out⟩
theorem text_not (x : Ex) (ih : TextAt x) (d : Int) (w : World) (S : Nat -> Prop) (cs : List Value) (hw : SxW w) (hc : chkE d (Ex.mk 3 0 [] [] [x] []) = 0) (hz : (Ex.mk 3 0 [] [] [x] []).size <= 100000) (hx : XV w S (Ex.mk 3 0 [] [] [x] []) cs) :
  Calls Tryz.prog 85 #[.agg cs.toArray] w fun e' w' => e' = .returned (.string (bs (txE (Ex.mk 3 0 [] [] [x] [])))) /\ Below w.heap.size w w' := by
 have hb := (Below.refl w.heap.size w).alloc (Nat.le_refl _) (.cells cs.toArray 27)
 obtain ⟨-, -, -, -, -, -, -, hch, -⟩ := chkE_fields hc
 have hcx := hch x (by simp)
 obtain ⟨A, na, ca, O, no, co, rfl, hA, -⟩ := hx.open_
 obtain ⟨rfl, b, q, cs, rfl, hbl, hxv, hrow⟩ := hA.one_
 rw [Ex.size, Ex.sizes, Ex.sizes] at hz
 have HT := hI (operAt_of ih (d + 1) _ S cs (hw.below hb) hcx (by omega) (hxv.below hb))
 have HB := hI hb
 have hlen := par_len x (txE x)
 have hl2 := txE_len x _ hcx hxv.wd
 have hrow2 := rangeAt_keep hrow (hb.block b hbl)
 obtain ⟨T, hT⟩ : ∃ T, T = txE (Ex.mk 3 0 [] [] [x] []) := ⟨_, rfl⟩
 rw [<- hT]
 rw [txE, if_neg (by decide), if_neg (by decide), if_neg (by decide), if_pos rfl] at hT
 change T = ([110, 111, 116, 32] : Str) ++ opE x at hT
 change (opE x).length <= _ at hlen
 obtain ⟨t, ht⟩ : ∃ t, t = opE x := ⟨_, rfl⟩
 rw [<- ht] at HT hlen hT
 obtain ⟨c1, hc1⟩ : ∃ c, c = ([110, 111, 116, 32] : Str) ++ t := ⟨_, rfl⟩
 have lc1 : c1.length = 4 + t.length := by rw [hc1]; exact List.length_append
 have jc1 : ∀ w, (Op.stringOp .add (⟨#[110, 111, 116, 32]⟩ : ByteArray) (bs t)).run Tryz.prog w = .ok (.string (bs c1)) w := fun w => by rw [hc1]; exact add_big ([110, 111, 116, 32] : Str) t (by first | omega | (simp; omega)) w
 have HF := hI (show c1 = T from by rw [hT, hc1])
 clear ht hT hc1 lc1 hlen hl2 hcx hch hc hz hx hA hw hb
 obtain ⟨xk, xn, xs, xm, xa, xo⟩ := x
 obtain ⟨A2, na2, ca2, O2, no2, co2, rfl, -, -⟩ := hxv.open_
 unfold exC at HT HB hrow2
 obtain ⟨e0, e1, e2, e3, e4, e5⟩ := exC_at hrow2
 clear hrow hrow2 hxv hbl
 unfold exC
 go_enter Tryz.func85, Tryz.ntmps85
 go_wp2_with fail
 refine HT.out.mono ?_
 rintro e w1 ⟨rfl, hb⟩
 clear e0 e1 e2 e3 e4 e5
 go_wp2
 go_ret
 exact ⟨congrArg (fun x => Ending.returned (.string (bs x))) HF.out, below_new hb⟩
theorem text_neg (x : Ex) (ih : TextAt x) (d : Int) (w : World) (S : Nat -> Prop) (cs : List Value) (hw : SxW w) (hc : chkE d (Ex.mk 4 0 [] [] [x] []) = 0) (hz : (Ex.mk 4 0 [] [] [x] []).size <= 100000) (hx : XV w S (Ex.mk 4 0 [] [] [x] []) cs) :
  Calls Tryz.prog 85 #[.agg cs.toArray] w fun e' w' => e' = .returned (.string (bs (txE (Ex.mk 4 0 [] [] [x] [])))) /\ Below w.heap.size w w' := by
 have hb := (Below.refl w.heap.size w).alloc (Nat.le_refl _) (.cells cs.toArray 27)
 obtain ⟨-, -, -, -, -, -, -, hch, -⟩ := chkE_fields hc
 have hcx := hch x (by simp)
 obtain ⟨A, na, ca, O, no, co, rfl, hA, -⟩ := hx.open_
 obtain ⟨rfl, b, q, cs, rfl, hbl, hxv, hrow⟩ := hA.one_
 rw [Ex.size, Ex.sizes, Ex.sizes] at hz
 have HT := hI (operAt_of ih (d + 1) _ S cs (hw.below hb) hcx (by omega) (hxv.below hb))
 have HB := hI hb
 have hlen := par_len x (txE x)
 have hl2 := txE_len x _ hcx hxv.wd
 have hrow2 := rangeAt_keep hrow (hb.block b hbl)
 obtain ⟨T, hT⟩ : ∃ T, T = txE (Ex.mk 4 0 [] [] [x] []) := ⟨_, rfl⟩
 rw [<- hT]
 rw [txE, if_neg (by decide), if_neg (by decide), if_neg (by decide), if_neg (by decide), if_pos rfl] at hT
 change T = ([45] : Str) ++ opE x at hT
 change (opE x).length <= _ at hlen
 obtain ⟨t, ht⟩ : ∃ t, t = opE x := ⟨_, rfl⟩
 rw [<- ht] at HT hlen hT
 obtain ⟨c1, hc1⟩ : ∃ c, c = ([45] : Str) ++ t := ⟨_, rfl⟩
 have lc1 : c1.length = 1 + t.length := by rw [hc1]; exact List.length_append
 have jc1 : ∀ w, (Op.stringOp .add (⟨#[45]⟩ : ByteArray) (bs t)).run Tryz.prog w = .ok (.string (bs c1)) w := fun w => by rw [hc1]; exact add_big ([45] : Str) t (by first | omega | (simp; omega)) w
 have HF := hI (show c1 = T from by rw [hT, hc1])
 clear ht hT hc1 lc1 hlen hl2 hcx hch hc hz hx hA hw hb
 obtain ⟨xk, xn, xs, xm, xa, xo⟩ := x
 obtain ⟨A2, na2, ca2, O2, no2, co2, rfl, -, -⟩ := hxv.open_
 unfold exC at HT HB hrow2
 obtain ⟨e0, e1, e2, e3, e4, e5⟩ := exC_at hrow2
 clear hrow hrow2 hxv hbl
 unfold exC
 go_enter Tryz.func85, Tryz.ntmps85
 go_wp2_with fail
 refine HT.out.mono ?_
 rintro e w1 ⟨rfl, hb⟩
 clear e0 e1 e2 e3 e4 e5
 go_wp2
 go_ret
 exact ⟨congrArg (fun x => Ending.returned (.string (bs x))) HF.out, below_new hb⟩
end Go.Proofs.YtkakbidllpjopaaGreatDoor
