/- The walks of Expr.operand and list (printed by wip/gensxq.py). Conditions: valid expressions; the library's tables are laid (SxW); at most 100000 parts. -/
import Derived.Test.YthfjkdgaiaokdaaDoorSxP
import Derived.Test.YthfjkdgaiaokdaaDoorSxS2
import Derived.Laws.Concat
import Derived.Lib.AppendIntMem
set_option linter.unusedVariables false
set_option linter.unusedSimpArgs false
namespace Go.Proofs.YthfjkdgaiaokdaaDoor
open Go.RowKit

/-- A row of the call's own that holds strings. -/
abbrev OwnS (w : World) (base : Nat) (v : Value) (L : List (List UInt8)) : Prop := w.ownsRow base 9 1 v L.length (L.map fun x => Value.string (bs x))
theorem Tryd.infoS3 : (Tryd.prog.info? 9).map (fun i => (i.zero, i.size, i.bytes)) = some (some (.string ⟨#[]⟩), 1, 16) := by kernel_rfl
theorem infoS : ∃ i, Tryd.prog.info? 9 = some i ∧ i.zero = some (.string ⟨#[]⟩) ∧ i.size = 1 ∧ i.bytes = 16 := by
  obtain ⟨i, h1, h2⟩ := Option.map_eq_some_iff.1 Tryd.infoS3
  injection h2 with h2 h3
  injection h3 with h3 h4
  exact ⟨i, h1, h2, h3, h4⟩
theorem OwnS.below {w w' : World} {base : Nat} {v : Value} {L : List (List UInt8)} (h : OwnS w base v L) (hb : Below w.heap.size w w') : OwnS w' base v L :=
  World.ownsRow.kept (row := none) h ⟨hb.os, hb.tape, hb.output, hb.size, fun k hk _ => hb.block k hk⟩ (by cases hv : v.ownBlock <;> simp)
set_option maxRecDepth 100000 in
/-- append of one string onto a row of the call's own. -/
theorem as_any {w : World} {ops : Array Oper} {rest : List Oper} {o : Oper} {a : Act} {Q : Exit → Act → World → Prop} (hgd : o.guard = none) (s x : Operand)
    (ho : o.op = .call { callee := .builtin .append, args := #[s, x], argTypes := #[38, 38] }) (base : Nat) (v : Value) (L : List (List UInt8)) (hs : a.eval s = v) (hO : OwnS w base v L)
    (q : Nat) (u : List UInt8) (hx : a.eval x = .slice (some ⟨q, 0, none⟩) 1 1) (hq : q < w.heap.size) (hc : w.cell? ⟨q, 0, none⟩ = some (.string (bs u))) (h1 : L.length + 1 ≤ 100000) (hb : base ≤ w.heap.size)
    (h : ∀ v' w', OwnS w' base v' (L ++ [u]) → w.grownBy w' v.ownBlock → (v'.ownBlock = v.ownBlock ∨ v'.ownBlock = some w.heap.size) → wpList Tryd.prog ops Q rest (a.put o.dst v') w') : wpList Tryd.prog ops Q (o :: rest) a w := by
  obtain ⟨ie, hie0, hie1, hie2, hie3⟩ := infoS
  have hR : Reads w (fun _ => True) 1 (some ⟨q, 0, none⟩) 1 [Value.string (bs u)] := ⟨rfl, fun _ => ⟨q, 0, rfl, hq, trivial, fun j y hy => by
    obtain rfl : j = 0 := by have := (List.getElem?_eq_some_iff.1 hy).1; simpa using this
    injection hy with hy
    subst hy
    exact hc⟩⟩
  refine wpList_append_any hgd s x 38 ho base 9 ie _ 1 16 Tryd.underlying38 hie0 hie1 hie2 hie3 rfl (by omega) v L.length _ hs hO (fun _ => True) _ 1 1 _ hx hR (by intro u hu; rw [List.mem_singleton.1 hu]; rfl) (by simp only [maxLen]; omega) (by omega) hb ?_
  intro v' w' h2 h3 h4
  refine h v' w' ?_ h3 h4
  show w'.ownsRow base _ 1 v' (L ++ [u]).length ((L ++ [u]).map fun x => Value.string (bs x))
  rw [List.map_append, List.length_append]
  exact h2
theorem join_own {w : World} {base : Nat} {v : Value} {L : List (List UInt8)} (h : OwnS w base v L) (sep : List UInt8) (hN : L.length ≤ 100000) (hlen : (Lib.join L sep).length ≤ 100000000) :
    Calls Tryd.prog 25 #[v, .string (bs sep)] w fun e w' => e = .returned (.string (bs (Lib.join L sep))) ∧ Below w.heap.size w w' := by
  obtain ⟨A, c, rfl, hc, hA, hR⟩ := own_reads (S := fun _ => True) h (fun _ _ => trivial)
  cases L with
  | nil =>
    refine (Tryd.strings_Join_none A c (bs sep) w).mono ?_
    rintro e w' ⟨rfl, rfl⟩
    exact ⟨rfl, Below.refl _ _⟩
  | cons x t =>
    obtain ⟨b, o, rfl, hb, _, hcell⟩ := hR.2 (by simp)
    have e : ((x :: t).map bs).map (fun s => s.data.toList) = x :: t := by
      rw [List.map_map]
      exact (List.map_congr_left fun y _ => rfl).trans (List.map_id _)
    have hJ := Tryd.strings_Join b o c ((x :: t).map bs) (bs sep) w (fun j y hy => by
      rw [List.getElem?_map] at hy
      obtain ⟨z, hz, rfl⟩ := Option.map_eq_some_iff.1 hy
      exact hcell j _ (by rw [List.getElem?_map, hz]; rfl)) hb (by rw [List.length_map]; omega) (by rw [List.length_map]; exact hc) (by rw [e, bs_list]; omega)
    rw [e, bs_list, List.length_map] at hJ
    exact hJ

theorem own_bz {wo wb W : World} {base : Nat} {v : Value} {L : List (List UInt8)} {o : Obj} (h : OwnS wo base v L) (hk : Below wo.heap.size wo wb) (hb : Bz wb W) : OwnS (W.alloc o) base v L :=
  OwnS.below (OwnS.below (OwnS.below h hk) hb.b) ((Below.refl _ _).alloc (Nat.le_refl _) _)
theorem lt_new (W : World) (o : Obj) : W.heap.size < (W.alloc o).heap.size := by simp
theorem cell_new (W : World) (v : Value) {t : TypeId} : (W.alloc (.cells #[v] t)).cell? ⟨W.heap.size, 0, none⟩ = some v := by rw [World.cell?_alloc_at _ _ _ _ rfl]; rfl
theorem size_bz {w wo wb W : World} {o : Obj} (h : Below w.heap.size w wo) (hk : Below wo.heap.size wo wb) (hb : Bz wb W) : w.heap.size ≤ (W.alloc o).heap.size := by
  have h1 := h.size
  have h2 := hk.size
  have h3 := hb.b.size
  simp
  omega
theorem below_bz {w wb W w4 : World} {o : Obj} {v : Value} (h : Below w.heap.size w wb) (hb : Bz wb W) (hg : (W.alloc o).grownBy w4 v.ownBlock) (hv : ∀ q, v.ownBlock = some q → w.heap.size ≤ q) : Below w.heap.size w w4 := by
  have h1 := h.trans (hb.b.mono h.size)
  exact (h1.alloc h1.size o).grown hg (by have := h1.size; simp; omega) hv


def TextAt (e : Ex) : Prop := ∀ (d : Int) (w : World) (S : Nat → Prop) (cs : List Value), SxW w → chkE d e = 0 → e.size ≤ 100000 → XV w S e cs → Calls Tryd.prog 66 #[.agg cs.toArray] w fun e' w' => e' = .returned (.string (bs (txE e))) ∧ Below w.heap.size w w'
def OperAt (e : Ex) : Prop := ∀ (d : Int) (w : World) (S : Nat → Prop) (cs : List Value), SxW w → chkE d e = 0 → e.size ≤ 100000 → XV w S e cs → Calls Tryd.prog 82 #[.agg cs.toArray] w fun e' w' => e' = .returned (.string (bs (opE e))) ∧ Below w.heap.size w w'
def ListAt (l : List Ex) : Prop := ∀ (d : Int) (w : World) (S : Nat → Prop) (A : Option Addr) (n c : Nat), SxW w → (∀ x ∈ l, chkE d x = 0) → Ex.sizes l ≤ 100000 → XL w S A n c l → Calls Tryd.prog 83 #[.slice A n c] w fun e' w' => e' = .returned (.string (bs (Lib.join (l.map txE) [44, 32]))) ∧ Below w.heap.size w w'
theorem add_big (x y : List UInt8) (h : x.length + y.length ≤ 1000000000) (w : World) : (Op.stringOp .add (bs x) (bs y)).run Tryd.prog w = .ok (.string (bs (x ++ y))) w := by
  unfold bs
  rw [run_string_add_sum w _ _ (by simp [ByteArray.size]; omega)]
  congr 2
theorem fmtI_any (n : Int) (h : InR n) (w : World) (hp : SxW w) :
    Calls Tryd.prog 67 #[.int .i64 n, .int .i64 10] w fun e w' => e = .returned (.string (bs (Lib.itoa n))) ∧ Below w.heap.size w w' :=
  (Go.Proofs.Any.strconv_FormatInt_10 Tryd.laysM173 n h.1 h.2 w hp.pow).mono fun e w' ⟨he, k, os, hw⟩ => ⟨he, hw ▸ Lib.below_grow _ w (Nat.le_refl _) k os⟩

set_option maxRecDepth 100000 in
set_option maxHeartbeats 12800000 in
theorem operand_par (k n : Int) (s m : Str) (a o : List Ex) (d : Int) (w : World) (S : Nat → Prop) (cs : List Value) (hw : SxW w) (hc : chkE d (.mk k n s m a o) = 0) (hz : (Ex.mk k n s m a o).size ≤ 100000) (hx : XV w S (.mk k n s m a o) cs) (ih : TextAt (.mk k n s m a o)) :
    Calls Tryd.prog 82 #[.agg cs.toArray] w fun e' w' => e' = .returned (.string (bs (opE (.mk k n s m a o)))) ∧ Below w.heap.size w w' := by
  have hb := (Below.refl w.heap.size w).alloc (Nat.le_refl _) (.cells cs.toArray 44)
  have HT := Lib.hid (ih d _ S cs (hw.below hb) hc hz (hx.below hb))
  have HB := Lib.hid hb
  have hlen := txE_len _ d hc hx.wd
  obtain ⟨A, na, ca, O, no, co, rfl, hA, hO⟩ := hx.open_
  obtain ⟨t, ht⟩ : ∃ t, t = txE (.mk k n s m a o) := ⟨_, rfl⟩
  have e : opE (.mk k n s m a o) = if k = 5 ∨ k = 3 ∨ k = 4 ∨ (k = 6 ∧ 0 < no) then [40] ++ t ++ [41] else t := by
    rw [ht, hO.1.1]; rfl
  rw [← ht] at HT hlen
  obtain ⟨T, hT⟩ : ∃ T, T = opE (.mk k n s m a o) := ⟨_, rfl⟩
  rw [← hT]
  rw [e] at hT
  obtain ⟨c1, hc1⟩ : ∃ c, c = ([40] : Str) ++ t := ⟨_, rfl⟩
  have lc1 : c1.length = 1 + t.length := by rw [hc1]; exact List.length_append
  have jc1 : ∀ w, (Op.stringOp .add (⟨#[40]⟩ : ByteArray) (bs t)).run Tryd.prog w = .ok (.string (bs c1)) w := fun w => by rw [hc1]; exact add_big ([40] : Str) t (by first | omega | (simp; omega)) w
  obtain ⟨c2, hc2⟩ : ∃ c, c = c1 ++ ([41] : Str) := ⟨_, rfl⟩
  have lc2 : c2.length = c1.length + 1 := by rw [hc2]; exact List.length_append
  have jc2 : ∀ w, (Op.stringOp .add (bs c1) (⟨#[41]⟩ : ByteArray)).run Tryd.prog w = .ok (.string (bs c2)) w := fun w => by rw [hc2]; exact add_big c1 ([41] : Str) (by first | omega | (simp; omega)) w
  have hcc : c2 = [40] ++ t ++ [41] := by rw [hc2, hc1]
  rw [← hcc] at hT
  clear hb hw hc hz hx ih hA hO e ht hlen hc1 hc2 lc1 lc2 hcc
  unfold exC at HT HB ⊢
  by_cases k5 : k = 5
  · subst k5
    obtain rfl : T = c2 := by rw [hT, if_pos (by omega)]
    clear hT
    go_enter Tryd.func82, Tryd.ntmps82
    go_wp2_with fail
    refine HT.out.mono ?_
    rintro e w1 ⟨rfl, hb⟩
    go_wp2
    go_ret
    exact ⟨rfl, below_new hb⟩
  by_cases k3 : k = 3
  · subst k3
    obtain rfl : T = c2 := by rw [hT, if_pos (by omega)]
    clear hT
    go_enter Tryd.func82, Tryd.ntmps82
    go_wp2_with fail
    refine HT.out.mono ?_
    rintro e w1 ⟨rfl, hb⟩
    go_wp2
    go_ret
    exact ⟨rfl, below_new hb⟩
  by_cases k4 : k = 4
  · subst k4
    obtain rfl : T = c2 := by rw [hT, if_pos (by omega)]
    clear hT
    go_enter Tryd.func82, Tryd.ntmps82
    go_wp2_with fail
    refine HT.out.mono ?_
    rintro e w1 ⟨rfl, hb⟩
    go_wp2
    go_ret
    exact ⟨rfl, below_new hb⟩
  by_cases k6 : k = 6
  · subst k6
    by_cases no0 : 0 < (no : Int)
    · obtain rfl : T = c2 := by rw [hT, if_pos (by omega)]
      clear hT
      go_enter Tryd.func82, Tryd.ntmps82
      go_wp2_with fail
      refine HT.out.mono ?_
      rintro e w1 ⟨rfl, hb⟩
      go_wp2
      go_ret
      exact ⟨rfl, below_new hb⟩
    · obtain rfl : T = t := by rw [hT, if_neg (by omega)]
      clear hT jc1 jc2
      go_enter Tryd.func82, Tryd.ntmps82
      go_wp2_with fail
      refine HT.out.mono ?_
      rintro e w1 ⟨rfl, hb⟩
      go_wp2
      go_ret
      exact ⟨rfl, below_new hb⟩
  · obtain rfl : T = t := by rw [hT, if_neg (by omega)]
    have k51 : (k == 5) = false := by simp [k5]
    have k31 : (k == 3) = false := by simp [k3]
    have k41 : (k == 4) = false := by simp [k4]
    have k61 : (k == 6) = false := by simp [k6]
    clear hT jc1 jc2 k5 k3 k4 k6
    go_enter Tryd.func82, Tryd.ntmps82
    go_wp2_with fail
    refine HT.out.mono ?_
    rintro e w1 ⟨rfl, hb⟩
    go_wp2
    go_ret
    exact ⟨rfl, below_new hb⟩
theorem operAt_of {e : Ex} (h : TextAt e) : OperAt e := by
  obtain ⟨k, n, s, m, a, o⟩ := e
  exact fun d w S cs hw hc hz hx => operand_par k n s m a o d w S cs hw hc hz hx h
theorem texts_len {l : List Ex} {d : Int} (h : ∀ x ∈ l, chkE d x = 0) (hw : Ex.Wds l) (hz : Ex.sizes l ≤ 100000) : (Lib.join (l.map txE) [44, 32]).length ≤ 130 * Ex.sizes l + l.length * 2 := by
  have hA : (l.map fun x => (txE x).length).sum ≤ 130 * (l.map Ex.size).sum := sum_le _ _ _ _ fun x hx => txE_len x d (h x hx) (Ex.Wds_mem hw x hx)
  have hj := join_len [44, 32] (l.map txE)
  rw [List.map_map, List.length_map] at hj
  have hj' : (Lib.join (l.map txE) [44, 32]).length ≤ (l.map fun x => (txE x).length).sum + l.length * 2 := hj
  rw [sizes_sum]
  omega
theorem XL.wds {w : World} {S : Nat → Prop} {A : Option Addr} {n c : Nat} {l : List Ex} (h : XL w S A n c l) : Ex.Wds l := by
  cases l with
  | nil => rw [Ex.Wds]; trivial
  | cons e t =>
    obtain ⟨b, q, _, _, _, hx⟩ := h.2 (by rw [h.1.1]; simp)
    exact XLf.wd hx
theorem Ex.len_sizes : ∀ (l : List Ex), l.length ≤ Ex.sizes l
  | [] => Nat.zero_le _
  | e :: t => by
    have := Ex.len_sizes t
    obtain ⟨k, n, s, m, a, o⟩ := e
    rw [Ex.sizes, Ex.size, List.length_cons]
    omega
set_option maxRecDepth 100000 in
set_option maxHeartbeats 12800000 in
theorem listAt_of {l : List Ex} (h : ∀ x ∈ l, TextAt x) : ListAt l := by
  intro d w S A n c hw hc hz hl
  have HIN := Lib.hid h
  have HL := Lib.hid hl
  have HLN := Lib.hid hl.1.1
  have HWS := Lib.hid hw
  have HC := Lib.hid hc
  have HZ := Lib.hid hz
  have hn6 : (n : Int) ≤ 100000 := by have := hl.1.1; have := Ex.len_sizes l; omega
  have HJL := Lib.hid (texts_len hc hl.wds hz)
  have HO0 := Lib.hid (show OwnS w w.heap.size (.slice none 0 0) ((l.take 0).map txE) from World.ownsRow_nil _ _ _ _)
  have HB0 := Lib.hid (Below.refl w.heap.size w)
  obtain ⟨T, hT⟩ : ∃ T, T = Lib.join (l.map txE) [44, 32] := ⟨_, rfl⟩
  rw [← hT]
  have HT := Lib.hid hT
  clear h hl hw hc hz hT
  go_enter Tryd.func83, Tryd.ntmps83
  go_wp2_with fail
  go_loopw [3, 8] (fun vv i wr => ∃ k : Nat, k ≤ l.length ∧ i = .int .i64 k ∧ Hid (OwnS wr w.heap.size vv ((l.take k).map txE)) ∧ Hid (Below w.heap.size w wr)) (fun _ i _ => l.length - (intOf i).toNat)
  case atStart => exact ⟨0, Nat.zero_le _, rfl, HO0, HB0⟩
  case round =>
    clear HO0 HB0
    obtain ⟨k, hk, rfl, HO, HB⟩ := hrel
    by_cases hlt : k < l.length
    · have hi2 : (k : Int) < (n : Int) := by have := HLN.out; omega
      obtain ⟨x, b, off, cs, hx, rfl, hb, hS, hxv, hrow⟩ := HL.out.at k (by have := HLN.out; omega)
      have HQL := Lib.hid hlt
      have HXQ := Lib.hid hx
      have hmem := List.mem_of_getElem? hx
      have hbb := HB.out.alloc HB.out.size (.cells cs.toArray 44)
      have HTX := Lib.hid (HIN.out x hmem d _ S cs (HWS.out.below hbb) (HC.out x hmem) (by have := Ex.sizes_mem hmem; have := HZ.out; omega) (hxv.below hbb))
      have HBB := Lib.hid hbb
      obtain ⟨t, ht⟩ : ∃ t, t = txE x := ⟨_, rfl⟩
      rw [← ht] at HTX
      have HSN := Lib.hid (show (l.take (k + 1)).map txE = (l.take k).map txE ++ [t] by rw [List.take_add_one, hx, ht]; simp)
      have hrow2 := rangeAt_keep hrow (HB.out.block b hb)
      obtain ⟨xk, xn, xs, xm, xa, xo⟩ := x
      obtain ⟨A2, na2, ca2, O2, no2, co2, rfl, -, -⟩ := hxv.open_
      obtain ⟨e0, e1, e2, e3, e4, e5⟩ := exC_at hrow2
      have HK1 := Lib.hid (show Below wr.heap.size wr (wr.alloc (.cells (exC xk xn xs xm A2 na2 ca2 O2 no2 co2).toArray 44)) from (Below.refl _ _).alloc (Nat.le_refl _) _)
      clear hx hb hS hxv hrow hrow2 hlt hmem hbb ht
      unfold exC at HTX HBB HK1
      have HM := Lib.hid (show ((l.take k).map txE).length ≤ 100000 by rw [List.length_map, List.length_take]; have := Ex.len_sizes l; have := HZ.out; omega)
      have HLTK := Lib.hid (show ((l.take k).map txE).length + 1 ≤ 100000 by rw [List.length_map, List.length_take]; have := Ex.len_sizes l; have := HZ.out; have := HQL.out; omega)
      go_wp2_with fail
      refine HTX.out.mono ?_
      rintro e wo ⟨rfl, hbo⟩
      have zo : Bz (wr.alloc (.cells #[.int .i64 xk, .int .i64 xn, .string (bs xs), .string (bs xm), .slice A2 na2 ca2, .slice O2 no2 co2] 44)) wo := ⟨hbo⟩
      clear hbo e0 e1 e2 e3 e4 e5 HTX
      go_wp2_with ((at_builtin; refine as_any rfl (.tmp 12) (.tmp 15) rfl w.heap.size _ ((l.take k).map txE) rfl ?_ _ t rfl (lt_new _ _) (cell_new _ _) HLTK.out ?_ ?_))
      rotate_left
      rotate_left
      intro v3 w4 ho hg hv
      have hB4 := below_bz HBB.out (by assumption) hg (fun q hq => (HO.out.lt q hq).1)
      have HO4 := Lib.hid ho
      have HB4 := Lib.hid hB4
      clear ho hg hv hB4
      go_wp2
      go_roundw
      case rel => exact ⟨k + 1, HQL.out, by go_num, Lib.hid (by rw [HSN.out, List.map_take]; exact HO4.out), HB4⟩
      case measure => exact meas_up _ _ HQL.out
      · exact own_bz HO.out HK1.out (by assumption)
      · exact size_bz HB.out HK1.out (by assumption)
    · have hi2 : ¬ (k : Int) < (n : Int) := by have := HLN.out; omega
      have HF := Lib.hid (show l.take k = l from List.take_of_length_le (by omega))
      rw [HF.out] at HO
      have C4 := Lib.hid (join_own HO.out [44, 32] (by rw [List.length_map]; have := Ex.len_sizes l; have := HZ.out; omega) (by have := HJL.out; have := Ex.len_sizes l; have := HZ.out; omega))
      rw [← HT.out] at C4
      have C5 : Hid (∀ x : Unit, Calls Tryd.prog 25 #[_, .string ⟨#[44, 32]⟩] wr fun e w' => e = .returned (.string (bs T)) ∧ Below wr.heap.size wr w') := Lib.hid (fun _ => C4.out)
      clear C4 HT hlt hk
      go_wp2_with fail
      refine (C5.out ()).mono ?_
      rintro e w9 ⟨rfl, hb⟩
      have HB9 := Lib.hid (HB.out.trans (hb.mono HB.out.size))
      clear hb
      go_wp2
      go_ret
      exact ⟨rfl, HB9.out⟩
end Go.Proofs.YthfjkdgaiaokdaaDoor
