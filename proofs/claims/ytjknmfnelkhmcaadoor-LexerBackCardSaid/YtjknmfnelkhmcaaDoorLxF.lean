/- The walk of lexer.Scan in one contract: it answers what scanL says. Condition: the package's tables are laid (LxW). -/
import Derived.Test.YtjknmfnelkhmcaaDoorLxE
set_option linter.unusedVariables false
set_option linter.unusedSimpArgs false
namespace Go.Proofs.YtjknmfnelkhmcaaDoor
open Go.RowKit

theorem own_keep' {w w' : World} {base : Nat} {e : TypeId} {size : Nat} {v : Value} {n : Nat} {xs : List Value} (h : w.ownsRow base e size v n xs) (hk : ∀ b, v.ownBlock = some b → w'.heap[b]? = w.heap[b]?) : w'.ownsRow base e size v n xs := by
  refine ⟨h.1, ?_⟩
  rcases h.2 with h2 | ⟨g, cap, cur, rfl, hb, hh, hrest⟩
  · exact .inl h2
  · exact .inr ⟨g, cap, cur, rfl, hb, (hk g rfl).trans hh, hrest⟩
theorem own_below {w w' : World} {base : Nat} {e : TypeId} {size : Nat} {v : Value} {n : Nat} {xs : List Value} (h : w.ownsRow base e size v n xs) (hb : Below w.heap.size w w') : w'.ownsRow base e size v n xs :=
  own_keep' h fun b hb' => hb.block b (h.lt b hb').2
def tokC (t : Tok) : List Value := [.int .i64 t.kind, .string (bs t.text), .int .i64 t.off]
theorem tokC_one (t : Tok) : ∀ u ∈ tokC t, u.oneCell' = true := by
  intro u hu
  simp [tokC] at hu
  rcases hu with rfl | rfl | rfl <;> rfl
theorem Tryd.info33 : (Tryd.prog.info? 33).map (fun i => (i.zero, i.size, i.bytes)) = some (some (.agg #[.int .i64 0, .string { data := #[] }, .int .i64 0]), 3, 32) := by kernel_rfl
theorem tok_zero (w : World) : (zeroValue 33).run Tryd.prog w = .ok (.agg #[.int .i64 0, .string { data := #[] }, .int .i64 0]) w := by
  simp [go_sem]
section
variable {P : Program} {ops : Array Oper} {rest : List Oper} {a : Act} {w : World} {Q : Exit → Act → World → Prop}
theorem wpList_alloc_mine {o : Oper} (hg : o.guard = none) (t : TypeId) (ho : o.op = .alloc t) (dst : Option Tmp) (hd : o.dst = dst)
    (cs : Array Value) (hz : ∀ w, (zeroValue t).run P w = .ok (.agg cs) w) (hc : (Value.agg cs).cells = cs)
    (h : wpList P ops Q rest (a.put dst (.pointer (some ⟨w.heap.size, 0, none⟩))) (w.alloc (.cells cs t))) : wpList P ops Q (o :: rest) a w := by
  subst hd
  refine wpList_plain hg fun K hK => ?_
  unfold Oper.wp execOp
  simp only [ho]
  simp [Instr.alloc, hz, hc, Result.andThen]
  exact hK _ _ h
theorem alloc_tok {o : Oper} (hg : o.guard = none) (ho : o.op = .alloc 33) (k : ∀ w', Box w' w.heap.size (.int .i64 0) (.string { data := #[] }) (.int .i64 0) → Below w.heap.size w w' → wpList Tryd.prog ops Q rest (a.put o.dst (.pointer (some ⟨w.heap.size, 0, none⟩))) w') : wpList Tryd.prog ops Q (o :: rest) a w := by
  refine wpList_alloc_mine hg 33 ho _ rfl _ tok_zero rfl ?_
  exact k _ (heap_alloc_new _ _) ((Below.refl _ _).alloc (Nat.le_refl _) _)
end
theorem Box.set2 {w : World} {g : Nat} {u0 u1 u2 : Value} (h : Box w g u0 u1 u2) (v : Value) : Box (w.setCell ⟨g, 2, none⟩ v) g u0 u1 v ∧ Touch g w (w.setCell ⟨g, 2, none⟩ v) := by
  rw [setCell_eq_setRow w g 2 _ _ _ v h]
  exact ⟨setRow_heap _ _ _ _ _ _ h, _, rfl⟩
theorem Touch.own {g : Nat} {w w' : World} (t : Touch g w w') {base : Nat} {e : TypeId} {size : Nat} {v : Value} {n : Nat} {xs : List Value} (h : w.ownsRow base e size v n xs) (hg : ∀ b, v.ownBlock = some b → b ≠ g) : w'.ownsRow base e size v n xs :=
  own_keep' h fun b hb => t.block (hg b hb)

theorem scanG_succ (f k : Nat) (l : List UInt8) : scanG (f + 1) k l = if l = [] then .ok [] else if (nextT l).2.2 ≠ 0 then .error (k, (nextT l).2.2) else match scanG f (k + (nextT l).2.1.length + blankA false (l.drop (nextT l).2.1.length)) ((l.drop (nextT l).2.1.length).drop (blankA false (l.drop (nextT l).2.1.length))) with
    | .error e => .error e
    | .ok ts => .ok (⟨(nextT l).1, (nextT l).2.1, k⟩ :: ts) := rfl
def preT (acc : List Tok) : Except (Nat × Int) (List Tok) → Except (Nat × Int) (List Tok)
  | .error e => .error e
  | .ok ts => .ok (acc ++ ts)
/-- Where Scan stands: at offset k, with the tokens acc. -/
def ScI (l : List UInt8) (k : Nat) (acc : List Tok) : Prop := ∀ f, l.length < f → scanR l = preT acc (scanG f k (l.drop k))
theorem sc_start (l : List UInt8) : ScI l (blankA false l) [] := by
  intro f hf
  unfold scanR
  rw [scanG_fuel (l.length + 1) f _ _ (by rw [List.length_drop]; omega) (by rw [List.length_drop]; omega)]
  cases scanG f (blankA false l) (l.drop (blankA false l)) <;> rfl
theorem sc_step {l : List UInt8} {k : Nat} {acc : List Tok} (h : ScI l k acc) (hk : k < l.length) (he : (nextT (l.drop k)).2.2 = 0) :
    ScI l (k + (nextT (l.drop k)).2.1.length + blankA false (l.drop (k + (nextT (l.drop k)).2.1.length))) (acc ++ [⟨(nextT (l.drop k)).1, (nextT (l.drop k)).2.1, k⟩]) := by
  intro f hf
  have h1 := h (f + 1) (by omega)
  rw [h1, scanG_succ]
  rw [if_neg (by intro e; have := congrArg List.length e; simp at this; omega), if_neg (by rw [he]; exact fun x => x rfl), List.drop_drop, List.drop_drop]
  generalize scanG f _ _ = r
  cases r with
  | error e => rfl
  | ok ts => simp [preT]
theorem sc_err {l : List UInt8} {k : Nat} {acc : List Tok} (h : ScI l k acc) (hk : k < l.length) (he : (nextT (l.drop k)).2.2 ≠ 0) (h6 : l.length ≤ 65536) : scanL l = ([], k, (nextT (l.drop k)).2.2) := by
  have h1 := h (l.length + 1) (by omega)
  rw [scanG_succ] at h1
  rw [if_neg (by intro e; have := congrArg List.length e; simp at this; omega), if_pos he] at h1
  unfold scanL
  rw [if_neg (by omega), h1]
  rfl
theorem sc_end {l : List UInt8} {acc : List Tok} (h : ScI l l.length acc) (h6 : l.length ≤ 65536) : scanL l = (acc ++ [⟨0, [], l.length⟩], 0, 0) := by
  have h1 := h (l.length + 1) (by omega)
  rw [scanG_succ] at h1
  rw [List.drop_length, if_pos rfl] at h1
  unfold scanL
  rw [if_neg (by omega), h1]
  simp [preT]
theorem sc_more {l : List UInt8} {k : Nat} (hk : k < l.length) (he : (nextT (l.drop k)).2.2 = 0) : 0 < (nextT (l.drop k)).2.1.length ∧ k + (nextT (l.drop k)).2.1.length + blankA false (l.drop (k + (nextT (l.drop k)).2.1.length)) ≤ l.length := by
  obtain ⟨h1, h2⟩ := next_text he
  have h3 := h1.length_le
  have h4 : 0 < (nextT (l.drop k)).2.1.length := List.length_pos_iff.2 h2
  have h5 := blank_le (l.drop (k + (nextT (l.drop k)).2.1.length)) false
  rw [List.length_drop] at h3 h5
  omega

set_option maxRecDepth 100000 in
set_option maxHeartbeats 6400000 in
theorem scan_any (l : List UInt8) (w : World) (hw : LxW w) (hmax : l.length ≤ 9223372036854775807) :
    Calls Tryd.prog 10 #[.string (bs l)] w fun e w' => ∃ v, e = .returned (.tuple #[v, .int .i64 ((scanL l).2.1 : Int), .int .i64 (scanL l).2.2]) ∧ w'.ownsRow w.heap.size 33 3 v (scanL l).1.length ((scanL l).1.flatMap tokC) ∧ Below w.heap.size w w' := by
  obtain ⟨ie, hie0, hie1, hie2, hie3⟩ := info_parts Tryd.info33
  have hsz := bs_size l
  have HW := Lib.hid hw
  by_cases h6 : 65536 < l.length
  · have h6i : (65536 : Int) < (l.length : Int) := by omega
    have HF := Lib.hid (show scanL l = ([], 0, 7) by unfold scanL; rw [if_pos h6])
    clear hw h6 hmax
    go_enter Tryd.func10, Tryd.ntmps10
    go_wp2
    go_ret3
    exact ⟨.slice none 0 0, by rw [HF.out]; rfl, by rw [HF.out]; exact World.ownsRow_nil _ _ _ _, Below.refl _ _⟩
  · have h6i : (l.length : Int) ≤ 65536 := by omega
    have H6 := Lib.hid (show l.length ≤ 65536 by omega)
    have HB0 := Lib.hid (blank_le l false)
    have HS0 := Lib.hid (sc_start l)
    clear hw h6 hmax
    go_enter Tryd.func10, Tryd.ntmps10
    go_wp2_with fail
    refine (blank_any l w H6.out).mono ?_
    rintro e w1 ⟨rfl, rfl⟩
    generalize blankA false l = k0 at *
    go_wp2
    go_loopw [5, 6] (fun v i wr => ∃ (k : Nat) (acc : List Tok), k ≤ l.length ∧ i = .int .i64 k ∧ Hid (ScI l k acc) ∧ Hid (acc.length ≤ k) ∧ Hid (wr.ownsRow w1.heap.size 33 3 v acc.length (acc.flatMap tokC)) ∧ Hid (Below w1.heap.size w1 wr)) (fun _ i _ => l.length - (intOf i).toNat)
    case atStart => exact ⟨k0, [], HB0.out, rfl, HS0, Lib.hid (by simp), Lib.hid (World.ownsRow_nil _ _ _ _), Lib.hid (Below.refl _ _)⟩
    case round =>
      clear HB0 HS0
      obtain ⟨k, acc, hk, rfl, HS, HA, HO, HB⟩ := hrel
      by_cases hlt : k < l.length
      · skip
        have hi : (k : Int) < (l.length : Int) := by omega
        have HK := Lib.hid hlt
        have HW1 := Lib.hid (HW.out.below HB.out)
        have hki : (k : Int) ≤ ((bs l).size : Int) := by omega
        have HNX := Lib.hid fun W (h : LxW W) => next_any (l.drop k) W (by rw [List.length_drop]; have := H6.out; omega) h
        have HST := Lib.hid fun e => sc_step HS.out hlt e
        have HER := Lib.hid fun e => sc_err HS.out hlt e H6.out
        have HMO := Lib.hid fun e => sc_more hlt e
        clear hk hlt
        generalize hnt : nextT (l.drop k) = t at *
        obtain ⟨tk, tx, te⟩ := t
        clear hnt
        unfold tokV at HNX
        dsimp only at HNX HST HER HMO
        go_wp2_with fail
        rw [show (bs l).extract k l.length = bs (l.drop k) from bs_tail l k]
        refine (HNX.out _ HW1.out).mono ?_
        rintro e wb ⟨rfl, hb⟩
        have OB := Lib.hid (own_below HO.out hb)
        have BB := Lib.hid (HB.out.trans (hb.mono HB.out.size))
        have HWb := Lib.hid (HW1.out.below hb)
        have HLT := Lib.hid (show ∀ b, u5.ownBlock = some b → b < wb.heap.size from fun b hbk => Nat.lt_of_lt_of_le (HO.out.lt b hbk).2 hb.size)
        clear hb HO HB HW1 HNX
        go_wp2_with (with_reducible refine at_alloc_ (t := 33) ?_; refine alloc_tok rfl rfl ?_)
        intro wc hx hb
        have X1 := Lib.hid hx
        have OC := Lib.hid (own_below OB.out hb)
        have BC := Lib.hid (BB.out.trans (hb.mono BB.out.size))
        have HWc := Lib.hid (HWb.out.below hb)
        have HQ := Lib.hid BB.out.size
        have HQ2 := Lib.hid X1.out
        clear hx hb OB BB HWb HQ2
        generalize wb.heap.size = q at *
        go_wp2_with (with_reducible refine at_store_ (t := 33) ?_; refine Hid.out ?_)
        refine Lib.hid ?_
        refine put_box (v0 := .int .i64 tk) (v1 := .string (bs tx)) (v2 := .int .i64 0) rfl (.tmp 7) (.tmp 23) rfl rfl q rfl rfl X1.out (by simp [Value.oneCell']) ?_
        intro wd hx ht
        have X2 := Lib.hid hx
        have OD := Lib.hid (ht.own OC.out fun b hb => by have := HLT.out b hb; omega)
        have BD := Lib.hid (ht.below BC.out HQ.out)
        clear hx ht OC BC HWc X1
        have HWd := Lib.hid (HW.out.below BD.out)
        by_cases he : te = 0
        · subst he
          have HST2 := Lib.hid (HST.out rfl)
          obtain ⟨m1, m2⟩ := HMO.out rfl
          have HM := Lib.hid (And.intro m1 m2)
          clear HST HER HMO m1 m2
          obtain ⟨x0, x1, x2⟩ := X2.out.cells
          have hz : ∀ i, wd.frozen? ⟨q, i, none⟩ = false := fun i => not_frozen X2.out i
          obtain ⟨hx3, ht3⟩ := X2.out.set2 (.int .i64 k)
          have X3 := Lib.hid hx3
          have OE := Lib.hid (ht3.own OD.out fun b hb => by have := HLT.out b hb; omega)
          have BE := Lib.hid (ht3.below BD.out HQ.out)
          clear hx3 ht3
          go_wp2_with (with_reducible refine at_load_ (t := 33) ?_; refine Hid.out ?_)
          refine Lib.hid ?_
          clear x0 x1 x2 hz X2 OD BD HWd
          generalize wd.setCell ⟨q, 2, none⟩ (.int .i64 k) = we at *
          refine get_box rfl (.tmp 7) rfl q rfl X3.out ?_
          try simp only [Act.put, List.setIfInBounds_toArray, List.set_cons_zero, List.set_cons_succ]
          have HNR := Lib.hid (Reads.new (S := fun _ => True) (size := 3) (n := 1) we #[.int .i64 tk, .string (bs tx), .int .i64 k] 33 rfl trivial)
          go_wp2_with (at_builtin; (refine wpList_append_any rfl (.tmp 31) (.tmp 33) 23 rfl w1.heap.size 33 ie _ 3 32 Tryd.underlying23 hie0 hie1 hie2 hie3 rfl (by omega) u5 _ _ rfl (OE.out.alloc _) _ _ 1 1 _ rfl HNR.out ?m1 ?m2 ?m3 ?m4 ?m5))
          case m1 => exact ⟨rfl, rfl, rfl⟩
          case m2 => have := HA.out; have := HK.out; have := H6.out; simp only [maxLen]; omega
          case m3 => have := HA.out; have := HK.out; have := H6.out; omega
          case m4 => have := BE.out.size; simp; omega
          case m5 =>
            intro v' wf ho hg _
            have hbx : Below we.heap.size we (we.alloc (.cells #[.int .i64 tk, .string (bs tx), .int .i64 k] 33)) := (Below.refl _ _).alloc (Nat.le_refl _) _
            have OF := Lib.hid (show wf.ownsRow w1.heap.size 33 3 v' (acc ++ [(⟨tk, tx, k⟩ : Tok)]).length ((acc ++ [(⟨tk, tx, k⟩ : Tok)]).flatMap tokC) from by rw [List.length_append, List.flatMap_append]; exact ho)
            have XF := Lib.hid (show Box wf q (.int .i64 tk) (.string (bs tx)) (.int .i64 k) from (hg.block q (Nat.lt_of_lt_of_le (lt_of_block X3.out) hbx.size) (fun e => by have := HLT.out q e.symm; omega)).trans ((hbx.block q (lt_of_block X3.out)).trans X3.out))
            have BF := Lib.hid (Below.grown (BE.out.alloc BE.out.size _) hg (Nat.le_trans BE.out.size hbx.size) (fun j hj => (OE.out.lt j hj).1))
            clear ho hg hbx HNR OE X3 BE HLT
            have x1 := XF.out.cells.2.1
            clear XF
            have htx : (bs tx).size = tx.length := bs_size tx
            have HKN := Lib.hid (show k + tx.length ≤ l.length by have := HM.out.2; omega)
            have hkn : (k : Int) + (tx.length : Int) ≤ 65536 := by have := HM.out.2; have := H6.out; omega
            have hkz : (k : Int) + (tx.length : Int) ≤ (l.length : Int) := by have := HKN.out; omega
            have hk00 : (0 : Int) ≤ (k : Int) + (tx.length : Int) := by omega
            have htn : ((k : Int) + (tx.length : Int)).toNat = k + tx.length := by omega
            go_wp2_with fail
            rw [show (bs l).extract (k + tx.length) l.length = bs (l.drop (k + tx.length)) from bs_tail l _]
            refine (blank_any (l.drop (k + tx.length)) wf (by rw [List.length_drop]; have := H6.out; omega)).mono ?_
            rintro e wg ⟨rfl, rfl⟩
            generalize blankA false (l.drop (k + tx.length)) = bn at *
            have hbn : (k : Int) + (tx.length : Int) + (bn : Int) ≤ 65536 := by have := HM.out.2; have := H6.out; omega
            clear x1 htn
            go_wp2
            go_roundw
            case rel => exact ⟨k + tx.length + bn, acc ++ [⟨tk, tx, k⟩], HM.out.2, by go_num, HST2, Lib.hid (by rw [List.length_append, List.length_singleton]; have := HA.out; have := HM.out.1; omega), OF, BF⟩
            case measure => have := HM.out; have := HK.out; show l.length - ((k : Int) + (tx.length : Int) + (bn : Int)).toNat < l.length - (k : Int).toNat; omega
        · have HF := Lib.hid (HER.out he)
          have hne : ¬ te = 0 := he
          clear HST HER HMO he
          go_wp2
          go_ret3
          exact ⟨.slice none 0 0, by rw [HF.out]; rfl, by rw [HF.out]; exact World.ownsRow_nil _ _ _ _, BD.out⟩
      · skip
        obtain rfl : k = l.length := by omega
        have HF := Lib.hid (sc_end HS.out H6.out)
        clear hk hlt HS
        have HNR := Lib.hid (Reads.new (S := fun _ => True) (size := 3) (n := 1) wr #[.int .i64 0, .string { data := #[] }, .int .i64 (l.length : Int)] 33 rfl trivial)
        go_wp2_with (at_builtin; (refine wpList_append_any rfl (.tmp 46) (.tmp 50) 23 rfl w1.heap.size 33 ie _ 3 32 Tryd.underlying23 hie0 hie1 hie2 hie3 rfl (by omega) u5 _ _ rfl (HO.out.alloc _) _ _ 1 1 _ rfl HNR.out ?m1 ?m2 ?m3 ?m4 ?m5))
        case m1 => first | exact ⟨rfl, rfl, rfl⟩ | exact tokC_one ⟨0, [], l.length⟩
        case m2 => have := HA.out; have := H6.out; simp only [maxLen]; omega
        case m3 => have := HA.out; have := H6.out; omega
        case m4 => have := HB.out.size; simp; omega
        case m5 =>
          intro v' wf ho hg _
          have OF := Lib.hid (show wf.ownsRow w1.heap.size 33 3 v' (acc ++ [(⟨0, [], l.length⟩ : Tok)]).length ((acc ++ [(⟨0, [], l.length⟩ : Tok)]).flatMap tokC) from by rw [List.length_append, List.flatMap_append]; exact ho)
          have BF := Lib.hid (Below.grown (HB.out.alloc HB.out.size _) hg (Nat.le_trans HB.out.size (by simp)) (fun j hj => (HO.out.lt j hj).1))
          clear ho hg HNR HO HB
          go_wp2
          go_ret3
          exact ⟨v', by rw [HF.out]; rfl, by rw [HF.out]; exact OF.out, BF.out⟩
end Go.Proofs.YtjknmfnelkhmcaaDoor
