/- The walk of syntax.Same (printed by wip/genpzg.py): it tells whether two programs are equal. Conditions: at most 1000000 parts a list. The walks of sameExpr, sameStmt, sameOper (printed by wip/genpzh.py). Conditions: at most 1000000 parts a list. -/
import Derived.Test.YthfjkdgaiaokdaaDoorSxO
import Derived.Test.YthfjkdgaiaokdaaDoorSxS
import Derived.Test.YthfjkdgaiaokdaaDoorSxQ
set_option linter.unusedVariables false
set_option linter.unusedSimpArgs false
namespace Go.Proofs.YthfjkdgaiaokdaaDoor
open Go.RowKit

/-- Whether two things are equal. -/
noncomputable def eqC {α : Type} (a b : α) : Bool := @decide (a = b) (Classical.propDecidable _)
theorem eqC_pos {α : Type} {a b : α} (h : a = b) : eqC a b = true := by unfold eqC; simpa using h
theorem eqC_neg {α : Type} {a b : α} (h : a ≠ b) : eqC a b = false := by unfold eqC; simpa using h
theorem take_next {α : Type} {l1 l2 : List α} {q : Nat} {x y : α} (h : l1.take q = l2.take q) (h1 : l1[q]? = some x) (h2 : l2[q]? = some y) (e : x = y) : l1.take (q + 1) = l2.take (q + 1) := by
  rw [List.take_add_one, List.take_add_one, h, h1, h2, e]
theorem range3 {w : World} {b o : Nat} {u0 u1 u2 : Value} (h : w.rangeAt b o [u0, u1, u2]) : w.cell? ⟨b, o, none⟩ = some u0 ∧ w.cell? ⟨b, o + 1, none⟩ = some u1 ∧ w.cell? ⟨b, o + 2, none⟩ = some u2 := ⟨h 0 _ rfl, h 1 _ rfl, h 2 _ rfl⟩
def SameE (x y : Ex) : Prop := ∀ (w : World) (S S' : Nat → Prop) (cs ds : List Value), XV w S x cs → XV w S' y ds →
  Calls Tryd.prog 69 #[.agg cs.toArray, .agg ds.toArray] w fun e' w' => e' = .returned (.bool (eqC x y)) ∧ Below w.heap.size w w'
def SameS (x y : St) : Prop := ∀ (w : World) (S S' : Nat → Prop) (cs ds : List Value), SV w S x cs → SV w S' y ds →
  Calls Tryd.prog 53 #[.agg cs.toArray, .agg ds.toArray] w fun e' w' => e' = .returned (.bool (eqC x y)) ∧ Below w.heap.size w w'
def SameO (x y : Oper') : Prop := ∀ (w : World) (S S' : Nat → Prop) (cs ds : List Value), OV w S x cs → OV w S' y ds →
  Calls Tryd.prog 33 #[.agg cs.toArray, .agg ds.toArray] w fun e' w' => e' = .returned (.bool (eqC x y)) ∧ Below w.heap.size w w'
def SameEL (l1 l2 : List Ex) : Prop := ∀ (w : World) (S S' : Nat → Prop) (A A' : Option Addr) (n c n' c' : Nat), XL w S A n c l1 → XL w S' A' n' c' l2 → n ≤ 1000000 →
  Calls Tryd.prog 85 #[.slice A n c, .slice A' n' c', .func (.func 69) #[] #[]] w fun e' w' => e' = .returned (.bool (eqC l1 l2)) ∧ Below w.heap.size w w'
def SameSL (l1 l2 : List St) : Prop := ∀ (w : World) (S S' : Nat → Prop) (A A' : Option Addr) (n c n' c' : Nat), SL w S A n c l1 → SL w S' A' n' c' l2 → n ≤ 1000000 →
  Calls Tryd.prog 52 #[.slice A n c, .slice A' n' c', .func (.func 53) #[] #[]] w fun e' w' => e' = .returned (.bool (eqC l1 l2)) ∧ Below w.heap.size w w'
def SameOL (l1 l2 : List Oper') : Prop := ∀ (w : World) (S S' : Nat → Prop) (A A' : Option Addr) (n c n' c' : Nat), OL w S A n c l1 → OL w S' A' n' c' l2 → n ≤ 1000000 →
  Calls Tryd.prog 32 #[.slice A n c, .slice A' n' c', .func (.func 33) #[] #[]] w fun e' w' => e' = .returned (.bool (eqC l1 l2)) ∧ Below w.heap.size w w'
set_option maxRecDepth 100000 in
set_option maxHeartbeats 12800000 in
theorem SameEL.of {l1 l2 : List Ex} (h : ∀ x ∈ l1, ∀ y ∈ l2, SameE x y) : SameEL l1 l2 := by
  intro w S S' A A' n c n' c' hl hl2 hn
  have HIN := Lib.hid h
  have HL := Lib.hid hl
  have HL2 := Lib.hid hl2
  have HLEN := Lib.hid hl.1.1
  have HLEN2 := Lib.hid hl2.1.1
  have hn6 : (n : Int) ≤ 1000000 := by omega
  have HPOS := Lib.hid (show l1 = l2 → eqC l1 l2 = true from eqC_pos)
  have HNEG := Lib.hid (show l1 ≠ l2 → eqC l1 l2 = false from eqC_neg)
  generalize eqC l1 l2 = E at *
  have hb0 : Below w.heap.size w w := Below.refl _ _
  clear h hl hl2 hn
  by_cases hnn : n' = n
  · subst hnn
    go_enter Tryd.func85, Tryd.ntmps85
    go_wp2_with fail
    go_loopw [17] (fun i wx => ∃ q : Nat, q ≤ l1.length ∧ i = .int .i64 q ∧ Hid (l1.take q = l2.take q) ∧ Below w.heap.size w wx) (fun i _ => l1.length - (intOf i).toNat)
    case atStart => exact ⟨0, Nat.zero_le _, rfl, Lib.hid (by rw [List.take_zero, List.take_zero]), hb0⟩
    case round =>
      clear hb0
      obtain ⟨q, hq, rfl, n3, zq⟩ := hrel
      by_cases hlq : q < l1.length
      · have hi2 : (q : Int) < (n' : Int) := by have := HLEN.out; omega
        obtain ⟨x, b, off, cs, hx, rfl, hb, hS, hxv, hrow⟩ := HL.out.at q (by have := HLEN.out; omega)
        obtain ⟨y, b2, off2, ds, hy, rfl, hb2, hS2, hyv, hrow2⟩ := HL2.out.at q (by have := HLEN.out; omega)
        have HXV := Lib.hid hxv
        have HYV := Lib.hid hyv
        have HQL := Lib.hid hlq
        have HXQ := Lib.hid hx
        have HYQ := Lib.hid hy
        have HIH := Lib.hid (HIN.out x (List.mem_of_getElem? hx) y (List.mem_of_getElem? hy))
        have EP := Lib.hid (show x = y → eqC x y = true from eqC_pos)
        have EN := Lib.hid (show x ≠ y → eqC x y = false from eqC_neg)
        unfold SameE at HIH
        generalize eqC x y = v at *
        have hrow3 := rangeAt_keep hrow (zq.block b hb)
        obtain ⟨k1, n1, s1, m1, a1, o1⟩ := x
        obtain ⟨A1, na1, ca1, O1, no1, co1, rfl, -, -⟩ := hxv.open_
        obtain ⟨c0, c1, c2, c3, c4, c5⟩ := exC_at hrow3
        have zq1 := zq.alloc zq.size (.cells #[.int .i64 k1, .int .i64 n1, .string (bs s1), .string (bs m1), .slice A1 na1 ca1, .slice O1 no1 co1] 44)
        have hrow4 := rangeAt_keep hrow2 (zq1.block b2 hb2)
        obtain ⟨k2, n2, s2, m2, a2, o2⟩ := y
        obtain ⟨A2, na2, ca2, O2, no2, co2, rfl, -, -⟩ := hyv.open_
        obtain ⟨d0, d1, d2, d3, d4, d5⟩ := exC_at hrow4
        clear hx hy hb hb2 hS hS2 hxv hyv hrow hrow2 hrow3 hrow4 hlq hq
        unfold exC at HXV HYV
        have zq2 := zq1.alloc zq1.size (.cells #[.int .i64 k2, .int .i64 n2, .string (bs s2), .string (bs m2), .slice A2 na2 ca2, .slice O2 no2 co2] 44)
        have HXV := Lib.hid (HXV.out.below zq2)
        have HYV := Lib.hid (HYV.out.below zq2)
        have HC2 := HIH.out _ S S' _ _ HXV.out HYV.out
        have HC2 := Lib.hid HC2
        go_wp2_with fail
        refine HC2.out.mono ?_
        rintro e' w2 ⟨rfl, hb2⟩
        have zq3 := zq2.trans (hb2.mono zq2.size)
        clear HC2 hb2 c0 c1 c2 c3 c4 c5 d0 d1 d2 d3 d4 d5 zq zq1 zq2 HIH HXV HYV
        cases v with
        | true =>
          go_wp2
          go_roundw
          case rel => exact ⟨q + 1, HQL.out, by go_num, Lib.hid (take_next n3.out HXQ.out HYQ.out (Classical.byContradiction fun h => by have := EN.out h; cases this)), zq3⟩
          case measure => exact meas_up _ _ HQL.out
        | false =>
          have HR := Lib.hid (show E = false from HNEG.out fun e => by
            have h1 := HXQ.out
            rw [e, HYQ.out] at h1
            have := EP.out (Option.some.inj h1).symm
            cases this)
          go_wp2
          go_ret
          exact ⟨congrArg (fun v => Ending.returned (.bool v)) HR.out.symm, zq3⟩
      · have hi2 : ¬ (q : Int) < (n' : Int) := by have := HLEN.out; omega
        have HR := Lib.hid (show E = true from HPOS.out (by
          have h := n3.out
          rwa [List.take_of_length_le (by omega), List.take_of_length_le (by have := HLEN.out; have := HLEN2.out; omega)] at h))
        clear hlq hq n3
        go_wp2
        go_ret
        exact ⟨congrArg (fun v => Ending.returned (.bool v)) HR.out.symm, zq⟩
  · have HR := Lib.hid (show E = false from HNEG.out fun e => hnn (by have h1 := HLEN.out; have h2 := HLEN2.out; rw [e] at h1; omega))
    have hne : ¬ (n : Int) = (n' : Int) := by omega
    clear hnn HL HL2 HIN
    go_enter Tryd.func85, Tryd.ntmps85
    go_wp2
    go_ret
    exact ⟨congrArg (fun v => Ending.returned (.bool v)) HR.out.symm, hb0⟩
set_option maxRecDepth 100000 in
set_option maxHeartbeats 12800000 in
theorem SameSL.of {l1 l2 : List St} (h : ∀ x ∈ l1, ∀ y ∈ l2, SameS x y) : SameSL l1 l2 := by
  intro w S S' A A' n c n' c' hl hl2 hn
  have HIN := Lib.hid h
  have HL := Lib.hid hl
  have HL2 := Lib.hid hl2
  have HLEN := Lib.hid hl.1.1
  have HLEN2 := Lib.hid hl2.1.1
  have hn6 : (n : Int) ≤ 1000000 := by omega
  have HPOS := Lib.hid (show l1 = l2 → eqC l1 l2 = true from eqC_pos)
  have HNEG := Lib.hid (show l1 ≠ l2 → eqC l1 l2 = false from eqC_neg)
  generalize eqC l1 l2 = E at *
  have hb0 : Below w.heap.size w w := Below.refl _ _
  clear h hl hl2 hn
  by_cases hnn : n' = n
  · subst hnn
    go_enter Tryd.func52, Tryd.ntmps52
    go_wp2_with fail
    go_loopw [17] (fun i wx => ∃ q : Nat, q ≤ l1.length ∧ i = .int .i64 q ∧ Hid (l1.take q = l2.take q) ∧ Below w.heap.size w wx) (fun i _ => l1.length - (intOf i).toNat)
    case atStart => exact ⟨0, Nat.zero_le _, rfl, Lib.hid (by rw [List.take_zero, List.take_zero]), hb0⟩
    case round =>
      clear hb0
      obtain ⟨q, hq, rfl, n3, zq⟩ := hrel
      by_cases hlq : q < l1.length
      · have hi2 : (q : Int) < (n' : Int) := by have := HLEN.out; omega
        obtain ⟨x, b, off, cs, hx, rfl, hb, hS, hxv, hrow⟩ := HL.out.at q (by have := HLEN.out; omega)
        obtain ⟨y, b2, off2, ds, hy, rfl, hb2, hS2, hyv, hrow2⟩ := HL2.out.at q (by have := HLEN.out; omega)
        have HXV := Lib.hid hxv
        have HYV := Lib.hid hyv
        have HQL := Lib.hid hlq
        have HXQ := Lib.hid hx
        have HYQ := Lib.hid hy
        have HIH := Lib.hid (HIN.out x (List.mem_of_getElem? hx) y (List.mem_of_getElem? hy))
        have EP := Lib.hid (show x = y → eqC x y = true from eqC_pos)
        have EN := Lib.hid (show x ≠ y → eqC x y = false from eqC_neg)
        unfold SameS at HIH
        generalize eqC x y = v at *
        have hrow3 := rangeAt_keep hrow (zq.block b hb)
        obtain ⟨k1, s1, n1, e1, b1, l1⟩ := x
        obtain ⟨ex1, B1, nb1, cb1, L1, nl1, cl1, rfl, hex1, -, -⟩ := hxv.open_
        obtain ⟨ek1, en1, es1, em1, ea1, eo1⟩ := e1
        obtain ⟨A1, na1, ca1, O1, no1, co1, rfl, -, -⟩ := hex1.open_
        clear hex1
        obtain ⟨c0, c1, c2, c3, c4, c5, c6, c7, c8, c9, c10⟩ := stC_at hrow3
        have zq1 := zq.alloc zq.size (.cells #[.int .i64 k1, .string (bs s1), .int .i64 n1, .int .i64 ek1, .int .i64 en1, .string (bs es1), .string (bs em1), .slice A1 na1 ca1, .slice O1 no1 co1, .slice B1 nb1 cb1, .slice L1 nl1 cl1] 46)
        have hrow4 := rangeAt_keep hrow2 (zq1.block b2 hb2)
        obtain ⟨k2, s2, n2, e2, b2, l2⟩ := y
        obtain ⟨ex2, B2, nb2, cb2, L2, nl2, cl2, rfl, hex2, -, -⟩ := hyv.open_
        obtain ⟨ek2, en2, es2, em2, ea2, eo2⟩ := e2
        obtain ⟨A2, na2, ca2, O2, no2, co2, rfl, -, -⟩ := hex2.open_
        clear hex2
        obtain ⟨d0, d1, d2, d3, d4, d5, d6, d7, d8, d9, d10⟩ := stC_at hrow4
        clear hx hy hb hb2 hS hS2 hxv hyv hrow hrow2 hrow3 hrow4 hlq hq
        unfold stC exC at HXV HYV
        simp only [List.cons_append, List.nil_append] at HXV HYV
        have zq2 := zq1.alloc zq1.size (.cells #[.int .i64 k2, .string (bs s2), .int .i64 n2, .int .i64 ek2, .int .i64 en2, .string (bs es2), .string (bs em2), .slice A2 na2 ca2, .slice O2 no2 co2, .slice B2 nb2 cb2, .slice L2 nl2 cl2] 46)
        have HXV := Lib.hid (HXV.out.below zq2)
        have HYV := Lib.hid (HYV.out.below zq2)
        have HC2 := HIH.out _ S S' _ _ HXV.out HYV.out
        have HC2 := Lib.hid HC2
        go_wp2_with fail
        refine HC2.out.mono ?_
        rintro e' w2 ⟨rfl, hb2⟩
        have zq3 := zq2.trans (hb2.mono zq2.size)
        clear HC2 hb2 c0 c1 c2 c3 c4 c5 c6 c7 c8 c9 c10 d0 d1 d2 d3 d4 d5 d6 d7 d8 d9 d10 zq zq1 zq2 HIH HXV HYV
        cases v with
        | true =>
          go_wp2
          go_roundw
          case rel => exact ⟨q + 1, HQL.out, by go_num, Lib.hid (take_next n3.out HXQ.out HYQ.out (Classical.byContradiction fun h => by have := EN.out h; cases this)), zq3⟩
          case measure => exact meas_up _ _ HQL.out
        | false =>
          have HR := Lib.hid (show E = false from HNEG.out fun e => by
            have h1 := HXQ.out
            rw [e, HYQ.out] at h1
            have := EP.out (Option.some.inj h1).symm
            cases this)
          go_wp2
          go_ret
          exact ⟨congrArg (fun v => Ending.returned (.bool v)) HR.out.symm, zq3⟩
      · have hi2 : ¬ (q : Int) < (n' : Int) := by have := HLEN.out; omega
        have HR := Lib.hid (show E = true from HPOS.out (by
          have h := n3.out
          rwa [List.take_of_length_le (by omega), List.take_of_length_le (by have := HLEN.out; have := HLEN2.out; omega)] at h))
        clear hlq hq n3
        go_wp2
        go_ret
        exact ⟨congrArg (fun v => Ending.returned (.bool v)) HR.out.symm, zq⟩
  · have HR := Lib.hid (show E = false from HNEG.out fun e => hnn (by have h1 := HLEN.out; have h2 := HLEN2.out; rw [e] at h1; omega))
    have hne : ¬ (n : Int) = (n' : Int) := by omega
    clear hnn HL HL2 HIN
    go_enter Tryd.func52, Tryd.ntmps52
    go_wp2
    go_ret
    exact ⟨congrArg (fun v => Ending.returned (.bool v)) HR.out.symm, hb0⟩
set_option maxRecDepth 100000 in
set_option maxHeartbeats 12800000 in
theorem SameOL.of {l1 l2 : List Oper'} (h : ∀ x ∈ l1, ∀ y ∈ l2, SameO x y) : SameOL l1 l2 := by
  intro w S S' A A' n c n' c' hl hl2 hn
  have HIN := Lib.hid h
  have HL := Lib.hid hl
  have HL2 := Lib.hid hl2
  have HLEN := Lib.hid hl.1
  have HLEN2 := Lib.hid hl2.1
  have hn6 : (n : Int) ≤ 1000000 := by omega
  have HPOS := Lib.hid (show l1 = l2 → eqC l1 l2 = true from eqC_pos)
  have HNEG := Lib.hid (show l1 ≠ l2 → eqC l1 l2 = false from eqC_neg)
  generalize eqC l1 l2 = E at *
  have hb0 : Below w.heap.size w w := Below.refl _ _
  clear h hl hl2 hn
  by_cases hnn : n' = n
  · subst hnn
    go_enter Tryd.func32, Tryd.ntmps32
    go_wp2_with fail
    go_loopw [17] (fun i wx => ∃ q : Nat, q ≤ l1.length ∧ i = .int .i64 q ∧ Hid (l1.take q = l2.take q) ∧ Below w.heap.size w wx) (fun i _ => l1.length - (intOf i).toNat)
    case atStart => exact ⟨0, Nat.zero_le _, rfl, Lib.hid (by rw [List.take_zero, List.take_zero]), hb0⟩
    case round =>
      clear hb0
      obtain ⟨q, hq, rfl, n3, zq⟩ := hrel
      by_cases hlq : q < l1.length
      · have hi2 : (q : Int) < (n' : Int) := by have := HLEN.out; omega
        obtain ⟨b, off, cs, rfl, hb, hS, ⟨x, hx, hxv⟩, hrow⟩ := HL.out.2.at q (by have := HLEN.out; omega)
        obtain ⟨b2, off2, ds, rfl, hb2, hS2, ⟨y, hy, hyv⟩, hrow2⟩ := HL2.out.2.at q (by have := HLEN.out; omega)
        have HXV := Lib.hid hxv
        have HYV := Lib.hid hyv
        have HQL := Lib.hid hlq
        have HXQ := Lib.hid hx
        have HYQ := Lib.hid hy
        have HIH := Lib.hid (HIN.out x (List.mem_of_getElem? hx) y (List.mem_of_getElem? hy))
        have EP := Lib.hid (show x = y → eqC x y = true from eqC_pos)
        have EN := Lib.hid (show x ≠ y → eqC x y = false from eqC_neg)
        unfold SameO at HIH
        generalize eqC x y = v at *
        have hrow3 := rangeAt_keep hrow (zq.block b hb)
        obtain ⟨P1, np1, cp1, B1, nb1, cb1, rfl, -, -⟩ := id hxv
        obtain ⟨c0, c1, c2⟩ := range3 hrow3
        have zq1 := zq.alloc zq.size (.cells #[.string (bs x.name), .slice P1 np1 cp1, .slice B1 nb1 cb1] 41)
        have hrow4 := rangeAt_keep hrow2 (zq1.block b2 hb2)
        obtain ⟨P2, np2, cp2, B2, nb2, cb2, rfl, -, -⟩ := id hyv
        obtain ⟨d0, d1, d2⟩ := range3 hrow4
        clear hx hy hb hb2 hS hS2 hxv hyv hrow hrow2 hrow3 hrow4 hlq hq
        have ha1 : True := trivial
        have zq2 := zq1.alloc zq1.size (.cells #[.string (bs y.name), .slice P2 np2 cp2, .slice B2 nb2 cb2] 41)
        have HXV := Lib.hid (HXV.out.keep zq2.size (fun b hlt _ => zq2.block b hlt) (fun _ _ h => h))
        have HYV := Lib.hid (HYV.out.keep zq2.size (fun b hlt _ => zq2.block b hlt) (fun _ _ h => h))
        have HC2 := HIH.out _ S S' _ _ HXV.out HYV.out
        have HC2 := Lib.hid HC2
        go_wp2_with fail
        refine HC2.out.mono ?_
        rintro e' w2 ⟨rfl, hb2⟩
        have zq3 := zq2.trans (hb2.mono zq2.size)
        clear HC2 hb2 c0 c1 c2 d0 d1 d2 zq zq1 zq2 HIH HXV HYV
        cases v with
        | true =>
          go_wp2
          go_roundw
          case rel => exact ⟨q + 1, HQL.out, by go_num, Lib.hid (take_next n3.out HXQ.out HYQ.out (Classical.byContradiction fun h => by have := EN.out h; cases this)), zq3⟩
          case measure => exact meas_up _ _ HQL.out
        | false =>
          have HR := Lib.hid (show E = false from HNEG.out fun e => by
            have h1 := HXQ.out
            rw [e, HYQ.out] at h1
            have := EP.out (Option.some.inj h1).symm
            cases this)
          go_wp2
          go_ret
          exact ⟨congrArg (fun v => Ending.returned (.bool v)) HR.out.symm, zq3⟩
      · have hi2 : ¬ (q : Int) < (n' : Int) := by have := HLEN.out; omega
        have HR := Lib.hid (show E = true from HPOS.out (by
          have h := n3.out
          rwa [List.take_of_length_le (by omega), List.take_of_length_le (by have := HLEN.out; have := HLEN2.out; omega)] at h))
        clear hlq hq n3
        go_wp2
        go_ret
        exact ⟨congrArg (fun v => Ending.returned (.bool v)) HR.out.symm, zq⟩
  · have HR := Lib.hid (show E = false from HNEG.out fun e => hnn (by have h1 := HLEN.out; have h2 := HLEN2.out; rw [e] at h1; omega))
    have hne : ¬ (n : Int) = (n' : Int) := by omega
    clear hnn HL HL2 HIN
    go_enter Tryd.func32, Tryd.ntmps32
    go_wp2
    go_ret
    exact ⟨congrArg (fun v => Ending.returned (.bool v)) HR.out.symm, hb0⟩
end Go.Proofs.YthfjkdgaiaokdaaDoor
namespace Go.Proofs.YthfjkdgaiaokdaaDoor
open Go.RowKit

theorem beq_int {a b : Int} : (a = b → (a == b) = true) ∧ (a ≠ b → (a == b) = false) := ⟨fun h => by simp [h], fun h => by simp [h]⟩
theorem eqC_ne {α : Type} {a b : α} (h : a = b → False) : eqC a b = false := eqC_neg h
set_option maxRecDepth 100000 in
set_option maxHeartbeats 25600000 in
theorem sameE_of (k1 n1 : Int) (s1 m1 : Str) (a1 o1 : List Ex) (iha : ∀ l, SameEL a1 l) (iho : ∀ l, SameEL o1 l) (hz : (Ex.mk k1 n1 s1 m1 a1 o1).size ≤ 1000000) (y : Ex) : SameE (.mk k1 n1 s1 m1 a1 o1) y := by
  intro w S S' cs ds hx hy
  obtain ⟨k2, n2, s2, m2, a2, o2⟩ := y
  obtain ⟨A1, na1, ca1, O1, no1, co1, rfl, hA1, hO1⟩ := hx.open_
  obtain ⟨A2, na2, ca2, O2, no2, co2, rfl, hA2, hO2⟩ := hy.open_
  rw [Ex.size] at hz
  have lna : na1 ≤ 1000000 := by have := hA1.1.1; have := Ex.len_sizes a1; omega
  have lno : no1 ≤ 1000000 := by have := hO1.1.1; have := Ex.len_sizes o1; omega
  obtain ⟨W0, hW0⟩ : ∃ W0 : World, W0 = (w.alloc (.cells #[.int .i64 k1, .int .i64 n1, .string (bs s1), .string (bs m1), .slice A1 na1 ca1, .slice O1 no1 co1] 44)).alloc (.cells #[.int .i64 k2, .int .i64 n2, .string (bs s2), .string (bs m2), .slice A2 na2 ca2, .slice O2 no2 co2] 44) := ⟨_, rfl⟩
  have hba : Below w.heap.size w (w.alloc (.cells #[.int .i64 k1, .int .i64 n1, .string (bs s1), .string (bs m1), .slice A1 na1 ca1, .slice O1 no1 co1] 44)) := (Below.refl _ _).alloc (Nat.le_refl _) _
  have hb0 : Below w.heap.size w W0 := by rw [hW0]; exact hba.alloc hba.size _
  have HF := Lib.hid (show ∀ W, Bz W0 W → (W.cell? ⟨w.heap.size, 0, none⟩ = some (.int .i64 k1) ∧ W.cell? ⟨w.heap.size, 1, none⟩ = some (.int .i64 n1) ∧ W.cell? ⟨w.heap.size, 2, none⟩ = some (.string (bs s1)) ∧ W.cell? ⟨w.heap.size, 3, none⟩ = some (.string (bs m1)) ∧ W.cell? ⟨w.heap.size, 4, none⟩ = some (.slice A1 na1 ca1) ∧ W.cell? ⟨w.heap.size, 5, none⟩ = some (.slice O1 no1 co1) ∧ W.cell? ⟨w.heap.size + 1, 0, none⟩ = some (.int .i64 k2) ∧ W.cell? ⟨w.heap.size + 1, 1, none⟩ = some (.int .i64 n2) ∧ W.cell? ⟨w.heap.size + 1, 2, none⟩ = some (.string (bs s2)) ∧ W.cell? ⟨w.heap.size + 1, 3, none⟩ = some (.string (bs m2)) ∧ W.cell? ⟨w.heap.size + 1, 4, none⟩ = some (.slice A2 na2 ca2) ∧ W.cell? ⟨w.heap.size + 1, 5, none⟩ = some (.slice O2 no2 co2)) from fun W h => by
    subst hW0
    have hs1 : (w.alloc (.cells #[.int .i64 k1, .int .i64 n1, .string (bs s1), .string (bs m1), .slice A1 na1 ca1, .slice O1 no1 co1] 44)).heap.size = w.heap.size + 1 := World.size_alloc ..
    have hq := heap_alloc_new w (.cells #[.int .i64 k1, .int .i64 n1, .string (bs s1), .string (bs m1), .slice A1 na1 ca1, .slice O1 no1 co1] 44)
    have hq2 := heap_alloc_new (w.alloc (.cells #[.int .i64 k1, .int .i64 n1, .string (bs s1), .string (bs m1), .slice A1 na1 ca1, .slice O1 no1 co1] 44)) (.cells #[.int .i64 k2, .int .i64 n2, .string (bs s2), .string (bs m2), .slice A2 na2 ca2, .slice O2 no2 co2] 44)
    have hq1 := (((Below.refl _ (w.alloc (.cells #[.int .i64 k1, .int .i64 n1, .string (bs s1), .string (bs m1), .slice A1 na1 ca1, .slice O1 no1 co1] 44))).alloc (Nat.le_refl _) (.cells #[.int .i64 k2, .int .i64 n2, .string (bs s2), .string (bs m2), .slice A2 na2 ca2, .slice O2 no2 co2] 44)).block w.heap.size (lt_of_block hq)).trans hq
    rw [hs1] at hq2
    have h1 := fun j v (hv : (#[.int .i64 k1, .int .i64 n1, .string (bs s1), .string (bs m1), .slice A1 na1 ca1, .slice O1 no1 co1] : Array Value)[j]? = some v) => cell_of_Bz h (g := w.heap.size) (j := j) (v := v) (by rw [cell_of_row _ _ _ _ _ _ hq1]; exact hv) (lt_of_block hq1)
    have h2 := fun j v (hv : (#[.int .i64 k2, .int .i64 n2, .string (bs s2), .string (bs m2), .slice A2 na2 ca2, .slice O2 no2 co2] : Array Value)[j]? = some v) => cell_of_Bz h (g := w.heap.size + 1) (j := j) (v := v) (by rw [cell_of_row _ _ _ _ _ _ hq2]; exact hv) (lt_of_block hq2)
    exact ⟨h1 0 _ rfl, h1 1 _ rfl, h1 2 _ rfl, h1 3 _ rfl, h1 4 _ rfl, h1 5 _ rfl, h2 0 _ rfl, h2 1 _ rfl, h2 2 _ rfl, h2 3 _ rfl, h2 4 _ rfl, h2 5 _ rfl⟩)
  have HG := Lib.hid (show ∀ W, Bz W0 W → Below w.heap.size w W from fun W h => hb0.trans (h.b.mono hb0.size))
  have z0 : Bz W0 W0 := ⟨Below.refl _ _⟩
  have KA := Lib.hid (show ∀ W, Bz W0 W → _ from fun W h => iha a2 W S S' A1 A2 na1 ca1 na2 ca2 (hA1.below (HG.out W h)) (hA2.below (HG.out W h)) lna)
  have KO := Lib.hid (show ∀ W, Bz W0 W → _ from fun W h => iho o2 W S S' O1 O2 no1 co1 no2 co2 (hO1.below (HG.out W h)) (hO2.below (HG.out W h)) lno)
  have NE := Lib.hid (show (k1 ≠ k2 ∨ n1 ≠ n2 ∨ s1 ≠ s2 ∨ m1 ≠ m2 ∨ eqC a1 a2 = false ∨ eqC o1 o2 = false) → eqC (Ex.mk k1 n1 s1 m1 a1 o1) (.mk k2 n2 s2 m2 a2 o2) = false from fun h => eqC_neg fun e => by
    injection e with e1 e2 e3 e4 e5 e6
    rcases h with h | h | h | h | h | h
    · exact h e1
    · exact h e2
    · exact h e3
    · exact h e4
    · rw [eqC_pos e5] at h; cases h
    · rw [eqC_pos e6] at h; cases h)
  have YE := Lib.hid (show k1 = k2 → n1 = n2 → s1 = s2 → m1 = m2 → eqC a1 a2 = true → eqC o1 o2 = true → eqC (Ex.mk k1 n1 s1 m1 a1 o1) (.mk k2 n2 s2 m2 a2 o2) = true from fun h1 h2 h3 h4 h5 h6 => by
    have e5 : a1 = a2 := Classical.byContradiction fun h => by rw [eqC_neg h] at h5; cases h5
    have e6 : o1 = o2 := Classical.byContradiction fun h => by rw [eqC_neg h] at h6; cases h6
    exact eqC_pos (by rw [h1, h2, h3, h4, e5, e6]))
  generalize eqC (Ex.mk k1 n1 s1 m1 a1 o1) (.mk k2 n2 s2 m2 a2 o2) = E at *
  generalize eqC a1 a2 = ea at *
  generalize eqC o1 o2 = eo at *
  clear hx hy hA1 hO1 hA2 hO2 iha iho hz lna lno hb0 hba
  unfold exC
  by_cases h : k1 = k2
  · subst h
    have qk : (k1 == k1) = true := beq_self_eq_true _
    by_cases h : n1 = n2
    · subst h
      have qn : (n1 == n1) = true := beq_self_eq_true _
      by_cases h : s1 = s2
      · subst h
        have qs : ((bs s1).toList == (bs s1).toList) = true := beq_self_eq_true _
        by_cases h : m1 = m2
        · subst h
          have qm : ((bs m1).toList == (bs m1).toList) = true := beq_self_eq_true _
          go_enter Tryd.func69, Tryd.ntmps69
          go_upto_region 1 with fail
          rw [← hW0]
          clear hW0
          obtain ⟨c0, c1, c2, c3, c4, c5, d0, d1, d2, d3, d4, d5⟩ := HF.out _ z0
          go_wp2_with fail
          refine (KA.out _ z0).mono ?_
          rintro e w1 ⟨rfl, hb⟩
          have z1 := z0.next hb
          clear hb c0 c1 c2 c3 c4 c5 d0 d1 d2 d3 d4 d5
          obtain ⟨c0, c1, c2, c3, c4, c5, d0, d1, d2, d3, d4, d5⟩ := HF.out _ z1
          cases ea with
          | false =>
            have h : False ∨ false = false := .inr rfl
            have HR := Lib.hid (NE.out (.inr (.inr (.inr (.inr (.inl rfl))))))
            obtain rfl := HR.out
            go_wp2_with fail
            go_ret
            exact ⟨rfl, HG.out _ z1⟩
          | true =>
            go_wp2_with fail
            refine (KO.out _ z1).mono ?_
            rintro e w2 ⟨rfl, hb⟩
            have z2 := z1.next hb
            clear hb c0 c1 c2 c3 c4 c5 d0 d1 d2 d3 d4 d5
            obtain ⟨c0, c1, c2, c3, c4, c5, d0, d1, d2, d3, d4, d5⟩ := HF.out _ z2
            cases eo with
            | false =>
              have h : False ∨ false = false := .inr rfl
              have HR := Lib.hid (NE.out (.inr (.inr (.inr (.inr (.inr rfl))))))
              obtain rfl := HR.out
              go_wp2_with fail
              go_ret
              exact ⟨rfl, HG.out _ z2⟩
            | true =>
              have HR := Lib.hid (YE.out (by first | trivial | rfl) (by first | trivial | rfl) (by first | trivial | rfl) (by first | trivial | rfl) (by first | trivial | rfl) (by first | trivial | rfl))
              obtain rfl := HR.out
              go_wp2_with fail
              go_ret
              exact ⟨rfl, HG.out _ z2⟩
        · have HR := Lib.hid (NE.out (.inr (.inr (.inr (.inl h)))))
          obtain rfl := HR.out
          have qm : ((bs m1).toList == (bs m2).toList) = false := by rw [bs_toList, bs_toList]; simp [h]
          have qm2 : ¬ (bs m1).toList = (bs m2).toList := by rw [bs_toList, bs_toList]; exact h
          go_enter Tryd.func69, Tryd.ntmps69
          go_upto_region 1 with fail
          rw [← hW0]
          clear hW0
          obtain ⟨c0, c1, c2, c3, c4, c5, d0, d1, d2, d3, d4, d5⟩ := HF.out _ z0
          go_wp2_with fail
          go_ret
          exact ⟨rfl, HG.out _ z0⟩
      · have HR := Lib.hid (NE.out (.inr (.inr (.inl h))))
        obtain rfl := HR.out
        have qs : ((bs s1).toList == (bs s2).toList) = false := by rw [bs_toList, bs_toList]; simp [h]
        have qs2 : ¬ (bs s1).toList = (bs s2).toList := by rw [bs_toList, bs_toList]; exact h
        go_enter Tryd.func69, Tryd.ntmps69
        go_upto_region 1 with fail
        rw [← hW0]
        clear hW0
        obtain ⟨c0, c1, c2, c3, c4, c5, d0, d1, d2, d3, d4, d5⟩ := HF.out _ z0
        go_wp2_with fail
        go_ret
        exact ⟨rfl, HG.out _ z0⟩
    · have HR := Lib.hid (NE.out (.inr (.inl h)))
      obtain rfl := HR.out
      have qn : (n1 == n2) = false := by simp [h]
      go_enter Tryd.func69, Tryd.ntmps69
      go_upto_region 1 with fail
      rw [← hW0]
      clear hW0
      obtain ⟨c0, c1, c2, c3, c4, c5, d0, d1, d2, d3, d4, d5⟩ := HF.out _ z0
      go_wp2_with fail
      go_ret
      exact ⟨rfl, HG.out _ z0⟩
  · have HR := Lib.hid (NE.out (.inl h))
    obtain rfl := HR.out
    have qk : (k1 == k2) = false := by simp [h]
    go_enter Tryd.func69, Tryd.ntmps69
    go_upto_region 1 with fail
    rw [← hW0]
    clear hW0
    obtain ⟨c0, c1, c2, c3, c4, c5, d0, d1, d2, d3, d4, d5⟩ := HF.out _ z0
    go_wp2_with fail
    go_ret
    exact ⟨rfl, HG.out _ z0⟩
theorem sameE_any : ∀ (N : Nat) (x : Ex), x.size ≤ N → N ≤ 1000000 → ∀ y, SameE x y := by
  intro N
  induction N with
  | zero => intro x h; obtain ⟨_, _, _, _, _, _⟩ := x; rw [Ex.size] at h; omega
  | succ N ih =>
    intro x h hN y
    obtain ⟨k, n, s, m, a, o⟩ := x
    have hz := h
    rw [Ex.size] at h
    exact sameE_of k n s m a o (fun l => SameEL.of fun x hx y hy => ih x (by have := Ex.sizes_mem hx; omega) (by omega) y) (fun l => SameEL.of fun x hx y hy => ih x (by have := Ex.sizes_mem hx; omega) (by omega) y) (by omega) y
theorem sameE {x : Ex} (h : x.size ≤ 1000000) (y : Ex) : SameE x y := sameE_any x.size x (Nat.le_refl _) h y
set_option maxRecDepth 100000 in
set_option maxHeartbeats 25600000 in
theorem sameS_of (k1 : Int) (s1 : Str) (n1 : Int) (x1 : Ex) (b1 l1 : List St) (ihb : ∀ l, SameSL b1 l) (ihl : ∀ l, SameSL l1 l) (hz : (St.mk k1 s1 n1 x1 b1 l1).size ≤ 1000000) (y : St) : SameS (.mk k1 s1 n1 x1 b1 l1) y := by
  intro w S S' cs ds hx hy
  obtain ⟨k2, s2, n2, x2, b2, l2⟩ := y
  obtain ⟨ex1, B1, nb1, cb1, L1, nl1, cl1, rfl, hX1, hA1, hO1⟩ := hx.open_
  obtain ⟨ex2, B2, nb2, cb2, L2, nl2, cl2, rfl, hX2, hA2, hO2⟩ := hy.open_
  rw [St.size] at hz
  have lna : nb1 ≤ 1000000 := by have := hA1.1.1; have := St.len_sizes b1; omega
  have lno : nl1 ≤ 1000000 := by have := hO1.1.1; have := St.len_sizes l1; omega
  have KXX := Lib.hid (sameE (x := x1) (by omega) x2)
  obtain ⟨xx1, hxx1⟩ : ∃ z, z = x1 := ⟨_, rfl⟩
  obtain ⟨xx2, hxx2⟩ : ∃ z, z = x2 := ⟨_, rfl⟩
  rw [← hxx1, ← hxx2] at KXX
  rw [← hxx1] at hX1
  rw [← hxx2] at hX2
  have HX1 := Lib.hid hX1
  have HX2 := Lib.hid hX2
  obtain ⟨ek1, en1, es1, em1, ea1, eo1⟩ := xx1
  obtain ⟨ek2, en2, es2, em2, ea2, eo2⟩ := xx2
  obtain ⟨A1, na1, ca1, O1, no1, co1, rfl, -, -⟩ := hX1.open_
  obtain ⟨A2, na2, ca2, O2, no2, co2, rfl, -, -⟩ := hX2.open_
  rw [hxx1, hxx2] at KXX
  rw [hxx1] at HX1
  rw [hxx2] at HX2
  clear hxx1 hxx2 hX1 hX2
  obtain ⟨W0, hW0⟩ : ∃ W0 : World, W0 = (w.alloc (.cells #[.int .i64 k1, .string (bs s1), .int .i64 n1, .int .i64 ek1, .int .i64 en1, .string (bs es1), .string (bs em1), .slice A1 na1 ca1, .slice O1 no1 co1, .slice B1 nb1 cb1, .slice L1 nl1 cl1] 46)).alloc (.cells #[.int .i64 k2, .string (bs s2), .int .i64 n2, .int .i64 ek2, .int .i64 en2, .string (bs es2), .string (bs em2), .slice A2 na2 ca2, .slice O2 no2 co2, .slice B2 nb2 cb2, .slice L2 nl2 cl2] 46) := ⟨_, rfl⟩
  have hba : Below w.heap.size w (w.alloc (.cells #[.int .i64 k1, .string (bs s1), .int .i64 n1, .int .i64 ek1, .int .i64 en1, .string (bs es1), .string (bs em1), .slice A1 na1 ca1, .slice O1 no1 co1, .slice B1 nb1 cb1, .slice L1 nl1 cl1] 46)) := (Below.refl _ _).alloc (Nat.le_refl _) _
  have hb0 : Below w.heap.size w W0 := by rw [hW0]; exact hba.alloc hba.size _
  have HF := Lib.hid (show ∀ W, Bz W0 W → (W.cell? ⟨w.heap.size, 0, none⟩ = some (.int .i64 k1) ∧ W.cell? ⟨w.heap.size, 1, none⟩ = some (.string (bs s1)) ∧ W.cell? ⟨w.heap.size, 2, none⟩ = some (.int .i64 n1) ∧ W.cell? ⟨w.heap.size, 3, none⟩ = some (.int .i64 ek1) ∧ W.cell? ⟨w.heap.size, 4, none⟩ = some (.int .i64 en1) ∧ W.cell? ⟨w.heap.size, 5, none⟩ = some (.string (bs es1)) ∧ W.cell? ⟨w.heap.size, 6, none⟩ = some (.string (bs em1)) ∧ W.cell? ⟨w.heap.size, 7, none⟩ = some (.slice A1 na1 ca1) ∧ W.cell? ⟨w.heap.size, 8, none⟩ = some (.slice O1 no1 co1) ∧ W.cell? ⟨w.heap.size, 9, none⟩ = some (.slice B1 nb1 cb1) ∧ W.cell? ⟨w.heap.size, 10, none⟩ = some (.slice L1 nl1 cl1) ∧ W.cell? ⟨w.heap.size + 1, 0, none⟩ = some (.int .i64 k2) ∧ W.cell? ⟨w.heap.size + 1, 1, none⟩ = some (.string (bs s2)) ∧ W.cell? ⟨w.heap.size + 1, 2, none⟩ = some (.int .i64 n2) ∧ W.cell? ⟨w.heap.size + 1, 3, none⟩ = some (.int .i64 ek2) ∧ W.cell? ⟨w.heap.size + 1, 4, none⟩ = some (.int .i64 en2) ∧ W.cell? ⟨w.heap.size + 1, 5, none⟩ = some (.string (bs es2)) ∧ W.cell? ⟨w.heap.size + 1, 6, none⟩ = some (.string (bs em2)) ∧ W.cell? ⟨w.heap.size + 1, 7, none⟩ = some (.slice A2 na2 ca2) ∧ W.cell? ⟨w.heap.size + 1, 8, none⟩ = some (.slice O2 no2 co2) ∧ W.cell? ⟨w.heap.size + 1, 9, none⟩ = some (.slice B2 nb2 cb2) ∧ W.cell? ⟨w.heap.size + 1, 10, none⟩ = some (.slice L2 nl2 cl2)) from fun W h => by
    subst hW0
    have hs1 : (w.alloc (.cells #[.int .i64 k1, .string (bs s1), .int .i64 n1, .int .i64 ek1, .int .i64 en1, .string (bs es1), .string (bs em1), .slice A1 na1 ca1, .slice O1 no1 co1, .slice B1 nb1 cb1, .slice L1 nl1 cl1] 46)).heap.size = w.heap.size + 1 := World.size_alloc ..
    have hq := heap_alloc_new w (.cells #[.int .i64 k1, .string (bs s1), .int .i64 n1, .int .i64 ek1, .int .i64 en1, .string (bs es1), .string (bs em1), .slice A1 na1 ca1, .slice O1 no1 co1, .slice B1 nb1 cb1, .slice L1 nl1 cl1] 46)
    have hq2 := heap_alloc_new (w.alloc (.cells #[.int .i64 k1, .string (bs s1), .int .i64 n1, .int .i64 ek1, .int .i64 en1, .string (bs es1), .string (bs em1), .slice A1 na1 ca1, .slice O1 no1 co1, .slice B1 nb1 cb1, .slice L1 nl1 cl1] 46)) (.cells #[.int .i64 k2, .string (bs s2), .int .i64 n2, .int .i64 ek2, .int .i64 en2, .string (bs es2), .string (bs em2), .slice A2 na2 ca2, .slice O2 no2 co2, .slice B2 nb2 cb2, .slice L2 nl2 cl2] 46)
    have hq1 := (((Below.refl _ (w.alloc (.cells #[.int .i64 k1, .string (bs s1), .int .i64 n1, .int .i64 ek1, .int .i64 en1, .string (bs es1), .string (bs em1), .slice A1 na1 ca1, .slice O1 no1 co1, .slice B1 nb1 cb1, .slice L1 nl1 cl1] 46))).alloc (Nat.le_refl _) (.cells #[.int .i64 k2, .string (bs s2), .int .i64 n2, .int .i64 ek2, .int .i64 en2, .string (bs es2), .string (bs em2), .slice A2 na2 ca2, .slice O2 no2 co2, .slice B2 nb2 cb2, .slice L2 nl2 cl2] 46)).block w.heap.size (lt_of_block hq)).trans hq
    rw [hs1] at hq2
    have h1 := fun j v (hv : (#[.int .i64 k1, .string (bs s1), .int .i64 n1, .int .i64 ek1, .int .i64 en1, .string (bs es1), .string (bs em1), .slice A1 na1 ca1, .slice O1 no1 co1, .slice B1 nb1 cb1, .slice L1 nl1 cl1] : Array Value)[j]? = some v) => cell_of_Bz h (g := w.heap.size) (j := j) (v := v) (by rw [cell_of_row _ _ _ _ _ _ hq1]; exact hv) (lt_of_block hq1)
    have h2 := fun j v (hv : (#[.int .i64 k2, .string (bs s2), .int .i64 n2, .int .i64 ek2, .int .i64 en2, .string (bs es2), .string (bs em2), .slice A2 na2 ca2, .slice O2 no2 co2, .slice B2 nb2 cb2, .slice L2 nl2 cl2] : Array Value)[j]? = some v) => cell_of_Bz h (g := w.heap.size + 1) (j := j) (v := v) (by rw [cell_of_row _ _ _ _ _ _ hq2]; exact hv) (lt_of_block hq2)
    exact ⟨h1 0 _ rfl, h1 1 _ rfl, h1 2 _ rfl, h1 3 _ rfl, h1 4 _ rfl, h1 5 _ rfl, h1 6 _ rfl, h1 7 _ rfl, h1 8 _ rfl, h1 9 _ rfl, h1 10 _ rfl, h2 0 _ rfl, h2 1 _ rfl, h2 2 _ rfl, h2 3 _ rfl, h2 4 _ rfl, h2 5 _ rfl, h2 6 _ rfl, h2 7 _ rfl, h2 8 _ rfl, h2 9 _ rfl, h2 10 _ rfl⟩)
  have HG := Lib.hid (show ∀ W, Bz W0 W → Below w.heap.size w W from fun W h => hb0.trans (h.b.mono hb0.size))
  have z0 : Bz W0 W0 := ⟨Below.refl _ _⟩
  have KX := Lib.hid (show ∀ W, Bz W0 W → _ from fun W h => KXX.out W S S' _ _ (HX1.out.below (HG.out W h)) (HX2.out.below (HG.out W h)))
  have KA := Lib.hid (show ∀ W, Bz W0 W → _ from fun W h => ihb b2 W S S' B1 B2 nb1 cb1 nb2 cb2 (hA1.below (HG.out W h)) (hA2.below (HG.out W h)) lna)
  have KO := Lib.hid (show ∀ W, Bz W0 W → _ from fun W h => ihl l2 W S S' L1 L2 nl1 cl1 nl2 cl2 (hO1.below (HG.out W h)) (hO2.below (HG.out W h)) lno)
  have NE := Lib.hid (show (k1 ≠ k2 ∨ s1 ≠ s2 ∨ n1 ≠ n2 ∨ eqC x1 x2 = false ∨ eqC b1 b2 = false ∨ eqC l1 l2 = false) → eqC (St.mk k1 s1 n1 x1 b1 l1) (.mk k2 s2 n2 x2 b2 l2) = false from fun h => eqC_neg fun e => by
    injection e with e1 e2 e3 e4 e5 e6
    rcases h with h | h | h | h | h | h
    · exact h e1
    · exact h e2
    · exact h e3
    · rw [eqC_pos e4] at h; cases h
    · rw [eqC_pos e5] at h; cases h
    · rw [eqC_pos e6] at h; cases h)
  have YE := Lib.hid (show k1 = k2 → s1 = s2 → n1 = n2 → eqC x1 x2 = true → eqC b1 b2 = true → eqC l1 l2 = true → eqC (St.mk k1 s1 n1 x1 b1 l1) (.mk k2 s2 n2 x2 b2 l2) = true from fun h1 h2 h3 h4 h5 h6 => by
    have e4 : x1 = x2 := Classical.byContradiction fun h => by rw [eqC_neg h] at h4; cases h4
    have e5 : b1 = b2 := Classical.byContradiction fun h => by rw [eqC_neg h] at h5; cases h5
    have e6 : l1 = l2 := Classical.byContradiction fun h => by rw [eqC_neg h] at h6; cases h6
    exact eqC_pos (by rw [h1, h2, h3, e4, e5, e6]))
  generalize eqC (St.mk k1 s1 n1 x1 b1 l1) (.mk k2 s2 n2 x2 b2 l2) = E at *
  generalize eqC x1 x2 = ex at *
  generalize eqC b1 b2 = ea at *
  generalize eqC l1 l2 = eo at *
  clear hx hy hA1 hO1 hA2 hO2 ihb ihl hz lna lno hb0 hba KXX HX1 HX2
  unfold exC at KX
  unfold stC exC
  simp only [List.cons_append, List.nil_append]
  by_cases h : k1 = k2
  · subst h
    have qk : (k1 == k1) = true := beq_self_eq_true _
    by_cases h : s1 = s2
    · subst h
      have qs : ((bs s1).toList == (bs s1).toList) = true := beq_self_eq_true _
      by_cases h : n1 = n2
      · subst h
        have qn : (n1 == n1) = true := beq_self_eq_true _
        go_enter Tryd.func53, Tryd.ntmps53
        go_upto_region 1 with fail
        rw [← hW0]
        clear hW0
        obtain ⟨c0, c1, c2, c3, c4, c5, c6, c7, c8, c9, c10, d0, d1, d2, d3, d4, d5, d6, d7, d8, d9, d10⟩ := HF.out _ z0
        go_wp2_with fail
        refine (KX.out _ z0).mono ?_
        rintro e w1 ⟨rfl, hb⟩
        have z1 := z0.next hb
        clear hb c0 c1 c2 c3 c4 c5 c6 c7 c8 c9 c10 d0 d1 d2 d3 d4 d5 d6 d7 d8 d9 d10
        obtain ⟨c0, c1, c2, c3, c4, c5, c6, c7, c8, c9, c10, d0, d1, d2, d3, d4, d5, d6, d7, d8, d9, d10⟩ := HF.out _ z1
        cases ex with
        | false =>
          have h : False ∨ false = false := .inr rfl
          have HR := Lib.hid (NE.out (.inr (.inr (.inr (.inl rfl)))))
          obtain rfl := HR.out
          go_wp2_with fail
          go_ret
          exact ⟨rfl, HG.out _ z1⟩
        | true =>
          go_wp2_with fail
          refine (KA.out _ z1).mono ?_
          rintro e w2 ⟨rfl, hb⟩
          have z2 := z1.next hb
          clear hb c0 c1 c2 c3 c4 c5 c6 c7 c8 c9 c10 d0 d1 d2 d3 d4 d5 d6 d7 d8 d9 d10
          obtain ⟨c0, c1, c2, c3, c4, c5, c6, c7, c8, c9, c10, d0, d1, d2, d3, d4, d5, d6, d7, d8, d9, d10⟩ := HF.out _ z2
          cases ea with
          | false =>
            have h : False ∨ false = false := .inr rfl
            have HR := Lib.hid (NE.out (.inr (.inr (.inr (.inr (.inl rfl))))))
            obtain rfl := HR.out
            go_wp2_with fail
            go_ret
            exact ⟨rfl, HG.out _ z2⟩
          | true =>
            go_wp2_with fail
            refine (KO.out _ z2).mono ?_
            rintro e w3 ⟨rfl, hb⟩
            have z3 := z2.next hb
            clear hb c0 c1 c2 c3 c4 c5 c6 c7 c8 c9 c10 d0 d1 d2 d3 d4 d5 d6 d7 d8 d9 d10
            obtain ⟨c0, c1, c2, c3, c4, c5, c6, c7, c8, c9, c10, d0, d1, d2, d3, d4, d5, d6, d7, d8, d9, d10⟩ := HF.out _ z3
            cases eo with
            | false =>
              have h : False ∨ false = false := .inr rfl
              have HR := Lib.hid (NE.out (.inr (.inr (.inr (.inr (.inr rfl))))))
              obtain rfl := HR.out
              go_wp2_with fail
              go_ret
              exact ⟨rfl, HG.out _ z3⟩
            | true =>
              have HR := Lib.hid (YE.out (by first | trivial | rfl) (by first | trivial | rfl) (by first | trivial | rfl) (by first | trivial | rfl) (by first | trivial | rfl) (by first | trivial | rfl))
              obtain rfl := HR.out
              go_wp2_with fail
              go_ret
              exact ⟨rfl, HG.out _ z3⟩
      · have HR := Lib.hid (NE.out (.inr (.inr (.inl h))))
        obtain rfl := HR.out
        have qn : (n1 == n2) = false := by simp [h]
        go_enter Tryd.func53, Tryd.ntmps53
        go_upto_region 1 with fail
        rw [← hW0]
        clear hW0
        obtain ⟨c0, c1, c2, c3, c4, c5, c6, c7, c8, c9, c10, d0, d1, d2, d3, d4, d5, d6, d7, d8, d9, d10⟩ := HF.out _ z0
        go_wp2_with fail
        go_ret
        exact ⟨rfl, HG.out _ z0⟩
    · have HR := Lib.hid (NE.out (.inr (.inl h)))
      obtain rfl := HR.out
      have qs : ((bs s1).toList == (bs s2).toList) = false := by rw [bs_toList, bs_toList]; simp [h]
      have qs2 : ¬ (bs s1).toList = (bs s2).toList := by rw [bs_toList, bs_toList]; exact h
      go_enter Tryd.func53, Tryd.ntmps53
      go_upto_region 1 with fail
      rw [← hW0]
      clear hW0
      obtain ⟨c0, c1, c2, c3, c4, c5, c6, c7, c8, c9, c10, d0, d1, d2, d3, d4, d5, d6, d7, d8, d9, d10⟩ := HF.out _ z0
      go_wp2_with fail
      go_ret
      exact ⟨rfl, HG.out _ z0⟩
  · have HR := Lib.hid (NE.out (.inl h))
    obtain rfl := HR.out
    have qk : (k1 == k2) = false := by simp [h]
    go_enter Tryd.func53, Tryd.ntmps53
    go_upto_region 1 with fail
    rw [← hW0]
    clear hW0
    obtain ⟨c0, c1, c2, c3, c4, c5, c6, c7, c8, c9, c10, d0, d1, d2, d3, d4, d5, d6, d7, d8, d9, d10⟩ := HF.out _ z0
    go_wp2_with fail
    go_ret
    exact ⟨rfl, HG.out _ z0⟩
theorem sameS_any : ∀ (N : Nat) (x : St), x.size ≤ N → N ≤ 1000000 → ∀ y, SameS x y := by
  intro N
  induction N with
  | zero => intro x h; obtain ⟨_, _, _, _, _, _⟩ := x; rw [St.size] at h; omega
  | succ N ih =>
    intro x h hN y
    obtain ⟨k, s, n, e, b, l⟩ := x
    have hz := h
    rw [St.size] at h
    exact sameS_of k s n e b l (fun l => SameSL.of fun x hx y hy => ih x (by have := St.sizes_mem hx; omega) (by omega) y) (fun l => SameSL.of fun x hx y hy => ih x (by have := St.sizes_mem hx; omega) (by omega) y) (by omega) y
theorem sameS {x : St} (h : x.size ≤ 1000000) (y : St) : SameS x y := sameS_any x.size x (Nat.le_refl _) h y
theorem sameSL {l : List St} (h : St.sizes l ≤ 1000000) (l2 : List St) : SameSL l l2 := SameSL.of fun x hx y hy => sameS (by have := St.sizes_mem hx; omega) y
end Go.Proofs.YthfjkdgaiaokdaaDoor
