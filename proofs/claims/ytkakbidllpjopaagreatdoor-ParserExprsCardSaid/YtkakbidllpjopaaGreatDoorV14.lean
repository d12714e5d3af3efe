/- The walk of syntax.Same (printed by wip/genpzg.py): it tells whether two programs are equal. Conditions: at most 1000000 parts a list. The walks of sameExpr, sameStmt, sameOper (printed by wip/genpzh.py). Conditions: at most 1000000 parts a list. Contracts of Go's library at this translation, out of the kit's shelf. No condition beyond the contracts' own. The walks of slices.Equal, sameOper and Same (printed by wip/genpzi.py). Conditions: at most 1000000 parts a list. The walk of ParserExprs. Conditions: the laid tables and error variables (WW). What the lifting of each parser card needs: the heap that the start-up code leaves meets the rows' condition; the condition says what the package variables hold. No condition. -/
import Derived.Test.YtkakbidllpjopaaGreatDoorV07
import Derived.Test.YtkakbidllpjopaaGreatDoorV01
import Derived.Test.YtkakbidllpjopaaGreatDoorV11
import Derived.Shelf.Strings.Builder1
import Derived.Shelf.Strings.Builder2
import Derived.Shelf.Strings.OnBuilder
import Derived.Shelf.Small.Wraps
import Derived.Shelf.Strings.BuilderF
import Derived.Shelf.Strings.BuilderK
import Derived.Shelf.Strings.Builder2Cap
import Derived.Shelf.Strconv.Itoa0
import Derived.Shelf.Strconv.Itoa1
import Derived.Shelf.LaysM
import Derived.Shelf.Strconv.Itoa2
import Derived.Shelf.Strconv.Itoa3
import Derived.Shelf.Strconv.Itoa4
import Derived.Shelf.Strings.Prefix
import Derived.Shelf.Bits.Mul64
import Derived.Shelf.Strings.Repeat
import Derived.Shelf.Strings.BuilderCap
import Derived.Shelf.Slices.Turned
import Derived.Shelf.Slices.Equal
import Derived.Ground.Names2Prog
import Derived.Shelf.Slices.Clone
import Derived.Shelf.Slices.Empties2
import Derived.Ground.SlgnProg
import Derived.Shelf.SlicesE.Clone
import Derived.Test.YtkakbidllpjopaaGreatDoorProg
import Derived.Test.YtkakbidllpjopaaGreatDoorV12
import Derived.Test.YtkakbidllpjopaaGreatDoorV13
import Derived.Test.YtkakbidllpjopaaGreatDoorRows
import Derived.Test.YtkakbidllpjopaaGreatDoorChecked
import Derived.ProofKit
import Derived.LaidMore
import Derived.OpenShut
import Derived.Stop.Joined
import Derived.RowKit
import Derived.RowKit3
import Derived.RowKitTokens
import Derived.LaidLaws
import Derived.Lib.LaidTab
import Derived.Stop.LaidErr
set_option linter.unusedVariables false
set_option linter.unusedSimpArgs false
namespace Go.Proofs.YtkakbidllpjopaaGreatDoor
open Go.RowKit

/-- Whether two things are equal. -/
noncomputable def eqC {α : Type} (a b : α) : Bool := @decide (a = b) (Classical.propDecidable _)
theorem eqC_pos {α : Type} {a b : α} (h : a = b) : eqC a b = true := by unfold eqC; simpa using h
theorem eqC_neg {α : Type} {a b : α} (h : a ≠ b) : eqC a b = false := by unfold eqC; simpa using h
theorem take_next {α : Type} {l1 l2 : List α} {q : Nat} {x y : α} (h : l1.take q = l2.take q) (h1 : l1[q]? = some x) (h2 : l2[q]? = some y) (e : x = y) : l1.take (q + 1) = l2.take (q + 1) := by
 rw [List.take_add_one, List.take_add_one, h, h1, h2, e]
theorem range3 {w : World} {b o : Nat} {u0 u1 u2 : Value} (h : w.rangeAt b o [u0, u1, u2]) : w.cell? ⟨b, o, none⟩ = some u0 ∧ w.cell? ⟨b, o + 1, none⟩ = some u1 ∧ w.cell? ⟨b, o + 2, none⟩ = some u2 := ⟨h 0 _ rfl, h 1 _ rfl, h 2 _ rfl⟩
def SameE (x y : Ex) : Prop := ∀ (w : World) (S S' : Nat → Prop) (cs ds : List Value), XV w S x cs → XV w S' y ds →
 Calls Tryz.prog 95 #[.agg cs.toArray, .agg ds.toArray] w fun e' w' => e' = .returned (.bool (eqC x y)) ∧ Below w.heap.size w w'
def SameS (x y : St) : Prop := ∀ (w : World) (S S' : Nat → Prop) (cs ds : List Value), SV w S x cs → SV w S' y ds →
 Calls Tryz.prog 68 #[.agg cs.toArray, .agg ds.toArray] w fun e' w' => e' = .returned (.bool (eqC x y)) ∧ Below w.heap.size w w'
def SameO (x y : Oper') : Prop := ∀ (w : World) (S S' : Nat → Prop) (cs ds : List Value), OV w S x cs → OV w S' y ds →
 Calls Tryz.prog 38 #[.agg cs.toArray, .agg ds.toArray] w fun e' w' => e' = .returned (.bool (eqC x y)) ∧ Below w.heap.size w w'
def SameEL (l1 l2 : List Ex) : Prop := ∀ (w : World) (S S' : Nat → Prop) (A A' : Option Addr) (n c n' c' : Nat), XL w S A n c l1 → XL w S' A' n' c' l2 → n ≤ 1000000 →
 Calls Tryz.prog 119 #[.slice A n c, .slice A' n' c', .func (.func 95) #[] #[]] w fun e' w' => e' = .returned (.bool (eqC l1 l2)) ∧ Below w.heap.size w w'
def SameSL (l1 l2 : List St) : Prop := ∀ (w : World) (S S' : Nat → Prop) (A A' : Option Addr) (n c n' c' : Nat), SL w S A n c l1 → SL w S' A' n' c' l2 → n ≤ 1000000 →
 Calls Tryz.prog 67 #[.slice A n c, .slice A' n' c', .func (.func 68) #[] #[]] w fun e' w' => e' = .returned (.bool (eqC l1 l2)) ∧ Below w.heap.size w w'
def SameOL (l1 l2 : List Oper') : Prop := ∀ (w : World) (S S' : Nat → Prop) (A A' : Option Addr) (n c n' c' : Nat), OL w S A n c l1 → OL w S' A' n' c' l2 → n ≤ 1000000 →
 Calls Tryz.prog 37 #[.slice A n c, .slice A' n' c', .func (.func 38) #[] #[]] w fun e' w' => e' = .returned (.bool (eqC l1 l2)) ∧ Below w.heap.size w w'
set_option maxRecDepth 100000 in
set_option maxHeartbeats 12800000 in
theorem SameEL.of {l1 l2 : List Ex} (h : ∀ x ∈ l1, ∀ y ∈ l2, SameE x y) : SameEL l1 l2 := by
 intro w S S' A A' n c n' c' hl hl2 hn
 have HIN := Lib.hid h
 have HL := Lib.hid hl
 have HL2 := Lib.hid hl2
 have HLEN := Lib.hid hl.1.1
 have HLEN2 := Lib.hid hl2.1.1
 have hn6 : (n : Int) ≤ 1000000 := by omega
 have HPOS := Lib.hid (show l1 = l2 → eqC l1 l2 = true from eqC_pos)
 have HNEG := Lib.hid (show l1 ≠ l2 → eqC l1 l2 = false from eqC_neg)
 generalize eqC l1 l2 = E at *
 have hb0 : Below w.heap.size w w := Below.refl _ _
 clear h hl hl2 hn
 by_cases hnn : n' = n
 ·subst hnn
  go_enter Tryz.func119, Tryz.ntmps119
  go_wp2_with fail
  go_loopw [17] (fun i wx => ∃ q : Nat, q ≤ l1.length ∧ i = .int .i64 q ∧ Hid (l1.take q = l2.take q) ∧ Below w.heap.size w wx) (fun i _ => l1.length - (intOf i).toNat)
  case atStart => exact ⟨0, Nat.zero_le _, rfl, Lib.hid (by rw [List.take_zero, List.take_zero]), hb0⟩
  case round =>
   clear hb0
   obtain ⟨q, hq, rfl, n3, zq⟩ := hrel
   by_cases hlq : q < l1.length
   ·have hi2 : (q : Int) < (n' : Int) := by have := HLEN.out; omega
    obtain ⟨x, b, off, cs, hx, rfl, hb, hS, hxv, hrow⟩ := HL.out.at q (by have := HLEN.out; omega)
    obtain ⟨y, b2, off2, ds, hy, rfl, hb2, hS2, hyv, hrow2⟩ := HL2.out.at q (by have := HLEN.out; omega)
    have HXV := Lib.hid hxv
    have HYV := Lib.hid hyv
    have HQL := Lib.hid hlq
    have HXQ := Lib.hid hx
    have HYQ := Lib.hid hy
    have HIH := Lib.hid (HIN.out x (List.mem_of_getElem? hx) y (List.mem_of_getElem? hy))
    have EP := Lib.hid (show x = y → eqC x y = true from eqC_pos)
    have EN := Lib.hid (show x ≠ y → eqC x y = false from eqC_neg)
    unfold SameE at HIH
    generalize eqC x y = v at *
    have hrow3 := rangeAt_keep hrow (zq.block b hb)
    obtain ⟨k1, n1, s1, m1, a1, o1⟩ := x
    obtain ⟨A1, na1, ca1, O1, no1, co1, rfl, -, -⟩ := hxv.open_
    obtain ⟨c0, c1, c2, c3, c4, c5⟩ := exC_at hrow3
    have zq1 := zq.alloc zq.size (.cells #[.int .i64 k1, .int .i64 n1, .string (bs s1), .string (bs m1), .slice A1 na1 ca1, .slice O1 no1 co1] 27)
    have hrow4 := rangeAt_keep hrow2 (zq1.block b2 hb2)
    obtain ⟨k2, n2, s2, m2, a2, o2⟩ := y
    obtain ⟨A2, na2, ca2, O2, no2, co2, rfl, -, -⟩ := hyv.open_
    obtain ⟨d0, d1, d2, d3, d4, d5⟩ := exC_at hrow4
    clear hx hy hb hb2 hS hS2 hxv hyv hrow hrow2 hrow3 hrow4 hlq hq
    unfold exC at HXV HYV
    have zq2 := zq1.alloc zq1.size (.cells #[.int .i64 k2, .int .i64 n2, .string (bs s2), .string (bs m2), .slice A2 na2 ca2, .slice O2 no2 co2] 27)
    have HXV := Lib.hid (HXV.out.below zq2)
    have HYV := Lib.hid (HYV.out.below zq2)
    have HC2 := HIH.out _ S S' _ _ HXV.out HYV.out
    have HC2 := Lib.hid HC2
    go_wp2_with fail
    refine HC2.out.mono ?_
    rintro e' w2 ⟨rfl, hb2⟩
    have zq3 := zq2.trans (hb2.mono zq2.size)
    clear HC2 hb2 c0 c1 c2 c3 c4 c5 d0 d1 d2 d3 d4 d5 zq zq1 zq2 HIH HXV HYV
    cases v with
    | true =>
     go_wp2
     go_roundw
     case rel => exact ⟨q + 1, HQL.out, by go_num, Lib.hid (take_next n3.out HXQ.out HYQ.out (Classical.byContradiction fun h => by have := EN.out h; cases this)), zq3⟩
     case measure => exact meas_up _ _ HQL.out
    | false =>
     have HR := Lib.hid (show E = false from HNEG.out fun e => by
      have h1 := HXQ.out
      rw [e, HYQ.out] at h1
      have := EP.out (Option.some.inj h1).symm
      cases this)
     go_wp2
     go_ret
     exact ⟨congrArg (fun v => Ending.returned (.bool v)) HR.out.symm, zq3⟩
   ·have hi2 : ¬ (q : Int) < (n' : Int) := by have := HLEN.out; omega
    have HR := Lib.hid (show E = true from HPOS.out (by
     have h := n3.out
     rwa [List.take_of_length_le (by omega), List.take_of_length_le (by have := HLEN.out; have := HLEN2.out; omega)] at h))
    clear hlq hq n3
    go_wp2
    go_ret
    exact ⟨congrArg (fun v => Ending.returned (.bool v)) HR.out.symm, zq⟩
 ·have HR := Lib.hid (show E = false from HNEG.out fun e => hnn (by have h1 := HLEN.out; have h2 := HLEN2.out; rw [e] at h1; omega))
  have hne : ¬ (n : Int) = (n' : Int) := by omega
  clear hnn HL HL2 HIN
  go_enter Tryz.func119, Tryz.ntmps119
  go_wp2
  go_ret
  exact ⟨congrArg (fun v => Ending.returned (.bool v)) HR.out.symm, hb0⟩
set_option maxRecDepth 100000 in
set_option maxHeartbeats 12800000 in
theorem SameSL.of {l1 l2 : List St} (h : ∀ x ∈ l1, ∀ y ∈ l2, SameS x y) : SameSL l1 l2 := by
 intro w S S' A A' n c n' c' hl hl2 hn
 have HIN := Lib.hid h
 have HL := Lib.hid hl
 have HL2 := Lib.hid hl2
 have HLEN := Lib.hid hl.1.1
 have HLEN2 := Lib.hid hl2.1.1
 have hn6 : (n : Int) ≤ 1000000 := by omega
 have HPOS := Lib.hid (show l1 = l2 → eqC l1 l2 = true from eqC_pos)
 have HNEG := Lib.hid (show l1 ≠ l2 → eqC l1 l2 = false from eqC_neg)
 generalize eqC l1 l2 = E at *
 have hb0 : Below w.heap.size w w := Below.refl _ _
 clear h hl hl2 hn
 by_cases hnn : n' = n
 ·subst hnn
  go_enter Tryz.func67, Tryz.ntmps67
  go_wp2_with fail
  go_loopw [17] (fun i wx => ∃ q : Nat, q ≤ l1.length ∧ i = .int .i64 q ∧ Hid (l1.take q = l2.take q) ∧ Below w.heap.size w wx) (fun i _ => l1.length - (intOf i).toNat)
  case atStart => exact ⟨0, Nat.zero_le _, rfl, Lib.hid (by rw [List.take_zero, List.take_zero]), hb0⟩
  case round =>
   clear hb0
   obtain ⟨q, hq, rfl, n3, zq⟩ := hrel
   by_cases hlq : q < l1.length
   ·have hi2 : (q : Int) < (n' : Int) := by have := HLEN.out; omega
    obtain ⟨x, b, off, cs, hx, rfl, hb, hS, hxv, hrow⟩ := HL.out.at q (by have := HLEN.out; omega)
    obtain ⟨y, b2, off2, ds, hy, rfl, hb2, hS2, hyv, hrow2⟩ := HL2.out.at q (by have := HLEN.out; omega)
    have HXV := Lib.hid hxv
    have HYV := Lib.hid hyv
    have HQL := Lib.hid hlq
    have HXQ := Lib.hid hx
    have HYQ := Lib.hid hy
    have HIH := Lib.hid (HIN.out x (List.mem_of_getElem? hx) y (List.mem_of_getElem? hy))
    have EP := Lib.hid (show x = y → eqC x y = true from eqC_pos)
    have EN := Lib.hid (show x ≠ y → eqC x y = false from eqC_neg)
    unfold SameS at HIH
    generalize eqC x y = v at *
    have hrow3 := rangeAt_keep hrow (zq.block b hb)
    obtain ⟨k1, s1, n1, e1, b1, l1⟩ := x
    obtain ⟨ex1, B1, nb1, cb1, L1, nl1, cl1, rfl, hex1, -, -⟩ := hxv.open_
    obtain ⟨ek1, en1, es1, em1, ea1, eo1⟩ := e1
    obtain ⟨A1, na1, ca1, O1, no1, co1, rfl, -, -⟩ := hex1.open_
    clear hex1
    obtain ⟨c0, c1, c2, c3, c4, c5, c6, c7, c8, c9, c10⟩ := stC_at hrow3
    have zq1 := zq.alloc zq.size (.cells #[.int .i64 k1, .string (bs s1), .int .i64 n1, .int .i64 ek1, .int .i64 en1, .string (bs es1), .string (bs em1), .slice A1 na1 ca1, .slice O1 no1 co1, .slice B1 nb1 cb1, .slice L1 nl1 cl1] 74)
    have hrow4 := rangeAt_keep hrow2 (zq1.block b2 hb2)
    obtain ⟨k2, s2, n2, e2, b2, l2⟩ := y
    obtain ⟨ex2, B2, nb2, cb2, L2, nl2, cl2, rfl, hex2, -, -⟩ := hyv.open_
    obtain ⟨ek2, en2, es2, em2, ea2, eo2⟩ := e2
    obtain ⟨A2, na2, ca2, O2, no2, co2, rfl, -, -⟩ := hex2.open_
    clear hex2
    obtain ⟨d0, d1, d2, d3, d4, d5, d6, d7, d8, d9, d10⟩ := stC_at hrow4
    clear hx hy hb hb2 hS hS2 hxv hyv hrow hrow2 hrow3 hrow4 hlq hq
    unfold stC exC at HXV HYV
    simp only [List.cons_append, List.nil_append] at HXV HYV
    have zq2 := zq1.alloc zq1.size (.cells #[.int .i64 k2, .string (bs s2), .int .i64 n2, .int .i64 ek2, .int .i64 en2, .string (bs es2), .string (bs em2), .slice A2 na2 ca2, .slice O2 no2 co2, .slice B2 nb2 cb2, .slice L2 nl2 cl2] 74)
    have HXV := Lib.hid (HXV.out.below zq2)
    have HYV := Lib.hid (HYV.out.below zq2)
    have HC2 := HIH.out _ S S' _ _ HXV.out HYV.out
    have HC2 := Lib.hid HC2
    go_wp2_with fail
    refine HC2.out.mono ?_
    rintro e' w2 ⟨rfl, hb2⟩
    have zq3 := zq2.trans (hb2.mono zq2.size)
    clear HC2 hb2 c0 c1 c2 c3 c4 c5 c6 c7 c8 c9 c10 d0 d1 d2 d3 d4 d5 d6 d7 d8 d9 d10 zq zq1 zq2 HIH HXV HYV
    cases v with
    | true =>
     go_wp2
     go_roundw
     case rel => exact ⟨q + 1, HQL.out, by go_num, Lib.hid (take_next n3.out HXQ.out HYQ.out (Classical.byContradiction fun h => by have := EN.out h; cases this)), zq3⟩
     case measure => exact meas_up _ _ HQL.out
    | false =>
     have HR := Lib.hid (show E = false from HNEG.out fun e => by
      have h1 := HXQ.out
      rw [e, HYQ.out] at h1
      have := EP.out (Option.some.inj h1).symm
      cases this)
     go_wp2
     go_ret
     exact ⟨congrArg (fun v => Ending.returned (.bool v)) HR.out.symm, zq3⟩
   ·have hi2 : ¬ (q : Int) < (n' : Int) := by have := HLEN.out; omega
    have HR := Lib.hid (show E = true from HPOS.out (by
     have h := n3.out
     rwa [List.take_of_length_le (by omega), List.take_of_length_le (by have := HLEN.out; have := HLEN2.out; omega)] at h))
    clear hlq hq n3
    go_wp2
    go_ret
    exact ⟨congrArg (fun v => Ending.returned (.bool v)) HR.out.symm, zq⟩
 ·have HR := Lib.hid (show E = false from HNEG.out fun e => hnn (by have h1 := HLEN.out; have h2 := HLEN2.out; rw [e] at h1; omega))
  have hne : ¬ (n : Int) = (n' : Int) := by omega
  clear hnn HL HL2 HIN
  go_enter Tryz.func67, Tryz.ntmps67
  go_wp2
  go_ret
  exact ⟨congrArg (fun v => Ending.returned (.bool v)) HR.out.symm, hb0⟩
set_option maxRecDepth 100000 in
set_option maxHeartbeats 12800000 in
theorem SameOL.of {l1 l2 : List Oper'} (h : ∀ x ∈ l1, ∀ y ∈ l2, SameO x y) : SameOL l1 l2 := by
 intro w S S' A A' n c n' c' hl hl2 hn
 have HIN := Lib.hid h
 have HL := Lib.hid hl
 have HL2 := Lib.hid hl2
 have HLEN := Lib.hid hl.1
 have HLEN2 := Lib.hid hl2.1
 have hn6 : (n : Int) ≤ 1000000 := by omega
 have HPOS := Lib.hid (show l1 = l2 → eqC l1 l2 = true from eqC_pos)
 have HNEG := Lib.hid (show l1 ≠ l2 → eqC l1 l2 = false from eqC_neg)
 generalize eqC l1 l2 = E at *
 have hb0 : Below w.heap.size w w := Below.refl _ _
 clear h hl hl2 hn
 by_cases hnn : n' = n
 ·subst hnn
  go_enter Tryz.func37, Tryz.ntmps37
  go_wp2_with fail
  go_loopw [17] (fun i wx => ∃ q : Nat, q ≤ l1.length ∧ i = .int .i64 q ∧ Hid (l1.take q = l2.take q) ∧ Below w.heap.size w wx) (fun i _ => l1.length - (intOf i).toNat)
  case atStart => exact ⟨0, Nat.zero_le _, rfl, Lib.hid (by rw [List.take_zero, List.take_zero]), hb0⟩
  case round =>
   clear hb0
   obtain ⟨q, hq, rfl, n3, zq⟩ := hrel
   by_cases hlq : q < l1.length
   ·have hi2 : (q : Int) < (n' : Int) := by have := HLEN.out; omega
    obtain ⟨b, off, cs, rfl, hb, hS, ⟨x, hx, hxv⟩, hrow⟩ := HL.out.2.at q (by have := HLEN.out; omega)
    obtain ⟨b2, off2, ds, rfl, hb2, hS2, ⟨y, hy, hyv⟩, hrow2⟩ := HL2.out.2.at q (by have := HLEN.out; omega)
    have HXV := Lib.hid hxv
    have HYV := Lib.hid hyv
    have HQL := Lib.hid hlq
    have HXQ := Lib.hid hx
    have HYQ := Lib.hid hy
    have HIH := Lib.hid (HIN.out x (List.mem_of_getElem? hx) y (List.mem_of_getElem? hy))
    have EP := Lib.hid (show x = y → eqC x y = true from eqC_pos)
    have EN := Lib.hid (show x ≠ y → eqC x y = false from eqC_neg)
    unfold SameO at HIH
    generalize eqC x y = v at *
    have hrow3 := rangeAt_keep hrow (zq.block b hb)
    obtain ⟨P1, np1, cp1, B1, nb1, cb1, rfl, -, -⟩ := id hxv
    obtain ⟨c0, c1, c2⟩ := range3 hrow3
    have zq1 := zq.alloc zq.size (.cells #[.string (bs x.name), .slice P1 np1 cp1, .slice B1 nb1 cb1] 76)
    have hrow4 := rangeAt_keep hrow2 (zq1.block b2 hb2)
    obtain ⟨P2, np2, cp2, B2, nb2, cb2, rfl, -, -⟩ := id hyv
    obtain ⟨d0, d1, d2⟩ := range3 hrow4
    clear hx hy hb hb2 hS hS2 hxv hyv hrow hrow2 hrow3 hrow4 hlq hq
    have ha1 : True := trivial
    have zq2 := zq1.alloc zq1.size (.cells #[.string (bs y.name), .slice P2 np2 cp2, .slice B2 nb2 cb2] 76)
    have HXV := Lib.hid (HXV.out.keep zq2.size (fun b hlt _ => zq2.block b hlt) (fun _ _ h => h))
    have HYV := Lib.hid (HYV.out.keep zq2.size (fun b hlt _ => zq2.block b hlt) (fun _ _ h => h))
    have HC2 := HIH.out _ S S' _ _ HXV.out HYV.out
    have HC2 := Lib.hid HC2
    go_wp2_with fail
    refine HC2.out.mono ?_
    rintro e' w2 ⟨rfl, hb2⟩
    have zq3 := zq2.trans (hb2.mono zq2.size)
    clear HC2 hb2 c0 c1 c2 d0 d1 d2 zq zq1 zq2 HIH HXV HYV
    cases v with
    | true =>
     go_wp2
     go_roundw
     case rel => exact ⟨q + 1, HQL.out, by go_num, Lib.hid (take_next n3.out HXQ.out HYQ.out (Classical.byContradiction fun h => by have := EN.out h; cases this)), zq3⟩
     case measure => exact meas_up _ _ HQL.out
    | false =>
     have HR := Lib.hid (show E = false from HNEG.out fun e => by
      have h1 := HXQ.out
      rw [e, HYQ.out] at h1
      have := EP.out (Option.some.inj h1).symm
      cases this)
     go_wp2
     go_ret
     exact ⟨congrArg (fun v => Ending.returned (.bool v)) HR.out.symm, zq3⟩
   ·have hi2 : ¬ (q : Int) < (n' : Int) := by have := HLEN.out; omega
    have HR := Lib.hid (show E = true from HPOS.out (by
     have h := n3.out
     rwa [List.take_of_length_le (by omega), List.take_of_length_le (by have := HLEN.out; have := HLEN2.out; omega)] at h))
    clear hlq hq n3
    go_wp2
    go_ret
    exact ⟨congrArg (fun v => Ending.returned (.bool v)) HR.out.symm, zq⟩
 ·have HR := Lib.hid (show E = false from HNEG.out fun e => hnn (by have h1 := HLEN.out; have h2 := HLEN2.out; rw [e] at h1; omega))
  have hne : ¬ (n : Int) = (n' : Int) := by omega
  clear hnn HL HL2 HIN
  go_enter Tryz.func37, Tryz.ntmps37
  go_wp2
  go_ret
  exact ⟨congrArg (fun v => Ending.returned (.bool v)) HR.out.symm, hb0⟩
end Go.Proofs.YtkakbidllpjopaaGreatDoor
namespace Go.Proofs.YtkakbidllpjopaaGreatDoor
open Go.RowKit

theorem beq_int {a b : Int} : (a = b → (a == b) = true) ∧ (a ≠ b → (a == b) = false) := ⟨fun h => by simp [h], fun h => by simp [h]⟩
theorem eqC_ne {α : Type} {a b : α} (h : a = b → False) : eqC a b = false := eqC_neg h
set_option maxRecDepth 100000 in
set_option maxHeartbeats 25600000 in
theorem sameE_of (k1 n1 : Int) (s1 m1 : Str) (a1 o1 : List Ex) (iha : ∀ l, SameEL a1 l) (iho : ∀ l, SameEL o1 l) (hz : (Ex.mk k1 n1 s1 m1 a1 o1).size ≤ 1000000) (y : Ex) : SameE (.mk k1 n1 s1 m1 a1 o1) y := by
 intro w S S' cs ds hx hy
 obtain ⟨k2, n2, s2, m2, a2, o2⟩ := y
 obtain ⟨A1, na1, ca1, O1, no1, co1, rfl, hA1, hO1⟩ := hx.open_
 obtain ⟨A2, na2, ca2, O2, no2, co2, rfl, hA2, hO2⟩ := hy.open_
 rw [Ex.size] at hz
 have lna : na1 ≤ 1000000 := by have := hA1.1.1; have := Ex.len_sizes a1; omega
 have lno : no1 ≤ 1000000 := by have := hO1.1.1; have := Ex.len_sizes o1; omega
 obtain ⟨W0, hW0⟩ : ∃ W0 : World, W0 = (w.alloc (.cells #[.int .i64 k1, .int .i64 n1, .string (bs s1), .string (bs m1), .slice A1 na1 ca1, .slice O1 no1 co1] 27)).alloc (.cells #[.int .i64 k2, .int .i64 n2, .string (bs s2), .string (bs m2), .slice A2 na2 ca2, .slice O2 no2 co2] 27) := ⟨_, rfl⟩
 have hba : Below w.heap.size w (w.alloc (.cells #[.int .i64 k1, .int .i64 n1, .string (bs s1), .string (bs m1), .slice A1 na1 ca1, .slice O1 no1 co1] 27)) := (Below.refl _ _).alloc (Nat.le_refl _) _
 have hb0 : Below w.heap.size w W0 := by rw [hW0]; exact hba.alloc hba.size _
 have HF := Lib.hid (show ∀ W, Bz W0 W → (W.cell? ⟨w.heap.size, 0, none⟩ = some (.int .i64 k1) ∧ W.cell? ⟨w.heap.size, 1, none⟩ = some (.int .i64 n1) ∧ W.cell? ⟨w.heap.size, 2, none⟩ = some (.string (bs s1)) ∧ W.cell? ⟨w.heap.size, 3, none⟩ = some (.string (bs m1)) ∧ W.cell? ⟨w.heap.size, 4, none⟩ = some (.slice A1 na1 ca1) ∧ W.cell? ⟨w.heap.size, 5, none⟩ = some (.slice O1 no1 co1) ∧ W.cell? ⟨w.heap.size + 1, 0, none⟩ = some (.int .i64 k2) ∧ W.cell? ⟨w.heap.size + 1, 1, none⟩ = some (.int .i64 n2) ∧ W.cell? ⟨w.heap.size + 1, 2, none⟩ = some (.string (bs s2)) ∧ W.cell? ⟨w.heap.size + 1, 3, none⟩ = some (.string (bs m2)) ∧ W.cell? ⟨w.heap.size + 1, 4, none⟩ = some (.slice A2 na2 ca2) ∧ W.cell? ⟨w.heap.size + 1, 5, none⟩ = some (.slice O2 no2 co2)) from fun W h => by
  subst hW0
  have hs1 : (w.alloc (.cells #[.int .i64 k1, .int .i64 n1, .string (bs s1), .string (bs m1), .slice A1 na1 ca1, .slice O1 no1 co1] 27)).heap.size = w.heap.size + 1 := World.size_alloc ..
  have hq := heap_alloc_new w (.cells #[.int .i64 k1, .int .i64 n1, .string (bs s1), .string (bs m1), .slice A1 na1 ca1, .slice O1 no1 co1] 27)
  have hq2 := heap_alloc_new (w.alloc (.cells #[.int .i64 k1, .int .i64 n1, .string (bs s1), .string (bs m1), .slice A1 na1 ca1, .slice O1 no1 co1] 27)) (.cells #[.int .i64 k2, .int .i64 n2, .string (bs s2), .string (bs m2), .slice A2 na2 ca2, .slice O2 no2 co2] 27)
  have hq1 := (((Below.refl _ (w.alloc (.cells #[.int .i64 k1, .int .i64 n1, .string (bs s1), .string (bs m1), .slice A1 na1 ca1, .slice O1 no1 co1] 27))).alloc (Nat.le_refl _) (.cells #[.int .i64 k2, .int .i64 n2, .string (bs s2), .string (bs m2), .slice A2 na2 ca2, .slice O2 no2 co2] 27)).block w.heap.size (lt_of_block hq)).trans hq
  rw [hs1] at hq2
  have h1 := fun j v (hv : (#[.int .i64 k1, .int .i64 n1, .string (bs s1), .string (bs m1), .slice A1 na1 ca1, .slice O1 no1 co1] : Array Value)[j]? = some v) => cell_of_Bz h (g := w.heap.size) (j := j) (v := v) (by rw [cell_of_row _ _ _ _ _ _ hq1]; exact hv) (lt_of_block hq1)
  have h2 := fun j v (hv : (#[.int .i64 k2, .int .i64 n2, .string (bs s2), .string (bs m2), .slice A2 na2 ca2, .slice O2 no2 co2] : Array Value)[j]? = some v) => cell_of_Bz h (g := w.heap.size + 1) (j := j) (v := v) (by rw [cell_of_row _ _ _ _ _ _ hq2]; exact hv) (lt_of_block hq2)
  exact ⟨h1 0 _ rfl, h1 1 _ rfl, h1 2 _ rfl, h1 3 _ rfl, h1 4 _ rfl, h1 5 _ rfl, h2 0 _ rfl, h2 1 _ rfl, h2 2 _ rfl, h2 3 _ rfl, h2 4 _ rfl, h2 5 _ rfl⟩)
 have HG := Lib.hid (show ∀ W, Bz W0 W → Below w.heap.size w W from fun W h => hb0.trans (h.b.mono hb0.size))
 have z0 : Bz W0 W0 := ⟨Below.refl _ _⟩
 have KA := Lib.hid (show ∀ W, Bz W0 W → _ from fun W h => iha a2 W S S' A1 A2 na1 ca1 na2 ca2 (hA1.below (HG.out W h)) (hA2.below (HG.out W h)) lna)
 have KO := Lib.hid (show ∀ W, Bz W0 W → _ from fun W h => iho o2 W S S' O1 O2 no1 co1 no2 co2 (hO1.below (HG.out W h)) (hO2.below (HG.out W h)) lno)
 have NE := Lib.hid (show (k1 ≠ k2 ∨ n1 ≠ n2 ∨ s1 ≠ s2 ∨ m1 ≠ m2 ∨ eqC a1 a2 = false ∨ eqC o1 o2 = false) → eqC (Ex.mk k1 n1 s1 m1 a1 o1) (.mk k2 n2 s2 m2 a2 o2) = false from fun h => eqC_neg fun e => by
  injection e with e1 e2 e3 e4 e5 e6
  rcases h with h | h | h | h | h | h
  ·exact h e1
  ·exact h e2
  ·exact h e3
  ·exact h e4
  ·rw [eqC_pos e5] at h; cases h
  ·rw [eqC_pos e6] at h; cases h)
 have YE := Lib.hid (show k1 = k2 → n1 = n2 → s1 = s2 → m1 = m2 → eqC a1 a2 = true → eqC o1 o2 = true → eqC (Ex.mk k1 n1 s1 m1 a1 o1) (.mk k2 n2 s2 m2 a2 o2) = true from fun h1 h2 h3 h4 h5 h6 => by
  have e5 : a1 = a2 := Classical.byContradiction fun h => by rw [eqC_neg h] at h5; cases h5
  have e6 : o1 = o2 := Classical.byContradiction fun h => by rw [eqC_neg h] at h6; cases h6
  exact eqC_pos (by rw [h1, h2, h3, h4, e5, e6]))
 generalize eqC (Ex.mk k1 n1 s1 m1 a1 o1) (.mk k2 n2 s2 m2 a2 o2) = E at *
 generalize eqC a1 a2 = ea at *
 generalize eqC o1 o2 = eo at *
 clear hx hy hA1 hO1 hA2 hO2 iha iho hz lna lno hb0 hba
 unfold exC
 by_cases h : k1 = k2
 ·subst h
  have qk : (k1 == k1) = true := beq_self_eq_true _
  by_cases h : n1 = n2
  ·subst h
   have qn : (n1 == n1) = true := beq_self_eq_true _
   by_cases h : s1 = s2
   ·subst h
    have qs : ((bs s1).toList == (bs s1).toList) = true := beq_self_eq_true _
    by_cases h : m1 = m2
    ·subst h
     have qm : ((bs m1).toList == (bs m1).toList) = true := beq_self_eq_true _
     go_enter Tryz.func95, Tryz.ntmps95
     go_upto_region 1 with fail
     rw [← hW0]
     clear hW0
     obtain ⟨c0, c1, c2, c3, c4, c5, d0, d1, d2, d3, d4, d5⟩ := HF.out _ z0
     go_wp2_with fail
     refine (KA.out _ z0).mono ?_
     rintro e w1 ⟨rfl, hb⟩
     have z1 := z0.next hb
     clear hb c0 c1 c2 c3 c4 c5 d0 d1 d2 d3 d4 d5
     obtain ⟨c0, c1, c2, c3, c4, c5, d0, d1, d2, d3, d4, d5⟩ := HF.out _ z1
     cases ea with
     | false =>
      have h : False ∨ false = false := .inr rfl
      have HR := Lib.hid (NE.out (.inr (.inr (.inr (.inr (.inl rfl))))))
      obtain rfl := HR.out
      go_wp2_with fail
      go_ret
      exact ⟨rfl, HG.out _ z1⟩
     | true =>
      go_wp2_with fail
      refine (KO.out _ z1).mono ?_
      rintro e w2 ⟨rfl, hb⟩
      have z2 := z1.next hb
      clear hb c0 c1 c2 c3 c4 c5 d0 d1 d2 d3 d4 d5
      obtain ⟨c0, c1, c2, c3, c4, c5, d0, d1, d2, d3, d4, d5⟩ := HF.out _ z2
      cases eo with
      | false =>
       have h : False ∨ false = false := .inr rfl
       have HR := Lib.hid (NE.out (.inr (.inr (.inr (.inr (.inr rfl))))))
       obtain rfl := HR.out
       go_wp2_with fail
       go_ret
       exact ⟨rfl, HG.out _ z2⟩
      | true =>
       have HR := Lib.hid (YE.out (by first | trivial | rfl) (by first | trivial | rfl) (by first | trivial | rfl) (by first | trivial | rfl) (by first | trivial | rfl) (by first | trivial | rfl))
       obtain rfl := HR.out
       go_wp2_with fail
       go_ret
       exact ⟨rfl, HG.out _ z2⟩
    ·have HR := Lib.hid (NE.out (.inr (.inr (.inr (.inl h)))))
     obtain rfl := HR.out
     have qm : ((bs m1).toList == (bs m2).toList) = false := by rw [bs_toList, bs_toList]; simp [h]
     have qm2 : ¬ (bs m1).toList = (bs m2).toList := by rw [bs_toList, bs_toList]; exact h
     go_enter Tryz.func95, Tryz.ntmps95
     go_upto_region 1 with fail
     rw [← hW0]
     clear hW0
     obtain ⟨c0, c1, c2, c3, c4, c5, d0, d1, d2, d3, d4, d5⟩ := HF.out _ z0
     go_wp2_with fail
     go_ret
     exact ⟨rfl, HG.out _ z0⟩
   ·have HR := Lib.hid (NE.out (.inr (.inr (.inl h))))
    obtain rfl := HR.out
    have qs : ((bs s1).toList == (bs s2).toList) = false := by rw [bs_toList, bs_toList]; simp [h]
    have qs2 : ¬ (bs s1).toList = (bs s2).toList := by rw [bs_toList, bs_toList]; exact h
    go_enter Tryz.func95, Tryz.ntmps95
    go_upto_region 1 with fail
    rw [← hW0]
    clear hW0
    obtain ⟨c0, c1, c2, c3, c4, c5, d0, d1, d2, d3, d4, d5⟩ := HF.out _ z0
    go_wp2_with fail
    go_ret
    exact ⟨rfl, HG.out _ z0⟩
  ·have HR := Lib.hid (NE.out (.inr (.inl h)))
   obtain rfl := HR.out
   have qn : (n1 == n2) = false := by simp [h]
   go_enter Tryz.func95, Tryz.ntmps95
   go_upto_region 1 with fail
   rw [← hW0]
   clear hW0
   obtain ⟨c0, c1, c2, c3, c4, c5, d0, d1, d2, d3, d4, d5⟩ := HF.out _ z0
   go_wp2_with fail
   go_ret
   exact ⟨rfl, HG.out _ z0⟩
 ·have HR := Lib.hid (NE.out (.inl h))
  obtain rfl := HR.out
  have qk : (k1 == k2) = false := by simp [h]
  go_enter Tryz.func95, Tryz.ntmps95
  go_upto_region 1 with fail
  rw [← hW0]
  clear hW0
  obtain ⟨c0, c1, c2, c3, c4, c5, d0, d1, d2, d3, d4, d5⟩ := HF.out _ z0
  go_wp2_with fail
  go_ret
  exact ⟨rfl, HG.out _ z0⟩
theorem sameE_any : ∀ (N : Nat) (x : Ex), x.size ≤ N → N ≤ 1000000 → ∀ y, SameE x y := by
 intro N
 induction N with
 | zero => intro x h; obtain ⟨_, _, _, _, _, _⟩ := x; rw [Ex.size] at h; omega
 | succ N ih =>
  intro x h hN y
  obtain ⟨k, n, s, m, a, o⟩ := x
  have hz := h
  rw [Ex.size] at h
  exact sameE_of k n s m a o (fun l => SameEL.of fun x hx y hy => ih x (by have := Ex.sizes_mem hx; omega) (by omega) y) (fun l => SameEL.of fun x hx y hy => ih x (by have := Ex.sizes_mem hx; omega) (by omega) y) (by omega) y
theorem sameE {x : Ex} (h : x.size ≤ 1000000) (y : Ex) : SameE x y := sameE_any x.size x (Nat.le_refl _) h y
set_option maxRecDepth 100000 in
set_option maxHeartbeats 25600000 in
theorem sameS_of (k1 : Int) (s1 : Str) (n1 : Int) (x1 : Ex) (b1 l1 : List St) (ihb : ∀ l, SameSL b1 l) (ihl : ∀ l, SameSL l1 l) (hz : (St.mk k1 s1 n1 x1 b1 l1).size ≤ 1000000) (y : St) : SameS (.mk k1 s1 n1 x1 b1 l1) y := by
 intro w S S' cs ds hx hy
 obtain ⟨k2, s2, n2, x2, b2, l2⟩ := y
 obtain ⟨ex1, B1, nb1, cb1, L1, nl1, cl1, rfl, hX1, hA1, hO1⟩ := hx.open_
 obtain ⟨ex2, B2, nb2, cb2, L2, nl2, cl2, rfl, hX2, hA2, hO2⟩ := hy.open_
 rw [St.size] at hz
 have lna : nb1 ≤ 1000000 := by have := hA1.1.1; have := St.len_sizes b1; omega
 have lno : nl1 ≤ 1000000 := by have := hO1.1.1; have := St.len_sizes l1; omega
 have KXX := Lib.hid (sameE (x := x1) (by omega) x2)
 obtain ⟨xx1, hxx1⟩ : ∃ z, z = x1 := ⟨_, rfl⟩
 obtain ⟨xx2, hxx2⟩ : ∃ z, z = x2 := ⟨_, rfl⟩
 rw [← hxx1, ← hxx2] at KXX
 rw [← hxx1] at hX1
 rw [← hxx2] at hX2
 have HX1 := Lib.hid hX1
 have HX2 := Lib.hid hX2
 obtain ⟨ek1, en1, es1, em1, ea1, eo1⟩ := xx1
 obtain ⟨ek2, en2, es2, em2, ea2, eo2⟩ := xx2
 obtain ⟨A1, na1, ca1, O1, no1, co1, rfl, -, -⟩ := hX1.open_
 obtain ⟨A2, na2, ca2, O2, no2, co2, rfl, -, -⟩ := hX2.open_
 rw [hxx1, hxx2] at KXX
 rw [hxx1] at HX1
 rw [hxx2] at HX2
 clear hxx1 hxx2 hX1 hX2
 obtain ⟨W0, hW0⟩ : ∃ W0 : World, W0 = (w.alloc (.cells #[.int .i64 k1, .string (bs s1), .int .i64 n1, .int .i64 ek1, .int .i64 en1, .string (bs es1), .string (bs em1), .slice A1 na1 ca1, .slice O1 no1 co1, .slice B1 nb1 cb1, .slice L1 nl1 cl1] 74)).alloc (.cells #[.int .i64 k2, .string (bs s2), .int .i64 n2, .int .i64 ek2, .int .i64 en2, .string (bs es2), .string (bs em2), .slice A2 na2 ca2, .slice O2 no2 co2, .slice B2 nb2 cb2, .slice L2 nl2 cl2] 74) := ⟨_, rfl⟩
 have hba : Below w.heap.size w (w.alloc (.cells #[.int .i64 k1, .string (bs s1), .int .i64 n1, .int .i64 ek1, .int .i64 en1, .string (bs es1), .string (bs em1), .slice A1 na1 ca1, .slice O1 no1 co1, .slice B1 nb1 cb1, .slice L1 nl1 cl1] 74)) := (Below.refl _ _).alloc (Nat.le_refl _) _
 have hb0 : Below w.heap.size w W0 := by rw [hW0]; exact hba.alloc hba.size _
 have HF := Lib.hid (show ∀ W, Bz W0 W → (W.cell? ⟨w.heap.size, 0, none⟩ = some (.int .i64 k1) ∧ W.cell? ⟨w.heap.size, 1, none⟩ = some (.string (bs s1)) ∧ W.cell? ⟨w.heap.size, 2, none⟩ = some (.int .i64 n1) ∧ W.cell? ⟨w.heap.size, 3, none⟩ = some (.int .i64 ek1) ∧ W.cell? ⟨w.heap.size, 4, none⟩ = some (.int .i64 en1) ∧ W.cell? ⟨w.heap.size, 5, none⟩ = some (.string (bs es1)) ∧ W.cell? ⟨w.heap.size, 6, none⟩ = some (.string (bs em1)) ∧ W.cell? ⟨w.heap.size, 7, none⟩ = some (.slice A1 na1 ca1) ∧ W.cell? ⟨w.heap.size, 8, none⟩ = some (.slice O1 no1 co1) ∧ W.cell? ⟨w.heap.size, 9, none⟩ = some (.slice B1 nb1 cb1) ∧ W.cell? ⟨w.heap.size, 10, none⟩ = some (.slice L1 nl1 cl1) ∧ W.cell? ⟨w.heap.size + 1, 0, none⟩ = some (.int .i64 k2) ∧ W.cell? ⟨w.heap.size + 1, 1, none⟩ = some (.string (bs s2)) ∧ W.cell? ⟨w.heap.size + 1, 2, none⟩ = some (.int .i64 n2) ∧ W.cell? ⟨w.heap.size + 1, 3, none⟩ = some (.int .i64 ek2) ∧ W.cell? ⟨w.heap.size + 1, 4, none⟩ = some (.int .i64 en2) ∧ W.cell? ⟨w.heap.size + 1, 5, none⟩ = some (.string (bs es2)) ∧ W.cell? ⟨w.heap.size + 1, 6, none⟩ = some (.string (bs em2)) ∧ W.cell? ⟨w.heap.size + 1, 7, none⟩ = some (.slice A2 na2 ca2) ∧ W.cell? ⟨w.heap.size + 1, 8, none⟩ = some (.slice O2 no2 co2) ∧ W.cell? ⟨w.heap.size + 1, 9, none⟩ = some (.slice B2 nb2 cb2) ∧ W.cell? ⟨w.heap.size + 1, 10, none⟩ = some (.slice L2 nl2 cl2)) from fun W h => by
  subst hW0
  have hs1 : (w.alloc (.cells #[.int .i64 k1, .string (bs s1), .int .i64 n1, .int .i64 ek1, .int .i64 en1, .string (bs es1), .string (bs em1), .slice A1 na1 ca1, .slice O1 no1 co1, .slice B1 nb1 cb1, .slice L1 nl1 cl1] 74)).heap.size = w.heap.size + 1 := World.size_alloc ..
  have hq := heap_alloc_new w (.cells #[.int .i64 k1, .string (bs s1), .int .i64 n1, .int .i64 ek1, .int .i64 en1, .string (bs es1), .string (bs em1), .slice A1 na1 ca1, .slice O1 no1 co1, .slice B1 nb1 cb1, .slice L1 nl1 cl1] 74)
  have hq2 := heap_alloc_new (w.alloc (.cells #[.int .i64 k1, .string (bs s1), .int .i64 n1, .int .i64 ek1, .int .i64 en1, .string (bs es1), .string (bs em1), .slice A1 na1 ca1, .slice O1 no1 co1, .slice B1 nb1 cb1, .slice L1 nl1 cl1] 74)) (.cells #[.int .i64 k2, .string (bs s2), .int .i64 n2, .int .i64 ek2, .int .i64 en2, .string (bs es2), .string (bs em2), .slice A2 na2 ca2, .slice O2 no2 co2, .slice B2 nb2 cb2, .slice L2 nl2 cl2] 74)
  have hq1 := (((Below.refl _ (w.alloc (.cells #[.int .i64 k1, .string (bs s1), .int .i64 n1, .int .i64 ek1, .int .i64 en1, .string (bs es1), .string (bs em1), .slice A1 na1 ca1, .slice O1 no1 co1, .slice B1 nb1 cb1, .slice L1 nl1 cl1] 74))).alloc (Nat.le_refl _) (.cells #[.int .i64 k2, .string (bs s2), .int .i64 n2, .int .i64 ek2, .int .i64 en2, .string (bs es2), .string (bs em2), .slice A2 na2 ca2, .slice O2 no2 co2, .slice B2 nb2 cb2, .slice L2 nl2 cl2] 74)).block w.heap.size (lt_of_block hq)).trans hq
  rw [hs1] at hq2
  have h1 := fun j v (hv : (#[.int .i64 k1, .string (bs s1), .int .i64 n1, .int .i64 ek1, .int .i64 en1, .string (bs es1), .string (bs em1), .slice A1 na1 ca1, .slice O1 no1 co1, .slice B1 nb1 cb1, .slice L1 nl1 cl1] : Array Value)[j]? = some v) => cell_of_Bz h (g := w.heap.size) (j := j) (v := v) (by rw [cell_of_row _ _ _ _ _ _ hq1]; exact hv) (lt_of_block hq1)
  have h2 := fun j v (hv : (#[.int .i64 k2, .string (bs s2), .int .i64 n2, .int .i64 ek2, .int .i64 en2, .string (bs es2), .string (bs em2), .slice A2 na2 ca2, .slice O2 no2 co2, .slice B2 nb2 cb2, .slice L2 nl2 cl2] : Array Value)[j]? = some v) => cell_of_Bz h (g := w.heap.size + 1) (j := j) (v := v) (by rw [cell_of_row _ _ _ _ _ _ hq2]; exact hv) (lt_of_block hq2)
  exact ⟨h1 0 _ rfl, h1 1 _ rfl, h1 2 _ rfl, h1 3 _ rfl, h1 4 _ rfl, h1 5 _ rfl, h1 6 _ rfl, h1 7 _ rfl, h1 8 _ rfl, h1 9 _ rfl, h1 10 _ rfl, h2 0 _ rfl, h2 1 _ rfl, h2 2 _ rfl, h2 3 _ rfl, h2 4 _ rfl, h2 5 _ rfl, h2 6 _ rfl, h2 7 _ rfl, h2 8 _ rfl, h2 9 _ rfl, h2 10 _ rfl⟩)
 have HG := Lib.hid (show ∀ W, Bz W0 W → Below w.heap.size w W from fun W h => hb0.trans (h.b.mono hb0.size))
 have z0 : Bz W0 W0 := ⟨Below.refl _ _⟩
 have KX := Lib.hid (show ∀ W, Bz W0 W → _ from fun W h => KXX.out W S S' _ _ (HX1.out.below (HG.out W h)) (HX2.out.below (HG.out W h)))
 have KA := Lib.hid (show ∀ W, Bz W0 W → _ from fun W h => ihb b2 W S S' B1 B2 nb1 cb1 nb2 cb2 (hA1.below (HG.out W h)) (hA2.below (HG.out W h)) lna)
 have KO := Lib.hid (show ∀ W, Bz W0 W → _ from fun W h => ihl l2 W S S' L1 L2 nl1 cl1 nl2 cl2 (hO1.below (HG.out W h)) (hO2.below (HG.out W h)) lno)
 have NE := Lib.hid (show (k1 ≠ k2 ∨ s1 ≠ s2 ∨ n1 ≠ n2 ∨ eqC x1 x2 = false ∨ eqC b1 b2 = false ∨ eqC l1 l2 = false) → eqC (St.mk k1 s1 n1 x1 b1 l1) (.mk k2 s2 n2 x2 b2 l2) = false from fun h => eqC_neg fun e => by
  injection e with e1 e2 e3 e4 e5 e6
  rcases h with h | h | h | h | h | h
  ·exact h e1
  ·exact h e2
  ·exact h e3
  ·rw [eqC_pos e4] at h; cases h
  ·rw [eqC_pos e5] at h; cases h
  ·rw [eqC_pos e6] at h; cases h)
 have YE := Lib.hid (show k1 = k2 → s1 = s2 → n1 = n2 → eqC x1 x2 = true → eqC b1 b2 = true → eqC l1 l2 = true → eqC (St.mk k1 s1 n1 x1 b1 l1) (.mk k2 s2 n2 x2 b2 l2) = true from fun h1 h2 h3 h4 h5 h6 => by
  have e4 : x1 = x2 := Classical.byContradiction fun h => by rw [eqC_neg h] at h4; cases h4
  have e5 : b1 = b2 := Classical.byContradiction fun h => by rw [eqC_neg h] at h5; cases h5
  have e6 : l1 = l2 := Classical.byContradiction fun h => by rw [eqC_neg h] at h6; cases h6
  exact eqC_pos (by rw [h1, h2, h3, e4, e5, e6]))
 generalize eqC (St.mk k1 s1 n1 x1 b1 l1) (.mk k2 s2 n2 x2 b2 l2) = E at *
 generalize eqC x1 x2 = ex at *
 generalize eqC b1 b2 = ea at *
 generalize eqC l1 l2 = eo at *
 clear hx hy hA1 hO1 hA2 hO2 ihb ihl hz lna lno hb0 hba KXX HX1 HX2
 unfold exC at KX
 unfold stC exC
 simp only [List.cons_append, List.nil_append]
 by_cases h : k1 = k2
 ·subst h
  have qk : (k1 == k1) = true := beq_self_eq_true _
  by_cases h : s1 = s2
  ·subst h
   have qs : ((bs s1).toList == (bs s1).toList) = true := beq_self_eq_true _
   by_cases h : n1 = n2
   ·subst h
    have qn : (n1 == n1) = true := beq_self_eq_true _
    go_enter Tryz.func68, Tryz.ntmps68
    go_upto_region 1 with fail
    rw [← hW0]
    clear hW0
    obtain ⟨c0, c1, c2, c3, c4, c5, c6, c7, c8, c9, c10, d0, d1, d2, d3, d4, d5, d6, d7, d8, d9, d10⟩ := HF.out _ z0
    go_wp2_with fail
    refine (KX.out _ z0).mono ?_
    rintro e w1 ⟨rfl, hb⟩
    have z1 := z0.next hb
    clear hb c0 c1 c2 c3 c4 c5 c6 c7 c8 c9 c10 d0 d1 d2 d3 d4 d5 d6 d7 d8 d9 d10
    obtain ⟨c0, c1, c2, c3, c4, c5, c6, c7, c8, c9, c10, d0, d1, d2, d3, d4, d5, d6, d7, d8, d9, d10⟩ := HF.out _ z1
    cases ex with
    | false =>
     have h : False ∨ false = false := .inr rfl
     have HR := Lib.hid (NE.out (.inr (.inr (.inr (.inl rfl)))))
     obtain rfl := HR.out
     go_wp2_with fail
     go_ret
     exact ⟨rfl, HG.out _ z1⟩
    | true =>
     go_wp2_with fail
     refine (KA.out _ z1).mono ?_
     rintro e w2 ⟨rfl, hb⟩
     have z2 := z1.next hb
     clear hb c0 c1 c2 c3 c4 c5 c6 c7 c8 c9 c10 d0 d1 d2 d3 d4 d5 d6 d7 d8 d9 d10
     obtain ⟨c0, c1, c2, c3, c4, c5, c6, c7, c8, c9, c10, d0, d1, d2, d3, d4, d5, d6, d7, d8, d9, d10⟩ := HF.out _ z2
     cases ea with
     | false =>
      have h : False ∨ false = false := .inr rfl
      have HR := Lib.hid (NE.out (.inr (.inr (.inr (.inr (.inl rfl))))))
      obtain rfl := HR.out
      go_wp2_with fail
      go_ret
      exact ⟨rfl, HG.out _ z2⟩
     | true =>
      go_wp2_with fail
      refine (KO.out _ z2).mono ?_
      rintro e w3 ⟨rfl, hb⟩
      have z3 := z2.next hb
      clear hb c0 c1 c2 c3 c4 c5 c6 c7 c8 c9 c10 d0 d1 d2 d3 d4 d5 d6 d7 d8 d9 d10
      obtain ⟨c0, c1, c2, c3, c4, c5, c6, c7, c8, c9, c10, d0, d1, d2, d3, d4, d5, d6, d7, d8, d9, d10⟩ := HF.out _ z3
      cases eo with
      | false =>
       have h : False ∨ false = false := .inr rfl
       have HR := Lib.hid (NE.out (.inr (.inr (.inr (.inr (.inr rfl))))))
       obtain rfl := HR.out
       go_wp2_with fail
       go_ret
       exact ⟨rfl, HG.out _ z3⟩
      | true =>
       have HR := Lib.hid (YE.out (by first | trivial | rfl) (by first | trivial | rfl) (by first | trivial | rfl) (by first | trivial | rfl) (by first | trivial | rfl) (by first | trivial | rfl))
       obtain rfl := HR.out
       go_wp2_with fail
       go_ret
       exact ⟨rfl, HG.out _ z3⟩
   ·have HR := Lib.hid (NE.out (.inr (.inr (.inl h))))
    obtain rfl := HR.out
    have qn : (n1 == n2) = false := by simp [h]
    go_enter Tryz.func68, Tryz.ntmps68
    go_upto_region 1 with fail
    rw [← hW0]
    clear hW0
    obtain ⟨c0, c1, c2, c3, c4, c5, c6, c7, c8, c9, c10, d0, d1, d2, d3, d4, d5, d6, d7, d8, d9, d10⟩ := HF.out _ z0
    go_wp2_with fail
    go_ret
    exact ⟨rfl, HG.out _ z0⟩
  ·have HR := Lib.hid (NE.out (.inr (.inl h)))
   obtain rfl := HR.out
   have qs : ((bs s1).toList == (bs s2).toList) = false := by rw [bs_toList, bs_toList]; simp [h]
   have qs2 : ¬ (bs s1).toList = (bs s2).toList := by rw [bs_toList, bs_toList]; exact h
   go_enter Tryz.func68, Tryz.ntmps68
   go_upto_region 1 with fail
   rw [← hW0]
   clear hW0
   obtain ⟨c0, c1, c2, c3, c4, c5, c6, c7, c8, c9, c10, d0, d1, d2, d3, d4, d5, d6, d7, d8, d9, d10⟩ := HF.out _ z0
   go_wp2_with fail
   go_ret
   exact ⟨rfl, HG.out _ z0⟩
 ·have HR := Lib.hid (NE.out (.inl h))
  obtain rfl := HR.out
  have qk : (k1 == k2) = false := by simp [h]
  go_enter Tryz.func68, Tryz.ntmps68
  go_upto_region 1 with fail
  rw [← hW0]
  clear hW0
  obtain ⟨c0, c1, c2, c3, c4, c5, c6, c7, c8, c9, c10, d0, d1, d2, d3, d4, d5, d6, d7, d8, d9, d10⟩ := HF.out _ z0
  go_wp2_with fail
  go_ret
  exact ⟨rfl, HG.out _ z0⟩
theorem sameS_any : ∀ (N : Nat) (x : St), x.size ≤ N → N ≤ 1000000 → ∀ y, SameS x y := by
 intro N
 induction N with
 | zero => intro x h; obtain ⟨_, _, _, _, _, _⟩ := x; rw [St.size] at h; omega
 | succ N ih =>
  intro x h hN y
  obtain ⟨k, s, n, e, b, l⟩ := x
  have hz := h
  rw [St.size] at h
  exact sameS_of k s n e b l (fun l => SameSL.of fun x hx y hy => ih x (by have := St.sizes_mem hx; omega) (by omega) y) (fun l => SameSL.of fun x hx y hy => ih x (by have := St.sizes_mem hx; omega) (by omega) y) (by omega) y
theorem sameS {x : St} (h : x.size ≤ 1000000) (y : St) : SameS x y := sameS_any x.size x (Nat.le_refl _) h y
theorem sameSL {l : List St} (h : St.sizes l ≤ 1000000) (l2 : List St) : SameSL l l2 := SameSL.of fun x hx y hy => sameS (by have := St.sizes_mem hx; omega) y
end Go.Proofs.YtkakbidllpjopaaGreatDoor
namespace Go.Proofs
open Go.Shelf
def Tryz.lays193_ren : Go.Shelf.Ren := ⟨fun | 193 => 66 | n => n, fun | 31 => 22 | 9 => 9 | 4 => 4 | 3 => 3 | 0 => 0 | n => n, fun | n => n⟩
theorem Tryz.lays193 : Go.Proofs.Lays.n193 Tryz.prog Tryz.lays193_ren := {
 mixed := by kernel_rfl
 f193 := Tryz.func66.trans (congrArg some (by kernel_rfl))
 t0 := Tryz.underlying0
 a0 := Tryz.isAgg0
 z0 := Tryz.sizeOf0
 v0 := Tryz.zeroValue0
 t3 := Tryz.underlying3
 a3 := Tryz.isAgg3
 z3 := Tryz.sizeOf3
 v3 := Tryz.zeroValue3
 t4 := Tryz.underlying4
 a4 := Tryz.isAgg4
 z4 := Tryz.sizeOf4
 v4 := Tryz.zeroValue4
 t9 := Tryz.underlying9
 a9 := Tryz.isAgg9
 z9 := Tryz.sizeOf9
 v9 := Tryz.zeroValue9
 t31 := Tryz.underlying22
 a31 := Tryz.isAgg22
 z31 := Tryz.sizeOf22
 v31 := Tryz.zeroValue22 }
open Go.RowKit Go.Sort Go.Lib in
theorem Tryz.slices_Equal_string (b1 o1 n c b2 o2 m d : Nat) (xs ys : List ByteArray) (w : World) (hx : n ≤ xs.length) (hy : m ≤ ys.length) (hbig : n ≤ 9223372036854775807) (hbig2 : m ≤ 9223372036854775807) (hc1 : ∀ j, j < xs.length → w.cell? ⟨b1, o1 + j, none⟩ = some (.string (xs.getD j ByteArray.empty))) (hc2 : ∀ j, j < ys.length → w.cell? ⟨b2, o2 + j, none⟩ = some (.string (ys.getD j ByteArray.empty))) :
  Calls Tryz.prog 66 #[.slice (some ⟨b1, o1, none⟩) n c, .slice (some ⟨b2, o2, none⟩) m d] w fun e w' => e = .returned (.bool (decide (xs.take n = ys.take m))) ∧ ∃ q, w' = w.drewN q := Any.slices_Equal_string Tryz.lays193 b1 o1 n c b2 o2 m d xs ys w hx hy hbig hbig2 hc1 hc2
open Go.RowKit Go.Sort Go.Lib in
theorem Tryz.slices_Equal_string_empty (a1 a2 : Option Addr) (c m d : Nat) (w : World) (hbig2 : m ≤ 9223372036854775807) :
  Calls Tryz.prog 66 #[.slice a1 0 c, .slice a2 m d] w fun e w' => e = .returned (.bool (decide (m = 0))) ∧ w' = w := Any.slices_Equal_string_empty Tryz.lays193 a1 a2 c m d w hbig2
open Go.RowKit Go.Sort Go.Lib in
theorem Tryz.slices_Equal_string_lens (a1 a2 : Option Addr) (n c m d : Nat) (w : World) (hnm : n ≠ m) :
  Calls Tryz.prog 66 #[.slice a1 n c, .slice a2 m d] w fun e w' => e = .returned (.bool false) ∧ w' = w := Any.slices_Equal_string_lens Tryz.lays193 a1 a2 n c m d w hnm
end Go.Proofs
namespace Go.Proofs.YtkakbidllpjopaaGreatDoor
open Go.RowKit

theorem SS.at {w : World} {S : Nat → Prop} {A : Option Addr} {n c : Nat} {l : List Str} (h : SS w S A n c l) (hn : 0 < n) : ∃ b q, A = some ⟨b, q, none⟩ ∧ b < w.heap.size ∧ S b ∧ ∀ j, j < (l.map bs).length → w.cell? ⟨b, q + j, none⟩ = some (.string ((l.map bs).getD j ByteArray.empty)) := by
 obtain ⟨b, q, e1, hb, hS, hx⟩ := h.2.2 hn
 refine ⟨b, q, e1, hb, hS, fun j hj => ?_⟩
 rw [List.length_map] at hj
 obtain ⟨cs, ⟨s, hs, rfl⟩, h2⟩ := hx j (by have := h.1; omega)
 have := h2 0 _ rfl
 rw [Nat.mul_one] at this
 have e : (l.map bs).getD j ByteArray.empty = bs s := by rw [List.getD_eq_getElem?_getD, List.getElem?_map, hs]; rfl
 rw [e]
 exact this
theorem map_bs_inj : ∀ {a b : List Str}, a.map bs = b.map bs → a = b
 | [], [], _ => rfl
 | [], y :: t, h => by cases h
 | x :: s, [], h => by cases h
 | x :: s, y :: t, h => by
  injection h with h1 h2
  rw [bs_inj h1, map_bs_inj h2]
/-- Whether two rows of strings are equal. -/
theorem sameP (l1 l2 : List Str) (w : World) (S S' : Nat → Prop) (A A' : Option Addr) (n c n' c' : Nat) (h1 : SS w S A n c l1) (h2 : SS w S' A' n' c' l2) (hn : n ≤ 1000000) :
  Calls Tryz.prog 66 #[.slice A n c, .slice A' n' c'] w fun e w' => e = .returned (.bool (eqC l1 l2)) ∧ Below w.heap.size w w' := by
 by_cases hnn : n = n'
 ·subst hnn
  by_cases h0 : n = 0
  ·subst h0
   refine (Tryz.slices_Equal_string_empty A A' c 0 c' w (by omega)).mono ?_
   rintro e w' ⟨rfl, rfl⟩
   have e1 : l1 = [] := List.eq_nil_of_length_eq_zero h1.1.symm
   have e2 : l2 = [] := List.eq_nil_of_length_eq_zero h2.1.symm
   refine ⟨?_, Below.refl _ _⟩
   rw [eqC_pos (by rw [e1, e2])]
   rfl
  ·obtain ⟨b, q, rfl, -, -, hx⟩ := h1.at (by omega)
   obtain ⟨b2, q2, rfl, -, -, hy⟩ := h2.at (by omega)
   refine (Tryz.slices_Equal_string b q n c b2 q2 n c' (l1.map bs) (l2.map bs) w (by rw [List.length_map]; exact Nat.le_of_eq h1.1) (by rw [List.length_map]; exact Nat.le_of_eq h2.1) (by omega) (by omega) hx hy).mono ?_
   rintro e w' ⟨rfl, q, rfl⟩
   refine ⟨?_, ⟨rfl, rfl, rfl, Nat.le_refl _, fun _ _ => rfl⟩⟩
   rw [List.take_of_length_le (by rw [List.length_map]; exact Nat.le_of_eq h1.1.symm), List.take_of_length_le (by rw [List.length_map]; exact Nat.le_of_eq h2.1.symm)]
   by_cases h : l1 = l2
   ·rw [eqC_pos h, decide_eq_true (by rw [h])]
   ·rw [eqC_neg h, decide_eq_false (fun e => h (map_bs_inj e))]
 ·refine (Tryz.slices_Equal_string_lens A A' n c n' c' w hnn).mono ?_
  rintro e w' ⟨rfl, rfl⟩
  refine ⟨?_, Below.refl _ _⟩
  rw [eqC_neg (fun e => hnn (by rw [h1.1, h2.1, e]))]
set_option maxRecDepth 100000 in
set_option maxHeartbeats 25600000 in
theorem sameO {x : Oper'} (hz : x.params.length ≤ 1000000 ∧ St.sizes x.body ≤ 1000000) (y : Oper') : SameO x y := by
 intro w S S' cs ds hx hy
 obtain ⟨P1, np1, cp1, B1, nb1, cb1, rfl, hp1, hb1⟩ := hx
 obtain ⟨P2, np2, cp2, B2, nb2, cb2, rfl, hp2, hb2⟩ := hy
 obtain ⟨s1, p1, b1⟩ := x
 obtain ⟨s2, p2, b2⟩ := y
 dsimp only at *
 have lnp : np1 ≤ 1000000 := by have := hp1.1; omega
 have lnb : nb1 ≤ 1000000 := by have := hb1.1.1; have := St.len_sizes b1; omega
 have ihb := sameSL hz.2
 obtain ⟨W0, hW0⟩ : ∃ W0 : World, W0 = (w.alloc (.cells #[.string (bs s1), .slice P1 np1 cp1, .slice B1 nb1 cb1] 76)).alloc (.cells #[.string (bs s2), .slice P2 np2 cp2, .slice B2 nb2 cb2] 76) := ⟨_, rfl⟩
 have hba : Below w.heap.size w (w.alloc (.cells #[.string (bs s1), .slice P1 np1 cp1, .slice B1 nb1 cb1] 76)) := (Below.refl _ _).alloc (Nat.le_refl _) _
 have hb0 : Below w.heap.size w W0 := by rw [hW0]; exact hba.alloc hba.size _
 have HF := Lib.hid (show ∀ W, Bz W0 W → (W.cell? ⟨w.heap.size, 0, none⟩ = some (.string (bs s1)) ∧ W.cell? ⟨w.heap.size, 1, none⟩ = some (.slice P1 np1 cp1) ∧ W.cell? ⟨w.heap.size, 2, none⟩ = some (.slice B1 nb1 cb1) ∧ W.cell? ⟨w.heap.size + 1, 0, none⟩ = some (.string (bs s2)) ∧ W.cell? ⟨w.heap.size + 1, 1, none⟩ = some (.slice P2 np2 cp2) ∧ W.cell? ⟨w.heap.size + 1, 2, none⟩ = some (.slice B2 nb2 cb2)) from fun W h => by
  subst hW0
  have hs1 : (w.alloc (.cells #[.string (bs s1), .slice P1 np1 cp1, .slice B1 nb1 cb1] 76)).heap.size = w.heap.size + 1 := World.size_alloc ..
  have hq := heap_alloc_new w (.cells #[.string (bs s1), .slice P1 np1 cp1, .slice B1 nb1 cb1] 76)
  have hq2 := heap_alloc_new (w.alloc (.cells #[.string (bs s1), .slice P1 np1 cp1, .slice B1 nb1 cb1] 76)) (.cells #[.string (bs s2), .slice P2 np2 cp2, .slice B2 nb2 cb2] 76)
  have hq1 := (((Below.refl _ (w.alloc (.cells #[.string (bs s1), .slice P1 np1 cp1, .slice B1 nb1 cb1] 76))).alloc (Nat.le_refl _) (.cells #[.string (bs s2), .slice P2 np2 cp2, .slice B2 nb2 cb2] 76)).block w.heap.size (lt_of_block hq)).trans hq
  rw [hs1] at hq2
  have h1 := fun j v (hv : (#[.string (bs s1), .slice P1 np1 cp1, .slice B1 nb1 cb1] : Array Value)[j]? = some v) => cell_of_Bz h (g := w.heap.size) (j := j) (v := v) (by rw [cell_of_row _ _ _ _ _ _ hq1]; exact hv) (lt_of_block hq1)
  have h2 := fun j v (hv : (#[.string (bs s2), .slice P2 np2 cp2, .slice B2 nb2 cb2] : Array Value)[j]? = some v) => cell_of_Bz h (g := w.heap.size + 1) (j := j) (v := v) (by rw [cell_of_row _ _ _ _ _ _ hq2]; exact hv) (lt_of_block hq2)
  exact ⟨h1 0 _ rfl, h1 1 _ rfl, h1 2 _ rfl, h2 0 _ rfl, h2 1 _ rfl, h2 2 _ rfl⟩)
 have HG := Lib.hid (show ∀ W, Bz W0 W → Below w.heap.size w W from fun W h => hb0.trans (h.b.mono hb0.size))
 have z0 : Bz W0 W0 := ⟨Below.refl _ _⟩
 have bl : ∀ {W : World}, Below w.heap.size w W → ∀ (S : Nat → Prop) b, b < w.heap.size → S b → W.heap[b]? = w.heap[b]? := fun h S b hlt _ => h.block b hlt
 have KP := Lib.hid (show ∀ W, Bz W0 W → _ from fun W h => sameP p1 p2 W S S' P1 P2 np1 cp1 np2 cp2 (hp1.keep (HG.out W h).size (bl (HG.out W h) S) fun _ _ h => h) (hp2.keep (HG.out W h).size (bl (HG.out W h) S') fun _ _ h => h) lnp)
 have KA := Lib.hid (show ∀ W, Bz W0 W → _ from fun W h => ihb b2 W S S' B1 B2 nb1 cb1 nb2 cb2 (hb1.below (HG.out W h)) (hb2.below (HG.out W h)) lnb)
 have NE := Lib.hid (show (s1 ≠ s2 ∨ eqC p1 p2 = false ∨ eqC b1 b2 = false) → eqC (Oper'.mk s1 p1 b1) (.mk s2 p2 b2) = false from fun h => eqC_neg fun e => by
  injection e with e1 e2 e3
  rcases h with h | h | h
  ·exact h e1
  ·rw [eqC_pos e2] at h; cases h
  ·rw [eqC_pos e3] at h; cases h)
 have YE := Lib.hid (show s1 = s2 → eqC p1 p2 = true → eqC b1 b2 = true → eqC (Oper'.mk s1 p1 b1) (.mk s2 p2 b2) = true from fun h1 h2 h3 => by
  have e2 : p1 = p2 := Classical.byContradiction fun h => by rw [eqC_neg h] at h2; cases h2
  have e3 : b1 = b2 := Classical.byContradiction fun h => by rw [eqC_neg h] at h3; cases h3
  exact eqC_pos (by rw [h1, e2, e3]))
 generalize eqC (Oper'.mk s1 p1 b1) (.mk s2 p2 b2) = E at *
 generalize eqC p1 p2 = ep at *
 generalize eqC b1 b2 = eb at *
 clear hp1 hb1 hp2 hb2 ihb hz lnp lnb hb0 hba bl
 by_cases h : s1 = s2
 ·subst h
  have qs : ((bs s1).toList == (bs s1).toList) = true := beq_self_eq_true _
  go_enter Tryz.func38, Tryz.ntmps38
  go_upto_region 1 with fail
  rw [← hW0]
  clear hW0
  obtain ⟨c0, c1, c2, d0, d1, d2⟩ := HF.out _ z0
  go_wp2_with fail
  refine (KP.out _ z0).mono ?_
  rintro e w1 ⟨rfl, hb⟩
  have z1 := z0.next hb
  clear hb c0 c1 c2 d0 d1 d2
  obtain ⟨c0, c1, c2, d0, d1, d2⟩ := HF.out _ z1
  cases ep with
  | false =>
   have h : False ∨ false = false := .inr rfl
   have HR := Lib.hid (NE.out (.inr (.inl rfl)))
   obtain rfl := HR.out
   go_wp2_with fail
   go_ret
   exact ⟨rfl, HG.out _ z1⟩
  | true =>
   go_wp2_with fail
   refine (KA.out _ z1).mono ?_
   rintro e w2 ⟨rfl, hb⟩
   have z2 := z1.next hb
   clear hb c0 c1 c2 d0 d1 d2
   obtain ⟨c0, c1, c2, d0, d1, d2⟩ := HF.out _ z2
   cases eb with
   | false =>
    have h : False ∨ false = false := .inr rfl
    have HR := Lib.hid (NE.out (.inr (.inr rfl)))
    obtain rfl := HR.out
    go_wp2_with fail
    go_ret
    exact ⟨rfl, HG.out _ z2⟩
   | true =>
    have HR := Lib.hid (YE.out (by first | trivial | rfl) (by first | trivial | rfl) (by first | trivial | rfl))
    obtain rfl := HR.out
    go_wp2_with fail
    go_ret
    exact ⟨rfl, HG.out _ z2⟩
 ·have HR := Lib.hid (NE.out (.inl h))
  obtain rfl := HR.out
  have qs : ((bs s1).toList == (bs s2).toList) = false := by rw [bs_toList, bs_toList]; simp [h]
  have qs2 : ¬ (bs s1).toList = (bs s2).toList := by rw [bs_toList, bs_toList]; exact h
  go_enter Tryz.func38, Tryz.ntmps38
  go_upto_region 1 with fail
  rw [← hW0]
  clear hW0
  obtain ⟨c0, c1, c2, d0, d1, d2⟩ := HF.out _ z0
  go_wp2_with fail
  go_ret
  exact ⟨rfl, HG.out _ z0⟩
theorem sameOL {l : List Oper'} (h : ∀ o ∈ l, o.params.length ≤ 1000000 ∧ St.sizes o.body ≤ 1000000) (l2 : List Oper') : SameOL l l2 := SameOL.of fun x hx y hy => sameO (h x hx) y
theorem range2 {w : World} {b o : Nat} {u0 u1 : Value} (h : w.rangeAt b o [u0, u1]) : w.cell? ⟨b, o, none⟩ = some u0 ∧ w.cell? ⟨b, o + 1, none⟩ = some u1 := ⟨h 0 _ rfl, h 1 _ rfl⟩
set_option maxRecDepth 100000 in
set_option maxHeartbeats 25600000 in
theorem sameD (l1 l2 : List Decl') (w : World) (S S' : Nat → Prop) (A A' : Option Addr) (n c n' c' : Nat) (hl : DL w S A n c l1) (hl2 : DL w S' A' n' c' l2) (hn : n ≤ 1000000) :
  Calls Tryz.prog 36 #[.slice A n c, .slice A' n' c'] w fun e w' => e = .returned (.bool (eqC l1 l2)) ∧ Below w.heap.size w w' := by
 have HL := Lib.hid hl
 have HL2 := Lib.hid hl2
 have HLEN := Lib.hid hl.1
 have HLEN2 := Lib.hid hl2.1
 have hn6 : (n : Int) ≤ 1000000 := by omega
 have HPOS := Lib.hid (show l1 = l2 → eqC l1 l2 = true from eqC_pos)
 have HNEG := Lib.hid (show l1 ≠ l2 → eqC l1 l2 = false from eqC_neg)
 generalize eqC l1 l2 = E at *
 have hb0 : Below w.heap.size w w := Below.refl _ _
 clear hl hl2 hn
 by_cases hnn : n' = n
 ·subst hnn
  go_enter Tryz.func36, Tryz.ntmps36
  go_wp2_with fail
  go_loopw [13] (fun i wx => ∃ q : Nat, q ≤ l1.length ∧ i = .int .i64 q ∧ Hid (l1.take q = l2.take q) ∧ Below w.heap.size w wx) (fun i _ => l1.length - (intOf i).toNat)
  case atStart => exact ⟨0, Nat.zero_le _, rfl, Lib.hid (by rw [List.take_zero, List.take_zero]), hb0⟩
  case round =>
   clear hb0
   obtain ⟨q, hq, rfl, n3, zq⟩ := hrel
   by_cases hlq : q < l1.length
   ·have hi2 : (q : Int) < (n' : Int) := by have := HLEN.out; omega
    obtain ⟨b, off, cs, rfl, hb, hS, ⟨x, hx, rfl⟩, hrow⟩ := HL.out.2.at q (by have := HLEN.out; omega)
    obtain ⟨b2, off2, ds, rfl, hb2, hS2, ⟨y, hy, rfl⟩, hrow2⟩ := HL2.out.2.at q (by have := HLEN.out; omega)
    have HQL := Lib.hid hlq
    have HXQ := Lib.hid hx
    have HYQ := Lib.hid hy
    have hrow3 := rangeAt_keep hrow (zq.block b hb)
    have hrow4 := rangeAt_keep hrow2 (zq.block b2 hb2)
    obtain ⟨c0, c1⟩ := range2 hrow3
    obtain ⟨d0, d1⟩ := range2 hrow4
    obtain ⟨x1, x2⟩ := x
    obtain ⟨y1, y2⟩ := y
    dsimp only at c0 c1 d0 d1
    obtain ⟨wv, hwv⟩ : ∃ wv, wv = wr := ⟨_, rfl⟩
    subst hwv
    have HB2 := Lib.hid (fun k => show Below w.heap.size w (wv.drewN k) from ⟨zq.os, zq.tape, zq.output, zq.size, zq.block⟩)
    clear hx hy hb hb2 hS hS2 hrow hrow2 hrow3 hrow4 hlq hq zq
    by_cases hxy : x1 = y1 ∧ x2 = y2
    ·obtain ⟨rfl, rfl⟩ := hxy
     go_wp2
     go_quiet (fail)
     go_wp2
     go_roundw
     case rel => exact ⟨q + 1, HQL.out, by go_num, Lib.hid (take_next n3.out HXQ.out HYQ.out rfl), HB2.out _⟩
     case measure => exact meas_up _ _ HQL.out
    ·have HR := Lib.hid (show E = false from HNEG.out fun e => by
      have h1 := HXQ.out
      rw [e, HYQ.out] at h1
      injection h1 with h1
      injection h1 with h1 h2
      exact hxy ⟨h1.symm, h2.symm⟩)
     have HH := Lib.hid (show ((bs x1).toList == (bs y1).toList && (bs x2).toList == (bs y2).toList) = false by
      rw [bs_toList, bs_toList, bs_toList, bs_toList]
      by_cases h1 : x1 = y1
      ·have h2 : ¬ x2 = y2 := fun h2 => hxy ⟨h1, h2⟩
       simp [h2]
      ·simp [h1])
     have hne : ∀ W : World, (Op.equalIn 10000 83 (.agg #[.string (bs x1), .string (bs x2)]) (.agg #[.string (bs y1), .string (bs y2)])).run Tryz.prog W = .ok false W := fun W => by
      go_simp
      have := HH.out
      simpa using this
     clear hxy
     go_wp2
     go_quiet (fail)
     go_wp2
     go_ret
     exact ⟨congrArg (fun v => Ending.returned (.bool v)) HR.out.symm, HB2.out _⟩
   ·have hi2 : ¬ (q : Int) < (n' : Int) := by have := HLEN.out; omega
    have HR := Lib.hid (show E = true from HPOS.out (by
     have h := n3.out
     rwa [List.take_of_length_le (by omega), List.take_of_length_le (by have := HLEN.out; have := HLEN2.out; omega)] at h))
    clear hlq hq n3
    go_wp2
    go_ret
    exact ⟨congrArg (fun v => Ending.returned (.bool v)) HR.out.symm, zq⟩
 ·have HR := Lib.hid (show E = false from HNEG.out fun e => hnn (by have h1 := HLEN.out; have h2 := HLEN2.out; rw [e] at h1; omega))
  have hne : ¬ (n : Int) = (n' : Int) := by omega
  clear hnn HL HL2
  go_enter Tryz.func36, Tryz.ntmps36
  go_wp2
  go_ret
  exact ⟨congrArg (fun v => Ending.returned (.bool v)) HR.out.symm, hb0⟩
/-- Whether two programs are equal. -/
def Prog'.Fit (p : Prog') : Prop := p.stores.length ≤ 1000000 ∧ p.opers.length ≤ 1000000 ∧ ∀ o ∈ p.opers, o.params.length ≤ 1000000 ∧ St.sizes o.body ≤ 1000000
set_option maxRecDepth 100000 in
set_option maxHeartbeats 25600000 in
theorem same_any (p q : Prog') (hf : p.Fit) (w : World) (S S' : Nat → Prop) (v u : Value) (hp : PV w S p v) (hq : PV w S' q u) :
  Calls Tryz.prog 16 #[v, u] w fun e w' => e = .returned (.bool (eqC p q)) ∧ Below w.heap.size w w' := by
 obtain ⟨D1, nd1, cd1, O1, no1, co1, rfl, hd1, ho1⟩ := hp
 obtain ⟨D2, nd2, cd2, O2, no2, co2, rfl, hd2, ho2⟩ := hq
 obtain ⟨ds1, os1⟩ := p
 obtain ⟨ds2, os2⟩ := q
 dsimp only at *
 have lnd : nd1 ≤ 1000000 := by have := hd1.1; have := hf.1; dsimp only at this; omega
 have lno : no1 ≤ 1000000 := by have := ho1.1; have := hf.2.1; dsimp only at this; omega
 have iho := sameOL (l := os1) hf.2.2
 obtain ⟨W0, hW0⟩ : ∃ W0 : World, W0 = (w.alloc (.cells #[.slice D1 nd1 cd1, .slice O1 no1 co1] 36)).alloc (.cells #[.slice D2 nd2 cd2, .slice O2 no2 co2] 36) := ⟨_, rfl⟩
 have hba : Below w.heap.size w (w.alloc (.cells #[.slice D1 nd1 cd1, .slice O1 no1 co1] 36)) := (Below.refl _ _).alloc (Nat.le_refl _) _
 have hb0 : Below w.heap.size w W0 := by rw [hW0]; exact hba.alloc hba.size _
 have HF := Lib.hid (show ∀ W, Bz W0 W → (W.cell? ⟨w.heap.size, 0, none⟩ = some (.slice D1 nd1 cd1) ∧ W.cell? ⟨w.heap.size, 1, none⟩ = some (.slice O1 no1 co1) ∧ W.cell? ⟨w.heap.size + 1, 0, none⟩ = some (.slice D2 nd2 cd2) ∧ W.cell? ⟨w.heap.size + 1, 1, none⟩ = some (.slice O2 no2 co2)) from fun W h => by
  subst hW0
  have hs1 : (w.alloc (.cells #[.slice D1 nd1 cd1, .slice O1 no1 co1] 36)).heap.size = w.heap.size + 1 := World.size_alloc ..
  have hq := heap_alloc_new w (.cells #[.slice D1 nd1 cd1, .slice O1 no1 co1] 36)
  have hq2 := heap_alloc_new (w.alloc (.cells #[.slice D1 nd1 cd1, .slice O1 no1 co1] 36)) (.cells #[.slice D2 nd2 cd2, .slice O2 no2 co2] 36)
  have hq1 := (((Below.refl _ (w.alloc (.cells #[.slice D1 nd1 cd1, .slice O1 no1 co1] 36))).alloc (Nat.le_refl _) (.cells #[.slice D2 nd2 cd2, .slice O2 no2 co2] 36)).block w.heap.size (lt_of_block hq)).trans hq
  rw [hs1] at hq2
  have h1 := fun j v (hv : (#[.slice D1 nd1 cd1, .slice O1 no1 co1] : Array Value)[j]? = some v) => cell_of_Bz h (g := w.heap.size) (j := j) (v := v) (by rw [cell_of_row _ _ _ _ _ _ hq1]; exact hv) (lt_of_block hq1)
  have h2 := fun j v (hv : (#[.slice D2 nd2 cd2, .slice O2 no2 co2] : Array Value)[j]? = some v) => cell_of_Bz h (g := w.heap.size + 1) (j := j) (v := v) (by rw [cell_of_row _ _ _ _ _ _ hq2]; exact hv) (lt_of_block hq2)
  exact ⟨h1 0 _ rfl, h1 1 _ rfl, h2 0 _ rfl, h2 1 _ rfl⟩)
 have HG := Lib.hid (show ∀ W, Bz W0 W → Below w.heap.size w W from fun W h => hb0.trans (h.b.mono hb0.size))
 have z0 : Bz W0 W0 := ⟨Below.refl _ _⟩
 have bl : ∀ {W : World}, Below w.heap.size w W → ∀ (S : Nat → Prop) b, b < w.heap.size → S b → W.heap[b]? = w.heap[b]? := fun h S b hlt _ => h.block b hlt
 have KD := Lib.hid (show ∀ W, Bz W0 W → _ from fun W h => sameD ds1 ds2 W S S' D1 D2 nd1 cd1 nd2 cd2 (hd1.keep (HG.out W h).size (bl (HG.out W h) S) fun _ _ h => h) (hd2.keep (HG.out W h).size (bl (HG.out W h) S') fun _ _ h => h) lnd)
 have KO := Lib.hid (show ∀ W, Bz W0 W → _ from fun W h => iho os2 W S S' O1 O2 no1 co1 no2 co2 (ho1.keep (HG.out W h).size (bl (HG.out W h) S) fun _ _ h => h) (ho2.keep (HG.out W h).size (bl (HG.out W h) S') fun _ _ h => h) lno)
 have NE := Lib.hid (show (eqC ds1 ds2 = false ∨ eqC os1 os2 = false) → eqC (Prog'.mk ds1 os1) (.mk ds2 os2) = false from fun h => eqC_neg fun e => by
  injection e with e1 e2
  rcases h with h | h
  ·rw [eqC_pos e1] at h; cases h
  ·rw [eqC_pos e2] at h; cases h)
 have YE := Lib.hid (show eqC ds1 ds2 = true → eqC os1 os2 = true → eqC (Prog'.mk ds1 os1) (.mk ds2 os2) = true from fun h1 h2 => by
  have e1 : ds1 = ds2 := Classical.byContradiction fun h => by rw [eqC_neg h] at h1; cases h1
  have e2 : os1 = os2 := Classical.byContradiction fun h => by rw [eqC_neg h] at h2; cases h2
  exact eqC_pos (by rw [e1, e2]))
 generalize eqC (Prog'.mk ds1 os1) (.mk ds2 os2) = E at *
 generalize eqC ds1 ds2 = ed at *
 generalize eqC os1 os2 = eo at *
 clear hd1 ho1 hd2 ho2 iho hf lnd lno hb0 hba bl
 go_enter Tryz.func16, Tryz.ntmps16
 go_upto_region 1 with fail
 rw [← hW0]
 clear hW0
 obtain ⟨c0, c1, d0, d1⟩ := HF.out _ z0
 go_wp2_with fail
 refine (KD.out _ z0).mono ?_
 rintro e w1 ⟨rfl, hb⟩
 have z1 := z0.next hb
 clear hb c0 c1 d0 d1
 obtain ⟨c0, c1, d0, d1⟩ := HF.out _ z1
 cases ed with
 | false =>
  have h : False ∨ false = false := .inr rfl
  have HR := Lib.hid (NE.out (.inl rfl))
  obtain rfl := HR.out
  go_wp2_with fail
  go_ret
  exact ⟨rfl, HG.out _ z1⟩
 | true =>
  go_wp2_with fail
  refine (KO.out _ z1).mono ?_
  rintro e w2 ⟨rfl, hb⟩
  have z2 := z1.next hb
  clear hb c0 c1 d0 d1
  obtain ⟨c0, c1, d0, d1⟩ := HF.out _ z2
  cases eo with
  | false =>
   have h : False ∨ false = false := .inr rfl
   have HR := Lib.hid (NE.out (.inr rfl))
   obtain rfl := HR.out
   go_wp2_with fail
   go_ret
   exact ⟨rfl, HG.out _ z2⟩
  | true =>
   have HR := Lib.hid (YE.out (by first | trivial | rfl) (by first | trivial | rfl))
   obtain rfl := HR.out
   go_wp2_with fail
   go_ret
   exact ⟨rfl, HG.out _ z2⟩
end Go.Proofs.YtkakbidllpjopaaGreatDoor
namespace Go.Proofs.YtkakbidllpjopaaGreatDoor
open Go.RowKit

theorem prE_rp {s : Str} (h : (rpE s).2.2 ≠ 0) : prE s = rpE s ∧ (rpE s).1 = emE := by
 by_cases he : (Lx.scanL s).2.2 = 0
 ·cases hp : pX ((Lx.scanL s).1.map tkq) with
  | bad r => rw [prE_bad he hp, rpE_bad he hp]; exact ⟨rfl, rfl⟩
  | ok x r => rw [rpE_ok he hp] at h; exact absurd rfl h
 ·rw [prE_err he, rpE_err he]; exact ⟨rfl, rfl⟩
theorem pX_size {R r : List Tk} {x : Ex} (h : pX R = .ok x r) : x.size ≤ R.length := by
 unfold pX at h
 cases hp : pE R with
 | bad q => rw [hp] at h; cases h
 | ok y q =>
  have := size_pE hp
  rw [hp] at h
  dsimp only at h
  split at h
  ·injection h with h1 h2; subst h1; omega
  ·cases h
theorem prE_ok2 {s : Str} (h : (rpE s).2.2 = 0) : (rpE s).2.1 = 0 ∧ (rpE s).1.size ≤ s.length + 1 ∧ prE s = if chkP (aloneP (rpE s).1) = 0 then ((rpE s).1, 0, 0) else (emE, 0, chkP (aloneP (rpE s).1)) := by
 by_cases he : (Lx.scanL s).2.2 = 0
 ·cases hp : pX ((Lx.scanL s).1.map tkq) with
  | bad r => rw [rpE_bad he hp] at h; cases h
  | ok x r =>
   rw [rpE_ok he hp, prE_ok he hp]
   have h1 := pX_size hp
   have h2 := (scan_ok he).2.2.2.1
   rw [List.length_map] at h1
   exact ⟨rfl, by dsimp only; omega, rfl⟩
 ·rw [rpE_err he] at h; exact absurd h he
theorem afit {e : Ex} (h : e.size ≤ 900000) : (aloneP e).Fit := by
 refine ⟨Nat.zero_le _, show 1 ≤ 1000000 from by omega, fun o ho => ?_⟩
 rw [List.mem_singleton.1 ho]
 exact ⟨Nat.zero_le _, by simp only [St.sizes, St.size]; omega⟩
set_option maxRecDepth 100000 in
set_option maxHeartbeats 12800000 in
theorem exprs_long (s : Str) (w : World) (hw : WW w) (hl : 1200 < s.length) : Calls Tryz.prog 5 #[.string (bs s)] w fun e w' => e = .returned (.bool true) ∧ Below w.heap.size w w' := by
 have HW := Lib.hid hw
 have B := Lib.hid (Below.refl w.heap.size w)
 have hsz := bs_size s
 have hli : (1200 : Int) < (s.length : Int) := by omega
 have hld : decide ((1200 : Int) < (s.length : Int)) = true := decide_eq_true hli
 clear hw hl
 go_enter Tryz.func5, Tryz.ntmps5
 go_wp2_with fail
 refine (awake_any _ (HW.out.below B.out)).mono ?_
 rintro e wk ⟨rfl, hb⟩
 obtain h0 := B.out
 clear B
 have B := Lib.hid (h0.trans (hb.mono h0.size))
 clear h0
 clear hb
 go_wp2
 go_ret
 exact ⟨rfl, B.out⟩
set_option maxRecDepth 100000 in
set_option maxHeartbeats 12800000 in
theorem exprs_short (s : Str) (w : World) (hw : WW w) (hl : ¬ 1200 < s.length) : Calls Tryz.prog 5 #[.string (bs s)] w fun e w' => e = .returned (.bool true) ∧ Below w.heap.size w w' := by
 have HW := Lib.hid hw
 have B := Lib.hid (Below.refl w.heap.size w)
 have hsz := bs_size s
 have hli : (s.length : Int) ≤ 1200 := by omega
 have hld : decide ((1200 : Int) < (s.length : Int)) = false := decide_eq_false (by omega)
 obtain ⟨z1, hz1⟩ : ∃ z, z = (prE s).2.1 := ⟨_, rfl⟩
 obtain ⟨r1, hr1⟩ : ∃ z, z = (prE s).2.2 := ⟨_, rfl⟩
 obtain ⟨z2, hz2⟩ : ∃ z, z = (rpE s).2.1 := ⟨_, rfl⟩
 obtain ⟨r2, hr2⟩ : ∃ z, z = (rpE s).2.2 := ⟨_, rfl⟩
 have K1 := Lib.hid (pexpr_any s w hw (by omega))
 have K2 := Lib.hid fun W => rExpr_any s W (by omega)
 rw [← hz1, ← hr1] at K1
 rw [← hz2, ← hr2] at K2
 have Z1 := Lib.hid hz1
 have R1 := Lib.hid hr1
 have Z2 := Lib.hid hz2
 have R2 := Lib.hid hr2
 have HL := Lib.hid hl
 clear hw hz1 hr1 hz2 hr2 hl
 go_enter Tryz.func5, Tryz.ntmps5
 go_wp2_with fail
 refine K1.out.mono ?_
 rintro e w1 ⟨cs1, rfl, hv, hb⟩
 obtain h0 := B.out
 clear B
 have B := Lib.hid (h0.trans (hb.mono h0.size))
 clear h0
 clear hb K1
 obtain ⟨x1, hx1⟩ : ∃ z, z = (prE s).1 := ⟨_, rfl⟩
 rw [← hx1] at hv
 have HX1 := Lib.hid hx1
 clear hx1
 obtain ⟨k1, n1, s1, m1, A1, na1, ca1, O1, no1, co1, rfl⟩ := hv.cells6
 rw [show (exC k1 n1 s1 m1 A1 na1 ca1 O1 no1 co1).toArray = #[.int .i64 k1, .int .i64 n1, .string (bs s1), .string (bs m1), .slice A1 na1 ca1, .slice O1 no1 co1] from rfl]
 obtain ⟨w1b, hwb⟩ : ∃ W, W = w1.alloc (.cells #[.int .i64 k1, .int .i64 n1, .string (bs s1), .string (bs m1), .slice A1 na1 ca1, .slice O1 no1 co1] 27) := ⟨_, rfl⟩
 have hb : Below w1.heap.size w1 w1b := by rw [hwb]; exact (Below.refl _ _).alloc (Nat.le_refl _) _
 have P1 := Lib.hid (show HB 27 w1b w1.heap.size #[.int .i64 k1, .int .i64 n1, .string (bs s1), .string (bs m1), .slice A1 na1 ca1, .slice O1 no1 co1] from by rw [hwb]; exact heap_alloc_new w1 _)
 have V1 := Lib.hid (hv.below hb)
 obtain h0 := B.out
 clear B
 have B := Lib.hid (h0.trans (hb.mono h0.size))
 clear h0
 clear hb hv
 go_upto_region 4 with fail
 rw [← hwb]
 clear hwb
 generalize w1.heap.size = pb1 at *
 obtain h0 := K2.out w1b
 clear K2
 have K2 := Lib.hid h0
 clear h0
 go_wp2_with fail
 refine K2.out.mono ?_
 rintro e w2 ⟨cs2, rfl, hv, hb⟩
 obtain h0 := P1.out
 clear P1
 have P1 := Lib.hid (h0.below hb)
 clear h0
 obtain h0 := V1.out
 clear V1
 have V1 := Lib.hid (h0.below hb)
 clear h0
 obtain h0 := B.out
 clear B
 have B := Lib.hid (h0.trans (hb.mono h0.size))
 clear h0
 clear hb K2
 obtain ⟨x2, hx2⟩ : ∃ z, z = (rpE s).1 := ⟨_, rfl⟩
 rw [← hx2] at hv
 have HX2 := Lib.hid hx2
 clear hx2
 obtain ⟨k2, n2, s2, m2, A2, na2, ca2, O2, no2, co2, rfl⟩ := hv.cells6
 rw [show (exC k2 n2 s2 m2 A2 na2 ca2 O2 no2 co2).toArray = #[.int .i64 k2, .int .i64 n2, .string (bs s2), .string (bs m2), .slice A2 na2 ca2, .slice O2 no2 co2] from rfl]
 obtain ⟨w2b, hwb⟩ : ∃ W, W = w2.alloc (.cells #[.int .i64 k2, .int .i64 n2, .string (bs s2), .string (bs m2), .slice A2 na2 ca2, .slice O2 no2 co2] 54) := ⟨_, rfl⟩
 have hb : Below w2.heap.size w2 w2b := by rw [hwb]; exact (Below.refl _ _).alloc (Nat.le_refl _) _
 have P2 := Lib.hid (show HB 54 w2b w2.heap.size #[.int .i64 k2, .int .i64 n2, .string (bs s2), .string (bs m2), .slice A2 na2 ca2, .slice O2 no2 co2] from by rw [hwb]; exact heap_alloc_new w2 _)
 have V2 := Lib.hid (hv.below hb)
 obtain h0 := P1.out
 clear P1
 have P1 := Lib.hid (h0.below hb)
 clear h0
 obtain h0 := V1.out
 clear V1
 have V1 := Lib.hid (h0.below hb)
 clear h0
 obtain h0 := B.out
 clear B
 have B := Lib.hid (h0.trans (hb.mono h0.size))
 clear h0
 clear hb hv
 go_upto_region 5 with fail
 rw [← hwb]
 clear hwb
 generalize w2.heap.size = pb2 at *
 by_cases h2 : r2 = 0
 ·subst h2
  obtain ⟨hz, hs, hp⟩ := prE_ok2 R2.out.symm
  obtain rfl : z2 = 0 := Z2.out.trans hz
  rw [← HX2.out] at hs hp
  have HS := Lib.hid hs
  have HP := Lib.hid hp
  have KC := Lib.hid (rconvE_any x2 w2b _ _ (by have := HL.out; omega) V2.out)
  clear hz hs hp Z2
  go_wp2_with (with_reducible refine at_load_ (t := 54) ?_; refine Hid.out ?_)
  refine Lib.hid ?_
  refine wpList_load_row rfl _ _ rfl pb2 rfl _ _ _ _ P2.out Tryz.underlying54 rfl rx_size ?_
  have KC2 := Lib.hid (show Calls Tryz.prog 20 #[.agg #[.int .i64 k2, .int .i64 n2, .string (bs s2), .string (bs m2), .slice A2 na2 ca2, .slice O2 no2 co2]] w2b fun e' w' => ∃ cs', e' = .returned (.agg cs'.toArray) ∧ XV w' (fun b => w2b.heap.size ≤ b) x2 cs' ∧ Below w2b.heap.size w2b w' from KC.out)
  clear KC P2 V2
  go_wp2_with fail
  refine KC2.out.mono ?_
  rintro e w3 ⟨cs3, rfl, hv, hb⟩
  obtain h0 := P1.out
  clear P1
  have P1 := Lib.hid (h0.below hb)
  clear h0
  obtain h0 := V1.out
  clear V1
  have V1 := Lib.hid (h0.below hb)
  clear h0
  obtain h0 := B.out
  clear B
  have B := Lib.hid (h0.trans (hb.mono h0.size))
  clear h0
  clear hb KC2
  obtain ⟨x3, hx3⟩ : ∃ z, z = x2 := ⟨_, rfl⟩
  rw [← hx3] at hv
  have HX3 := Lib.hid hx3
  clear hx3
  obtain ⟨k3, n3, s3, m3, A3, na3, ca3, O3, no3, co3, rfl⟩ := hv.cells6
  rw [show (exC k3 n3 s3 m3 A3 na3 ca3 O3 no3 co3).toArray = #[.int .i64 k3, .int .i64 n3, .string (bs s3), .string (bs m3), .slice A3 na3 ca3, .slice O3 no3 co3] from rfl]
  obtain ⟨w3b, hwb⟩ : ∃ W, W = w3.alloc (.cells #[.int .i64 k3, .int .i64 n3, .string (bs s3), .string (bs m3), .slice A3 na3 ca3, .slice O3 no3 co3] 27) := ⟨_, rfl⟩
  have hb : Below w3.heap.size w3 w3b := by rw [hwb]; exact (Below.refl _ _).alloc (Nat.le_refl _) _
  have P3 := Lib.hid (show HB 27 w3b w3.heap.size #[.int .i64 k3, .int .i64 n3, .string (bs s3), .string (bs m3), .slice A3 na3 ca3, .slice O3 no3 co3] from by rw [hwb]; exact heap_alloc_new w3 _)
  have V3 := Lib.hid (hv.below hb)
  obtain h0 := P1.out
  clear P1
  have P1 := Lib.hid (h0.below hb)
  clear h0
  obtain h0 := V1.out
  clear V1
  have V1 := Lib.hid (h0.below hb)
  clear h0
  obtain h0 := B.out
  clear B
  have B := Lib.hid (h0.trans (hb.mono h0.size))
  clear h0
  clear hb hv
  go_upto_region 8 with fail
  rw [← hwb]
  clear hwb
  generalize w3.heap.size = pb3 at *
  have KA := Lib.hid (show Calls Tryz.prog 12 #[.agg #[.int .i64 k3, .int .i64 n3, .string (bs s3), .string (bs m3), .slice A3 na3 ca3, .slice O3 no3 co3]] w3b _ from alone_any x3 _ w3b _ V3.out)
  go_wp2_with (with_reducible refine at_load_ (t := 27) ?_; refine Hid.out ?_)
  refine Lib.hid ?_
  refine wpList_load_row rfl _ _ rfl pb3 rfl _ _ _ _ P3.out Tryz.underlying27 rfl ex_size ?_
  go_wp2_with fail
  refine KA.out.mono ?_
  rintro e w4 ⟨v4, rfl, hp, hb⟩
  obtain h0 := P1.out
  clear P1
  have P1 := Lib.hid (h0.below hb)
  clear h0
  obtain h0 := V1.out
  clear V1
  have V1 := Lib.hid (h0.below hb)
  clear h0
  obtain h0 := P3.out
  clear P3
  have P3 := Lib.hid (h0.below hb)
  clear h0
  obtain h0 := V3.out
  clear V3
  have V3 := Lib.hid (h0.below hb)
  clear h0
  obtain h0 := B.out
  clear B
  have B := Lib.hid (h0.trans (hb.mono h0.size))
  clear h0
  clear hb KA
  have KC := Lib.hid (check_any (aloneP x3) v4 _ w4 (HW.out.below B.out).sx hp (alone_few (by rw [HX3.out]; have := HS.out; have := HL.out; omega)))
  clear hp
  obtain ⟨ck, hck⟩ : ∃ z, z = chkP (aloneP x3) := ⟨_, rfl⟩
  rw [← hck] at KC
  have CK := Lib.hid hck
  clear hck
  go_wp2_with fail
  refine KC.out.mono ?_
  rintro e w5 ⟨rfl, hb⟩
  obtain h0 := P1.out
  clear P1
  have P1 := Lib.hid (h0.below hb)
  clear h0
  obtain h0 := V1.out
  clear V1
  have V1 := Lib.hid (h0.below hb)
  clear h0
  obtain h0 := P3.out
  clear P3
  have P3 := Lib.hid (h0.below hb)
  clear h0
  obtain h0 := V3.out
  clear V3
  have V3 := Lib.hid (h0.below hb)
  clear h0
  obtain h0 := B.out
  clear B
  have B := Lib.hid (h0.trans (hb.mono h0.size))
  clear h0
  clear hb KC
  have hp := HP.out
  rw [← HX3.out, ← CK.out] at hp
  by_cases h3 : ck = 0
  ·subst h3
   rw [if_pos rfl] at hp
   have e1' : z1 = 0 := by rw [Z1.out, hp]
   have e2' : x1 = x3 := by rw [HX1.out, hp]
   have e3' : r1 = 0 := by rw [R1.out, hp]
   subst e1' e2' e3'
   have AF := Lib.hid (afit (e := x1) (by rw [HX3.out]; have := HS.out; have := HL.out; omega))
   clear hp HP HX1 Z1 R1
   go_upto_region 11 with fail
   refine wp_region_held_drew (S := fun W => Below w5.heap.size w5 W) (by kernel_rfl) (Below.refl _ _).drew (fun hHeld => ?_)
   have BS := Lib.hid B.out
   have SW := Lib.hid hHeld
   clear hHeld B
   generalize w5.drew = wq at *
   refine wpAnyH_ready (rs := [0]) (by kernel_rfl) (by simp) ?_
   refine AllReadyH.cons (o := ⟨some 71, _, _, _, _, _⟩) rfl (fun K hK => ?_) AllReadyH.nil
   go_simp
   refine (awake_any _ (HW.out.below (BS.out.trans (SW.out.mono BS.out.size)))).mono ?_
   rintro e wk ⟨rfl, hb⟩
   obtain h0 := SW.out
   clear SW
   have SW := Lib.hid (h0.trans (hb.mono h0.size))
   clear h0
   clear hb
   refine hK.out _ _ SW.out (fun hHeld => ?_)
   clear hK hHeld
   try simp only [Act.put, List.setIfInBounds_toArray, List.set_cons_zero, List.set_cons_succ]
   refine wpAnyH_take (i := 1) (oi := ⟨some 72, _, _, _, _, _⟩) (v := .bool true) rfl (by kernel_rfl) (by kernel_rfl) (by kernel_rfl) (fun _ _ _ h => h) (Or.inl ⟨by rfl, ?_⟩) SW.out ?_
   ·intro W' hW
    go_simp
   try simp only [Act.put, List.setIfInBounds_toArray, List.set_cons_zero, List.set_cons_succ]
   refine wpAnyH_take (i := 2) (oi := ⟨some 73, _, _, _, _, _⟩) (v := .int .i64 0) rfl (by kernel_rfl) (by kernel_rfl) (by kernel_rfl) (fun _ _ _ h => h) (Or.inl ⟨by rfl, ?_⟩) SW.out ?_
   ·intro W' hW
    go_simp
   try simp only [Act.put, List.setIfInBounds_toArray, List.set_cons_zero, List.set_cons_succ]
   refine wpAnyH_take (i := 3) (oi := ⟨some 74, _, _, _, _, _⟩) (v := .bool true) rfl (by kernel_rfl) (by kernel_rfl) (by kernel_rfl) (fun _ _ _ h => h) (Or.inl ⟨by rfl, ?_⟩) SW.out ?_
   ·intro W' hW
    go_simp
   try simp only [Act.put, List.setIfInBounds_toArray, List.set_cons_zero, List.set_cons_succ]
   refine wpAnyH_take (i := 4) (oi := ⟨some 75, _, _, _, _, _⟩) (v := .bool true) rfl (by kernel_rfl) (by kernel_rfl) (by kernel_rfl) (fun _ _ _ h => h) (Or.inl ⟨by rfl, ?_⟩) SW.out ?_
   ·intro W' hW
    go_simp
   try simp only [Act.put, List.setIfInBounds_toArray, List.set_cons_zero, List.set_cons_succ]
   refine wpAnyH_take (i := 5) (oi := ⟨some 76, _, _, _, _, _⟩) (v := .bool true) rfl (by kernel_rfl) (by kernel_rfl) (by kernel_rfl) (fun _ _ _ h => h) (Or.inl ⟨by rfl, ?_⟩) SW.out ?_
   ·intro W' hW
    go_simp
   try simp only [Act.put, List.setIfInBounds_toArray, List.set_cons_zero, List.set_cons_succ]
   refine wpAnyH_take (i := 6) (oi := ⟨some 77, _, _, _, _, _⟩) (v := .int .i64 0) rfl (by kernel_rfl) (by kernel_rfl) (by kernel_rfl) (fun _ _ _ h => h) (Or.inl ⟨by rfl, ?_⟩) SW.out ?_
   ·intro W' hW
    go_simp
   try simp only [Act.put, List.setIfInBounds_toArray, List.set_cons_zero, List.set_cons_succ]
   refine wpAnyH_take (i := 7) (oi := ⟨some 78, _, _, _, _, _⟩) (v := .bool true) rfl (by kernel_rfl) (by kernel_rfl) (by kernel_rfl) (fun _ _ _ h => h) (Or.inl ⟨by rfl, ?_⟩) SW.out ?_
   ·intro W' hW
    go_simp
   try simp only [Act.put, List.setIfInBounds_toArray, List.set_cons_zero, List.set_cons_succ]
   refine wpAnyH_take (i := 8) (oi := ⟨some 79, _, _, _, _, _⟩) (v := .bool true) rfl (by kernel_rfl) (by kernel_rfl) (by kernel_rfl) (fun _ _ _ h => h) (Or.inl ⟨by rfl, ?_⟩) SW.out ?_
   ·intro W' hW
    go_simp
   try simp only [Act.put, List.setIfInBounds_toArray, List.set_cons_zero, List.set_cons_succ]
   refine wpAnyH_take (i := 9) (oi := ⟨some 80, _, _, _, _, _⟩) (v := .bool true) rfl (by kernel_rfl) (by kernel_rfl) (by kernel_rfl) (fun _ _ _ h => h) (Or.inl ⟨by rfl, ?_⟩) SW.out ?_
   ·intro W' hW
    go_simp
   try simp only [Act.put, List.setIfInBounds_toArray, List.set_cons_zero, List.set_cons_succ]
   refine wpAnyH_take (i := 10) (oi := ⟨some 81, _, _, _, _, _⟩) (v := .agg #[.int .i64 k1, .int .i64 n1, .string (bs s1), .string (bs m1), .slice A1 na1 ca1, .slice O1 no1 co1]) rfl (by kernel_rfl) (by kernel_rfl) (by kernel_rfl) (fun _ _ _ h => h) (Or.inl ⟨by rfl, ?_⟩) SW.out ?_
   ·intro W' hW
    have c0 : W'.cell? ⟨pb1, 0, none⟩ = _ := cell_of_row _ _ _ _ _ _ (HB.below P1.out hW)
    have c1 : W'.cell? ⟨pb1, 1, none⟩ = _ := cell_of_row _ _ _ _ _ _ (HB.below P1.out hW)
    have c2 : W'.cell? ⟨pb1, 2, none⟩ = _ := cell_of_row _ _ _ _ _ _ (HB.below P1.out hW)
    have c3 : W'.cell? ⟨pb1, 3, none⟩ = _ := cell_of_row _ _ _ _ _ _ (HB.below P1.out hW)
    have c4 : W'.cell? ⟨pb1, 4, none⟩ = _ := cell_of_row _ _ _ _ _ _ (HB.below P1.out hW)
    have c5 : W'.cell? ⟨pb1, 5, none⟩ = _ := cell_of_row _ _ _ _ _ _ (HB.below P1.out hW)
    go_simp
   try simp only [Act.put, List.setIfInBounds_toArray, List.set_cons_zero, List.set_cons_succ]
   refine wpAnyH_take (i := 12) (oi := ⟨some 83, _, _, _, _, _⟩) (v := .agg #[.int .i64 k3, .int .i64 n3, .string (bs s3), .string (bs m3), .slice A3 na3 ca3, .slice O3 no3 co3]) rfl (by kernel_rfl) (by kernel_rfl) (by kernel_rfl) (fun _ _ _ h => h) (Or.inl ⟨by rfl, ?_⟩) SW.out ?_
   ·intro W' hW
    have c0 : W'.cell? ⟨pb3, 0, none⟩ = _ := cell_of_row _ _ _ _ _ _ (HB.below P3.out hW)
    have c1 : W'.cell? ⟨pb3, 1, none⟩ = _ := cell_of_row _ _ _ _ _ _ (HB.below P3.out hW)
    have c2 : W'.cell? ⟨pb3, 2, none⟩ = _ := cell_of_row _ _ _ _ _ _ (HB.below P3.out hW)
    have c3 : W'.cell? ⟨pb3, 3, none⟩ = _ := cell_of_row _ _ _ _ _ _ (HB.below P3.out hW)
    have c4 : W'.cell? ⟨pb3, 4, none⟩ = _ := cell_of_row _ _ _ _ _ _ (HB.below P3.out hW)
    have c5 : W'.cell? ⟨pb3, 5, none⟩ = _ := cell_of_row _ _ _ _ _ _ (HB.below P3.out hW)
    go_simp
   try simp only [Act.put, List.setIfInBounds_toArray, List.set_cons_zero, List.set_cons_succ]
   refine wpAnyH_ready (rs := [11]) (by kernel_rfl) (by simp) ?_
   refine AllReadyH.cons (o := ⟨some 82, _, _, _, _, _⟩) rfl (fun K hK => ?_) AllReadyH.nil
   go_simp
   refine (alone_any x1 (exC k1 n1 s1 m1 A1 na1 ca1 O1 no1 co1) _ _ (V1.out.below SW.out)).mono ?_
   rintro e wm ⟨v5, rfl, hp, hb⟩
   have HP5 := Lib.hid hp
   clear hp
   obtain h0 := SW.out
   clear SW
   have SW := Lib.hid (h0.trans (hb.mono h0.size))
   clear h0
   clear hb
   refine hK.out _ _ SW.out (fun hHeld => ?_)
   clear hK hHeld
   try simp only [Act.put, List.setIfInBounds_toArray, List.set_cons_zero, List.set_cons_succ]
   refine wpAnyH_ready (rs := [13]) (by kernel_rfl) (by simp) ?_
   refine AllReadyH.cons (o := ⟨some 84, _, _, _, _, _⟩) rfl (fun K hK => ?_) AllReadyH.nil
   go_simp
   refine (alone_any x1 (exC k3 n3 s3 m3 A3 na3 ca3 O3 no3 co3) _ _ (V3.out.below SW.out)).mono ?_
   rintro e wn ⟨v6, rfl, hp, hb⟩
   have HP6 := Lib.hid hp
   obtain h0 := HP5.out
   clear HP5
   have HP5 := Lib.hid (h0.below hb)
   clear h0
   clear hp
   obtain h0 := SW.out
   clear SW
   have SW := Lib.hid (h0.trans (hb.mono h0.size))
   clear h0
   clear hb
   refine hK.out _ _ SW.out (fun hHeld => ?_)
   clear hK hHeld
   try simp only [Act.put, List.setIfInBounds_toArray, List.set_cons_zero, List.set_cons_succ]
   refine wpAnyH_ready (rs := [14]) (by kernel_rfl) (by simp) ?_
   refine AllReadyH.cons (o := ⟨some 85, _, _, _, _, _⟩) rfl (fun K hK => ?_) AllReadyH.nil
   have KS := same_any (aloneP x1) (aloneP x1) AF.out _ _ _ _ _ HP5.out HP6.out
   rw [eqC_pos rfl] at KS
   go_simp
   refine KS.mono ?_
   rintro e wo ⟨rfl, hb⟩
   obtain h0 := SW.out
   clear SW
   have SW := Lib.hid (h0.trans (hb.mono h0.size))
   clear h0
   clear hb
   refine hK.out _ _ SW.out (fun hHeld => ?_)
   clear hK hHeld
   try simp only [Act.put, List.setIfInBounds_toArray, List.set_cons_zero, List.set_cons_succ]
   clear KS
   refine wpAnyH_take (i := 15) (oi := ⟨some 86, _, _, _, _, _⟩) (v := .bool true) rfl (by kernel_rfl) (by kernel_rfl) (by kernel_rfl) (fun _ _ _ h => h) (Or.inl ⟨by rfl, ?_⟩) SW.out ?_
   ·intro W' hW
    go_simp
   try simp only [Act.put, List.setIfInBounds_toArray, List.set_cons_zero, List.set_cons_succ]
   refine wpAnyH_ready (rs := [16]) (by kernel_rfl) (by simp) ?_
   refine AllReadyH.cons (o := ⟨some 2, _, _, _, _, _⟩) rfl (fun K hK => ?_) AllReadyH.nil
   go_simp
   refine hK.out _ _ SW.out (fun hHeld => ?_)
   clear hK hHeld
   try simp only [Act.put, List.setIfInBounds_toArray, List.set_cons_zero, List.set_cons_succ]
   refine wpAnyH_done (by kernel_rfl) ?_ _
   go_wp2
   go_ret
   exact ⟨rfl, BS.out.trans (SW.out.mono BS.out.size)⟩
  ·rw [if_neg h3] at hp
   have XE := Lib.hid (show x1 = emE from by rw [HX1.out, hp])
   have e1' : z1 = 0 := by rw [Z1.out, hp]
   have e3' : r1 = ck := by rw [R1.out, hp]
   subst e1' e3'
   have q1 : (r1 != 0) = true := by simpa using h3
   have q2 : decide (r1 = 0) = false := by simpa using h3
   have AF := Lib.hid (afit (e := x1) (by rw [XE.out]; decide))
   clear hp HP HX1 Z1 R1 h3 P3 V3 CK
   go_wp2_with fail
   refine (awake_any _ (HW.out.below B.out)).mono ?_
   rintro e wk ⟨rfl, hb⟩
   obtain h0 := P1.out
   clear P1
   have P1 := Lib.hid (h0.below hb)
   clear h0
   obtain h0 := V1.out
   clear V1
   have V1 := Lib.hid (h0.below hb)
   clear h0
   obtain h0 := B.out
   clear B
   have B := Lib.hid (h0.trans (hb.mono h0.size))
   clear h0
   clear hb
   have c10 : _ = some (Value.int .i64 k1) := HB.cell P1.out 0
   have c11 : _ = some (Value.int .i64 n1) := HB.cell P1.out 1
   have c12 : _ = some (Value.string (bs s1)) := HB.cell P1.out 2
   have c13 : _ = some (Value.string (bs m1)) := HB.cell P1.out 3
   have c14 : _ = some (Value.slice A1 na1 ca1) := HB.cell P1.out 4
   have c15 : _ = some (Value.slice O1 no1 co1) := HB.cell P1.out 5
   go_wp2_with fail
   refine (alone_any x1 (exC k1 n1 s1 m1 A1 na1 ca1 O1 no1 co1) _ _ V1.out).mono ?_
   rintro e wm ⟨v5, rfl, hp, hb⟩
   have HP5 := Lib.hid hp
   obtain h0 := B.out
   clear B
   have B := Lib.hid (h0.trans (hb.mono h0.size))
   clear h0
   clear hp hb
   clear c10 c11 c12 c13 c14 c15
   go_wp2_with fail
   refine (alone_any emE [Value.int .i64 0, Value.int .i64 0, Value.string { data := #[] }, Value.string { data := #[] }, Value.slice none 0 0, Value.slice none 0 0] _ (fun _ => True) (xve _ _)).mono ?_
   rintro e wn ⟨v6, rfl, hp, hb⟩
   have HP6 := Lib.hid hp
   obtain h0 := HP5.out
   clear HP5
   have HP5 := Lib.hid (h0.below hb)
   clear h0
   obtain h0 := B.out
   clear B
   have B := Lib.hid (h0.trans (hb.mono h0.size))
   clear h0
   clear hp hb
   have KS := Lib.hid (same_any (aloneP x1) (aloneP emE) AF.out _ _ _ _ _ HP5.out HP6.out)
   rw [eqC_pos (show aloneP x1 = aloneP emE from by rw [XE.out])] at KS
   go_wp2_with fail
   refine KS.out.mono ?_
   rintro e wo ⟨rfl, hb⟩
   obtain h0 := B.out
   clear B
   have B := Lib.hid (h0.trans (hb.mono h0.size))
   clear h0
   clear hb
   go_wp2
   go_ret
   exact ⟨rfl, B.out⟩
 ·have q1 : (r2 != 0) = true := by simpa using h2
  have q2 : decide (r2 = 0) = false := by simpa using h2
  obtain ⟨hp, he⟩ := prE_rp (s := s) (by rw [← R2.out]; exact h2)
  have XE := Lib.hid (show x1 = emE from by rw [HX1.out, hp, he])
  have e1' : z1 = z2 := by rw [Z1.out, hp, Z2.out]
  have e3' : r1 = r2 := by rw [R1.out, hp, R2.out]
  subst e1' e3'
  have AF := Lib.hid (afit (e := x1) (by rw [XE.out]; decide))
  clear hp he HX1 Z1 R1 Z2 R2 h2 P2 V2 HX2
  go_wp2_with fail
  refine (awake_any _ (HW.out.below B.out)).mono ?_
  rintro e wk ⟨rfl, hb⟩
  obtain h0 := P1.out
  clear P1
  have P1 := Lib.hid (h0.below hb)
  clear h0
  obtain h0 := V1.out
  clear V1
  have V1 := Lib.hid (h0.below hb)
  clear h0
  obtain h0 := B.out
  clear B
  have B := Lib.hid (h0.trans (hb.mono h0.size))
  clear h0
  clear hb
  have c10 : _ = some (Value.int .i64 k1) := HB.cell P1.out 0
  have c11 : _ = some (Value.int .i64 n1) := HB.cell P1.out 1
  have c12 : _ = some (Value.string (bs s1)) := HB.cell P1.out 2
  have c13 : _ = some (Value.string (bs m1)) := HB.cell P1.out 3
  have c14 : _ = some (Value.slice A1 na1 ca1) := HB.cell P1.out 4
  have c15 : _ = some (Value.slice O1 no1 co1) := HB.cell P1.out 5
  go_wp2_with fail
  refine (alone_any x1 (exC k1 n1 s1 m1 A1 na1 ca1 O1 no1 co1) _ _ V1.out).mono ?_
  rintro e wm ⟨v5, rfl, hp, hb⟩
  have HP5 := Lib.hid hp
  obtain h0 := B.out
  clear B
  have B := Lib.hid (h0.trans (hb.mono h0.size))
  clear h0
  clear hp hb
  clear c10 c11 c12 c13 c14 c15
  go_wp2_with fail
  refine (alone_any emE [Value.int .i64 0, Value.int .i64 0, Value.string { data := #[] }, Value.string { data := #[] }, Value.slice none 0 0, Value.slice none 0 0] _ (fun _ => True) (xve _ _)).mono ?_
  rintro e wn ⟨v6, rfl, hp, hb⟩
  have HP6 := Lib.hid hp
  obtain h0 := HP5.out
  clear HP5
  have HP5 := Lib.hid (h0.below hb)
  clear h0
  obtain h0 := B.out
  clear B
  have B := Lib.hid (h0.trans (hb.mono h0.size))
  clear h0
  clear hp hb
  have KS := Lib.hid (same_any (aloneP x1) (aloneP emE) AF.out _ _ _ _ _ HP5.out HP6.out)
  rw [eqC_pos (show aloneP x1 = aloneP emE from by rw [XE.out])] at KS
  go_wp2_with fail
  refine KS.out.mono ?_
  rintro e wo ⟨rfl, hb⟩
  obtain h0 := B.out
  clear B
  have B := Lib.hid (h0.trans (hb.mono h0.size))
  clear h0
  clear hb
  go_wp2
  go_ret
  exact ⟨rfl, B.out⟩
theorem pexprs_any (s : ByteArray) (w : World) (hw : WW w) : Calls Tryz.prog 5 #[.string s] w fun e w' => e = .returned (.bool true) ∧ Below w.heap.size w w' := by
 rw [← bs_eta s]
 by_cases hl : 1200 < s.data.toList.length
 ·exact exprs_long _ w hw hl
 ·exact exprs_short _ w hw hl
end Go.Proofs.YtkakbidllpjopaaGreatDoor
namespace Go.Proofs.YtkakbidllpjopaaGreatDoor
open Go.ChangeShapes Go.WideShapes Go.ChangeAt Go.WideMaps Go.WideElems Go.RowKit

theorem own : ownKnob Tryz.prog.godebug = none := by kernel_rfl
/-- The door's own heap meets the condition. -/
theorem door_met (os : Os) (args : Array Value) : laidMetH Tryz.prog Rows.parserBackRow.laid ((World.doorLaid Tryz.prog 65 os).forCall (fun _ _ => 0) ⟨#[], args, []⟩).memory :=
 laidMetH_of_parts3 (fuel := 8) (laidMet_of_run' 8 (by kernel_rfl) (by kernel_rfl)) (by kernel_rfl) (by kernel_rfl)
set_option maxRecDepth 100000 in
theorem row_of_trod {H : Type} {enc : TypeId × Value → H} {w : World} {base fuel n : Nat} {sp : Nat → Bool} {held : Bool} {t : TypeId} {cs : List Value} {ls : List (List UInt8)} {p : List MemPlace} (ht : Tryz.prog.underlying t = some (.array n 9))
  (h : DataW.trod enc Tryz.prog w base sp held fuel t cs = some (.agg (ls.map fun l => .lit (.string l)), p)) (hl : ls.length = n) (hct : Tryz.prog.cellsOf t = n) : cs = ls.map fun l => Value.string (bs l) := by
 obtain ⟨xs, m, _, hx, hcs, hxl, hf⟩ := DataW.trod_array ht h
 rw [hct] at hcs
 have c1 : Tryz.prog.cellsOf 9 = 1 := by kernel_rfl
 rw [c1] at hf
 have hxm : xs.map (·.1) = ls.map fun l => .lit (.string l) := by
  injection hx with hx _
  injection hx with hx
  exact hx.symm
 apply List.ext_getElem?
 intro i
 by_cases hi : i < n
 ·have h1 := hf i hi
  rw [Nat.mul_one] at h1
  have hxi : i < xs.length := by omega
  rw [List.getElem?_eq_getElem hxi] at h1
  obtain ⟨s, hs, hv, _⟩ := DataW.trod_string Tryz.underlying9 h1
  have h2 : xs[i].1 = .lit (.string ls[i]) := by
   have := congrArg (fun l => l[i]?) hxm
   simp only [List.getElem?_map, List.getElem?_eq_getElem hxi, List.getElem?_eq_getElem (show i < ls.length by omega), Option.map_some] at this
   exact Option.some.inj this
  rw [hv] at h2
  have h3 : s.data.toList = ls[i] := by
   injection h2 with h2
   injection h2
  have hci : i < cs.length := by omega
  have h4 : cs[i] = .string s := by
   rw [List.drop_eq_getElem_cons hci] at hs
   have := congrArg List.head? hs
   exact Option.some.inj this
  rw [List.getElem?_eq_getElem hci, h4, List.getElem?_map, List.getElem?_eq_getElem (show i < ls.length by omega), ← h3, Option.map_some, bs_eta]
 ·rw [List.getElem?_eq_none (by omega), List.getElem?_eq_none (by simp; omega)]
theorem var_row {w : World} {n : String} {g : Nat} {cs : Array Value} (hg : Tryz.prog.globalNamed n = some g) (h : w.var? Tryz.prog n = some cs) : ∃ t fr, w.heap[g]? = some (.cells cs t fr) := by
 simp only [World.var?, hg, Option.bind_some] at h
 split at h
 ·rename_i c t fr he
  injection h with h
  subst h
  exact ⟨_, _, he⟩
 ·cases h
theorem gPowT : (Tryz.prog.globals[3]?).map (·.type) = some 206 := by kernel_rfl
theorem ww_of_laid {w : World} (h : laidMetH Tryz.prog Rows.parserBackRow.laid w) : WW w := by
 have hpow : Lib.TabIs Tryz.prog w "internal/strconv.uint64pow10" .u64 Lib.pow10Tab := by
  rw [MakeChecks.laidMetH_plain _ _ _ (by kernel_rfl)] at h
  exact Lib.tabIs_of_head gPow gPowT Tryz.underlying206 Tryz.underlying157 (by kernel_rfl) (by kernel_rfl) h.tail.tail
 have h : laidMet Tryz.prog Rows.parserBackRow.laid w := h
 obtain ⟨ps, hv, hnd, hc⟩ := h
 obtain ⟨g1, t1, cs1, f1, p1, q1, _, _, _, _, hv, _⟩ := hv
 obtain ⟨g2, t2, cs2, f2, p2, q2, _, _, _, _, hv, _⟩ := hv
 obtain ⟨g3, t3, cs3, f3, p3, q3, _, _, _, _, hv, _⟩ := hv
 obtain ⟨g4, t4, cs4, f4, p4, q4, hg4, ht4, hw4, hd4, hv, _⟩ := hv
 obtain ⟨g5, t5, cs5, f5, p5, q5, hg5, ht5, hw5, hd5, hv, _⟩ := hv
 obtain ⟨g6, t6, cs6, f6, p6, q6, hg6, ht6, hw6, hd6, hv, _⟩ := hv
 obtain ⟨g7, t7, cs7, f7, p7, q7, hg7, ht7, hw7, hd7, hv, _⟩ := hv
 obtain rfl : g4 = 5 := Option.some.inj (hg4.symm.trans (by kernel_rfl))
 obtain rfl : g5 = 4 := Option.some.inj (hg5.symm.trans (by kernel_rfl))
 obtain rfl : g6 = 0 := Option.some.inj (hg6.symm.trans (by kernel_rfl))
 obtain rfl : g7 = 1 := Option.some.inj (hg7.symm.trans (by kernel_rfl))
 obtain rfl : t4 = 122 := Option.some.inj (ht4.symm.trans (by kernel_rfl))
 obtain rfl : t5 = 122 := Option.some.inj (ht5.symm.trans (by kernel_rfl))
 obtain rfl : t6 = 149 := Option.some.inj (ht6.symm.trans (by kernel_rfl))
 obtain rfl : t7 = 150 := Option.some.inj (ht7.symm.trans (by kernel_rfl))
 obtain ⟨u4, r4, h4⟩ := var_row hg4 hw4
 obtain ⟨u5, r5, h5⟩ := var_row hg5 hw5
 obtain ⟨u6, r6, h6⟩ := var_row hg6 hw6
 obtain ⟨u7, r7, h7⟩ := var_row hg7 hw7
 have e6 := row_of_trod (ls := Lx.kws) Tryz.underlying149 hd6 rfl (by kernel_rfl)
 have e6' := row_of_trod (ls := kwords) Tryz.underlying149 hd6 rfl (by kernel_rfl)
 have e7 := row_of_trod (ls := Lx.sgs) Tryz.underlying150 hd7 rfl (by kernel_rfl)
 obtain ⟨fu, u, v, e4, _, _⟩ := iface_of_trod Tryz.underlying122 hd4
 obtain ⟨fu5, u5', v5', e5, _, _⟩ := iface_of_trod Tryz.underlying122 hd5
 refine ⟨⟨⟨u6, r6, ?_⟩, ⟨u7, r7, ?_⟩, .iface u v, ?_, .inr ⟨u, v, rfl⟩⟩, ⟨⟨u6, r6, ?_⟩, hpow⟩, .iface u5' v5', ?_, .inr ⟨u5', v5', rfl⟩⟩
 ·rw [h6]
  have := e6
  first
   | (rw [show cs6 = (cs6.toList).toArray from rfl, e6]; rfl)
   | (rw [← e6])
   | (simpa using e6)
 ·rw [h7]
  first
   | (rw [← e7])
   | (rw [show cs7 = (cs7.toList).toArray from rfl, e7]; rfl)
 ·rw [cell_of_row _ _ _ _ _ _ h4, ← Array.getElem?_toList, e4]
  rfl
 ·exact h6.trans (by rw [← e6'])
 ·rw [cell_of_row _ _ _ _ _ _ h5, ← Array.getElem?_toList, e5]
  rfl
end Go.Proofs.YtkakbidllpjopaaGreatDoor
