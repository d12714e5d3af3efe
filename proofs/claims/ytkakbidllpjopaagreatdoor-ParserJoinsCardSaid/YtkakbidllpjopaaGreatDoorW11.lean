/- The walk of syntax.Check. Conditions: the table of keywords is laid (SxW); at most 1000000 parts. The walks of parser.Parse and parser.Expr, each in one contract. Conditions: the laid tables and error variables (WW). The text form of syntax trees, in plain Lean; the shape of a valid expression. No condition. Contracts of Go's library at this translation, out of the kit's shelf. No condition beyond the contracts' own. The walks of Expr.operand and list (printed by wip/gensxq.py). Conditions: valid expressions; the library's tables are laid (SxW); at most 100000 parts. -/
import Derived.Test.YtkakbidllpjopaaGreatDoorW07
import Derived.Test.YtkakbidllpjopaaGreatDoorW10
import Derived.Test.YtkakbidllpjopaaGreatDoorW01
import Derived.Lib.ItoaLen
import Derived.Shelf.Strings.Builder1
import Derived.Shelf.Strings.Builder2
import Derived.Shelf.Strings.OnBuilder
import Derived.Shelf.Small.Wraps
import Derived.Shelf.Strings.BuilderF
import Derived.Shelf.Strings.BuilderK
import Derived.Shelf.Strings.Builder2Cap
import Derived.Shelf.Strconv.Itoa0
import Derived.Shelf.Strconv.Itoa1
import Derived.Shelf.LaysM
import Derived.Shelf.Strconv.Itoa2
import Derived.Shelf.Strconv.Itoa3
import Derived.Shelf.Strconv.Itoa4
import Derived.Shelf.Strings.Prefix
import Derived.Shelf.Bits.Mul64
import Derived.Shelf.Strings.Repeat
import Derived.Shelf.Strings.BuilderCap
import Derived.Shelf.Slices.Turned
import Derived.Shelf.Slices.Equal
import Derived.Ground.Names2Prog
import Derived.Shelf.Slices.Clone
import Derived.Shelf.Slices.Empties2
import Derived.Ground.SlgnProg
import Derived.Shelf.SlicesE.Clone
import Derived.Test.YtkakbidllpjopaaGreatDoorProg
import Derived.Laws.Concat
import Derived.Lib.AppendIntMem
set_option linter.unusedVariables false
set_option linter.unusedSimpArgs false
namespace Go.Proofs.YtkakbidllpjopaaGreatDoor
open Go.RowKit

section
variable {α : Type} {c : List Str → α → Int} {nm : α → Str}
/-- One after another, with the names met so far. -/
def runC (c : List Str → α → Int) (nm : α → Str) : List Str → List α → Int
  | _, [] => 0
  | met, x :: t => if c met x ≠ 0 then c met x else runC c nm (met ++ [nm x]) t
theorem runC_take_ok : ∀ {l : List α} {met : List Str} {q : Nat} {x : α}, l[q]? = some x → runC c nm met (l.take q) = 0 → c (met ++ (l.take q).map nm) x = 0 → runC c nm met (l.take (q + 1)) = 0
  | [], met, q, x, h, _, _ => by simp at h
  | e :: t, met, 0, x, h, _, h2 => by
    obtain rfl : e = x := by simpa using h
    simp only [List.take_zero, List.map_nil, List.append_nil] at h2
    simp only [List.take_succ_cons, List.take_zero, runC]
    rw [if_neg (by simp [h2])]
  | e :: t, met, q + 1, x, h, h1, h2 => by
    rw [List.take_succ_cons, runC] at h1 ⊢
    split at h1
    · exact absurd h1 (by assumption)
    · rename_i h3
      rw [if_neg h3]
      rw [List.take_succ_cons, List.map_cons, show met ++ nm e :: (t.take q).map nm = (met ++ [nm e]) ++ (t.take q).map nm by simp] at h2
      exact runC_take_ok (by simpa using h) h1 h2
theorem runC_take_bad : ∀ {l : List α} {met : List Str} {q : Nat} {x : α}, l[q]? = some x → runC c nm met (l.take q) = 0 → c (met ++ (l.take q).map nm) x ≠ 0 → runC c nm met l = c (met ++ (l.take q).map nm) x
  | [], met, q, x, h, _, _ => by simp at h
  | e :: t, met, 0, x, h, _, h2 => by
    obtain rfl : e = x := by simpa using h
    simp only [List.take_zero, List.map_nil, List.append_nil] at h2 ⊢
    rw [runC, if_pos h2]
  | e :: t, met, q + 1, x, h, h1, h2 => by
    rw [List.take_succ_cons, runC] at h1
    rw [runC]
    split at h1
    · exact absurd h1 (by assumption)
    · rename_i h3
      rw [if_neg h3]
      rw [List.take_succ_cons, List.map_cons, show met ++ nm e :: (t.take q).map nm = (met ++ [nm e]) ++ (t.take q).map nm by simp] at h2 ⊢
      exact runC_take_bad (by simpa using h) h1 h2
end
def declC (met : List Str) (d : Decl') : Int := freshC met d.name (!nameOk d.kind)
theorem storesL_run : ∀ (l : List Decl') (met : List Str), storesL met l = runC declC Decl'.name met l
  | [], met => by rw [storesL, runC]
  | d :: t, met => by
    rw [storesL, runC, storesL_run t, declC, freshC]
    by_cases h1 : nameOk d.name = false
    · simp [h1]
    · by_cases h2 : nameOk d.kind = false
      · simp [h2]
      · by_cases h3 : met.contains d.name = true
        · simp at h1 h2 h3; simp [h1, h2, h3]
        · simp at h1 h2 h3; simp [h1, h2, h3]
theorem opersL_run : ∀ (l : List Oper') (met : List Str), opersL met l = runC operC Oper'.name met l
  | [], met => by rw [opersL, runC]
  | o :: t, met => by
    rw [opersL, runC, opersL_run t]
    have e : operC met o = (if nameOk o.name = false then 16 else if met.contains o.name = true then 11 else if 4 < o.params.length then 15 else if freshL [] o.params ≠ 0 then freshL [] o.params else chkSs 1 o.body) := by
      rw [operC, freshC]
      by_cases h1 : nameOk o.name = false
      · simp [h1]
      · by_cases h3 : met.contains o.name = true
        · simp at h1 h3; simp [h1, h3]
        · simp at h1 h3; simp [h1, h3]
    rw [e]
    split
    · simp
    · split
      · simp
      · split
        · simp
        · split
          · rfl
          · rfl
theorem cells2 {w1 : World} {b : Nat} {t : TypeId} {v0 v1 : Value} (h : w1.heap[b]? = some (.cells #[v0, v1] t (0, 0))) : w1.cell? ⟨b, 0, none⟩ = some v0 ∧ w1.cell? ⟨b, 1, none⟩ = some v1 := by
  refine ⟨?_, ?_⟩ <;> (rw [cell_of_row _ _ _ _ _ _ h]; rfl)
/-- Few parts. -/
def Prog'.Few (p : Prog') : Prop := p.stores.length ≤ 1000000 ∧ p.opers.length ≤ 1000000 ∧ ∀ o ∈ p.opers, St.sizes o.body ≤ 1000000
set_option maxRecDepth 100000 in
set_option maxHeartbeats 12800000 in
theorem check_any (p : Prog') (v : Value) (S : Nat → Prop) (w : World) (hw : SxW w) (hp : PV w S p v) (hf : p.Few) :
    Calls Tryz.prog 18 #[v] w fun e w' => e = .returned (.int .i64 (chkP p)) ∧ Below w.heap.size w w' := by
  have hmm := @run_makeMap Tryz.prog
  obtain ⟨ds, os⟩ := p
  obtain ⟨D, nd, cd, O, no, co, rfl, hd, ho⟩ := hp
  dsimp only at hd ho
  have HWS := Lib.hid hw
  have HD := Lib.hid hd
  have HO := Lib.hid ho
  have HND := Lib.hid hd.1
  have HNO := Lib.hid ho.1
  have HFW := Lib.hid hf
  obtain ⟨E, hE⟩ : ∃ E, E = chkP ⟨ds, os⟩ := ⟨_, rfl⟩
  rw [← hE]
  rw [chkP, storesL_run, opersL_run] at hE
  have HE := Lib.hid hE
  clear hw hd ho hf hE
  dsimp only at HE
  have HB0 := Lib.hid (fun X => (Below.refl w.heap.size w).alloc (Nat.le_refl _) X)
  by_cases h12 : 12 < (nd : Int)
  · have HR := Lib.hid (show E = 15 by rw [HE.out, if_pos (.inl (by have := HND.out; omega))])
    go_enter Tryz.func18, Tryz.ntmps18
    go_wp2
    go_ret
    exact ⟨congrArg (fun v => Ending.returned (.int .i64 v)) HR.out.symm, HB0.out _⟩
  by_cases h32 : 32 < (no : Int)
  · have HR := Lib.hid (show E = 15 by rw [HE.out, if_pos (.inr (by have := HNO.out; omega))])
    go_enter Tryz.func18, Tryz.ntmps18
    go_wp2
    go_ret
    exact ⟨congrArg (fun v => Ending.returned (.int .i64 v)) HR.out.symm, HB0.out _⟩
  have HE2 := Lib.hid (show E = if runC declC Decl'.name [] ds ≠ 0 then runC declC Decl'.name [] ds else runC operC Oper'.name [] os by rw [HE.out, if_neg (by have := HND.out; have := HNO.out; omega)])
  clear HE
  go_enter Tryz.func18, Tryz.ntmps18
  go_wp2_with fail
  obtain ⟨w2, hw2⟩ : ∃ w2 : World, w2 = (w.alloc (.cells #[.slice D nd cd, .slice O no co] 36)).alloc (.map #[] 0) := ⟨_, rfl⟩
  have HXW := Lib.hid (show ∀ W, w2.grownBy W (some (w.heap.size + 1)) → (W.heap[w.heap.size]? = some (.cells #[.slice D nd cd, .slice O no co] 36 (0, 0))) ∧ Below w.heap.size w W ∧ w.heap.size + 2 ≤ W.heap.size from fun W h => by
    subst hw2
    have hz : ((w.alloc (.cells #[.slice D nd cd, .slice O no co] 36)).alloc (.map #[] 0)).heap.size = w.heap.size + 2 := by simp
    have h0 : ((w.alloc (.cells #[.slice D nd cd, .slice O no co] 36)).alloc (.map #[] 0)).heap[w.heap.size]? = some (.cells #[.slice D nd cd, .slice O no co] 36 (0, 0)) := (heap_alloc_old _ _ (by simp)).trans (heap_alloc_new _ _)
    have hb : Below w.heap.size w ((w.alloc (.cells #[.slice D nd cd, .slice O no co] 36)).alloc (.map #[] 0)) := (HB0.out _).alloc (by simp) _
    refine ⟨(h.block _ (by rw [hz]; omega) (by intro e; injection e with e; omega)).trans h0, hb.trans (grownBy.below h (Nat.le_succ _) (by rw [hz]; omega)), ?_⟩
    have := h.size
    omega)
  have HMN := Lib.hid (show NMap w2 (w.heap.size + 1) [] from by rw [hw2]; have := NMap.made (w.alloc (.cells #[.slice D nd cd, .slice O no co] 36)); rwa [show (w.alloc (.cells #[.slice D nd cd, .slice O no co] 36)).heap.size = w.heap.size + 1 by simp] at this)
  have HGR := Lib.hid (show w2.grownBy w2 (some (w.heap.size + 1)) from Below.grown_ (Below.refl _ _) _)
  rw [← hw2]
  clear hw2 HB0
  go_loopw [24] (fun i wr => ∃ q : Nat, q ≤ ds.length ∧ i = .int .i64 q ∧ Hid (runC declC Decl'.name [] (ds.take q) = 0) ∧ Hid (NMap wr (w.heap.size + 1) ((ds.take q).map Decl'.name)) ∧ Hid (w2.grownBy wr (some (w.heap.size + 1)))) (fun i _ => ds.length - (intOf i).toNat)
  case atStart => exact ⟨0, Nat.zero_le _, rfl, Lib.hid (by rw [List.take_zero, runC]), HMN, HGR⟩
  case round =>
    clear HMN HGR
    obtain ⟨q, hq, rfl, n1, n2, zr⟩ := hrel
    by_cases hl : q < ds.length
    · have hi2 : (q : Int) < (nd : Int) := by have := HND.out; omega
      obtain ⟨b, off, cs, rfl, hb, hS, ⟨x, hx, rfl⟩, hrow⟩ := HD.out.2.at q (by have := HND.out; omega)
      have HQL := Lib.hid hl
      have HXQ := Lib.hid hx
      have hrow2 := rangeAt_keep hrow ((HXW.out _ zr.out).2.1.block b hb)
      have e0 := hrow2 0 _ rfl
      have e1 := hrow2 1 _ rfl
      simp only [Nat.add_zero] at e0
      obtain ⟨vx, hv⟩ : ∃ v, v = declC ((ds.take q).map Decl'.name) x := ⟨_, rfl⟩
      have HV := Lib.hid hv
      obtain ⟨xn, xk⟩ := x
      clear hx hb hS hrow hrow2 hl hq hv
      dsimp only at e0 e1
      go_wp2_with fail
      obtain ⟨W3, hW3⟩ : ∃ W3 : World, W3 = (wr.alloc (.cells #[.string (bs xn), .string (bs xk)] 83)).alloc (.cells #[.string (bs xk)] 9) := ⟨_, rfl⟩
      have HGA := Lib.hid (show w2.grownBy W3 (some (w.heap.size + 1)) from by rw [hW3]; exact (zr.out.trans (grown_alloc _ _ _)).trans (grown_alloc _ _ _))
      have HMA := Lib.hid (show NMap W3 (w.heap.size + 1) ((ds.take q).map Decl'.name) from by
        rw [hW3]
        exact n2.out.keep ((heap_alloc_old _ _ (by have := (HXW.out _ zr.out).2.2; simp; omega)).trans (heap_alloc_old _ _ (by have := (HXW.out _ zr.out).2.2; omega))))
      have HKC := Lib.hid (show W3.cell? ⟨wr.heap.size + 1, 0, none⟩ = some (.string (bs xk)) ∧ wr.heap.size + 1 < W3.heap.size from by
        rw [hW3]
        have h := heap_alloc2_new wr (.cells #[.string (bs xn), .string (bs xk)] 83) (.cells #[.string (bs xk)] 9)
        exact ⟨by rw [cell_of_row _ _ _ _ _ _ h]; rfl, lt_of_block h⟩)
      rw [← hW3]
      clear hW3
      have HC2 := fresh_one (w.heap.size + 1) ((ds.take q).map Decl'.name) xn xk (wr.heap.size + 1) 0 1 W3 (HWS.out.below (HXW.out _ HGA.out).2.1) HMA.out HKC.out.2 HKC.out.1
      rw [show freshC ((ds.take q).map Decl'.name) xn (!nameOk xk) = vx from HV.out.symm] at HC2
      refine HC2.mono ?_
      rintro e w4 ⟨rfl, hm4, hg4⟩
      have HM4 := Lib.hid hm4
      have HG4 := Lib.hid (HGA.out.trans hg4)
      clear hm4 hg4 HC2 e0 e1 zr n2 HGA HMA HKC
      by_cases hv0 : vx = 0
      · subst hv0
        have HM5 := Lib.hid (show NMap w4 (w.heap.size + 1) ((ds.take (q + 1)).map Decl'.name) by
          have e : (ds.take (q + 1)).map Decl'.name = (ds.take q).map Decl'.name ++ [xn] := by rw [List.take_add_one, HXQ.out]; simp
          rw [e]; exact HM4.out)
        clear HM4
        go_wp2
        go_roundw
        case rel => exact ⟨q + 1, HQL.out, by go_num, Lib.hid (runC_take_ok HXQ.out n1.out (by rw [List.nil_append]; exact HV.out.symm)), HM5, HG4⟩
        case measure => exact meas_up _ _ HQL.out
      · have hv1 : (vx != 0) = true := by simp [hv0]
        have HR := Lib.hid (show E = vx by
          have h := runC_take_bad HXQ.out n1.out (by rw [List.nil_append, ← HV.out]; exact hv0)
          rw [List.nil_append, ← HV.out] at h
          rw [HE2.out, h, if_pos hv0])
        go_wp2
        go_ret
        exact ⟨congrArg (fun v => Ending.returned (.int .i64 v)) HR.out.symm, (HXW.out _ HG4.out).2.1⟩
    · have hi2 : ¬ (q : Int) < (nd : Int) := by have := HND.out; omega
      have HE3 := Lib.hid (show E = runC operC Oper'.name [] os by
        have h : runC declC Decl'.name [] ds = 0 := by rw [← n1.out, List.take_of_length_le (by omega)]
        rw [HE2.out, h, if_neg (by simp)])
      obtain ⟨wa, hwa⟩ : ∃ wa, wa = wr := ⟨_, rfl⟩
      subst hwa
      have HBX := Lib.hid (HXW.out _ zr.out)
      clear hl hq n1 n2 HE2 HXW zr HND
      obtain ⟨d0, d1⟩ := cells2 ((heap_alloc_old wa (.map #[] 0) (lt_of_block HBX.out.1)).trans HBX.out.1)
      go_wp2_with fail
      obtain ⟨w3, hw3⟩ : ∃ w3 : World, w3 = wa.alloc (.map #[] 0) := ⟨_, rfl⟩
      have HYW := Lib.hid (show ∀ W, w3.grownBy W (some wa.heap.size) → Below w.heap.size w W ∧ wa.heap.size + 1 ≤ W.heap.size from fun W h => by
        subst hw3
        have hz : (wa.alloc (.map #[] 0)).heap.size = wa.heap.size + 1 := by simp
        have h1 := h.size
        exact ⟨(HBX.out.2.1.alloc HBX.out.2.1.size _).trans (grownBy.below h HBX.out.2.1.size (by rw [hz]; omega)), by omega⟩)
      have HMN := Lib.hid (show NMap w3 wa.heap.size [] from by rw [hw3]; exact NMap.made wa)
      have HGR := Lib.hid (show w3.grownBy w3 (some wa.heap.size) from Below.grown_ (Below.refl _ _) _)
      rw [← hw3]
      clear hw3 d0 d1 hmm
      go_loopw [43] (fun i WQ => ∃ q : Nat, q ≤ os.length ∧ i = .int .i64 q ∧ Hid (runC operC Oper'.name [] (os.take q) = 0) ∧ Hid (NMap WQ wa.heap.size ((os.take q).map Oper'.name)) ∧ Hid (w3.grownBy WQ (some wa.heap.size))) (fun i _ => os.length - (intOf i).toNat)
      case atStart => exact ⟨0, Nat.zero_le _, rfl, Lib.hid (by rw [List.take_zero, runC]), HMN, HGR⟩
      case round =>
        clear HMN HGR
        obtain ⟨q, hq, rfl, n1, n2, zr⟩ := hrel
        by_cases hl : q < os.length
        · have hi2 : (q : Int) < (no : Int) := by have := HNO.out; omega
          obtain ⟨b, off, cs, rfl, hb, hS, ⟨x, hx, hov⟩, hrow⟩ := HO.out.2.at q (by have := HNO.out; omega)
          have HQL := Lib.hid hl
          have HXQ := Lib.hid hx
          have HOV := Lib.hid hov
          have HFX := Lib.hid (HFW.out.2.2 x (List.mem_of_getElem? hx))
          have hrow2 := rangeAt_keep hrow ((HYW.out _ zr.out).1.block b hb)
          obtain ⟨vx, hv⟩ : ∃ v, v = operC ((os.take q).map Oper'.name) x := ⟨_, rfl⟩
          have HV := Lib.hid hv
          obtain ⟨xn, xp, xb⟩ := x
          obtain ⟨P2, np2, cp2, B2, nb2, cb2, rfl, -, -⟩ := hov
          have e0 := hrow2 0 _ rfl
          have e1 := hrow2 1 _ rfl
          have e2 := hrow2 2 _ rfl
          simp only [Nat.add_zero] at e0
          dsimp only at e0 HOV
          clear hx hb hS hrow hrow2 hl hq hv
          go_wp2_with fail
          obtain ⟨W3, hW3⟩ : ∃ W3 : World, W3 = wr.alloc (.cells #[.string (bs xn), .slice P2 np2 cp2, .slice B2 nb2 cb2] 76) := ⟨_, rfl⟩
          have HGA := Lib.hid (show w3.grownBy W3 (some wa.heap.size) from by rw [hW3]; exact zr.out.trans (grown_alloc _ _ _))
          have HMA := Lib.hid (show NMap W3 wa.heap.size ((os.take q).map Oper'.name) from by
            rw [hW3]
            exact n2.out.keep (heap_alloc_old _ _ (by have := (HYW.out _ zr.out).2; omega)))
          rw [← hW3]
          clear hW3
          have HC2 := operWrong_any w S wa.heap.size ((os.take q).map Oper'.name) ⟨xn, xp, xb⟩ _ W3 HWS.out (HYW.out _ HGA.out).1 HBX.out.2.1.size HMA.out HOV.out HFX.out
          rw [← HV.out] at HC2
          refine HC2.mono ?_
          rintro e w4 ⟨rfl, hm4, -, hg4⟩
          have HM4 := Lib.hid hm4
          have HG4 := Lib.hid (HGA.out.trans hg4)
          clear hm4 hg4 HC2 e0 e1 e2 zr n2 HGA HMA
          by_cases hv0 : vx = 0
          · subst hv0
            have HM5 := Lib.hid (show NMap w4 wa.heap.size ((os.take (q + 1)).map Oper'.name) by
              have e : (os.take (q + 1)).map Oper'.name = (os.take q).map Oper'.name ++ [xn] := by rw [List.take_add_one, HXQ.out]; simp
              have h0 : freshC ((os.take q).map Oper'.name) xn false = 0 := by
                have h := HV.out.symm
                rw [operC] at h
                split at h
                · exact absurd h (by assumption)
                · rename_i h5; exact Classical.not_not.1 h5
              have h6 := HM4.out
              dsimp only at h6
              rw [h0] at h6
              rw [e]; exact h6)
            clear HM4
            go_wp2
            go_roundw
            case rel => exact ⟨q + 1, HQL.out, by go_num, Lib.hid (runC_take_ok HXQ.out n1.out (by rw [List.nil_append]; exact HV.out.symm)), HM5, HG4⟩
            case measure => exact meas_up _ _ HQL.out
          · have hv1 : (vx != 0) = true := by simp [hv0]
            have HR := Lib.hid (show E = vx by
              have h := runC_take_bad HXQ.out n1.out (by rw [List.nil_append, ← HV.out]; exact hv0)
              rw [List.nil_append, ← HV.out] at h
              rw [HE3.out, h])
            go_wp2
            go_ret
            exact ⟨congrArg (fun v => Ending.returned (.int .i64 v)) HR.out.symm, (HYW.out _ HG4.out).1⟩
        · have hi2 : ¬ (q : Int) < (no : Int) := by have := HNO.out; omega
          have HR := Lib.hid (show E = 0 by rw [HE3.out, ← n1.out, List.take_of_length_le (by omega)])
          clear hl hq n1 n2
          go_wp2
          go_ret
          exact ⟨congrArg (fun v => Ending.returned (.int .i64 v)) HR.out.symm, (HYW.out _ zr.out).1⟩
end Go.Proofs.YtkakbidllpjopaaGreatDoor
namespace Go.Proofs.YtkakbidllpjopaaGreatDoor
open Go.RowKit

/-- A program with one operation that returns e. -/
def aloneP (e : Ex) : Prog' := ⟨[], [⟨[120], [], [.mk 5 [] 0 e [] []]⟩]⟩
def emP : Prog' := ⟨[], []⟩
/-- What Parse answers. -/
def prP (s : Str) : Prog' × Int × Int :=
  if (Lx.scanL s).2.2 ≠ 0 then (emP, ((Lx.scanL s).2.1 : Int), (Lx.scanL s).2.2)
  else match pP ((Lx.scanL s).1.map tkq) with
    | .bad r => (emP, offAt (Lx.scanL s).1 r, 5)
    | .ok p _ => if chkP p = 0 then (p, 0, 0) else (emP, 0, chkP p)
/-- What Expr answers. -/
def prE (s : Str) : Ex × Int × Int :=
  if (Lx.scanL s).2.2 ≠ 0 then (emE, ((Lx.scanL s).2.1 : Int), (Lx.scanL s).2.2)
  else match pX ((Lx.scanL s).1.map tkq) with
    | .bad r => (emE, offAt (Lx.scanL s).1 r, 5)
    | .ok e _ => if chkP (aloneP e) = 0 then (e, 0, 0) else (emE, 0, chkP (aloneP e))
theorem prP_err {s : Str} (h : (Lx.scanL s).2.2 ≠ 0) : prP s = (emP, ((Lx.scanL s).2.1 : Int), (Lx.scanL s).2.2) := if_pos h
theorem prP_bad {s : Str} {r : List Tk} (h : (Lx.scanL s).2.2 = 0) (hp : pP ((Lx.scanL s).1.map tkq) = .bad r) : prP s = (emP, offAt (Lx.scanL s).1 r, 5) := by
  unfold prP
  rw [if_neg (by rw [h]; simp), hp]
theorem prP_ok {s : Str} {p : Prog'} {r : List Tk} (h : (Lx.scanL s).2.2 = 0) (hp : pP ((Lx.scanL s).1.map tkq) = .ok p r) : prP s = if chkP p = 0 then (p, 0, 0) else (emP, 0, chkP p) := by
  unfold prP
  rw [if_neg (by rw [h]; simp), hp]
theorem prE_err {s : Str} (h : (Lx.scanL s).2.2 ≠ 0) : prE s = (emE, ((Lx.scanL s).2.1 : Int), (Lx.scanL s).2.2) := if_pos h
theorem prE_bad {s : Str} {r : List Tk} (h : (Lx.scanL s).2.2 = 0) (hp : pX ((Lx.scanL s).1.map tkq) = .bad r) : prE s = (emE, offAt (Lx.scanL s).1 r, 5) := by
  unfold prE
  rw [if_neg (by rw [h]; simp), hp]
theorem prE_ok {s : Str} {e : Ex} {r : List Tk} (h : (Lx.scanL s).2.2 = 0) (hp : pX ((Lx.scanL s).1.map tkq) = .ok e r) : prE s = if chkP (aloneP e) = 0 then (e, 0, 0) else (emE, 0, chkP (aloneP e)) := by
  unfold prE
  rw [if_neg (by rw [h]; simp), hp]
theorem Lim.few {n : Nat} {p : Prog'} (h : p.Lim n) (hn : n ≤ 1000000) : p.Few := ⟨by have := h.1; omega, by have := h.2.1; omega, fun o ho => by have := (h.2.2 o ho).2; omega⟩
theorem alone_few {e : Ex} (h : e.size ≤ 900000) : (aloneP e).Few := by
  refine ⟨Nat.zero_le _, show 1 ≤ 1000000 from by omega, fun o ho => ?_⟩
  rw [List.mem_singleton.1 ho]
  simp only [St.sizes, St.size]
  omega
theorem results_row3 {P : Program} {fn : Func} {p u v : Tmp} {ty : TypeId} (h : fn.results = #[.cell p ty, .tmp u, .tmp v]) (tmps : Array Value) (w : World) (g : Nat) (t : TypeId) (cs : Array Value) (fr : Nat × Nat) (d : TypeDesc)
    (hp : tmps.getD p undef = .pointer (some ⟨g, 0, none⟩)) (hg : w.heap[g]? = some (.cells cs t fr))
    (hu : P.underlying ty = some d) (hd : (match d with | .struct _ | .array _ _ => true | _ => false) = true) (hi : (P.info? ty).map (·.size) = some cs.size) (x y : Value) (hx : tmps.getD u undef = x) (hy : tmps.getD v undef = y) :
    (results fn tmps).run P w = .ok (.tuple #[.agg cs, x, y]) w := by
  have hp' : tmps[p]?.getD undef = .pointer (some ⟨g, 0, none⟩) := by simpa using hp
  have hx' : tmps[u]?.getD undef = x := by simpa using hx
  have hy' : tmps[v]?.getD undef = y := by simpa using hy
  simp [results, h, hp', hx', hy', asAddr, run_loadVar_row w g t ty cs fr d hg hu hd hi]
section
variable {ops : Array Oper} {rest : List Oper} {a : Act} {w : World} {Q : Exit → Act → World → Prop} {o : Oper} {u old : Array Value} {t : TypeId}
theorem hb_put (hg : o.guard = none) (x y : Operand) (ho : o.op = .store t x y) (hd : o.dst = none) (r : Nat) (hx : a.eval x = .pointer (some ⟨r, 0, none⟩)) (hy : a.eval y = .agg u) (hs : (Tryz.prog.info? t).map (·.size) = some u.size) (h1 : u.all (·.oneCell') = true) (hb : HB t w r old) (h6 : old.size = u.size)
    (h : ∀ w', HB t w' r u → w.grownBy w' (some r) → w'.heap.size = w.heap.size → wpList Tryz.prog ops Q rest a w') : wpList Tryz.prog ops Q (o :: rest) a w := by
  refine wpList_store_rowTo hg _ x y ho hd r u hx hy _ _ hb hs h6 h1 ?_
  exact h _ (setRow_heap _ _ _ _ _ _ hb) ⟨rfl, rfl, rfl, Nat.le_of_eq (by simp [World.setRow]), fun k _ hk => setRow_other _ _ _ _ (fun e => hk (by rw [e]))⟩ (by simp [World.setRow])
end
theorem below_gr {B g : Nat} {w w' : World} (h : w.grownBy w' (some g)) (hb : B ≤ w.heap.size) (hg : B ≤ g) : Below B w w' := ⟨h.os, h.tape, h.output, h.size, fun k hk => h.block k (by omega) (fun e => by have := Option.some.inj e; omega)⟩
theorem PV.gr {w w' : World} {S S' : Nat → Prop} {p : Prog'} {v : Value} {r : Nat} (h : PV w S p v) (hg : w.grownBy w' (some r)) (hS : ∀ b, b < w.heap.size → S b → b ≠ r ∧ S' b) : PV w' S' p v :=
  h.keep hg.size (fun b hb hs => hg.block b hb fun e => (hS b hb hs).1 (Option.some.inj e)) (fun b hb hs => (hS b hb hs).2)
theorem PV.more {w : World} {S S' : Nat → Prop} {p : Prog'} {v : Value} (h : PV w S p v) (hS : ∀ b, b < w.heap.size → S b → S' b) : PV w S' p v := h.keep (Nat.le_refl _) (fun _ _ _ => rfl) hS
theorem pv_empty (w : World) (S : Nat → Prop) : PV w S emP (.agg #[.slice none 0 0, .slice none 0 0]) := ⟨none, 0, 0, none, 0, 0, rfl, ⟨rfl, ⟨Nat.le_refl _, fun _ => rfl⟩, fun h => absurd h (by omega)⟩, ⟨rfl, ⟨Nat.le_refl _, fun _ => rfl⟩, fun h => absurd h (by omega)⟩⟩
theorem OL.one {w : World} {S : Nat → Prop} {e : Oper'} {cs : List Value} {b : Nat} {t : TypeId} {fr : Nat × Nat} (h : OV w S e cs) (hb : w.heap[b]? = some (.cells cs.toArray t fr)) (hS : S b) : OL w S (some ⟨b, 0, none⟩) 1 1 [e] := by
  refine ⟨rfl, ⟨Nat.le_refl _, fun h => by cases h⟩, fun _ => ⟨b, 0, rfl, lt_of_block hb, hS, fun i hi => ?_⟩⟩
  obtain rfl : i = 0 := by omega
  refine ⟨cs, ⟨e, rfl, h⟩, fun j v hv => ?_⟩
  rw [Nat.zero_mul, Nat.zero_add]
  try rw [Nat.zero_add]
  rw [cell_of_row _ _ _ _ _ _ hb, ← hv, ← Array.getElem?_toList]
set_option maxRecDepth 100000 in
set_option maxHeartbeats 12800000 in
theorem parse_any (s : Str) (w : World) (hw : WW w) (hmax : s.length ≤ 9223372036854775807) :
    Calls Tryz.prog 14 #[.string (bs s)] w fun e w' => ∃ v, e = .returned (.tuple #[v, .int .i64 (prP s).2.1, .int .i64 (prP s).2.2]) ∧ PV w' (fun b => w.heap.size ≤ b) (prP s).1 v ∧ Below w.heap.size w w' := by
  obtain ⟨T, hT⟩ : ∃ T, T = prP s := ⟨_, rfl⟩
  rw [← hT]
  have HT := Lib.hid hT
  obtain ⟨w0, hw0⟩ : ∃ w0, w0 = w.alloc (.cells #[.slice none 0 0, .slice none 0 0] 36) := ⟨_, rfl⟩
  have hb0 : Below w.heap.size w w0 := by rw [hw0]; exact (Below.refl _ _).alloc (Nat.le_refl _) _
  have X0 := Lib.hid (show HB 36 w0 w.heap.size #[.slice none 0 0, .slice none 0 0] from by rw [hw0]; exact heap_alloc_new w _)
  have W0 := Lib.hid (hw.below hb0)
  have K := Lib.hid (begun_any s w0 W0.out hmax)
  have HOK := Lib.hid (@scan_ok s)
  have BW := Lib.hid hb0
  clear hw hmax hT hb0
  go_enter Tryz.func14, Tryz.ntmps14
  go_upto_region 1 with fail
  rw [← hw0]
  clear hw0
  go_wp2_with fail
  refine K.out.mono ?_
  rintro e w1 ⟨hb, hcase⟩
  have B0 := Lib.hid hb
  clear hb K
  rcases hcase with ⟨he, rfl⟩ | ⟨he, A, n, c, g, rfl, hg, hP⟩
  · have ht := HT.out
    rw [prP_err he] at ht
    generalize ((Lx.scanL s).2.1 : Int) = k0 at *
    generalize (Lx.scanL s).2.2 = er at *
    subst ht
    have e1 : (er != 0) = true := by simpa using he
    have e2 : decide (er = 0) = false := by simpa using he
    clear HOK W0 HT
    have X := Lib.hid (HB.below X0.out B0.out)
    go_wp2_with (with_reducible refine at_store_ (t := 36) ?_; refine Hid.out ?_)
    refine Lib.hid ?_
    refine hb_put rfl _ _ rfl rfl w.heap.size rfl rfl pr_size (by simp [Value.oneCell']) X.out rfl ?_
    intro wz hxz hgz hsz
    clear hsz
    have XZ := Lib.hid hxz
    have BZ := Lib.hid ((BW.out.trans (B0.out.mono BW.out.size)).trans (below_gr hgz (B := w.heap.size) (Nat.le_trans BW.out.size B0.out.size) (Nat.le_refl _)))
    clear hxz hgz X
    go_wp2_with fail
    refine bodyPost_ret (results_row3 rfl _ _ w.heap.size _ _ _ _ rfl XZ.out Tryz.underlying36 rfl pr_size _ _ rfl rfl) rfl ?_
    exact ⟨_, rfl, pv_empty _ _, BZ.out⟩
  · obtain ⟨hlok, -, -, hlen, hsl, -⟩ := HOK.out he
    have HE := Lib.hid he
    have HLEN := Lib.hid (show ((Lx.scanL s).1.map tkq).length ≤ 65537 from by rw [List.length_map]; omega)
    have HG := Lib.hid hg
    have HGL := Lib.hid hP.lt
    have KP := Lib.hid (program_any (Lx.scanL s).1 A n c g w1 ((Lx.scanL s).1.map tkq) hP)
    clear hlok hlen hsl he hg hP HOK
    go_wp2_with fail
    refine KP.out.mono ?_
    rintro e w2 ⟨p, v, rfl, hv, hg, hP⟩
    obtain ⟨b, r, hps, -, hb, ho⟩ := Res.is_ex (x := p) (P := pP ((Lx.scanL s).1.map tkq)) (Q := fun b r => PSx (Lx.scanL s).1 A n c g w2 b r) hP
    obtain ⟨D, nd, cd, O, no, co, rfl, -, -⟩ := id hv
    obtain ⟨w3, hw3⟩ : ∃ W, W = w2.alloc (.cells #[.slice D nd cd, .slice O no co] 36) := ⟨_, rfl⟩
    have hb3 : Below w2.heap.size w2 w3 := by rw [hw3]; exact (Below.refl _ _).alloc (Nat.le_refl _) _
    have YB := Lib.hid (show HB 36 w3 w2.heap.size #[.slice D nd cd, .slice O no co] from by rw [hw3]; exact heap_alloc_new w2 _)
    obtain h0 := B0.out
    clear B0
    have B0 := Lib.hid (h0.trans ((below_gr hg (B := w0.heap.size) h0.size HG.out).trans (hb3.mono (Nat.le_trans h0.size hg.size))))
    have HV := Lib.hid ((hv.more (S' := fun k => w0.heap.size ≤ k) fun k _ (hk : w1.heap.size ≤ k) => Nat.le_trans h0.size hk).below hb3)
    have P := Lib.hid (hps.next hb3)
    have HB_ := Lib.hid hb
    have HO_ := Lib.hid ho
    clear hv hg hP hps hb ho hb3 h0 KP HGL
    go_upto_region 5 with fail
    rw [← hw3]
    clear hw3
    generalize w2.heap.size = yb at *
    have KN := Lib.hid (ended_any _ _ _ _ _ w3 b r P.out)
    clear P
    obtain ⟨za, hza⟩ : ∃ z, z = enA (Lx.scanL s).1 b r := ⟨_, rfl⟩
    obtain ⟨ze, hze⟩ : ∃ z, z = enE b r := ⟨_, rfl⟩
    rw [← hza, ← hze] at KN
    have HZA := Lib.hid hza
    have HZE := Lib.hid hze
    clear hza hze
    go_wp2_with fail
    refine KN.out.mono ?_
    rintro e w4 ⟨rfl, hb⟩
    have B4 := Lib.hid hb
    obtain h0 := B0.out
    clear B0
    have B0 := Lib.hid (h0.trans (hb.mono h0.size))
    clear hb h0 KN
    have YB4 := Lib.hid (YB.out.below B4.out)
    have HV4 := Lib.hid (HV.out.below B4.out)
    clear YB HV B4
    cases b with
    | true =>
      have hb := HB_.out rfl
      have ht := HT.out
      rw [prP_bad HE.out hb] at ht
      have hz1 : enA (Lx.scanL s).1 true r = offAt (Lx.scanL s).1 r := if_pos (.inl rfl)
      have hz2 : ze = 5 := HZE.out.trans (if_pos (.inl rfl))
      rw [← hz1, ← HZA.out] at ht
      subst hz2
      subst ht
      clear hb hz1 HB_ HO_ HT HZA HZE W0 YB4 HV4 HE HLEN HG
      have X := Lib.hid (HB.below X0.out B0.out)
      go_wp2_with (with_reducible refine at_store_ (t := 36) ?_; refine Hid.out ?_)
      refine Lib.hid ?_
      refine hb_put rfl _ _ rfl rfl w.heap.size rfl rfl pr_size (by simp [Value.oneCell']) X.out rfl ?_
      intro wz hxz hgz hsz
      clear hsz
      have XZ := Lib.hid hxz
      have BZ := Lib.hid ((BW.out.trans (B0.out.mono BW.out.size)).trans (below_gr hgz (B := w.heap.size) (Nat.le_trans BW.out.size B0.out.size) (Nat.le_refl _)))
      clear hxz hgz X
      go_wp2_with fail
      refine bodyPost_ret (results_row3 rfl _ _ w.heap.size _ _ _ _ rfl XZ.out Tryz.underlying36 rfl pr_size _ _ rfl rfl) rfl ?_
      exact ⟨_, rfl, pv_empty _ _, BZ.out⟩
    | false =>
      have hok := HO_.out rfl
      obtain ⟨hlim, hk0⟩ := size_pP hok
      have ht := HT.out
      rw [prP_ok HE.out hok] at ht
      have hz2 : ze = 0 := HZE.out.trans (if_neg (by rintro (e | e); cases e; exact e hk0))
      subst hz2
      have KC := Lib.hid (check_any p _ _ w4 (W0.out.below B0.out).sx HV4.out (Lim.few hlim (by have := HLEN.out; omega)))
      have HT2 := Lib.hid ht
      clear hok hlim hk0 ht HB_ HO_ HT HZA HZE HE HLEN HG
      generalize chkP p = ck at *
      go_wp2_with (with_reducible refine at_load_ (t := 36) ?_; refine Hid.out ?_)
      refine Lib.hid ?_
      refine wpList_load_row rfl _ _ rfl yb rfl _ _ _ _ YB4.out Tryz.underlying36 rfl pr_size ?_
      go_wp2_with fail
      refine KC.out.mono ?_
      rintro e w5 ⟨rfl, hb⟩
      obtain h0 := B0.out
      clear B0
      have B0 := Lib.hid (h0.trans (hb.mono h0.size))
      have YB5 := Lib.hid (YB4.out.below hb)
      have HV5 := Lib.hid (HV4.out.below hb)
      clear hb h0 KC YB4 HV4
      by_cases hc : ck = 0
      · have ht := HT2.out
        rw [if_pos hc] at ht
        subst hc
        subst ht
        clear HT2
        go_wp2_with (with_reducible refine at_load_ (t := 36) ?_; refine Hid.out ?_)
        refine Lib.hid ?_
        refine wpList_load_row rfl _ _ rfl yb rfl _ _ _ _ YB5.out Tryz.underlying36 rfl pr_size ?_
        have X := Lib.hid (HB.below X0.out B0.out)
        refine hb_put rfl _ _ rfl rfl w.heap.size rfl rfl pr_size (by simp [Value.oneCell']) X.out rfl ?_
        intro wz hxz hgz hsz
        clear hsz
        have XZ := Lib.hid hxz
        have BZ := Lib.hid ((BW.out.trans (B0.out.mono BW.out.size)).trans (below_gr hgz (B := w.heap.size) (Nat.le_trans BW.out.size B0.out.size) (Nat.le_refl _)))
        have HVZ := Lib.hid (HV5.out.gr (S' := fun k => w.heap.size ≤ k) hgz (fun k _ (hk : w0.heap.size ≤ k) => by have := HB.lt X0.out; exact ⟨by omega, by omega⟩))
        clear hxz hgz X YB5 HV5
        go_wp2_with fail
        refine bodyPost_ret (results_row3 rfl _ _ w.heap.size _ _ _ _ rfl XZ.out Tryz.underlying36 rfl pr_size _ _ rfl rfl) rfl ?_
        exact ⟨_, rfl, HVZ.out, BZ.out⟩
      · have ht := HT2.out
        rw [if_neg hc] at ht
        subst ht
        have e1 : (ck != 0) = true := by simpa using hc
        have e2 : decide (ck = 0) = false := by simpa using hc
        clear HT2 YB5 HV5 W0
        have X := Lib.hid (HB.below X0.out B0.out)
        go_wp2_with (with_reducible refine at_store_ (t := 36) ?_; refine Hid.out ?_)
        refine Lib.hid ?_
        refine hb_put rfl _ _ rfl rfl w.heap.size rfl rfl pr_size (by simp [Value.oneCell']) X.out rfl ?_
        intro wz hxz hgz hsz
        clear hsz
        have XZ := Lib.hid hxz
        have BZ := Lib.hid ((BW.out.trans (B0.out.mono BW.out.size)).trans (below_gr hgz (B := w.heap.size) (Nat.le_trans BW.out.size B0.out.size) (Nat.le_refl _)))
        clear hxz hgz X
        go_wp2_with fail
        refine bodyPost_ret (results_row3 rfl _ _ w.heap.size _ _ _ _ rfl XZ.out Tryz.underlying36 rfl pr_size _ _ rfl rfl) rfl ?_
        exact ⟨_, rfl, pv_empty _ _, BZ.out⟩
theorem pX_bad {R r : List Tk} (h : pE R = .bad r) : pX R = .bad r := by unfold pX; rw [h]
theorem pX_end {R r : List Tk} {e : Ex} (h : pE R = .ok e r) (hk : kindT r ≠ 0) : pX R = .bad r := by unfold pX; rw [h]; exact if_neg hk
theorem pX_ok {R r : List Tk} {e : Ex} (h : pE R = .ok e r) (hk : kindT r = 0) : pX R = .ok e r := by unfold pX; rw [h]; exact if_pos hk
theorem xve (w : World) (S : Nat → Prop) : XV w S emE [.int .i64 0, .int .i64 0, .string { data := #[] }, .string { data := #[] }, .slice none 0 0, .slice none 0 0] := XV.shut (by unfold InR; omega) (XL.nil_ _ _) (XL.nil_ _ _)
/-- A program with one operation that returns an expression, in memory. -/
theorem alone_pv {w : World} {S : Nat → Prop} {e : Ex} {cs : List Value} {sb ob : Nat} {fr fr' : Nat × Nat} {t t' : TypeId} (hv : XV w S e cs) (hs : w.heap[sb]? = some (.cells (stC 5 [] 0 cs none 0 0 none 0 0).toArray t fr)) (ho : w.heap[ob]? = some (.cells #[.string (bs [120]), .slice none 0 0, .slice (some ⟨sb, 0, none⟩) 1 1] t' fr')) (h1 : S sb) (h2 : S ob) :
    PV w S (aloneP e) (.agg #[.slice none 0 0, .slice (some ⟨ob, 0, none⟩) 1 1]) := by
  have hst : SV w S (.mk 5 [] 0 e [] []) (stC 5 [] 0 cs none 0 0 none 0 0) := SV.shut (by unfold InR; omega) hv (SL.nil_ _ _) (SL.nil_ _ _)
  have hov : OV w S ⟨[120], [], [.mk 5 [] 0 e [] []]⟩ [.string (bs [120]), .slice none 0 0, .slice (some ⟨sb, 0, none⟩) 1 1] :=
    ⟨none, 0, 0, _, 1, 1, rfl, ⟨rfl, ⟨Nat.le_refl _, fun _ => rfl⟩, fun h => absurd h (by omega)⟩, SL.one hst hs h1⟩
  exact ⟨none, 0, 0, _, 1, 1, rfl, ⟨rfl, ⟨Nat.le_refl _, fun _ => rfl⟩, fun h => absurd h (by omega)⟩, OL.one hov ho h2⟩
set_option maxRecDepth 100000 in
set_option maxHeartbeats 12800000 in
theorem pexpr_any (s : Str) (w : World) (hw : WW w) (hmax : s.length ≤ 9223372036854775807) :
    Calls Tryz.prog 10 #[.string (bs s)] w fun e w' => ∃ cs : List Value, e = .returned (.tuple #[.agg cs.toArray, .int .i64 (prE s).2.1, .int .i64 (prE s).2.2]) ∧ XV w' (fun b => w.heap.size ≤ b) (prE s).1 cs ∧ Below w.heap.size w w' := by
  obtain ⟨T, hT⟩ : ∃ T, T = prE s := ⟨_, rfl⟩
  rw [← hT]
  have HT := Lib.hid hT
  obtain ⟨w0, hw0⟩ : ∃ w0, w0 = w.alloc (.cells #[.int .i64 0, .int .i64 0, .string { data := #[] }, .string { data := #[] }, .slice none 0 0, .slice none 0 0] 27) := ⟨_, rfl⟩
  have hb0 : Below w.heap.size w w0 := by rw [hw0]; exact (Below.refl _ _).alloc (Nat.le_refl _) _
  have X0 := Lib.hid (show HB 27 w0 w.heap.size #[.int .i64 0, .int .i64 0, .string { data := #[] }, .string { data := #[] }, .slice none 0 0, .slice none 0 0] from by rw [hw0]; exact heap_alloc_new w _)
  have W0 := Lib.hid (hw.below hb0)
  have K := Lib.hid (begun_any s w0 W0.out hmax)
  have HOK := Lib.hid (@scan_ok s)
  have BW := Lib.hid hb0
  clear hw hmax hT hb0
  go_enter Tryz.func10, Tryz.ntmps10
  go_upto_region 1 with fail
  rw [← hw0]
  clear hw0
  go_wp2_with fail
  refine K.out.mono ?_
  rintro e w1 ⟨hb, hcase⟩
  have B0 := Lib.hid hb
  clear hb K
  rcases hcase with ⟨he, rfl⟩ | ⟨he, A, n, c, g, rfl, hg, hP⟩
  · have ht := HT.out
    rw [prE_err he] at ht
    generalize ((Lx.scanL s).2.1 : Int) = k0 at *
    generalize (Lx.scanL s).2.2 = er at *
    subst ht
    have e1 : (er != 0) = true := by simpa using he
    have e2 : decide (er = 0) = false := by simpa using he
    clear HOK W0 HT
    have X := Lib.hid (HB.below X0.out B0.out)
    go_wp2_with (with_reducible refine at_store_ (t := 27) ?_; refine Hid.out ?_)
    refine Lib.hid ?_
    refine hb_put rfl _ _ rfl rfl w.heap.size rfl rfl ex_size (by simp [Value.oneCell']) X.out rfl ?_
    intro wz hxz hgz hsz
    clear hsz
    have XZ := Lib.hid hxz
    have BZ := Lib.hid ((BW.out.trans (B0.out.mono BW.out.size)).trans (below_gr hgz (B := w.heap.size) (Nat.le_trans BW.out.size B0.out.size) (Nat.le_refl _)))
    clear hxz hgz X
    go_wp2_with fail
    refine bodyPost_ret (results_row3 rfl _ _ w.heap.size _ _ _ _ rfl XZ.out Tryz.underlying27 rfl ex_size _ _ rfl rfl) rfl ?_
    exact ⟨_, rfl, xve _ _, BZ.out⟩
  · obtain ⟨hlok, -, -, hlen, hsl, -⟩ := HOK.out he
    have HE := Lib.hid he
    have HLEN := Lib.hid (show ((Lx.scanL s).1.map tkq).length ≤ 65537 from by rw [List.length_map]; omega)
    have HG := Lib.hid hg
    have HGL := Lib.hid hP.lt
    have KP := Lib.hid (show Calls _ _ _ _ (XP (Lx.scanL s).1 A n c g w1 (pE ((Lx.scanL s).1.map tkq))) from expr_any w1 false ((Lx.scanL s).1.map tkq) hP)
    clear hlok hlen hsl he hg hP HOK
    go_wp2_with fail
    refine KP.out.mono ?_
    rintro e w2 ⟨x, cs, rfl, hv, hg, hP⟩
    obtain ⟨b, r, hps, -, hb, ho⟩ := Res.is_ex (x := x) (P := pE ((Lx.scanL s).1.map tkq)) (Q := fun b r => PSx (Lx.scanL s).1 A n c g w2 b r) hP
    obtain ⟨xx, hxx⟩ : ∃ z, z = x := ⟨_, rfl⟩
    rw [← hxx] at ho
    have HXX := Lib.hid hxx
    obtain ⟨k1, n1, s1, m1, a1, o1⟩ := x
    obtain ⟨A1, na1, ca1, O1, no1, co1, rfl, -, -⟩ := hv.open_
    rw [show (exC k1 n1 s1 m1 A1 na1 ca1 O1 no1 co1).toArray = #[.int .i64 k1, .int .i64 n1, .string (bs s1), .string (bs m1), .slice A1 na1 ca1, .slice O1 no1 co1] from rfl]
    obtain ⟨w3, hw3⟩ : ∃ W, W = w2.alloc (.cells #[.int .i64 k1, .int .i64 n1, .string (bs s1), .string (bs m1), .slice A1 na1 ca1, .slice O1 no1 co1] 27) := ⟨_, rfl⟩
    have hb3 : Below w2.heap.size w2 w3 := by rw [hw3]; exact (Below.refl _ _).alloc (Nat.le_refl _) _
    have YB := Lib.hid (show HB 27 w3 w2.heap.size #[.int .i64 k1, .int .i64 n1, .string (bs s1), .string (bs m1), .slice A1 na1 ca1, .slice O1 no1 co1] from by rw [hw3]; exact heap_alloc_new w2 _)
    obtain h0 := B0.out
    clear B0
    have B0 := Lib.hid (h0.trans ((below_gr hg (B := w0.heap.size) h0.size HG.out).trans (hb3.mono (Nat.le_trans h0.size hg.size))))
    have HV := Lib.hid ((hv.more (S' := fun k => w0.heap.size ≤ k) fun k _ (hk : w1.heap.size ≤ k) => Nat.le_trans h0.size hk).below hb3)
    have P := Lib.hid (hps.next hb3)
    have HB_ := Lib.hid hb
    have HO_ := Lib.hid ho
    clear hv hg hP hps hb ho hb3 h0 KP HGL hxx
    go_upto_region 5 with fail
    rw [← hw3]
    clear hw3
    generalize w2.heap.size = yb at *
    have KN := Lib.hid (ended_any _ _ _ _ _ w3 b r P.out)
    clear P
    obtain ⟨za, hza⟩ : ∃ z, z = enA (Lx.scanL s).1 b r := ⟨_, rfl⟩
    obtain ⟨ze, hze⟩ : ∃ z, z = enE b r := ⟨_, rfl⟩
    rw [← hza, ← hze] at KN
    have HZA := Lib.hid hza
    have HZE := Lib.hid hze
    clear hza hze
    go_wp2_with fail
    refine KN.out.mono ?_
    rintro e w4 ⟨rfl, hb⟩
    have B4 := Lib.hid hb
    obtain h0 := B0.out
    clear B0
    have B0 := Lib.hid (h0.trans (hb.mono h0.size))
    clear hb h0 KN
    have YB4 := Lib.hid (YB.out.below B4.out)
    have HV4 := Lib.hid (HV.out.below B4.out)
    clear YB HV B4
    by_cases hbad : b = true ∨ kindT r ≠ 0
    · have ht := HT.out
      have hx : pX ((Lx.scanL s).1.map tkq) = .bad r := by
        cases b with
        | true => exact pX_bad (HB_.out rfl)
        | false => exact pX_end (HO_.out rfl) (hbad.resolve_left (by simp))
      rw [prE_bad HE.out hx] at ht
      have hz1 : enA (Lx.scanL s).1 b r = offAt (Lx.scanL s).1 r := if_pos hbad
      have hz2 : ze = 5 := HZE.out.trans (if_pos hbad)
      rw [← hz1, ← HZA.out] at ht
      subst hz2
      subst ht
      clear hx hz1 HB_ HO_ HT HZA HZE W0 YB4 HV4 HE HLEN HG hbad
      have X := Lib.hid (HB.below X0.out B0.out)
      go_wp2_with (with_reducible refine at_store_ (t := 27) ?_; refine Hid.out ?_)
      refine Lib.hid ?_
      refine hb_put rfl _ _ rfl rfl w.heap.size rfl rfl ex_size (by simp [Value.oneCell']) X.out rfl ?_
      intro wz hxz hgz hsz
      clear hsz
      have XZ := Lib.hid hxz
      have BZ := Lib.hid ((BW.out.trans (B0.out.mono BW.out.size)).trans (below_gr hgz (B := w.heap.size) (Nat.le_trans BW.out.size B0.out.size) (Nat.le_refl _)))
      clear hxz hgz X
      go_wp2_with fail
      refine bodyPost_ret (results_row3 rfl _ _ w.heap.size _ _ _ _ rfl XZ.out Tryz.underlying27 rfl ex_size _ _ rfl rfl) rfl ?_
      exact ⟨_, rfl, xve _ _, BZ.out⟩
    · obtain rfl : b = false := by cases b with | true => exact absurd (.inl rfl) hbad | false => rfl
      have hk0 : kindT r = 0 := Classical.not_not.1 fun e => hbad (.inr e)
      have hok := HO_.out rfl
      have hsz := size_pE hok
      have ht := HT.out
      rw [prE_ok HE.out (pX_ok hok hk0)] at ht
      have hz2 : ze = 0 := HZE.out.trans (if_neg hbad)
      subst hz2
      have HFEW := Lib.hid (alone_few (e := xx) (by have := HLEN.out; omega))
      have HT2 := Lib.hid ht
      clear hok hk0 ht HB_ HO_ HT HZA HZE HE HLEN HG hbad hsz
      go_wp2_with (with_reducible refine at_load_ (t := 27) ?_; refine Hid.out ?_)
      refine Lib.hid ?_
      refine xb_load rfl _ rfl yb rfl YB4.out rfl ?_
      obtain ⟨wS, hwS⟩ : ∃ W, W = w4.alloc (.cells #[.int .i64 5, .string { data := #[] }, .int .i64 0, .int .i64 k1, .int .i64 n1, .string (bs s1), .string (bs m1), .slice A1 na1 ca1, .slice O1 no1 co1, .slice none 0 0, .slice none 0 0] 74) := ⟨_, rfl⟩
      obtain ⟨wO, hwO⟩ : ∃ W, W = wS.alloc (.cells #[.string { data := #[120] }, .slice none 0 0, .slice (some ⟨w4.heap.size, 0, none⟩) 1 1] 76) := ⟨_, rfl⟩
      obtain ⟨wA, hwA⟩ : ∃ W, W = wO.alloc (.cells #[.slice none 0 0, .slice (some ⟨w4.heap.size + 1, 0, none⟩) 1 1] 36) := ⟨_, rfl⟩
      have hbS : Below w4.heap.size w4 wS := by rw [hwS]; exact (Below.refl _ _).alloc (Nat.le_refl _) _
      have hbO : Below wS.heap.size wS wO := by rw [hwO]; exact (Below.refl _ _).alloc (Nat.le_refl _) _
      have hbA : Below wO.heap.size wO wA := by rw [hwA]; exact (Below.refl _ _).alloc (Nat.le_refl _) _
      have hsS : wS.heap.size = w4.heap.size + 1 := by rw [hwS]; exact World.size_alloc ..
      have hsO : wO.heap.size = w4.heap.size + 2 := by rw [hwO, World.size_alloc, hsS]
      have hb4 : Below w4.heap.size w4 wA := hbS.trans ((hbO.mono hbS.size).trans (hbA.mono (by omega)))
      have hqS : wA.heap[w4.heap.size]? = some (.cells #[.int .i64 5, .string { data := #[] }, .int .i64 0, .int .i64 k1, .int .i64 n1, .string (bs s1), .string (bs m1), .slice A1 na1 ca1, .slice O1 no1 co1, .slice none 0 0, .slice none 0 0] 74 (0, 0)) := by rw [hbA.block _ (by omega), hbO.block _ (by omega), hwS]; exact heap_alloc_new w4 _
      have hqO : wA.heap[w4.heap.size + 1]? = some (.cells #[.string { data := #[120] }, .slice none 0 0, .slice (some ⟨w4.heap.size, 0, none⟩) 1 1] 76 (0, 0)) := by rw [hbA.block _ (by omega), hwO, ← hsS]; exact heap_alloc_new wS _
      have hqA : HB 36 wA (w4.heap.size + 2) #[.slice none 0 0, .slice (some ⟨w4.heap.size + 1, 0, none⟩) 1 1] := by rw [← hsO, hwA]; exact heap_alloc_new wO _
      have AB := Lib.hid hqA
      have hsz4 := B0.out.size
      have PVA := Lib.hid (alone_pv (S := fun k => w0.heap.size ≤ k) (by rw [HXX.out]; exact HV4.out.below hb4) hqS hqO hsz4 (Nat.le_trans hsz4 (Nat.le_succ _)) : PV wA (fun k => w0.heap.size ≤ k) (aloneP xx) _)
      have YB5 := Lib.hid (YB4.out.below hb4)
      have HV5 := Lib.hid (HV4.out.below hb4)
      obtain h0 := B0.out
      clear B0
      have B0 := Lib.hid (h0.trans (hb4.mono h0.size))
      have KC := Lib.hid (check_any (aloneP xx) _ _ wA (W0.out.below B0.out).sx PVA.out HFEW.out)
      clear hbS hbO hbA hsS hsO hb4 hqS hqO hqA hsz4 h0 YB4 HV4 PVA HFEW
      rw [hwS] at hwO
      rw [hwO] at hwA
      go_upto_region 9 with fail
      rw [← hwA]
      clear hwA hwO hwS
      generalize w4.heap.size + 2 = ab at *
      generalize w4.heap.size + 1 = ob at *
      generalize chkP (aloneP xx) = ck at *
      go_wp2_with (with_reducible refine at_load_ (t := 36) ?_; refine Hid.out ?_)
      refine Lib.hid ?_
      refine wpList_load_row rfl _ _ rfl ab rfl _ _ _ _ AB.out Tryz.underlying36 rfl pr_size ?_
      go_wp2_with fail
      refine KC.out.mono ?_
      rintro e w5 ⟨rfl, hb⟩
      obtain h0 := B0.out
      clear B0
      have B0 := Lib.hid (h0.trans (hb.mono h0.size))
      have YB6 := Lib.hid (YB5.out.below hb)
      have HV6 := Lib.hid (HV5.out.below hb)
      clear hb h0 KC YB5 HV5 AB
      by_cases hc : ck = 0
      · have ht := HT2.out
        rw [if_pos hc] at ht
        subst hc
        subst ht
        clear HT2
        go_wp2_with (with_reducible refine at_load_ (t := 27) ?_; refine Hid.out ?_)
        refine Lib.hid ?_
        refine xb_load rfl _ rfl yb rfl YB6.out rfl ?_
        have X := Lib.hid (HB.below X0.out B0.out)
        refine hb_put rfl _ _ rfl rfl w.heap.size rfl rfl ex_size (by simp [Value.oneCell']) X.out rfl ?_
        intro wz hxz hgz hsz
        clear hsz
        have XZ := Lib.hid hxz
        have BZ := Lib.hid ((BW.out.trans (B0.out.mono BW.out.size)).trans (below_gr hgz (B := w.heap.size) (Nat.le_trans BW.out.size B0.out.size) (Nat.le_refl _)))
        have HVZ := Lib.hid (HV6.out.gr (S' := fun k => w.heap.size ≤ k) hgz (fun k _ (hk : w0.heap.size ≤ k) => by have := HB.lt X0.out; exact ⟨by omega, by omega⟩))
        clear hxz hgz X YB6 HV6
        go_wp2_with fail
        refine bodyPost_ret (results_row3 rfl _ _ w.heap.size _ _ _ _ rfl XZ.out Tryz.underlying27 rfl ex_size _ _ rfl rfl) rfl ?_
        exact ⟨exC k1 n1 s1 m1 A1 na1 ca1 O1 no1 co1, rfl, by rw [HXX.out]; exact HVZ.out, BZ.out⟩
      · have ht := HT2.out
        rw [if_neg hc] at ht
        subst ht
        have e1 : (ck != 0) = true := by simpa using hc
        have e2 : decide (ck = 0) = false := by simpa using hc
        clear HT2 YB6 HV6 W0
        have X := Lib.hid (HB.below X0.out B0.out)
        go_wp2_with (with_reducible refine at_store_ (t := 27) ?_; refine Hid.out ?_)
        refine Lib.hid ?_
        refine hb_put rfl _ _ rfl rfl w.heap.size rfl rfl ex_size (by simp [Value.oneCell']) X.out rfl ?_
        intro wz hxz hgz hsz
        clear hsz
        have XZ := Lib.hid hxz
        have BZ := Lib.hid ((BW.out.trans (B0.out.mono BW.out.size)).trans (below_gr hgz (B := w.heap.size) (Nat.le_trans BW.out.size B0.out.size) (Nat.le_refl _)))
        clear hxz hgz X
        go_wp2_with fail
        refine bodyPost_ret (results_row3 rfl _ _ w.heap.size _ _ _ _ rfl XZ.out Tryz.underlying27 rfl ex_size _ _ rfl rfl) rfl ?_
        exact ⟨_, rfl, xve _ _, BZ.out⟩
end Go.Proofs.YtkakbidllpjopaaGreatDoor
namespace Go.Proofs.YtkakbidllpjopaaGreatDoor
open Go.RowKit

/-- An operand's text out of the expression's. -/
def par (e : Ex) (t : Str) : Str := if e.kind = 5 ∨ e.kind = 3 ∨ e.kind = 4 ∨ (e.kind = 6 ∧ 0 < e.orr.length) then [40] ++ t ++ [41] else t
mutual
def txE : Ex → Str
  | .mk k n s m a o => if k = 0 then Lib.itoa n else if k = 1 then Lib.formatBool (decide (n = 1)) else if k = 2 then s
    else if k = 3 then [110, 111, 116, 32] ++ (opEs a).headD [] else if k = 4 then [45] ++ (opEs a).headD []
    else if k = 5 then (opEs a).headD [] ++ [32] ++ m ++ [32] ++ ((opEs a).drop 1).headD []
    else if k = 7 then [104, 111, 115, 116, 46] ++ s ++ [40] ++ Lib.join (txEs a) [44, 32] ++ [41]
    else s ++ [46] ++ m ++ [40] ++ Lib.join (txEs a) [44, 32] ++ [41] ++ (if o.length = 0 then [] else [32, 101, 108, 115, 101, 32] ++ (opEs o).headD [])
def txEs : List Ex → List Str
  | [] => []
  | e :: t => txE e :: txEs t
def opEs : List Ex → List Str
  | [] => []
  | e :: t => par e (txE e) :: opEs t
end
/-- An operand's text. -/
def opE (e : Ex) : Str := par e (txE e)
theorem txEs_map : ∀ l : List Ex, txEs l = l.map txE
  | [] => by rw [txEs]; rfl
  | e :: t => by rw [txEs, txEs_map t]; rfl
theorem opEs_map : ∀ l : List Ex, opEs l = l.map opE
  | [] => by rw [opEs]; rfl
  | e :: t => by rw [opEs, opEs_map t]; rfl
mutual
/-- Its numbers are int64. -/
def Ex.Wd : Ex → Prop
  | .mk _ n _ _ a o => InR n ∧ Ex.Wds a ∧ Ex.Wds o
def Ex.Wds : List Ex → Prop
  | [] => True
  | e :: t => e.Wd ∧ Ex.Wds t
end
theorem Ex.Wds_mem : ∀ {l : List Ex}, Ex.Wds l → ∀ e ∈ l, e.Wd
  | a :: t, h, e, he => by
    rw [Ex.Wds] at h
    rcases List.mem_cons.1 he with rfl | he
    · exact h.1
    · exact Ex.Wds_mem h.2 e he
mutual
theorem XV.wd {w : World} {S : Nat → Prop} : ∀ {e : Ex} {cs : List Value}, XV w S e cs → e.Wd
  | .mk k n s m a o, cs, h => by
    rw [XV] at h
    obtain ⟨A, na, ca, O, no, co, _, h0, h2, h3, h4, h5⟩ := h
    rw [Ex.Wd]
    refine ⟨h0, ?_, ?_⟩
    · cases a with
      | nil => rw [Ex.Wds]; trivial
      | cons e t =>
        obtain ⟨b, q, _, _, _, hx⟩ := h4 (by rw [h2.1]; simp)
        exact XLf.wd hx
    · cases o with
      | nil => rw [Ex.Wds]; trivial
      | cons e t =>
        obtain ⟨b, q, _, _, _, hx⟩ := h5 (by rw [h3.1]; simp)
        exact XLf.wd hx
theorem XLf.wd {w : World} {S : Nat → Prop} {b q : Nat} : ∀ {i : Nat} {l : List Ex}, XLf w S b q i l → Ex.Wds l
  | _, [], _ => by rw [Ex.Wds]; trivial
  | i, e :: t, h => by
    rw [XLf] at h
    obtain ⟨⟨cs, h1, _⟩, h3⟩ := h
    rw [Ex.Wds]
    exact ⟨XV.wd h1, XLf.wd h3⟩
end
theorem chkEs_all {d : Int} : ∀ {l : List Ex}, chkEs d l = 0 → ∀ x ∈ l, chkE d x = 0
  | [], _, x, h => by cases h
  | e :: t, h, x, hx => by
    rw [chkEs] at h
    split at h
    · exact absurd h (by assumption)
    · rename_i h3
      rcases List.mem_cons.1 hx with rfl | hx
      · exact Classical.not_not.1 h3
      · exact chkEs_all h x hx
/-- What a valid expression's fields are. -/
theorem chkE_fields {d k n : Int} {s m : Str} {a o : List Ex} (h : chkE d (.mk k n s m a o) = 0) : d ≤ 12 ∧ 0 ≤ k ∧ k ≤ 7 ∧ formE (.mk k n s m a o) = true ∧ ((k = 2 ∨ 6 ≤ k) → nameOk s = true) ∧ (k = 6 → nameOk m = true) ∧ (k ≤ 1 → 0 ≤ n ∧ (k = 1 → n ≤ 1)) ∧ (∀ x ∈ a, chkE (d + 1) x = 0) ∧ (∀ x ∈ o, chkE (d + 1) x = 0) := by
  rw [chkE] at h
  split at h
  · exact absurd h (by assumption)
  rename_i h0
  have hh : headE d (.mk k n s m a o) = 0 := Classical.not_not.1 h0
  split at h
  · exact absurd h (by assumption)
  rename_i h1
  have ha := chkEs_all (Classical.not_not.1 h1)
  have ho := chkEs_all h
  clear h h0 h1
  have e : headE d (.mk k n s m a o) = if 12 < d then 18 else if k < 0 ∨ 7 < k then 2 else if formE (.mk k n s m a o) = false then 5 else if ((k = 2 ∨ 6 ≤ k) ∧ nameOk s = false) ∨ (k = 6 ∧ nameOk m = false) then 16 else if k ≤ 1 ∧ (n < 0 ∨ (k = 1 ∧ 1 < n)) then 3 else 0 := rfl
  rw [e] at hh
  split at hh
  · cases hh
  split at hh
  · cases hh
  split at hh
  · cases hh
  split at hh
  · cases hh
  split at hh
  · cases hh
  rename_i e1 e2 e3 e4 e5
  refine ⟨by omega, by omega, by omega, by simpa using e3, fun hk => ?_, fun hk => ?_, fun hk => ?_, ha, ho⟩
  · cases hq : nameOk s with
    | true => rfl
    | false => exact absurd (.inl ⟨hk, hq⟩) e4
  · cases hq : nameOk m with
    | true => rfl
    | false => exact absurd (.inr ⟨hk, hq⟩) e4
  · omega
/-- The shapes of valid expressions. -/
inductive Shape (d : Int) : Ex → Prop where
  | num (n : Int) (h : 0 ≤ n) : Shape d (.mk 0 n [] [] [] [])
  | bool (n : Int) (h : n = 0 ∨ n = 1) : Shape d (.mk 1 n [] [] [] [])
  | var (s : Str) (h : nameOk s = true) : Shape d (.mk 2 0 s [] [] [])
  | not (x : Ex) (h : chkE (d + 1) x = 0) : Shape d (.mk 3 0 [] [] [x] [])
  | neg (x : Ex) (h : chkE (d + 1) x = 0) : Shape d (.mk 4 0 [] [] [x] [])
  | bin (m : Str) (x y : Ex) (hm : sgns.contains m = true) (h1 : chkE (d + 1) x = 0) (h2 : chkE (d + 1) y = 0) : Shape d (.mk 5 0 [] m [x, y] [])
  | call (s m : Str) (a o : List Ex) (hs : nameOk s = true) (hm : nameOk m = true) (ha : a.length ≤ 4) (h1 : ∀ x ∈ a, chkE (d + 1) x = 0) (ho : o.length ≤ 1) (h2 : ∀ x ∈ o, chkE (d + 1) x = 0) : Shape d (.mk 6 0 s m a o)
  | host (s : Str) (a : List Ex) (hs : nameOk s = true) (ha : a.length ≤ 4) (h1 : ∀ x ∈ a, chkE (d + 1) x = 0) : Shape d (.mk 7 0 s [] a [])
theorem shape_of {d : Int} {e : Ex} (h : chkE d e = 0) : Shape d e ∧ d ≤ 12 := by
  obtain ⟨k, n, s, m, a, o⟩ := e
  obtain ⟨hd, hk0, hk7, hf, hs, hm, hn, ha, ho⟩ := chkE_fields h
  refine ⟨?_, hd⟩
  rw [formE_mk] at hf
  by_cases e0 : k = 0 ∨ k = 1
  · rw [if_pos e0] at hf
    simp only [Bool.and_eq_true, decide_eq_true_eq, beq_iff_eq, List.length_eq_zero_iff] at hf
    obtain ⟨⟨⟨rfl, rfl⟩, rfl⟩, rfl⟩ := hf
    rcases e0 with rfl | rfl
    · exact .num n (hn (by decide)).1
    · have := hn (by decide)
      exact .bool n (by omega)
  rw [if_neg e0] at hf
  by_cases e2 : k = 2
  · rw [if_pos e2] at hf
    simp only [Bool.and_eq_true, decide_eq_true_eq, beq_iff_eq, List.length_eq_zero_iff] at hf
    obtain ⟨⟨⟨rfl, rfl⟩, rfl⟩, rfl⟩ := hf
    subst e2
    exact .var s (hs (.inl rfl))
  rw [if_neg e2] at hf
  by_cases e3 : k = 3 ∨ k = 4
  · rw [if_pos e3] at hf
    simp only [Bool.and_eq_true, decide_eq_true_eq, beq_iff_eq, List.length_eq_zero_iff] at hf
    obtain ⟨⟨⟨⟨rfl, rfl⟩, rfl⟩, hl⟩, rfl⟩ := hf
    obtain ⟨x, rfl⟩ := List.length_eq_one_iff.1 hl
    rcases e3 with rfl | rfl
    · exact .not x (ha x (by simp))
    · exact .neg x (ha x (by simp))
  rw [if_neg e3] at hf
  by_cases e5 : k = 5
  · rw [if_pos e5] at hf
    simp only [Bool.and_eq_true, decide_eq_true_eq, beq_iff_eq, List.length_eq_zero_iff] at hf
    obtain ⟨⟨⟨⟨rfl, rfl⟩, hc⟩, hl⟩, rfl⟩ := hf
    obtain ⟨x, y, rfl⟩ : ∃ x y, a = [x, y] := by
      match a, hl with
      | [x, y], _ => exact ⟨x, y, rfl⟩
    subst e5
    exact .bin m x y hc (ha x (by simp)) (ha y (by simp))
  rw [if_neg e5] at hf
  by_cases e6 : k = 6
  · rw [if_pos e6] at hf
    simp only [Bool.and_eq_true, decide_eq_true_eq, beq_iff_eq, List.length_eq_zero_iff] at hf
    obtain ⟨⟨rfl, hl⟩, hl2⟩ := hf
    subst e6
    exact .call s m a o (hs (.inr (by decide))) (hm rfl) hl ha hl2 ho
  rw [if_neg e6] at hf
  simp only [Bool.and_eq_true, decide_eq_true_eq, beq_iff_eq, List.length_eq_zero_iff] at hf
  obtain ⟨⟨⟨rfl, rfl⟩, hl⟩, rfl⟩ := hf
  obtain rfl : k = 7 := by omega
  exact .host s a (hs (.inr (by decide))) hl ha
theorem name_len {s : Str} (h : nameOk s = true) : s.length ≤ 24 := by
  unfold nameOk at h
  simp only [Bool.and_eq_true, decide_eq_true_eq] at h
  exact h.1.2
theorem sgn_len {m : Str} (h : sgns.contains m = true) : m.length ≤ 3 := by
  have h2 : ∀ x ∈ sgns, x.length ≤ 3 := by decide
  exact h2 m (by simpa using h)
theorem par_len (e : Ex) (t : Str) : (par e t).length ≤ t.length + 2 := by
  unfold par
  split <;> simp
theorem join_len (sep : Str) : ∀ l : List Str, (Lib.join l sep).length ≤ (l.map List.length).sum + l.length * sep.length
  | [] => by simp [Lib.join, List.intercalate]
  | [x] => by simp [Lib.join, List.intercalate]
  | x :: y :: t => by
    have ih := join_len sep (y :: t)
    have e : Lib.join (x :: y :: t) sep = x ++ sep ++ Lib.join (y :: t) sep := by simp [Lib.join, List.intercalate]
    rw [e]
    simp only [List.length_append, List.map_cons, List.sum_cons, List.length_cons] at ih ⊢
    rw [Nat.succ_mul]
    omega
theorem bool_len (b : Bool) : (Lib.formatBool b).length ≤ 5 := by cases b <;> decide
theorem sizes_sum : ∀ l : List Ex, Ex.sizes l = (l.map Ex.size).sum
  | [] => by rw [Ex.sizes]; rfl
  | e :: t => by rw [Ex.sizes, sizes_sum t]; simp
theorem sum_le {α : Type} (f g : α → Nat) (c : Nat) : ∀ l : List α, (∀ x ∈ l, f x ≤ c * g x) → (l.map f).sum ≤ c * (l.map g).sum
  | [], _ => by simp
  | x :: t, h => by
    have h1 := h x (by simp)
    have h2 := sum_le f g c t fun y hy => h y (by simp [hy])
    simp only [List.map_cons, List.sum_cons, Nat.mul_add]
    omega
theorem txE_len (e : Ex) : ∀ d, chkE d e = 0 → e.Wd → (txE e).length ≤ 130 * e.size := by
  obtain ⟨N, hN⟩ : ∃ N, N = e.size := ⟨_, rfl⟩
  induction N using Nat.strongRecOn generalizing e with
  | _ N ih =>
    intro d h hw
    rcases (shape_of h).1 with ⟨n, hn⟩ | ⟨n, hn⟩ | ⟨s, hs⟩ | ⟨x, hx⟩ | ⟨x, hx⟩ | ⟨m, x, y, hm, hx, hy⟩ | ⟨s, m, a, o, hs, hm, ha, h1, ho, h2⟩ | ⟨s, a, hs, ha, h1⟩
    · rw [Ex.Wd] at hw
      have := Lib.itoa_length_le n hw.1.1 hw.1.2
      rw [txE, Ex.size, if_pos rfl, Ex.sizes]
      omega
    · have := bool_len (decide (n = 1))
      rw [txE, Ex.size, if_neg (by decide), if_pos rfl, Ex.sizes]
      omega
    · have := name_len hs
      simp only [txE, Ex.size, Ex.sizes]
      simp
      omega
    all_goals rw [Ex.Wd] at hw
    · have hwx := Ex.Wds_mem hw.2.1 x (by simp)
      rw [Ex.size, Ex.sizes, Ex.sizes] at hN
      have := ih x.size (by omega) x rfl _ hx hwx
      have h3 := par_len x (txE x)
      simp only [txE, opEs, Ex.size, Ex.sizes]
      simp
      omega
    · have hwx := Ex.Wds_mem hw.2.1 x (by simp)
      rw [Ex.size, Ex.sizes, Ex.sizes] at hN
      have := ih x.size (by omega) x rfl _ hx hwx
      have h3 := par_len x (txE x)
      simp only [txE, opEs, Ex.size, Ex.sizes]
      simp
      omega
    · have hwx := Ex.Wds_mem hw.2.1 x (by simp)
      have hwy := Ex.Wds_mem hw.2.1 y (by simp)
      rw [Ex.size, Ex.sizes, Ex.sizes, Ex.sizes] at hN
      have h1 := ih x.size (by omega) x rfl _ hx hwx
      have h2 := ih y.size (by omega) y rfl _ hy hwy
      have h3 := par_len x (txE x)
      have h4 := par_len y (txE y)
      have h5 := sgn_len hm
      simp only [txE, opEs, Ex.size, Ex.sizes]
      simp
      omega
    · have hA : (a.map fun x => (txE x).length).sum ≤ 130 * (a.map Ex.size).sum := sum_le _ _ _ _ fun x hx => ih x.size (by
        have := Ex.sizes_mem hx
        rw [hN, Ex.size]; omega) x rfl _ (h1 x hx) (Ex.Wds_mem hw.2.1 x hx)
      have hj := join_len [44, 32] (txEs a)
      rw [txEs_map, List.map_map, List.length_map] at hj
      have hj' : (Lib.join (a.map txE) [44, 32]).length ≤ (a.map fun x => (txE x).length).sum + a.length * 2 := hj
      have n1 := name_len hs
      have n2 := name_len hm
      have hO : (if o.length = 0 then [] else [32, 101, 108, 115, 101, 32] ++ (opEs o).headD []).length ≤ 130 * Ex.sizes o + 8 := by
        match o, ho, h2, hN with
        | [], _, _, _ => simp
        | [x], _, h2, hN =>
          have h3 := ih x.size (by rw [hN, Ex.size, Ex.sizes, Ex.sizes]; omega) x rfl _ (h2 x (by simp)) (Ex.Wds_mem hw.2.2 x (by simp))
          have h4 := par_len x (txE x)
          simp only [opEs, Ex.sizes]
          simp
          omega
      rw [txE, Ex.size, sizes_sum a, txEs_map]
      rw [if_neg (by decide), if_neg (by decide), if_neg (by decide), if_neg (by decide), if_neg (by decide), if_neg (by decide), if_neg (by decide)]
      simp only [List.length_append, List.length_cons, List.length_nil] at hO ⊢
      omega
    · have hA : (a.map fun x => (txE x).length).sum ≤ 130 * (a.map Ex.size).sum := sum_le _ _ _ _ fun x hx => ih x.size (by
        have := Ex.sizes_mem hx
        rw [hN, Ex.size]; omega) x rfl _ (h1 x hx) (Ex.Wds_mem hw.2.1 x hx)
      have hj := join_len [44, 32] (txEs a)
      rw [txEs_map, List.map_map, List.length_map] at hj
      have hj' : (Lib.join (a.map txE) [44, 32]).length ≤ (a.map fun x => (txE x).length).sum + a.length * 2 := hj
      have n1 := name_len hs
      rw [txE, Ex.size, sizes_sum a, txEs_map]
      rw [if_neg (by decide), if_neg (by decide), if_neg (by decide), if_neg (by decide), if_neg (by decide), if_neg (by decide), if_pos rfl]
      simp only [List.length_append, List.length_cons, List.length_nil]
      omega
end Go.Proofs.YtkakbidllpjopaaGreatDoor
namespace Go.Proofs
open Go.Shelf
def Tryz.lays105_ren : Go.Shelf.Ren := ⟨fun | 105 => 50 | 212 => 83 | 99 => 80 | 165 => 51 | 166 => 49 | 170 => 28 | 169 => 29 | 263 => 107 | 264 => 108 | 206 => 104 | 240 => 82 | 241 => 84 | 276 => 106 | 277 => 109 | n => n, fun | 9 => 9 | 3 => 3 | 4 => 4 | 20 => 20 | 0 => 0 | 46 => 151 | 109 => 152 | 5 => 5 | 72 => 79 | 76 => 123 | 51 => 169 | 146 => 170 | 53 => 157 | 148 => 172 | 70 => 77 | 37 => 58 | 75 => 122 | 127 => 128 | 164 => 167 | 80 => 88 | n => n, fun | n => n⟩
theorem Tryz.lays105 : Go.Proofs.Lays.n105 Tryz.prog Tryz.lays105_ren := {
  mixed := by kernel_rfl
  f99 := Tryz.func80.trans (congrArg some (by kernel_rfl))
  f105 := Tryz.func50.trans (congrArg some (by kernel_rfl))
  f165 := Tryz.func51.trans (congrArg some (by kernel_rfl))
  f166 := Tryz.func49.trans (congrArg some (by kernel_rfl))
  f169 := Tryz.func29.trans (congrArg some (by kernel_rfl))
  f170 := Tryz.func28.trans (congrArg some (by kernel_rfl))
  f206 := Tryz.func104.trans (congrArg some (by kernel_rfl))
  f212 := Tryz.func83.trans (congrArg some (by kernel_rfl))
  f240 := Tryz.func82.trans (congrArg some (by kernel_rfl))
  f241 := Tryz.func84.trans (congrArg some (by kernel_rfl))
  f263 := Tryz.func107.trans (congrArg some (by kernel_rfl))
  f264 := Tryz.func108.trans (congrArg some (by kernel_rfl))
  f276 := Tryz.func106.trans (congrArg some (by kernel_rfl))
  f277 := Tryz.func109.trans (congrArg some (by kernel_rfl))
  t0 := Tryz.underlying0
  a0 := Tryz.isAgg0
  z0 := Tryz.sizeOf0
  v0 := Tryz.zeroValue0
  t3 := Tryz.underlying3
  a3 := Tryz.isAgg3
  z3 := Tryz.sizeOf3
  v3 := Tryz.zeroValue3
  t4 := Tryz.underlying4
  a4 := Tryz.isAgg4
  z4 := Tryz.sizeOf4
  v4 := Tryz.zeroValue4
  t5 := Tryz.underlying5
  a5 := Tryz.isAgg5
  z5 := Tryz.sizeOf5
  v5 := Tryz.zeroValue5
  t9 := Tryz.underlying9
  a9 := Tryz.isAgg9
  z9 := Tryz.sizeOf9
  v9 := Tryz.zeroValue9
  t20 := Tryz.underlying20
  a20 := Tryz.isAgg20
  z20 := Tryz.sizeOf20
  v20 := Tryz.zeroValue20
  t37 := Tryz.underlying58
  a37 := Tryz.isAgg58
  z37 := Tryz.sizeOf58
  v37 := Tryz.zeroValue58
  t46 := Tryz.underlying151
  a46 := Tryz.isAgg151
  z46 := Tryz.sizeOf151
  v46 := Tryz.zeroValue151
  t51 := Tryz.underlying169
  a51 := Tryz.isAgg169
  z51 := Tryz.sizeOf169
  v51 := Tryz.zeroValue169
  t53 := Tryz.underlying157
  a53 := Tryz.isAgg157
  z53 := Tryz.sizeOf157
  v53 := Tryz.zeroValue157
  t70 := Tryz.underlying77
  a70 := Tryz.isAgg77
  z70 := Tryz.sizeOf77
  v70 := Tryz.zeroValue77
  t72 := Tryz.underlying79
  a72 := Tryz.isAgg79
  z72 := Tryz.sizeOf79
  v72 := Tryz.zeroValue79
  t75 := Tryz.underlying122
  a75 := Tryz.isAgg122
  z75 := Tryz.sizeOf122
  v75 := Tryz.zeroValue122
  t76 := Tryz.underlying123
  a76 := Tryz.isAgg123
  z76 := Tryz.sizeOf123
  v76 := Tryz.zeroValue123
  t109 := Tryz.underlying152
  a109 := Tryz.isAgg152
  z109 := Tryz.sizeOf152
  v109 := Tryz.zeroValue152
  t127 := Tryz.underlying128
  a127 := Tryz.isAgg128
  z127 := Tryz.sizeOf128
  v127 := Tryz.zeroValue128
  t146 := Tryz.underlying170
  a146 := Tryz.isAgg170
  z146 := Tryz.sizeOf170
  v146 := Tryz.zeroValue170
  t148 := Tryz.underlying172
  a148 := Tryz.isAgg172
  z148 := Tryz.sizeOf172
  v148 := Tryz.zeroValue172
  t164 := Tryz.underlying167
  a164 := Tryz.isAgg167
  z164 := Tryz.sizeOf167
  v164 := Tryz.zeroValue167 }
theorem Tryz.Builder_Extra_105 : Builder.Extra Tryz.prog Tryz.lays105_ren := {
  sizeBuilder := by kernel_rfl
  liesBuilder := by kernel_rfl
  t5 := Tryz.underlying5
  a5 := Tryz.isAgg5
  z5 := Tryz.sizeOf5
  v5 := Tryz.zeroValue5
  infoByte := by kernel_rfl
  cellsByte := by kernel_rfl
  sizeByte := by kernel_rfl
  neB5 := by decide }
open Go.RowKit Go.Sort Go.Lib in
theorem Tryz.strings_Repeat (s : ByteArray) (c : Nat) (w : World) (hc : c ≤ 9223372036854775807) (hlen : s.size * c ≤ 140737488355328) :
    Calls Tryz.prog 50 #[.string s, .int .i64 c] w fun e w' => e = .returned (.string ⟨(Lib.repeatL s.data.toList c).toArray⟩) ∧ Below w.heap.size w w' := Any.strings_Repeat Tryz.lays105 Tryz.Builder_Extra_105 s c w hc hlen
def Tryz.lays121_ren : Go.Shelf.Ren := ⟨fun | 121 => 110 | 214 => 129 | n => n, fun | 4 => 4 | 9 => 9 | n => n, fun | n => n⟩
theorem Tryz.lays121 : Go.Proofs.Lays.n121 Tryz.prog Tryz.lays121_ren := {
  mixed := by kernel_rfl
  f121 := Tryz.func110.trans (congrArg some (by kernel_rfl))
  f214 := Tryz.func129.trans (congrArg some (by kernel_rfl))
  t4 := Tryz.underlying4
  a4 := Tryz.isAgg4
  z4 := Tryz.sizeOf4
  v4 := Tryz.zeroValue4
  t9 := Tryz.underlying9
  a9 := Tryz.isAgg9
  z9 := Tryz.sizeOf9
  v9 := Tryz.zeroValue9 }
open Go.RowKit Go.Sort Go.Lib in
theorem Tryz.strconv_FormatBool (b : Bool) (w : World) :
    Calls Tryz.prog 110 #[.bool b] w fun e w' => e = .returned (.string ⟨(Lib.formatBool b).toArray⟩) ∧ w' = w := Any.strconv_FormatBool Tryz.lays121 b w
end Go.Proofs
namespace Go.Proofs.YtkakbidllpjopaaGreatDoor
open Go.RowKit

/-- A row of the call's own that holds strings. -/
abbrev OwnS (w : World) (base : Nat) (v : Value) (L : List (List UInt8)) : Prop := w.ownsRow base 9 1 v L.length (L.map fun x => Value.string (bs x))
theorem Tryz.infoS3 : (Tryz.prog.info? 9).map (fun i => (i.zero, i.size, i.bytes)) = some (some (.string ⟨#[]⟩), 1, 16) := by kernel_rfl
theorem infoS : ∃ i, Tryz.prog.info? 9 = some i ∧ i.zero = some (.string ⟨#[]⟩) ∧ i.size = 1 ∧ i.bytes = 16 := by
  obtain ⟨i, h1, h2⟩ := Option.map_eq_some_iff.1 Tryz.infoS3
  injection h2 with h2 h3
  injection h3 with h3 h4
  exact ⟨i, h1, h2, h3, h4⟩
theorem OwnS.below {w w' : World} {base : Nat} {v : Value} {L : List (List UInt8)} (h : OwnS w base v L) (hb : Below w.heap.size w w') : OwnS w' base v L :=
  World.ownsRow.kept (row := none) h ⟨hb.os, hb.tape, hb.output, hb.size, fun k hk _ => hb.block k hk⟩ (by cases hv : v.ownBlock <;> simp)
set_option maxRecDepth 100000 in
/-- append of one string onto a row of the call's own. -/
theorem as_any {w : World} {ops : Array Oper} {rest : List Oper} {o : Oper} {a : Act} {Q : Exit → Act → World → Prop} (hgd : o.guard = none) (s x : Operand)
    (ho : o.op = .call { callee := .builtin .append, args := #[s, x], argTypes := #[22, 22] }) (base : Nat) (v : Value) (L : List (List UInt8)) (hs : a.eval s = v) (hO : OwnS w base v L)
    (q : Nat) (u : List UInt8) (hx : a.eval x = .slice (some ⟨q, 0, none⟩) 1 1) (hq : q < w.heap.size) (hc : w.cell? ⟨q, 0, none⟩ = some (.string (bs u))) (h1 : L.length + 1 ≤ 100000) (hb : base ≤ w.heap.size)
    (h : ∀ v' w', OwnS w' base v' (L ++ [u]) → w.grownBy w' v.ownBlock → (v'.ownBlock = v.ownBlock ∨ v'.ownBlock = some w.heap.size) → wpList Tryz.prog ops Q rest (a.put o.dst v') w') : wpList Tryz.prog ops Q (o :: rest) a w := by
  obtain ⟨ie, hie0, hie1, hie2, hie3⟩ := infoS
  have hR : Reads w (fun _ => True) 1 (some ⟨q, 0, none⟩) 1 [Value.string (bs u)] := ⟨rfl, fun _ => ⟨q, 0, rfl, hq, trivial, fun j y hy => by
    obtain rfl : j = 0 := by have := (List.getElem?_eq_some_iff.1 hy).1; simpa using this
    injection hy with hy
    subst hy
    exact hc⟩⟩
  refine wpList_append_any hgd s x 22 ho base 9 ie _ 1 16 Tryz.underlying22 hie0 hie1 hie2 hie3 rfl (by omega) v L.length _ hs hO (fun _ => True) _ 1 1 _ hx hR (by intro u hu; rw [List.mem_singleton.1 hu]; rfl) (by simp only [maxLen]; omega) (by omega) hb ?_
  intro v' w' h2 h3 h4
  refine h v' w' ?_ h3 h4
  show w'.ownsRow base _ 1 v' (L ++ [u]).length ((L ++ [u]).map fun x => Value.string (bs x))
  rw [List.map_append, List.length_append]
  exact h2
theorem join_own {w : World} {base : Nat} {v : Value} {L : List (List UInt8)} (h : OwnS w base v L) (sep : List UInt8) (hN : L.length ≤ 100000) (hlen : (Lib.join L sep).length ≤ 100000000) :
    Calls Tryz.prog 26 #[v, .string (bs sep)] w fun e w' => e = .returned (.string (bs (Lib.join L sep))) ∧ Below w.heap.size w w' := by
  obtain ⟨A, c, rfl, hc, hA, hR⟩ := own_reads (S := fun _ => True) h (fun _ _ => trivial)
  cases L with
  | nil =>
    refine (Tryz.strings_Join_none A c (bs sep) w).mono ?_
    rintro e w' ⟨rfl, rfl⟩
    exact ⟨rfl, Below.refl _ _⟩
  | cons x t =>
    obtain ⟨b, o, rfl, hb, _, hcell⟩ := hR.2 (by simp)
    have e : ((x :: t).map bs).map (fun s => s.data.toList) = x :: t := by
      rw [List.map_map]
      exact (List.map_congr_left fun y _ => rfl).trans (List.map_id _)
    have hJ := Tryz.strings_Join b o c ((x :: t).map bs) (bs sep) w (fun j y hy => by
      rw [List.getElem?_map] at hy
      obtain ⟨z, hz, rfl⟩ := Option.map_eq_some_iff.1 hy
      exact hcell j _ (by rw [List.getElem?_map, hz]; rfl)) hb (by rw [List.length_map]; omega) (by rw [List.length_map]; exact hc) (by rw [e, bs_list]; omega)
    rw [e, bs_list, List.length_map] at hJ
    exact hJ

theorem own_bz {wo wb W : World} {base : Nat} {v : Value} {L : List (List UInt8)} {o : Obj} (h : OwnS wo base v L) (hk : Below wo.heap.size wo wb) (hb : Bz wb W) : OwnS (W.alloc o) base v L :=
  OwnS.below (OwnS.below (OwnS.below h hk) hb.b) ((Below.refl _ _).alloc (Nat.le_refl _) _)
theorem lt_new (W : World) (o : Obj) : W.heap.size < (W.alloc o).heap.size := by simp
theorem cell_new (W : World) (v : Value) {t : TypeId} : (W.alloc (.cells #[v] t)).cell? ⟨W.heap.size, 0, none⟩ = some v := by rw [World.cell?_alloc_at _ _ _ _ rfl]; rfl
theorem size_bz {w wo wb W : World} {o : Obj} (h : Below w.heap.size w wo) (hk : Below wo.heap.size wo wb) (hb : Bz wb W) : w.heap.size ≤ (W.alloc o).heap.size := by
  have h1 := h.size
  have h2 := hk.size
  have h3 := hb.b.size
  simp
  omega
theorem below_bz {w wb W w4 : World} {o : Obj} {v : Value} (h : Below w.heap.size w wb) (hb : Bz wb W) (hg : (W.alloc o).grownBy w4 v.ownBlock) (hv : ∀ q, v.ownBlock = some q → w.heap.size ≤ q) : Below w.heap.size w w4 := by
  have h1 := h.trans (hb.b.mono h.size)
  exact (h1.alloc h1.size o).grown hg (by have := h1.size; simp; omega) hv


def TextAt (e : Ex) : Prop := ∀ (d : Int) (w : World) (S : Nat → Prop) (cs : List Value), SxW w → chkE d e = 0 → e.size ≤ 100000 → XV w S e cs → Calls Tryz.prog 85 #[.agg cs.toArray] w fun e' w' => e' = .returned (.string (bs (txE e))) ∧ Below w.heap.size w w'
def OperAt (e : Ex) : Prop := ∀ (d : Int) (w : World) (S : Nat → Prop) (cs : List Value), SxW w → chkE d e = 0 → e.size ≤ 100000 → XV w S e cs → Calls Tryz.prog 111 #[.agg cs.toArray] w fun e' w' => e' = .returned (.string (bs (opE e))) ∧ Below w.heap.size w w'
def ListAt (l : List Ex) : Prop := ∀ (d : Int) (w : World) (S : Nat → Prop) (A : Option Addr) (n c : Nat), SxW w → (∀ x ∈ l, chkE d x = 0) → Ex.sizes l ≤ 100000 → XL w S A n c l → Calls Tryz.prog 112 #[.slice A n c] w fun e' w' => e' = .returned (.string (bs (Lib.join (l.map txE) [44, 32]))) ∧ Below w.heap.size w w'
theorem add_big (x y : List UInt8) (h : x.length + y.length ≤ 1000000000) (w : World) : (Op.stringOp .add (bs x) (bs y)).run Tryz.prog w = .ok (.string (bs (x ++ y))) w := by
  unfold bs
  rw [run_string_add_sum w _ _ (by simp [ByteArray.size]; omega)]
  congr 2
theorem fmtI_any (n : Int) (h : InR n) (w : World) (hp : SxW w) :
    Calls Tryz.prog 86 #[.int .i64 n, .int .i64 10] w fun e w' => e = .returned (.string (bs (Lib.itoa n))) ∧ Below w.heap.size w w' :=
  (Go.Proofs.Any.strconv_FormatInt_10 Tryz.laysM173 n h.1 h.2 w hp.pow).mono fun e w' ⟨he, k, os, hw⟩ => ⟨he, hw ▸ Lib.below_grow _ w (Nat.le_refl _) k os⟩

set_option maxRecDepth 100000 in
set_option maxHeartbeats 12800000 in
theorem operand_par (k n : Int) (s m : Str) (a o : List Ex) (d : Int) (w : World) (S : Nat → Prop) (cs : List Value) (hw : SxW w) (hc : chkE d (.mk k n s m a o) = 0) (hz : (Ex.mk k n s m a o).size ≤ 100000) (hx : XV w S (.mk k n s m a o) cs) (ih : TextAt (.mk k n s m a o)) :
    Calls Tryz.prog 111 #[.agg cs.toArray] w fun e' w' => e' = .returned (.string (bs (opE (.mk k n s m a o)))) ∧ Below w.heap.size w w' := by
  have hb := (Below.refl w.heap.size w).alloc (Nat.le_refl _) (.cells cs.toArray 27)
  have HT := Lib.hid (ih d _ S cs (hw.below hb) hc hz (hx.below hb))
  have HB := Lib.hid hb
  have hlen := txE_len _ d hc hx.wd
  obtain ⟨A, na, ca, O, no, co, rfl, hA, hO⟩ := hx.open_
  obtain ⟨t, ht⟩ : ∃ t, t = txE (.mk k n s m a o) := ⟨_, rfl⟩
  have e : opE (.mk k n s m a o) = if k = 5 ∨ k = 3 ∨ k = 4 ∨ (k = 6 ∧ 0 < no) then [40] ++ t ++ [41] else t := by
    rw [ht, hO.1.1]; rfl
  rw [← ht] at HT hlen
  obtain ⟨T, hT⟩ : ∃ T, T = opE (.mk k n s m a o) := ⟨_, rfl⟩
  rw [← hT]
  rw [e] at hT
  obtain ⟨c1, hc1⟩ : ∃ c, c = ([40] : Str) ++ t := ⟨_, rfl⟩
  have lc1 : c1.length = 1 + t.length := by rw [hc1]; exact List.length_append
  have jc1 : ∀ w, (Op.stringOp .add (⟨#[40]⟩ : ByteArray) (bs t)).run Tryz.prog w = .ok (.string (bs c1)) w := fun w => by rw [hc1]; exact add_big ([40] : Str) t (by first | omega | (simp; omega)) w
  obtain ⟨c2, hc2⟩ : ∃ c, c = c1 ++ ([41] : Str) := ⟨_, rfl⟩
  have lc2 : c2.length = c1.length + 1 := by rw [hc2]; exact List.length_append
  have jc2 : ∀ w, (Op.stringOp .add (bs c1) (⟨#[41]⟩ : ByteArray)).run Tryz.prog w = .ok (.string (bs c2)) w := fun w => by rw [hc2]; exact add_big c1 ([41] : Str) (by first | omega | (simp; omega)) w
  have hcc : c2 = [40] ++ t ++ [41] := by rw [hc2, hc1]
  rw [← hcc] at hT
  clear hb hw hc hz hx ih hA hO e ht hlen hc1 hc2 lc1 lc2 hcc
  unfold exC at HT HB ⊢
  by_cases k5 : k = 5
  · subst k5
    obtain rfl : T = c2 := by rw [hT, if_pos (by omega)]
    clear hT
    go_enter Tryz.func111, Tryz.ntmps111
    go_wp2_with fail
    refine HT.out.mono ?_
    rintro e w1 ⟨rfl, hb⟩
    go_wp2
    go_ret
    exact ⟨rfl, below_new hb⟩
  by_cases k3 : k = 3
  · subst k3
    obtain rfl : T = c2 := by rw [hT, if_pos (by omega)]
    clear hT
    go_enter Tryz.func111, Tryz.ntmps111
    go_wp2_with fail
    refine HT.out.mono ?_
    rintro e w1 ⟨rfl, hb⟩
    go_wp2
    go_ret
    exact ⟨rfl, below_new hb⟩
  by_cases k4 : k = 4
  · subst k4
    obtain rfl : T = c2 := by rw [hT, if_pos (by omega)]
    clear hT
    go_enter Tryz.func111, Tryz.ntmps111
    go_wp2_with fail
    refine HT.out.mono ?_
    rintro e w1 ⟨rfl, hb⟩
    go_wp2
    go_ret
    exact ⟨rfl, below_new hb⟩
  by_cases k6 : k = 6
  · subst k6
    by_cases no0 : 0 < (no : Int)
    · obtain rfl : T = c2 := by rw [hT, if_pos (by omega)]
      clear hT
      go_enter Tryz.func111, Tryz.ntmps111
      go_wp2_with fail
      refine HT.out.mono ?_
      rintro e w1 ⟨rfl, hb⟩
      go_wp2
      go_ret
      exact ⟨rfl, below_new hb⟩
    · obtain rfl : T = t := by rw [hT, if_neg (by omega)]
      clear hT jc1 jc2
      go_enter Tryz.func111, Tryz.ntmps111
      go_wp2_with fail
      refine HT.out.mono ?_
      rintro e w1 ⟨rfl, hb⟩
      go_wp2
      go_ret
      exact ⟨rfl, below_new hb⟩
  · obtain rfl : T = t := by rw [hT, if_neg (by omega)]
    have k51 : (k == 5) = false := by simp [k5]
    have k31 : (k == 3) = false := by simp [k3]
    have k41 : (k == 4) = false := by simp [k4]
    have k61 : (k == 6) = false := by simp [k6]
    clear hT jc1 jc2 k5 k3 k4 k6
    go_enter Tryz.func111, Tryz.ntmps111
    go_wp2_with fail
    refine HT.out.mono ?_
    rintro e w1 ⟨rfl, hb⟩
    go_wp2
    go_ret
    exact ⟨rfl, below_new hb⟩
theorem operAt_of {e : Ex} (h : TextAt e) : OperAt e := by
  obtain ⟨k, n, s, m, a, o⟩ := e
  exact fun d w S cs hw hc hz hx => operand_par k n s m a o d w S cs hw hc hz hx h
theorem texts_len {l : List Ex} {d : Int} (h : ∀ x ∈ l, chkE d x = 0) (hw : Ex.Wds l) (hz : Ex.sizes l ≤ 100000) : (Lib.join (l.map txE) [44, 32]).length ≤ 130 * Ex.sizes l + l.length * 2 := by
  have hA : (l.map fun x => (txE x).length).sum ≤ 130 * (l.map Ex.size).sum := sum_le _ _ _ _ fun x hx => txE_len x d (h x hx) (Ex.Wds_mem hw x hx)
  have hj := join_len [44, 32] (l.map txE)
  rw [List.map_map, List.length_map] at hj
  have hj' : (Lib.join (l.map txE) [44, 32]).length ≤ (l.map fun x => (txE x).length).sum + l.length * 2 := hj
  rw [sizes_sum]
  omega
theorem XL.wds {w : World} {S : Nat → Prop} {A : Option Addr} {n c : Nat} {l : List Ex} (h : XL w S A n c l) : Ex.Wds l := by
  cases l with
  | nil => rw [Ex.Wds]; trivial
  | cons e t =>
    obtain ⟨b, q, _, _, _, hx⟩ := h.2 (by rw [h.1.1]; simp)
    exact XLf.wd hx
theorem Ex.len_sizes : ∀ (l : List Ex), l.length ≤ Ex.sizes l
  | [] => Nat.zero_le _
  | e :: t => by
    have := Ex.len_sizes t
    obtain ⟨k, n, s, m, a, o⟩ := e
    rw [Ex.sizes, Ex.size, List.length_cons]
    omega
set_option maxRecDepth 100000 in
set_option maxHeartbeats 12800000 in
theorem listAt_of {l : List Ex} (h : ∀ x ∈ l, TextAt x) : ListAt l := by
  intro d w S A n c hw hc hz hl
  have HIN := Lib.hid h
  have HL := Lib.hid hl
  have HLN := Lib.hid hl.1.1
  have HWS := Lib.hid hw
  have HC := Lib.hid hc
  have HZ := Lib.hid hz
  have hn6 : (n : Int) ≤ 100000 := by have := hl.1.1; have := Ex.len_sizes l; omega
  have HJL := Lib.hid (texts_len hc hl.wds hz)
  have HO0 := Lib.hid (show OwnS w w.heap.size (.slice none 0 0) ((l.take 0).map txE) from World.ownsRow_nil _ _ _ _)
  have HB0 := Lib.hid (Below.refl w.heap.size w)
  obtain ⟨T, hT⟩ : ∃ T, T = Lib.join (l.map txE) [44, 32] := ⟨_, rfl⟩
  rw [← hT]
  have HT := Lib.hid hT
  clear h hl hw hc hz hT
  go_enter Tryz.func112, Tryz.ntmps112
  go_wp2_with fail
  go_loopw [3, 8] (fun vv i wr => ∃ k : Nat, k ≤ l.length ∧ i = .int .i64 k ∧ Hid (OwnS wr w.heap.size vv ((l.take k).map txE)) ∧ Hid (Below w.heap.size w wr)) (fun _ i _ => l.length - (intOf i).toNat)
  case atStart => exact ⟨0, Nat.zero_le _, rfl, HO0, HB0⟩
  case round =>
    clear HO0 HB0
    obtain ⟨k, hk, rfl, HO, HB⟩ := hrel
    by_cases hlt : k < l.length
    · have hi2 : (k : Int) < (n : Int) := by have := HLN.out; omega
      obtain ⟨x, b, off, cs, hx, rfl, hb, hS, hxv, hrow⟩ := HL.out.at k (by have := HLN.out; omega)
      have HQL := Lib.hid hlt
      have HXQ := Lib.hid hx
      have hmem := List.mem_of_getElem? hx
      have hbb := HB.out.alloc HB.out.size (.cells cs.toArray 27)
      have HTX := Lib.hid (HIN.out x hmem d _ S cs (HWS.out.below hbb) (HC.out x hmem) (by have := Ex.sizes_mem hmem; have := HZ.out; omega) (hxv.below hbb))
      have HBB := Lib.hid hbb
      obtain ⟨t, ht⟩ : ∃ t, t = txE x := ⟨_, rfl⟩
      rw [← ht] at HTX
      have HSN := Lib.hid (show (l.take (k + 1)).map txE = (l.take k).map txE ++ [t] by rw [List.take_add_one, hx, ht]; simp)
      have hrow2 := rangeAt_keep hrow (HB.out.block b hb)
      obtain ⟨xk, xn, xs, xm, xa, xo⟩ := x
      obtain ⟨A2, na2, ca2, O2, no2, co2, rfl, -, -⟩ := hxv.open_
      obtain ⟨e0, e1, e2, e3, e4, e5⟩ := exC_at hrow2
      have HK1 := Lib.hid (show Below wr.heap.size wr (wr.alloc (.cells (exC xk xn xs xm A2 na2 ca2 O2 no2 co2).toArray 27)) from (Below.refl _ _).alloc (Nat.le_refl _) _)
      clear hx hb hS hxv hrow hrow2 hlt hmem hbb ht
      unfold exC at HTX HBB HK1
      have HM := Lib.hid (show ((l.take k).map txE).length ≤ 100000 by rw [List.length_map, List.length_take]; have := Ex.len_sizes l; have := HZ.out; omega)
      have HLTK := Lib.hid (show ((l.take k).map txE).length + 1 ≤ 100000 by rw [List.length_map, List.length_take]; have := Ex.len_sizes l; have := HZ.out; have := HQL.out; omega)
      go_wp2_with fail
      refine HTX.out.mono ?_
      rintro e wo ⟨rfl, hbo⟩
      have zo : Bz (wr.alloc (.cells #[.int .i64 xk, .int .i64 xn, .string (bs xs), .string (bs xm), .slice A2 na2 ca2, .slice O2 no2 co2] 27)) wo := ⟨hbo⟩
      clear hbo e0 e1 e2 e3 e4 e5 HTX
      go_wp2_with ((at_builtin; refine as_any rfl (.tmp 12) (.tmp 15) rfl w.heap.size _ ((l.take k).map txE) rfl ?_ _ t rfl (lt_new _ _) (cell_new _ _) HLTK.out ?_ ?_))
      rotate_left
      rotate_left
      intro v3 w4 ho hg hv
      have hB4 := below_bz HBB.out (by assumption) hg (fun q hq => (HO.out.lt q hq).1)
      have HO4 := Lib.hid ho
      have HB4 := Lib.hid hB4
      clear ho hg hv hB4
      go_wp2
      go_roundw
      case rel => exact ⟨k + 1, HQL.out, by go_num, Lib.hid (by rw [HSN.out, List.map_take]; exact HO4.out), HB4⟩
      case measure => exact meas_up _ _ HQL.out
      · exact own_bz HO.out HK1.out (by assumption)
      · exact size_bz HB.out HK1.out (by assumption)
    · have hi2 : ¬ (k : Int) < (n : Int) := by have := HLN.out; omega
      have HF := Lib.hid (show l.take k = l from List.take_of_length_le (by omega))
      rw [HF.out] at HO
      have C4 := Lib.hid (join_own HO.out [44, 32] (by rw [List.length_map]; have := Ex.len_sizes l; have := HZ.out; omega) (by have := HJL.out; have := Ex.len_sizes l; have := HZ.out; omega))
      rw [← HT.out] at C4
      have C5 : Hid (∀ x : Unit, Calls Tryz.prog 26 #[_, .string ⟨#[44, 32]⟩] wr fun e w' => e = .returned (.string (bs T)) ∧ Below wr.heap.size wr w') := Lib.hid (fun _ => C4.out)
      clear C4 HT hlt hk
      go_wp2_with fail
      refine (C5.out ()).mono ?_
      rintro e w9 ⟨rfl, hb⟩
      have HB9 := Lib.hid (HB.out.trans (hb.mono HB.out.size))
      clear hb
      go_wp2
      go_ret
      exact ⟨rfl, HB9.out⟩
end Go.Proofs.YtkakbidllpjopaaGreatDoor
