/- The walk of syntax.Check. Conditions: the table of keywords is laid (SxW); at most 1000000 parts. -/
import Derived.Test.YthfjkdgaiaokdaaDoorSxN
set_option linter.unusedVariables false
set_option linter.unusedSimpArgs false
namespace Go.Proofs.YthfjkdgaiaokdaaDoor
open Go.RowKit

section
variable {α : Type} {c : List Str → α → Int} {nm : α → Str}
/-- One after another, with the names met so far. -/
def runC (c : List Str → α → Int) (nm : α → Str) : List Str → List α → Int
  | _, [] => 0
  | met, x :: t => if c met x ≠ 0 then c met x else runC c nm (met ++ [nm x]) t
theorem runC_take_ok : ∀ {l : List α} {met : List Str} {q : Nat} {x : α}, l[q]? = some x → runC c nm met (l.take q) = 0 → c (met ++ (l.take q).map nm) x = 0 → runC c nm met (l.take (q + 1)) = 0
  | [], met, q, x, h, _, _ => by simp at h
  | e :: t, met, 0, x, h, _, h2 => by
    obtain rfl : e = x := by simpa using h
    simp only [List.take_zero, List.map_nil, List.append_nil] at h2
    simp only [List.take_succ_cons, List.take_zero, runC]
    rw [if_neg (by simp [h2])]
  | e :: t, met, q + 1, x, h, h1, h2 => by
    rw [List.take_succ_cons, runC] at h1 ⊢
    split at h1
    · exact absurd h1 (by assumption)
    · rename_i h3
      rw [if_neg h3]
      rw [List.take_succ_cons, List.map_cons, show met ++ nm e :: (t.take q).map nm = (met ++ [nm e]) ++ (t.take q).map nm by simp] at h2
      exact runC_take_ok (by simpa using h) h1 h2
theorem runC_take_bad : ∀ {l : List α} {met : List Str} {q : Nat} {x : α}, l[q]? = some x → runC c nm met (l.take q) = 0 → c (met ++ (l.take q).map nm) x ≠ 0 → runC c nm met l = c (met ++ (l.take q).map nm) x
  | [], met, q, x, h, _, _ => by simp at h
  | e :: t, met, 0, x, h, _, h2 => by
    obtain rfl : e = x := by simpa using h
    simp only [List.take_zero, List.map_nil, List.append_nil] at h2 ⊢
    rw [runC, if_pos h2]
  | e :: t, met, q + 1, x, h, h1, h2 => by
    rw [List.take_succ_cons, runC] at h1
    rw [runC]
    split at h1
    · exact absurd h1 (by assumption)
    · rename_i h3
      rw [if_neg h3]
      rw [List.take_succ_cons, List.map_cons, show met ++ nm e :: (t.take q).map nm = (met ++ [nm e]) ++ (t.take q).map nm by simp] at h2 ⊢
      exact runC_take_bad (by simpa using h) h1 h2
end
def declC (met : List Str) (d : Decl') : Int := freshC met d.name (!nameOk d.kind)
theorem storesL_run : ∀ (l : List Decl') (met : List Str), storesL met l = runC declC Decl'.name met l
  | [], met => by rw [storesL, runC]
  | d :: t, met => by
    rw [storesL, runC, storesL_run t, declC, freshC]
    by_cases h1 : nameOk d.name = false
    · simp [h1]
    · by_cases h2 : nameOk d.kind = false
      · simp [h2]
      · by_cases h3 : met.contains d.name = true
        · simp at h1 h2 h3; simp [h1, h2, h3]
        · simp at h1 h2 h3; simp [h1, h2, h3]
theorem opersL_run : ∀ (l : List Oper') (met : List Str), opersL met l = runC operC Oper'.name met l
  | [], met => by rw [opersL, runC]
  | o :: t, met => by
    rw [opersL, runC, opersL_run t]
    have e : operC met o = (if nameOk o.name = false then 16 else if met.contains o.name = true then 11 else if 4 < o.params.length then 15 else if freshL [] o.params ≠ 0 then freshL [] o.params else chkSs 1 o.body) := by
      rw [operC, freshC]
      by_cases h1 : nameOk o.name = false
      · simp [h1]
      · by_cases h3 : met.contains o.name = true
        · simp at h1 h3; simp [h1, h3]
        · simp at h1 h3; simp [h1, h3]
    rw [e]
    split
    · simp
    · split
      · simp
      · split
        · simp
        · split
          · rfl
          · rfl
theorem cells2 {w1 : World} {b : Nat} {t : TypeId} {v0 v1 : Value} (h : w1.heap[b]? = some (.cells #[v0, v1] t (0, 0))) : w1.cell? ⟨b, 0, none⟩ = some v0 ∧ w1.cell? ⟨b, 1, none⟩ = some v1 := by
  refine ⟨?_, ?_⟩ <;> (rw [cell_of_row _ _ _ _ _ _ h]; rfl)
/-- Few parts. -/
def Prog'.Few (p : Prog') : Prop := p.stores.length ≤ 1000000 ∧ p.opers.length ≤ 1000000 ∧ ∀ o ∈ p.opers, St.sizes o.body ≤ 1000000
set_option maxRecDepth 100000 in
set_option maxHeartbeats 12800000 in
theorem check_any (p : Prog') (v : Value) (S : Nat → Prop) (w : World) (hw : SxW w) (hp : PV w S p v) (hf : p.Few) :
    Calls Tryd.prog 10 #[v] w fun e w' => e = .returned (.int .i64 (chkP p)) ∧ Below w.heap.size w w' := by
  have hmm := @run_makeMap Tryd.prog
  obtain ⟨ds, os⟩ := p
  obtain ⟨D, nd, cd, O, no, co, rfl, hd, ho⟩ := hp
  dsimp only at hd ho
  have HWS := Lib.hid hw
  have HD := Lib.hid hd
  have HO := Lib.hid ho
  have HND := Lib.hid hd.1
  have HNO := Lib.hid ho.1
  have HFW := Lib.hid hf
  obtain ⟨E, hE⟩ : ∃ E, E = chkP ⟨ds, os⟩ := ⟨_, rfl⟩
  rw [← hE]
  rw [chkP, storesL_run, opersL_run] at hE
  have HE := Lib.hid hE
  clear hw hd ho hf hE
  dsimp only at HE
  have HB0 := Lib.hid (fun X => (Below.refl w.heap.size w).alloc (Nat.le_refl _) X)
  by_cases h12 : 12 < (nd : Int)
  · have HR := Lib.hid (show E = 15 by rw [HE.out, if_pos (.inl (by have := HND.out; omega))])
    go_enter Tryd.func10, Tryd.ntmps10
    go_wp2
    go_ret
    exact ⟨congrArg (fun v => Ending.returned (.int .i64 v)) HR.out.symm, HB0.out _⟩
  by_cases h32 : 32 < (no : Int)
  · have HR := Lib.hid (show E = 15 by rw [HE.out, if_pos (.inr (by have := HNO.out; omega))])
    go_enter Tryd.func10, Tryd.ntmps10
    go_wp2
    go_ret
    exact ⟨congrArg (fun v => Ending.returned (.int .i64 v)) HR.out.symm, HB0.out _⟩
  have HE2 := Lib.hid (show E = if runC declC Decl'.name [] ds ≠ 0 then runC declC Decl'.name [] ds else runC operC Oper'.name [] os by rw [HE.out, if_neg (by have := HND.out; have := HNO.out; omega)])
  clear HE
  go_enter Tryd.func10, Tryd.ntmps10
  go_wp2_with fail
  obtain ⟨w2, hw2⟩ : ∃ w2 : World, w2 = (w.alloc (.cells #[.slice D nd cd, .slice O no co] 25)).alloc (.map #[] 0) := ⟨_, rfl⟩
  have HXW := Lib.hid (show ∀ W, w2.grownBy W (some (w.heap.size + 1)) → (W.heap[w.heap.size]? = some (.cells #[.slice D nd cd, .slice O no co] 25 (0, 0))) ∧ Below w.heap.size w W ∧ w.heap.size + 2 ≤ W.heap.size from fun W h => by
    subst hw2
    have hz : ((w.alloc (.cells #[.slice D nd cd, .slice O no co] 25)).alloc (.map #[] 0)).heap.size = w.heap.size + 2 := by simp
    have h0 : ((w.alloc (.cells #[.slice D nd cd, .slice O no co] 25)).alloc (.map #[] 0)).heap[w.heap.size]? = some (.cells #[.slice D nd cd, .slice O no co] 25 (0, 0)) := (heap_alloc_old _ _ (by simp)).trans (heap_alloc_new _ _)
    have hb : Below w.heap.size w ((w.alloc (.cells #[.slice D nd cd, .slice O no co] 25)).alloc (.map #[] 0)) := (HB0.out _).alloc (by simp) _
    refine ⟨(h.block _ (by rw [hz]; omega) (by intro e; injection e with e; omega)).trans h0, hb.trans (grownBy.below h (Nat.le_succ _) (by rw [hz]; omega)), ?_⟩
    have := h.size
    omega)
  have HMN := Lib.hid (show NMap w2 (w.heap.size + 1) [] from by rw [hw2]; have := NMap.made (w.alloc (.cells #[.slice D nd cd, .slice O no co] 25)); rwa [show (w.alloc (.cells #[.slice D nd cd, .slice O no co] 25)).heap.size = w.heap.size + 1 by simp] at this)
  have HGR := Lib.hid (show w2.grownBy w2 (some (w.heap.size + 1)) from Below.grown_ (Below.refl _ _) _)
  rw [← hw2]
  clear hw2 HB0
  go_loopw [24] (fun i wr => ∃ q : Nat, q ≤ ds.length ∧ i = .int .i64 q ∧ Hid (runC declC Decl'.name [] (ds.take q) = 0) ∧ Hid (NMap wr (w.heap.size + 1) ((ds.take q).map Decl'.name)) ∧ Hid (w2.grownBy wr (some (w.heap.size + 1)))) (fun i _ => ds.length - (intOf i).toNat)
  case atStart => exact ⟨0, Nat.zero_le _, rfl, Lib.hid (by rw [List.take_zero, runC]), HMN, HGR⟩
  case round =>
    clear HMN HGR
    obtain ⟨q, hq, rfl, n1, n2, zr⟩ := hrel
    by_cases hl : q < ds.length
    · have hi2 : (q : Int) < (nd : Int) := by have := HND.out; omega
      obtain ⟨b, off, cs, rfl, hb, hS, ⟨x, hx, rfl⟩, hrow⟩ := HD.out.2.at q (by have := HND.out; omega)
      have HQL := Lib.hid hl
      have HXQ := Lib.hid hx
      have hrow2 := rangeAt_keep hrow ((HXW.out _ zr.out).2.1.block b hb)
      have e0 := hrow2 0 _ rfl
      have e1 := hrow2 1 _ rfl
      simp only [Nat.add_zero] at e0
      obtain ⟨vx, hv⟩ : ∃ v, v = declC ((ds.take q).map Decl'.name) x := ⟨_, rfl⟩
      have HV := Lib.hid hv
      obtain ⟨xn, xk⟩ := x
      clear hx hb hS hrow hrow2 hl hq hv
      dsimp only at e0 e1
      go_wp2_with fail
      obtain ⟨W3, hW3⟩ : ∃ W3 : World, W3 = (wr.alloc (.cells #[.string (bs xn), .string (bs xk)] 50)).alloc (.cells #[.string (bs xk)] 9) := ⟨_, rfl⟩
      have HGA := Lib.hid (show w2.grownBy W3 (some (w.heap.size + 1)) from by rw [hW3]; exact (zr.out.trans (grown_alloc _ _ _)).trans (grown_alloc _ _ _))
      have HMA := Lib.hid (show NMap W3 (w.heap.size + 1) ((ds.take q).map Decl'.name) from by
        rw [hW3]
        exact n2.out.keep ((heap_alloc_old _ _ (by have := (HXW.out _ zr.out).2.2; simp; omega)).trans (heap_alloc_old _ _ (by have := (HXW.out _ zr.out).2.2; omega))))
      have HKC := Lib.hid (show W3.cell? ⟨wr.heap.size + 1, 0, none⟩ = some (.string (bs xk)) ∧ wr.heap.size + 1 < W3.heap.size from by
        rw [hW3]
        have h := heap_alloc2_new wr (.cells #[.string (bs xn), .string (bs xk)] 50) (.cells #[.string (bs xk)] 9)
        exact ⟨by rw [cell_of_row _ _ _ _ _ _ h]; rfl, lt_of_block h⟩)
      rw [← hW3]
      clear hW3
      have HC2 := fresh_one (w.heap.size + 1) ((ds.take q).map Decl'.name) xn xk (wr.heap.size + 1) 0 1 W3 (HWS.out.below (HXW.out _ HGA.out).2.1) HMA.out HKC.out.2 HKC.out.1
      rw [show freshC ((ds.take q).map Decl'.name) xn (!nameOk xk) = vx from HV.out.symm] at HC2
      refine HC2.mono ?_
      rintro e w4 ⟨rfl, hm4, hg4⟩
      have HM4 := Lib.hid hm4
      have HG4 := Lib.hid (HGA.out.trans hg4)
      clear hm4 hg4 HC2 e0 e1 zr n2 HGA HMA HKC
      by_cases hv0 : vx = 0
      · subst hv0
        have HM5 := Lib.hid (show NMap w4 (w.heap.size + 1) ((ds.take (q + 1)).map Decl'.name) by
          have e : (ds.take (q + 1)).map Decl'.name = (ds.take q).map Decl'.name ++ [xn] := by rw [List.take_add_one, HXQ.out]; simp
          rw [e]; exact HM4.out)
        clear HM4
        go_wp2
        go_roundw
        case rel => exact ⟨q + 1, HQL.out, by go_num, Lib.hid (runC_take_ok HXQ.out n1.out (by rw [List.nil_append]; exact HV.out.symm)), HM5, HG4⟩
        case measure => exact meas_up _ _ HQL.out
      · have hv1 : (vx != 0) = true := by simp [hv0]
        have HR := Lib.hid (show E = vx by
          have h := runC_take_bad HXQ.out n1.out (by rw [List.nil_append, ← HV.out]; exact hv0)
          rw [List.nil_append, ← HV.out] at h
          rw [HE2.out, h, if_pos hv0])
        go_wp2
        go_ret
        exact ⟨congrArg (fun v => Ending.returned (.int .i64 v)) HR.out.symm, (HXW.out _ HG4.out).2.1⟩
    · have hi2 : ¬ (q : Int) < (nd : Int) := by have := HND.out; omega
      have HE3 := Lib.hid (show E = runC operC Oper'.name [] os by
        have h : runC declC Decl'.name [] ds = 0 := by rw [← n1.out, List.take_of_length_le (by omega)]
        rw [HE2.out, h, if_neg (by simp)])
      obtain ⟨wa, hwa⟩ : ∃ wa, wa = wr := ⟨_, rfl⟩
      subst hwa
      have HBX := Lib.hid (HXW.out _ zr.out)
      clear hl hq n1 n2 HE2 HXW zr HND
      obtain ⟨d0, d1⟩ := cells2 ((heap_alloc_old wa (.map #[] 0) (lt_of_block HBX.out.1)).trans HBX.out.1)
      go_wp2_with fail
      obtain ⟨w3, hw3⟩ : ∃ w3 : World, w3 = wa.alloc (.map #[] 0) := ⟨_, rfl⟩
      have HYW := Lib.hid (show ∀ W, w3.grownBy W (some wa.heap.size) → Below w.heap.size w W ∧ wa.heap.size + 1 ≤ W.heap.size from fun W h => by
        subst hw3
        have hz : (wa.alloc (.map #[] 0)).heap.size = wa.heap.size + 1 := by simp
        have h1 := h.size
        exact ⟨(HBX.out.2.1.alloc HBX.out.2.1.size _).trans (grownBy.below h HBX.out.2.1.size (by rw [hz]; omega)), by omega⟩)
      have HMN := Lib.hid (show NMap w3 wa.heap.size [] from by rw [hw3]; exact NMap.made wa)
      have HGR := Lib.hid (show w3.grownBy w3 (some wa.heap.size) from Below.grown_ (Below.refl _ _) _)
      rw [← hw3]
      clear hw3 d0 d1 hmm
      go_loopw [43] (fun i WQ => ∃ q : Nat, q ≤ os.length ∧ i = .int .i64 q ∧ Hid (runC operC Oper'.name [] (os.take q) = 0) ∧ Hid (NMap WQ wa.heap.size ((os.take q).map Oper'.name)) ∧ Hid (w3.grownBy WQ (some wa.heap.size))) (fun i _ => os.length - (intOf i).toNat)
      case atStart => exact ⟨0, Nat.zero_le _, rfl, Lib.hid (by rw [List.take_zero, runC]), HMN, HGR⟩
      case round =>
        clear HMN HGR
        obtain ⟨q, hq, rfl, n1, n2, zr⟩ := hrel
        by_cases hl : q < os.length
        · have hi2 : (q : Int) < (no : Int) := by have := HNO.out; omega
          obtain ⟨b, off, cs, rfl, hb, hS, ⟨x, hx, hov⟩, hrow⟩ := HO.out.2.at q (by have := HNO.out; omega)
          have HQL := Lib.hid hl
          have HXQ := Lib.hid hx
          have HOV := Lib.hid hov
          have HFX := Lib.hid (HFW.out.2.2 x (List.mem_of_getElem? hx))
          have hrow2 := rangeAt_keep hrow ((HYW.out _ zr.out).1.block b hb)
          obtain ⟨vx, hv⟩ : ∃ v, v = operC ((os.take q).map Oper'.name) x := ⟨_, rfl⟩
          have HV := Lib.hid hv
          obtain ⟨xn, xp, xb⟩ := x
          obtain ⟨P2, np2, cp2, B2, nb2, cb2, rfl, -, -⟩ := hov
          have e0 := hrow2 0 _ rfl
          have e1 := hrow2 1 _ rfl
          have e2 := hrow2 2 _ rfl
          simp only [Nat.add_zero] at e0
          dsimp only at e0 HOV
          clear hx hb hS hrow hrow2 hl hq hv
          go_wp2_with fail
          obtain ⟨W3, hW3⟩ : ∃ W3 : World, W3 = wr.alloc (.cells #[.string (bs xn), .slice P2 np2 cp2, .slice B2 nb2 cb2] 41) := ⟨_, rfl⟩
          have HGA := Lib.hid (show w3.grownBy W3 (some wa.heap.size) from by rw [hW3]; exact zr.out.trans (grown_alloc _ _ _))
          have HMA := Lib.hid (show NMap W3 wa.heap.size ((os.take q).map Oper'.name) from by
            rw [hW3]
            exact n2.out.keep (heap_alloc_old _ _ (by have := (HYW.out _ zr.out).2; omega)))
          rw [← hW3]
          clear hW3
          have HC2 := operWrong_any w S wa.heap.size ((os.take q).map Oper'.name) ⟨xn, xp, xb⟩ _ W3 HWS.out (HYW.out _ HGA.out).1 HBX.out.2.1.size HMA.out HOV.out HFX.out
          rw [← HV.out] at HC2
          refine HC2.mono ?_
          rintro e w4 ⟨rfl, hm4, -, hg4⟩
          have HM4 := Lib.hid hm4
          have HG4 := Lib.hid (HGA.out.trans hg4)
          clear hm4 hg4 HC2 e0 e1 e2 zr n2 HGA HMA
          by_cases hv0 : vx = 0
          · subst hv0
            have HM5 := Lib.hid (show NMap w4 wa.heap.size ((os.take (q + 1)).map Oper'.name) by
              have e : (os.take (q + 1)).map Oper'.name = (os.take q).map Oper'.name ++ [xn] := by rw [List.take_add_one, HXQ.out]; simp
              have h0 : freshC ((os.take q).map Oper'.name) xn false = 0 := by
                have h := HV.out.symm
                rw [operC] at h
                split at h
                · exact absurd h (by assumption)
                · rename_i h5; exact Classical.not_not.1 h5
              have h6 := HM4.out
              dsimp only at h6
              rw [h0] at h6
              rw [e]; exact h6)
            clear HM4
            go_wp2
            go_roundw
            case rel => exact ⟨q + 1, HQL.out, by go_num, Lib.hid (runC_take_ok HXQ.out n1.out (by rw [List.nil_append]; exact HV.out.symm)), HM5, HG4⟩
            case measure => exact meas_up _ _ HQL.out
          · have hv1 : (vx != 0) = true := by simp [hv0]
            have HR := Lib.hid (show E = vx by
              have h := runC_take_bad HXQ.out n1.out (by rw [List.nil_append, ← HV.out]; exact hv0)
              rw [List.nil_append, ← HV.out] at h
              rw [HE3.out, h])
            go_wp2
            go_ret
            exact ⟨congrArg (fun v => Ending.returned (.int .i64 v)) HR.out.symm, (HYW.out _ HG4.out).1⟩
        · have hi2 : ¬ (q : Int) < (no : Int) := by have := HNO.out; omega
          have HR := Lib.hid (show E = 0 by rw [HE3.out, ← n1.out, List.take_of_length_le (by omega)])
          clear hl hq n1 n2
          go_wp2
          go_ret
          exact ⟨congrArg (fun v => Ending.returned (.int .i64 v)) HR.out.symm, (HYW.out _ zr.out).1⟩
end Go.Proofs.YthfjkdgaiaokdaaDoor
