/- Operations and programs in memory; the walk of Oper.wrong. Conditions: the table of keywords is laid (SxW); at most 1000000 parts. -/
import Derived.Test.YthfjkdgaiaokdaaDoorSxL
import Derived.Maps.AppendAt
set_option linter.unusedVariables false
set_option linter.unusedSimpArgs false
namespace Go.Proofs.YthfjkdgaiaokdaaDoor
open Go.RowKit

/-- A slice of structs, each of which meets R. -/
def RowOf (w : World) (S : Nat → Prop) (size : Nat) (A : Option Addr) (n c : Nat) (R : Nat → List Value → Prop) : Prop :=
  (n ≤ c ∧ (A = none → c = 0)) ∧ (0 < n → ∃ b q, A = some ⟨b, q, none⟩ ∧ b < w.heap.size ∧ S b ∧ ∀ i, i < n → ∃ cs, R i cs ∧ w.rangeAt b (q + i * size) cs)
theorem RowOf.keep {w w' : World} {S S' : Nat → Prop} {size n c : Nat} {A : Option Addr} {R R' : Nat → List Value → Prop} (h : RowOf w S size A n c R) (hs : w.heap.size ≤ w'.heap.size) (hk : ∀ b, b < w.heap.size → S b → w'.heap[b]? = w.heap[b]?) (hS : ∀ b, b < w.heap.size → S b → S' b) (hR : ∀ i cs, R i cs → R' i cs) : RowOf w' S' size A n c R' :=
  ⟨h.1, fun hn => by
    obtain ⟨b, q, e1, hb, hSb, hx⟩ := h.2 hn
    refine ⟨b, q, e1, Nat.lt_of_lt_of_le hb hs, hS b hb hSb, fun i hi => ?_⟩
    obtain ⟨cs, h1, h2⟩ := hx i hi
    exact ⟨cs, hR i cs h1, rangeAt_keep h2 (hk b hb hSb)⟩⟩
theorem RowOf.at {w : World} {S : Nat → Prop} {size n c : Nat} {A : Option Addr} {R : Nat → List Value → Prop} (h : RowOf w S size A n c R) (i : Nat) (hi : i < n) : ∃ b q cs, A = some ⟨b, q, none⟩ ∧ b < w.heap.size ∧ S b ∧ R i cs ∧ w.rangeAt b (q + i * size) cs := by
  obtain ⟨b, q, e1, hb, hS, hx⟩ := h.2 (by omega)
  obtain ⟨cs, h1, h2⟩ := hx i hi
  exact ⟨b, q, cs, e1, hb, hS, h1, h2⟩
/-- A slice of strings. -/
def SS (w : World) (S : Nat → Prop) (A : Option Addr) (n c : Nat) (l : List Str) : Prop := n = l.length ∧ RowOf w S 1 A n c fun i cs => ∃ s, l[i]? = some s ∧ cs = [.string (bs s)]
/-- An operation's cells. -/
def OV (w : World) (S : Nat → Prop) (o : Oper') (cs : List Value) : Prop := ∃ (P : Option Addr) (np cp : Nat) (B : Option Addr) (nb cb : Nat), cs = [.string (bs o.name), .slice P np cp, .slice B nb cb] ∧ SS w S P np cp o.params ∧ SL w S B nb cb o.body
/-- A slice of declarations. -/
def DL (w : World) (S : Nat → Prop) (A : Option Addr) (n c : Nat) (l : List Decl') : Prop := n = l.length ∧ RowOf w S 2 A n c fun i cs => ∃ d, l[i]? = some d ∧ cs = [.string (bs d.name), .string (bs d.kind)]
/-- A slice of operations. -/
def OL (w : World) (S : Nat → Prop) (A : Option Addr) (n c : Nat) (l : List Oper') : Prop := n = l.length ∧ RowOf w S 3 A n c fun i cs => ∃ o, l[i]? = some o ∧ OV w S o cs
/-- A program's value. -/
def PV (w : World) (S : Nat → Prop) (p : Prog') (v : Value) : Prop := ∃ (D : Option Addr) (nd cd : Nat) (O : Option Addr) (no co : Nat), v = .agg #[.slice D nd cd, .slice O no co] ∧ DL w S D nd cd p.stores ∧ OL w S O no co p.opers
section
variable {w w' : World} {S S' : Nat → Prop} {A : Option Addr} {n c : Nat}
theorem SS.keep {l : List Str} (h : SS w S A n c l) (hs : w.heap.size ≤ w'.heap.size) (hk : ∀ b, b < w.heap.size → S b → w'.heap[b]? = w.heap[b]?) (hS : ∀ b, b < w.heap.size → S b → S' b) : SS w' S' A n c l := ⟨h.1, h.2.keep hs hk hS fun _ _ h => h⟩
theorem DL.keep {l : List Decl'} (h : DL w S A n c l) (hs : w.heap.size ≤ w'.heap.size) (hk : ∀ b, b < w.heap.size → S b → w'.heap[b]? = w.heap[b]?) (hS : ∀ b, b < w.heap.size → S b → S' b) : DL w' S' A n c l := ⟨h.1, h.2.keep hs hk hS fun _ _ h => h⟩
theorem OV.keep {o : Oper'} {cs : List Value} (h : OV w S o cs) (hs : w.heap.size ≤ w'.heap.size) (hk : ∀ b, b < w.heap.size → S b → w'.heap[b]? = w.heap[b]?) (hS : ∀ b, b < w.heap.size → S b → S' b) : OV w' S' o cs := by
  obtain ⟨P, np, cp, B, nb, cb, h1, h2, h3⟩ := h
  exact ⟨P, np, cp, B, nb, cb, h1, h2.keep hs hk hS, SL.keep hs hk hS h3⟩
theorem OL.keep {l : List Oper'} (h : OL w S A n c l) (hs : w.heap.size ≤ w'.heap.size) (hk : ∀ b, b < w.heap.size → S b → w'.heap[b]? = w.heap[b]?) (hS : ∀ b, b < w.heap.size → S b → S' b) : OL w' S' A n c l :=
  ⟨h.1, h.2.keep hs hk hS fun _ _ h => by
    obtain ⟨o, h1, h2⟩ := h
    exact ⟨o, h1, h2.keep hs hk hS⟩⟩
theorem PV.keep {p : Prog'} {v : Value} (h : PV w S p v) (hs : w.heap.size ≤ w'.heap.size) (hk : ∀ b, b < w.heap.size → S b → w'.heap[b]? = w.heap[b]?) (hS : ∀ b, b < w.heap.size → S b → S' b) : PV w' S' p v := by
  obtain ⟨D, nd, cd, O, no, co, h1, h2, h3⟩ := h
  exact ⟨D, nd, cd, O, no, co, h1, h2.keep hs hk hS, h3.keep hs hk hS⟩
theorem PV.below {p : Prog'} {v : Value} (h : PV w S p v) (hb : Below w.heap.size w w') : PV w' S p v := h.keep hb.size (fun b hlt _ => hb.block b hlt) fun _ _ h => h
end
/-- The number of a program's parts. -/
def Oper'.size (o : Oper') : Nat := 1 + o.params.length + St.sizes o.body
def opSizes : List Oper' → Nat
  | [] => 0
  | o :: t => o.size + opSizes t
def Prog'.size (p : Prog') : Nat := p.stores.length + opSizes p.opers
theorem opSizes_mem {l : List Oper'} {o : Oper'} (h : o ∈ l) : o.size ≤ opSizes l := by
  induction l with
  | nil => cases h
  | cons a t ih =>
    rw [opSizes]
    rcases List.mem_cons.1 h with rfl | h
    · omega
    · have := ih h; omega
/-- An operation's error. -/
def operC (met : List Str) (o : Oper') : Int := if freshC met o.name false ≠ 0 then freshC met o.name false else if 4 < o.params.length then 15 else if freshL [] o.params ≠ 0 then freshL [] o.params else chkSs 1 o.body
theorem freshL_take_ok : ∀ {l met : List Str} {q : Nat} {x : Str}, l[q]? = some x → freshL met (l.take q) = 0 → freshC (met ++ l.take q) x false = 0 → freshL met (l.take (q + 1)) = 0
  | [], met, q, x, h, _, _ => by simp at h
  | e :: t, met, 0, x, h, _, h2 => by
    obtain rfl : e = x := by simpa using h
    simp only [List.take_zero, List.append_nil] at h2
    unfold freshC at h2
    simp only [List.take_succ_cons, List.take_zero, freshL]
    split at h2
    · cases h2
    · rename_i h3
      rw [if_neg (fun h => h3 (.inl h))]
      split at h2
      · cases h2
      · rename_i h4
        rw [if_neg h4]
  | e :: t, met, q + 1, x, h, h1, h2 => by
    rw [List.take_succ_cons, freshL] at h1 ⊢
    split at h1
    · cases h1
    · split at h1
      · cases h1
      · rename_i h3 h4
        rw [if_neg h3, if_neg h4]
        rw [List.take_succ_cons, show met ++ e :: t.take q = (met ++ [e]) ++ t.take q by simp] at h2
        exact freshL_take_ok (by simpa using h) h1 h2
theorem freshL_take_bad : ∀ {l met : List Str} {q : Nat} {x : Str}, l[q]? = some x → freshL met (l.take q) = 0 → freshC (met ++ l.take q) x false ≠ 0 → freshL met l = freshC (met ++ l.take q) x false
  | [], met, q, x, h, _, _ => by simp at h
  | e :: t, met, 0, x, h, _, h2 => by
    obtain rfl : e = x := by simpa using h
    simp only [List.take_zero, List.append_nil] at h2 ⊢
    unfold freshC at h2 ⊢
    rw [freshL]
    by_cases h3 : nameOk e = false
    · rw [if_pos h3, if_pos (.inl h3)]
    · rw [if_neg h3]
      have h5 : ¬ (nameOk e = false ∨ false = true) := by rintro (h | h); exact h3 h; cases h
      rw [if_neg h5] at h2 ⊢
      by_cases h4 : met.contains e = true
      · rw [if_pos h4, if_pos h4]
      · rw [if_neg h4] at h2
        exact absurd rfl h2
  | e :: t, met, q + 1, x, h, h1, h2 => by
    rw [List.take_succ_cons, freshL] at h1
    rw [freshL]
    split at h1
    · cases h1
    · split at h1
      · cases h1
      · rename_i h3 h4
        rw [if_neg h3, if_neg h4]
        rw [List.take_succ_cons, show met ++ e :: t.take q = (met ++ [e]) ++ t.take q by simp] at h2 ⊢
        exact freshL_take_bad (by simpa using h) h1 h2
theorem cells3 {w1 : World} {b : Nat} {t : TypeId} {v0 v1 v2 : Value} (h : w1.heap[b]? = some (.cells #[v0, v1, v2] t (0, 0))) : w1.cell? ⟨b, 0, none⟩ = some v0 ∧ w1.cell? ⟨b, 1, none⟩ = some v1 ∧ w1.cell? ⟨b, 2, none⟩ = some v2 := by
  refine ⟨?_, ?_, ?_⟩ <;> (rw [cell_of_row _ _ _ _ _ _ h]; rfl)
theorem grown_alloc (w : World) (X : Obj) (r : Option Nat) : w.grownBy (w.alloc X) r := Below.grown_ ((Below.refl _ _).alloc (Nat.le_refl _) X) r
set_option maxRecDepth 100000 in
set_option maxHeartbeats 12800000 in
theorem operWrong_any (w0 : World) (S : Nat → Prop) (g : Nat) (met : List Str) (o : Oper') (cs : List Value) (w : World) (hw : SxW w0) (hB : Below w0.heap.size w0 w) (hg : w0.heap.size ≤ g) (hm : NMap w g met) (ho : OV w0 S o cs) (hsz : St.sizes o.body ≤ 1000000) :
    Calls Tryd.prog 19 #[.agg cs.toArray, .map (some g)] w fun e w' => e = .returned (.int .i64 (operC met o)) ∧ NMap w' g (metN met o.name (freshC met o.name false)) ∧ Below w0.heap.size w0 w' ∧ w.grownBy w' (some g) := by
  have hmm := @run_makeMap Tryd.prog
  obtain ⟨s, ps, body⟩ := o
  obtain ⟨P, np, cp, B, nb, cb, rfl, hp, hb⟩ := ho
  have HB := Lib.hid hB
  have HWS := Lib.hid hw
  have HP := Lib.hid hp
  have HBO := Lib.hid hb
  have HM := Lib.hid hm
  have HLT := Lib.hid hm.lt
  have HG := Lib.hid hg
  have HSZ := Lib.hid hsz
  have HNP := Lib.hid hp.1
  obtain ⟨E, hE⟩ : ∃ E, E = operC met ⟨s, ps, body⟩ := ⟨_, rfl⟩
  rw [← hE]
  have HE := Lib.hid hE
  obtain ⟨C, hC⟩ : ∃ C, C = freshC met s false := ⟨_, rfl⟩
  have HC := Lib.hid hC
  have HIL := Lib.hid (stmtsWrong_any body)
  clear hw hB hg hm hp hb hsz hE hC
  dsimp only
  go_enter Tryd.func19, Tryd.ntmps19
  go_wp2_with fail
  obtain ⟨W0, hW0⟩ : ∃ W0 : World, W0 = w.alloc (.cells #[.string (bs s), .slice P np cp, .slice B nb cb] 41) := ⟨_, rfl⟩
  have HX0 := Lib.hid (show W0.heap[w.heap.size]? = some (.cells #[.string (bs s), .slice P np cp, .slice B nb cb] 41 (0, 0)) from by rw [hW0]; exact heap_alloc_new w _)
  have HG0 := Lib.hid (show w.grownBy W0 (some g) from by rw [hW0]; exact grown_alloc w _ _)
  have HB0 := Lib.hid (show Below w0.heap.size w0 W0 from by rw [hW0]; exact HB.out.alloc HB.out.size _)
  have HM0 := Lib.hid (show NMap W0 g met from by rw [hW0]; exact HM.out.keep (heap_alloc_old _ _ HLT.out))
  rw [← hW0]
  clear hW0
  refine (fresh_none g met s W0 (HWS.out.below HB0.out) HM0.out).mono ?_
  rintro e w1 ⟨rfl, hm1, hg1⟩
  rw [← HC.out] at hm1 ⊢
  have HM1 := Lib.hid hm1
  have HG1 := Lib.hid (HG0.out.trans hg1)
  have HB1 := Lib.hid (HB0.out.trans (grownBy.below hg1 HG.out HM0.out.lt))
  have HX1 := Lib.hid ((hg1.block w.heap.size (lt_of_block HX0.out) (by intro h; injection h with h; have := HLT.out; omega)).trans HX0.out)
  clear hm1 hg1 HX0 HG0 HB0 HM0 HM HB
  by_cases hC0 : C = 0
  rotate_left
  · have hC1 : (C != 0) = true := by simp [hC0]
    have HR := Lib.hid (show E = C by rw [HE.out, operC, ← HC.out, if_pos hC0])
    obtain ⟨c0, c1, c2⟩ := cells3 HX1.out
    go_wp2
    go_ret
    exact ⟨congrArg (fun v => Ending.returned (.int .i64 v)) HR.out.symm, by rw [← HC.out]; exact HM1.out, HB1.out, HG1.out⟩
  subst hC0
  have HM1' := Lib.hid (show NMap w1 g (met ++ [s]) from HM1.out)
  have HFIN := Lib.hid (show ∀ w', NMap w' g (met ++ [s]) → NMap w' g (metN met s (freshC met s false)) from fun w' h => by rw [← HC.out]; exact h)
  have HE2 := Lib.hid (show E = if 4 < ps.length then 15 else if freshL [] ps ≠ 0 then freshL [] ps else chkSs 1 body by rw [HE.out, operC, ← HC.out, if_neg (by simp)])
  clear HM1 HE HC
  obtain ⟨c0, c1, c2⟩ := cells3 HX1.out
  by_cases h4 : 4 < (np : Int)
  · have HR := Lib.hid (show E = 15 by rw [HE2.out, if_pos (by have := HNP.out; omega)])
    go_wp2
    go_ret
    exact ⟨congrArg (fun v => Ending.returned (.int .i64 v)) HR.out.symm, HFIN.out _ HM1'.out, HB1.out, HG1.out⟩
  have HE3 := Lib.hid (show E = if freshL [] ps ≠ 0 then freshL [] ps else chkSs 1 body by rw [HE2.out, if_neg (by have := HNP.out; omega)])
  clear HE2
  obtain ⟨-, d1, -⟩ := cells3 ((heap_alloc_old w1 (.map #[] 0) (lt_of_block HX1.out)).trans HX1.out)
  go_wp2_with fail
  obtain ⟨w2, hw2⟩ : ∃ w2 : World, w2 = w1.alloc (.map #[] 0) := ⟨_, rfl⟩
  have HMG : g < w1.heap.size := HM1'.out.lt
  have HXW := Lib.hid (show ∀ W, w2.grownBy W (some w1.heap.size) → (W.heap[w.heap.size]? = some (.cells #[.string (bs s), .slice P np cp, .slice B nb cb] 41 (0, 0))) ∧ NMap W g (met ++ [s]) ∧ Below w0.heap.size w0 W ∧ w.grownBy W (some g) from fun W h => by
    subst hw2
    have h1 : w1.grownBy W (some g) := ⟨h.os, h.tape, h.output, Nat.le_trans (by simp) h.size, fun i hi hne => (h.block i (by simp; omega) (by intro e; injection e with e; omega)).trans (heap_alloc_old _ _ hi)⟩
    refine ⟨?_, HM1'.out.keep ?_, ?_, HG1.out.trans h1⟩
    · exact (h1.block _ (lt_of_block HX1.out) (by intro e; injection e with e; have := HLT.out; omega)).trans HX1.out
    · exact (h.block g (by simp; omega) (by intro e; injection e with e; omega)).trans (heap_alloc_old _ _ HMG)
    · exact HB1.out.trans (grownBy.below h1 HG.out HMG))
  have HMN := Lib.hid (show NMap w2 w1.heap.size [] from by rw [hw2]; exact NMap.made w1)
  have HGR := Lib.hid (show w2.grownBy w2 (some w1.heap.size) from Below.grown_ (Below.refl _ _) _)
  rw [← hw2]
  clear hw2 HMG c0 c1 c2 d1 HX1 HM1' HB1 HG1 hmm
  go_loopw [25] (fun i wr => ∃ q : Nat, q ≤ ps.length ∧ i = .int .i64 q ∧ Hid (freshL [] (ps.take q) = 0) ∧ Hid (NMap wr w1.heap.size (ps.take q)) ∧ Hid (w2.grownBy wr (some w1.heap.size))) (fun i _ => ps.length - (intOf i).toNat)
  case atStart => exact ⟨0, Nat.zero_le _, rfl, Lib.hid (by rw [List.take_zero, freshL]), by rw [List.take_zero]; exact HMN, HGR⟩
  case round =>
    clear HMN HGR
    obtain ⟨q, hq, rfl, n1, n2, zr⟩ := hrel
    by_cases hl : q < ps.length
    · have hi2 : (q : Int) < (np : Int) := by have := HNP.out; omega
      obtain ⟨b, off, cs, rfl, hb, hS, ⟨x, hx, rfl⟩, hrow⟩ := HP.out.2.at q (by have := HNP.out; omega)
      have HQL := Lib.hid hl
      have HXQ := Lib.hid hx
      have e0 := rangeAt_keep hrow ((HXW.out _ zr.out).2.2.1.block b hb) 0 _ rfl
      simp only [Nat.mul_one, Nat.add_zero] at e0
      obtain ⟨v, hv⟩ : ∃ v, v = freshC (ps.take q) x false := ⟨_, rfl⟩
      have HV := Lib.hid hv
      have HC2 := fresh_none w1.heap.size (ps.take q) x _ (HWS.out.below (HXW.out _ zr.out).2.2.1) n2.out
      rw [← hv] at HC2
      have HC3 := Lib.hid HC2
      clear hx hb hS hrow hl hq hv HC2
      go_wp2_with fail
      refine HC3.out.mono ?_
      rintro e w3 ⟨rfl, hm3, hg3⟩
      have HM3 := Lib.hid hm3
      have HG3 := Lib.hid (zr.out.trans hg3)
      clear hm3 hg3 HC3 e0 zr n2
      by_cases hv0 : v = 0
      · subst hv0
        have HM4 := Lib.hid (show NMap w3 w1.heap.size (ps.take (q + 1)) by
          have := HM3.out
          have e : ps.take (q + 1) = ps.take q ++ [x] := by rw [List.take_add_one, HXQ.out]; rfl
          rw [e]; exact this)
        clear HM3
        go_wp2
        go_roundw
        case rel => exact ⟨q + 1, HQL.out, by go_num, Lib.hid (freshL_take_ok HXQ.out n1.out (by rw [List.nil_append]; exact HV.out.symm)), HM4, HG3⟩
        case measure => exact meas_up _ _ HQL.out
      · have hv1 : (v != 0) = true := by simp [hv0]
        have HR := Lib.hid (show E = v by
          have h := freshL_take_bad HXQ.out n1.out (by rw [List.nil_append, ← HV.out]; exact hv0)
          rw [List.nil_append, ← HV.out] at h
          rw [HE3.out, h, if_pos hv0])
        go_wp2
        go_ret
        exact ⟨congrArg (fun v => Ending.returned (.int .i64 v)) HR.out.symm, HFIN.out _ (HXW.out _ HG3.out).2.1, (HXW.out _ HG3.out).2.2⟩
    · have hi2 : ¬ (q : Int) < (np : Int) := by have := HNP.out; omega
      have HR := Lib.hid (show E = chkSs 1 body by
        have h : freshL [] ps = 0 := by rw [← n1.out, List.take_of_length_le (by omega)]
        rw [HE3.out, h, if_neg (by simp)])
      clear hl hq n1 n2
      obtain ⟨c0, c1, c2⟩ := cells3 (HXW.out _ zr.out).1
      go_wp2_with fail
      refine (HIL.out 1 _ S B nb cb (by decide) (by decide) (HWS.out.below (HXW.out _ zr.out).2.2.1) HSZ.out (HBO.out.below (HXW.out _ zr.out).2.2.1)).mono ?_
      rintro e w3 ⟨rfl, hb3⟩
      rw [← HR.out]
      have HG3 := Lib.hid (zr.out.trans (Below.grown_ hb3 _))
      clear hb3 c0 c1 c2 zr
      go_wp2
      go_ret
      exact ⟨rfl, HFIN.out _ (HXW.out _ HG3.out).2.1, (HXW.out _ HG3.out).2.2⟩
end Go.Proofs.YthfjkdgaiaokdaaDoor
