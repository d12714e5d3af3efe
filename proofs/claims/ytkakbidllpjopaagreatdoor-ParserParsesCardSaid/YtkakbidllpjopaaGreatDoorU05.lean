/- Operations and programs in memory; the walk of Oper.wrong. Conditions: the table of keywords is laid (SxW); at most 1000000 parts. Rows of a call's own, of whatever elements. No condition. The walks of the closure that args hands to commas, of commas with it, of args (printed by wip/genprj.py). No condition beyond the state. The walk of the parser's commas, once for whatever it is handed (printed by wip/genprk.py). No condition beyond the state. The walk of the parser's args, once for whatever expr answers (printed by wip/genprl.py). No condition beyond the state. The parser's expression functions answer what the pure parser answers (printed by wip/genprm.py). No condition beyond the state. The frames of the parser's statement functions; the walk of block, once for whatever statement answers (printed by wip/genprn.py). No condition beyond the state. The frames of statements' boxes (printed by wip/genpro.py). No condition beyond the state. -/
import Derived.Test.YtkakbidllpjopaaGreatDoorU04
import Derived.Maps.AppendAt
set_option linter.unusedVariables false
set_option linter.unusedSimpArgs false
set_option maxRecDepth 100000
set_option maxHeartbeats 12800000
namespace Go.Proofs.YtkakbidllpjopaaGreatDoor
open Go.RowKit
/-- A slice of structs, each of which meets R. -/
def RowOf (w : World) (S : Nat -> Prop) (size : Nat) (A : Option Addr) (n c : Nat) (R : Nat -> List Value -> Prop) : Prop :=
 (n <= c /\ (A = none -> c = 0)) /\ (0 < n -> ∃ b q, A = some ⟨b, q, none⟩ /\ b < w.heap.size /\ S b /\ ∀ i, i < n -> ∃ cs, R i cs /\ w.rangeAt b (q + i * size) cs)
theorem RowOf.keep {w w' : World} {S S' : Nat -> Prop} {size n c : Nat} {A : Option Addr} {R R' : Nat -> List Value -> Prop} (h : RowOf w S size A n c R) (hs : w.heap.size <= w'.heap.size) (hk : ∀ b, b < w.heap.size -> S b -> w'.heap[b]? = w.heap[b]?) (hS : ∀ b, b < w.heap.size -> S b -> S' b) (hR : ∀ i cs, R i cs -> R' i cs) : RowOf w' S' size A n c R' :=
 ⟨h.1, fun hn => by
  obtain ⟨b, q, e1, hb, hSb, hx⟩ := h.2 hn
  refine ⟨b, q, e1, Nat.lt_of_lt_of_le hb hs, hS b hb hSb, fun i hi => ?_⟩
  obtain ⟨cs, h1, h2⟩ := hx i hi
  exact ⟨cs, hR i cs h1, rangeAt_keep h2 (hk b hb hSb)⟩⟩
theorem RowOf.at {w : World} {S : Nat -> Prop} {size n c : Nat} {A : Option Addr} {R : Nat -> List Value -> Prop} (h : RowOf w S size A n c R) (i : Nat) (hi : i < n) : ∃ b q cs, A = some ⟨b, q, none⟩ /\ b < w.heap.size /\ S b /\ R i cs /\ w.rangeAt b (q + i * size) cs := by
 obtain ⟨b, q, e1, hb, hS, hx⟩ := h.2 (by omega)
 obtain ⟨cs, h1, h2⟩ := hx i hi
 exact ⟨b, q, cs, e1, hb, hS, h1, h2⟩
/-- A slice of strings. -/
def SS (w : World) (S : Nat -> Prop) (A : Option Addr) (n c : Nat) (l : List Str) : Prop := n = l.length /\ RowOf w S 1 A n c fun i cs => ∃ s, l[i]? = some s /\ cs = [.string (bs s)]
/-- An operation's cells. -/
def OV (w : World) (S : Nat -> Prop) (o : Oper') (cs : List Value) : Prop := ∃ (P : Option Addr) (np cp : Nat) (B : Option Addr) (nb cb : Nat), cs = [.string (bs o.name), .slice P np cp, .slice B nb cb] /\ SS w S P np cp o.params /\ SL w S B nb cb o.body
/-- A slice of declarations. -/
def DL (w : World) (S : Nat -> Prop) (A : Option Addr) (n c : Nat) (l : List Decl') : Prop := n = l.length /\ RowOf w S 2 A n c fun i cs => ∃ d, l[i]? = some d /\ cs = [.string (bs d.name), .string (bs d.kind)]
/-- A slice of operations. -/
def OL (w : World) (S : Nat -> Prop) (A : Option Addr) (n c : Nat) (l : List Oper') : Prop := n = l.length /\ RowOf w S 3 A n c fun i cs => ∃ o, l[i]? = some o /\ OV w S o cs
/-- A program's value. -/
def PV (w : World) (S : Nat -> Prop) (p : Prog') (v : Value) : Prop := ∃ (D : Option Addr) (nd cd : Nat) (O : Option Addr) (no co : Nat), v = .agg #[.slice D nd cd, .slice O no co] /\ DL w S D nd cd p.stores /\ OL w S O no co p.opers
section
variable {w w' : World} {S S' : Nat -> Prop} {A : Option Addr} {n c : Nat}
theorem SS.keep {l : List Str} (h : SS w S A n c l) (hs : w.heap.size <= w'.heap.size) (hk : ∀ b, b < w.heap.size -> S b -> w'.heap[b]? = w.heap[b]?) (hS : ∀ b, b < w.heap.size -> S b -> S' b) : SS w' S' A n c l := ⟨h.1, h.2.keep hs hk hS fun _ _ h => h⟩
theorem DL.keep {l : List Decl'} (h : DL w S A n c l) (hs : w.heap.size <= w'.heap.size) (hk : ∀ b, b < w.heap.size -> S b -> w'.heap[b]? = w.heap[b]?) (hS : ∀ b, b < w.heap.size -> S b -> S' b) : DL w' S' A n c l := ⟨h.1, h.2.keep hs hk hS fun _ _ h => h⟩
theorem OV.keep {o : Oper'} {cs : List Value} (h : OV w S o cs) (hs : w.heap.size <= w'.heap.size) (hk : ∀ b, b < w.heap.size -> S b -> w'.heap[b]? = w.heap[b]?) (hS : ∀ b, b < w.heap.size -> S b -> S' b) : OV w' S' o cs := by
 obtain ⟨P, np, cp, B, nb, cb, h1, h2, h3⟩ := h
 exact ⟨P, np, cp, B, nb, cb, h1, h2.keep hs hk hS, SL.keep hs hk hS h3⟩
theorem OL.keep {l : List Oper'} (h : OL w S A n c l) (hs : w.heap.size <= w'.heap.size) (hk : ∀ b, b < w.heap.size -> S b -> w'.heap[b]? = w.heap[b]?) (hS : ∀ b, b < w.heap.size -> S b -> S' b) : OL w' S' A n c l :=
 ⟨h.1, h.2.keep hs hk hS fun _ _ h => by
  obtain ⟨o, h1, h2⟩ := h
  exact ⟨o, h1, h2.keep hs hk hS⟩⟩
theorem PV.keep {p : Prog'} {v : Value} (h : PV w S p v) (hs : w.heap.size <= w'.heap.size) (hk : ∀ b, b < w.heap.size -> S b -> w'.heap[b]? = w.heap[b]?) (hS : ∀ b, b < w.heap.size -> S b -> S' b) : PV w' S' p v := by
 obtain ⟨D, nd, cd, O, no, co, h1, h2, h3⟩ := h
 exact ⟨D, nd, cd, O, no, co, h1, h2.keep hs hk hS, h3.keep hs hk hS⟩
theorem PV.below {p : Prog'} {v : Value} (h : PV w S p v) (hb : Below w.heap.size w w') : PV w' S p v := h.keep hb.size (fun b hlt _ => hb.block b hlt) fun _ _ h => h
end
/-- An operation's error. -/
def operC (met : List Str) (o : Oper') : Int := if freshC met o.name false ≠ 0 then freshC met o.name false else if 4 < o.params.length then 15 else if freshL [] o.params ≠ 0 then freshL [] o.params else chkSs 1 o.body
theorem freshL_take_ok : ∀ {l met : List Str} {q : Nat} {x : Str}, l[q]? = some x -> freshL met (l.take q) = 0 -> freshC (met ++ l.take q) x false = 0 -> freshL met (l.take (q + 1)) = 0
 | [], met, q, x, h, _, _ => by simp at h
 | e :: t, met, 0, x, h, _, h2 => by
  obtain rfl : e = x := by simpa using h
  simp only [List.take_zero, List.append_nil] at h2
  unfold freshC at h2
  simp only [List.take_succ_cons, List.take_zero, freshL]
  split at h2
  ·cases h2
  rename_i h3
  rw [if_neg (fun h => h3 (.inl h))]
  split at h2
  ·cases h2
  rename_i h4
  rw [if_neg h4]
 | e :: t, met, q + 1, x, h, h1, h2 => by
  rw [List.take_succ_cons, freshL] at h1 ⊢
  split at h1
  ·cases h1
  split at h1
  ·cases h1
  rename_i h3 h4
  rw [if_neg h3, if_neg h4]
  rw [List.take_succ_cons, show met ++ e :: t.take q = (met ++ [e]) ++ t.take q by simp] at h2
  exact freshL_take_ok (by simpa using h) h1 h2
theorem freshL_take_bad : ∀ {l met : List Str} {q : Nat} {x : Str}, l[q]? = some x -> freshL met (l.take q) = 0 -> freshC (met ++ l.take q) x false ≠ 0 -> freshL met l = freshC (met ++ l.take q) x false
 | [], met, q, x, h, _, _ => by simp at h
 | e :: t, met, 0, x, h, _, h2 => by
  obtain rfl : e = x := by simpa using h
  simp only [List.take_zero, List.append_nil] at h2 ⊢
  unfold freshC at h2 ⊢
  rw [freshL]
  by_cases h3 : nameOk e = false
  ·rw [if_pos h3, if_pos (.inl h3)]
  rw [if_neg h3]
  have h5 : ¬ (nameOk e = false ∨ false = true) := by rintro (h | h); exact h3 h; cases h
  rw [if_neg h5] at h2 ⊢
  by_cases h4 : met.contains e = true
  ·rw [if_pos h4, if_pos h4]
  rw [if_neg h4] at h2
  exact absurd rfl h2
 | e :: t, met, q + 1, x, h, h1, h2 => by
  rw [List.take_succ_cons, freshL] at h1
  rw [freshL]
  split at h1
  ·cases h1
  split at h1
  ·cases h1
  rename_i h3 h4
  rw [if_neg h3, if_neg h4]
  rw [List.take_succ_cons, show met ++ e :: t.take q = (met ++ [e]) ++ t.take q by simp] at h2 ⊢
  exact freshL_take_bad (by simpa using h) h1 h2
theorem cells3 {w1 : World} {b : Nat} {t : TypeId} {v0 v1 v2 : Value} (h : w1.heap[b]? = some (.cells #[v0, v1, v2] t (0, 0))) : w1.cell? ⟨b, 0, none⟩ = some v0 /\ w1.cell? ⟨b, 1, none⟩ = some v1 /\ w1.cell? ⟨b, 2, none⟩ = some v2 := by
 refine ⟨?_, ?_, ?_⟩ <;> (rw [cell_of_row _ _ _ _ _ _ h]; rfl)
theorem grown_alloc (w : World) (X : Obj) (r : Option Nat) : w.grownBy (w.alloc X) r := Below.grown_ ((Below.refl _ _).alloc (Nat.le_refl _) X) r
theorem operWrong_any (w0 : World) (S : Nat -> Prop) (g : Nat) (met : List Str) (o : Oper') (cs : List Value) (w : World) (hw : SxW w0) (hB : Below w0.heap.size w0 w) (hg : w0.heap.size <= g) (hm : NMap w g met) (ho : OV w0 S o cs) (hsz : St.sizes o.body <= 1000000) :
  Calls Tryz.prog 41 #[.agg cs.toArray, .map (some g)] w fun e w' => e = .returned (.int .i64 (operC met o)) /\ NMap w' g (metN met o.name (freshC met o.name false)) /\ Below w0.heap.size w0 w' /\ w.grownBy w' (some g) := by
 have hmm := @run_makeMap Tryz.prog
 obtain ⟨s, ps, body⟩ := o
 obtain ⟨P, np, cp, B, nb, cb, rfl, hp, hb⟩ := ho
 have HB := hI hB
 have HWS := hI hw
 have HP := hI hp
 have HBO := hI hb
 have HM := hI hm
 have HLT := hI hm.lt
 have HG := hI hg
 have HSZ := hI hsz
 have HNP := hI hp.1
 obtain ⟨E, hE⟩ : ∃ E, E = operC met ⟨s, ps, body⟩ := ⟨_, rfl⟩
 rw [<- hE]
 have HE := hI hE
 obtain ⟨C, hC⟩ : ∃ C, C = freshC met s false := ⟨_, rfl⟩
 have HC := hI hC
 have HIL := hI (stmtsWrong_any body)
 clear hw hB hg hm hp hb hsz hE hC
 dsimp only
 go_enter Tryz.func41, Tryz.ntmps41
 go_wp2_with fail
 obtain ⟨W0, hW0⟩ : ∃ W0 : World, W0 = w.alloc (.cells #[.string (bs s), .slice P np cp, .slice B nb cb] 76) := ⟨_, rfl⟩
 have HX0 := hI (show W0.heap[w.heap.size]? = some (.cells #[.string (bs s), .slice P np cp, .slice B nb cb] 76 (0, 0)) from by rw [hW0]; exact heap_alloc_new w _)
 have HG0 := hI (show w.grownBy W0 (some g) from by rw [hW0]; exact grown_alloc w _ _)
 have HB0 := hI (show Below w0.heap.size w0 W0 from by rw [hW0]; exact HB.out.alloc HB.out.size _)
 have HM0 := hI (show NMap W0 g met from by rw [hW0]; exact HM.out.keep (heap_alloc_old _ _ HLT.out))
 rw [<- hW0]
 clear hW0
 refine (fresh_none g met s W0 (HWS.out.below HB0.out) HM0.out).mono ?_
 rintro e w1 ⟨rfl, hm1, hg1⟩
 rw [<- HC.out] at hm1 ⊢
 have HM1 := hI hm1
 have HG1 := hI (HG0.out.trans hg1)
 have HB1 := hI (HB0.out.trans (grownBy.below hg1 HG.out HM0.out.lt))
 have HX1 := hI ((hg1.block w.heap.size (lt_of_block HX0.out) (by intro h; injection h with h; have := HLT.out; omega)).trans HX0.out)
 clear hm1 hg1 HX0 HG0 HB0 HM0 HM HB
 by_cases hC0 : C = 0
 rotate_left
 ·have hC1 : (C != 0) = true := by simp [hC0]
  have HR := hI (show E = C by rw [HE.out, operC, <- HC.out, if_pos hC0])
  obtain ⟨c0, c1, c2⟩ := cells3 HX1.out
  go_wp2
  go_ret
  exact ⟨congrArg (fun v => Ending.returned (.int .i64 v)) HR.out.symm, by rw [<- HC.out]; exact HM1.out, HB1.out, HG1.out⟩
 subst hC0
 have HM1' := hI (show NMap w1 g (met ++ [s]) from HM1.out)
 have HFIN := hI (show ∀ w', NMap w' g (met ++ [s]) -> NMap w' g (metN met s (freshC met s false)) from fun w' h => by rw [<- HC.out]; exact h)
 have HE2 := hI (show E = if 4 < ps.length then 15 else if freshL [] ps ≠ 0 then freshL [] ps else chkSs 1 body by rw [HE.out, operC, <- HC.out, if_neg (by simp)])
 clear HM1 HE HC
 obtain ⟨c0, c1, c2⟩ := cells3 HX1.out
 by_cases h4 : 4 < (np : Int)
 ·have HR := hI (show E = 15 by rw [HE2.out, if_pos (by have := HNP.out; omega)])
  go_wp2
  go_ret
  exact ⟨congrArg (fun v => Ending.returned (.int .i64 v)) HR.out.symm, HFIN.out _ HM1'.out, HB1.out, HG1.out⟩
 have HE3 := hI (show E = if freshL [] ps ≠ 0 then freshL [] ps else chkSs 1 body by rw [HE2.out, if_neg (by have := HNP.out; omega)])
 clear HE2
 obtain ⟨-, d1, -⟩ := cells3 ((heap_alloc_old w1 (.map #[] 0) (lt_of_block HX1.out)).trans HX1.out)
 go_wp2_with fail
 obtain ⟨w2, hw2⟩ : ∃ w2 : World, w2 = w1.alloc (.map #[] 0) := ⟨_, rfl⟩
 have HMG : g < w1.heap.size := HM1'.out.lt
 have HXW := hI (show ∀ W, w2.grownBy W (some w1.heap.size) -> (W.heap[w.heap.size]? = some (.cells #[.string (bs s), .slice P np cp, .slice B nb cb] 76 (0, 0))) /\ NMap W g (met ++ [s]) /\ Below w0.heap.size w0 W /\ w.grownBy W (some g) from fun W h => by
  subst hw2
  have h1 : w1.grownBy W (some g) := ⟨h.os, h.tape, h.output, Nat.le_trans (by simp) h.size, fun i hi hne => (h.block i (by simp; omega) (by intro e; injection e with e; omega)).trans (heap_alloc_old _ _ hi)⟩
  refine ⟨?_, HM1'.out.keep ?_, ?_, HG1.out.trans h1⟩
  ·exact (h1.block _ (lt_of_block HX1.out) (by intro e; injection e with e; have := HLT.out; omega)).trans HX1.out
  ·exact (h.block g (by simp; omega) (by intro e; injection e with e; omega)).trans (heap_alloc_old _ _ HMG)
  exact HB1.out.trans (grownBy.below h1 HG.out HMG))
 have HMN := hI (show NMap w2 w1.heap.size [] from by rw [hw2]; exact NMap.made w1)
 have HGR := hI (show w2.grownBy w2 (some w1.heap.size) from Below.grown_ (Below.refl _ _) _)
 rw [<- hw2]
 clear hw2 HMG c0 c1 c2 d1 HX1 HM1' HB1 HG1 hmm
 go_loopw [25] (fun i wr => ∃ q : Nat, q <= ps.length /\ i = .int .i64 q /\ Hid (freshL [] (ps.take q) = 0) /\ Hid (NMap wr w1.heap.size (ps.take q)) /\ Hid (w2.grownBy wr (some w1.heap.size))) (fun i _ => ps.length - (intOf i).toNat)
 case atStart => exact ⟨0, Nat.zero_le _, rfl, hI (by rw [List.take_zero, freshL]), by rw [List.take_zero]; exact HMN, HGR⟩
 case round =>
  clear HMN HGR
  obtain ⟨q, hq, rfl, n1, n2, zr⟩ := hrel
  by_cases hl : q < ps.length
  ·have hi2 : (q : Int) < (np : Int) := by have := HNP.out; omega
   obtain ⟨b, off, cs, rfl, hb, hS, ⟨x, hx, rfl⟩, hrow⟩ := HP.out.2.at q (by have := HNP.out; omega)
   have HQL := hI hl
   have HXQ := hI hx
   have e0 := rangeAt_keep hrow ((HXW.out _ zr.out).2.2.1.block b hb) 0 _ rfl
   simp only [Nat.mul_one, Nat.add_zero] at e0
   obtain ⟨v, hv⟩ : ∃ v, v = freshC (ps.take q) x false := ⟨_, rfl⟩
   have HV := hI hv
   have HC2 := fresh_none w1.heap.size (ps.take q) x _ (HWS.out.below (HXW.out _ zr.out).2.2.1) n2.out
   rw [<- hv] at HC2
   have HC3 := hI HC2
   clear hx hb hS hrow hl hq hv HC2
   go_wp2_with fail
   refine HC3.out.mono ?_
   rintro e w3 ⟨rfl, hm3, hg3⟩
   have HM3 := hI hm3
   have HG3 := hI (zr.out.trans hg3)
   clear hm3 hg3 HC3 e0 zr n2
   by_cases hv0 : v = 0
   ·subst hv0
    have HM4 := hI (show NMap w3 w1.heap.size (ps.take (q + 1)) by
     have := HM3.out
     have e : ps.take (q + 1) = ps.take q ++ [x] := by rw [List.take_add_one, HXQ.out]; rfl
     rw [e]; exact this)
    clear HM3
    go_wp2
    go_roundw
    case rel => exact ⟨q + 1, HQL.out, by go_num, hI (freshL_take_ok HXQ.out n1.out (by rw [List.nil_append]; exact HV.out.symm)), HM4, HG3⟩
    case measure => exact meas_up _ _ HQL.out
   have hv1 : (v != 0) = true := by simp [hv0]
   have HR := hI (show E = v by
    have h := freshL_take_bad HXQ.out n1.out (by rw [List.nil_append, <- HV.out]; exact hv0)
    rw [List.nil_append, <- HV.out] at h
    rw [HE3.out, h, if_pos hv0])
   go_wp2
   go_ret
   exact ⟨congrArg (fun v => Ending.returned (.int .i64 v)) HR.out.symm, HFIN.out _ (HXW.out _ HG3.out).2.1, (HXW.out _ HG3.out).2.2⟩
  have hi2 : ¬ (q : Int) < (np : Int) := by have := HNP.out; omega
  have HR := hI (show E = chkSs 1 body by
   have h : freshL [] ps = 0 := by rw [<- n1.out, List.take_of_length_le (by omega)]
   rw [HE3.out, h, if_neg (by simp)])
  clear hl hq n1 n2
  obtain ⟨c0, c1, c2⟩ := cells3 (HXW.out _ zr.out).1
  go_wp2_with fail
  refine (HIL.out 1 _ S B nb cb (by decide) (by decide) (HWS.out.below (HXW.out _ zr.out).2.2.1) HSZ.out (HBO.out.below (HXW.out _ zr.out).2.2.1)).mono ?_
  rintro e w3 ⟨rfl, hb3⟩
  rw [<- HR.out]
  have HG3 := hI (zr.out.trans (Below.grown_ hb3 _))
  clear hb3 c0 c1 c2 zr
  go_wp2
  go_ret
  exact ⟨rfl, HFIN.out _ (HXW.out _ HG3.out).2.1, (HXW.out _ HG3.out).2.2⟩
open Go.RowKit
theorem flatG (n : Nat) : ∀ (css : List (List Value)), (∀ cs ∈ css, cs.length = n) -> ∀ (j : Nat) (cs : List Value), css[j]? = some cs -> ∀ (r : Nat) (u : Value), cs[r]? = some u -> css.flatten[j * n + r]? = some u
 | [], _, j, cs, h, _, _, _ => by simp at h
 | c :: t, hl, 0, cs, h, r, u, hu => by
  obtain rfl : c = cs := by simpa using h
  rw [List.flatten_cons, List.getElem?_append_left (by have := (List.getElem?_eq_some_iff.1 hu).1; omega)]
  simpa using hu
 | c :: t, hl, j + 1, cs, h, r, u, hu => by
  have hc := hl c (by simp)
  rw [List.flatten_cons, List.getElem?_append_right (by rw [hc, Nat.succ_mul]; omega), hc, show (j + 1) * n + r - n = j * n + r by rw [Nat.succ_mul]; omega]
  exact flatG n t (fun x hx => hl x (by simp [hx])) j cs (by simpa using h) r u hu
/-- A way to stand in memory, of so many cells. -/
structure VOk {α : Type} (V : World -> (Nat -> Prop) -> α -> List Value -> Prop) (size : Nat) : Prop where
 keep : ∀ {w w' : World} {S S' : Nat -> Prop} {x : α} {cs : List Value}, w.heap.size <= w'.heap.size -> (∀ b, b < w.heap.size -> S b -> w'.heap[b]? = w.heap[b]?) -> (∀ b, b < w.heap.size -> S b -> S' b) -> V w S x cs -> V w' S' x cs
 len : ∀ {w : World} {S : Nat -> Prop} {x : α} {cs : List Value}, V w S x cs -> cs.length = size
 one : ∀ {w : World} {S : Nat -> Prop} {x : α} {cs : List Value}, V w S x cs -> ∀ u ∈ cs, u.oneCell' = true
theorem okXV : VOk XV 6 := ⟨fun h1 h2 h3 h => XV.keep h1 h2 h3 h, fun h => h.len, fun h => h.one⟩
theorem okSV : VOk SV 11 := ⟨fun h1 h2 h3 h => SV.keep h1 h2 h3 h, fun h => h.len, fun h => h.one⟩
/-- A string's cell. -/
def StV (w : World) (S : Nat -> Prop) (s : Str) (cs : List Value) : Prop := cs = [.string (bs s)]
theorem okStV : VOk StV 1 := ⟨fun _ _ _ h => h, fun h => by rw [h]; rfl, fun h => by rw [h]; simp [Value.oneCell']⟩
/-- A declaration's cells. -/
def DcV (w : World) (S : Nat -> Prop) (d : Decl') (cs : List Value) : Prop := cs = [.string (bs d.name), .string (bs d.kind)]
theorem okDcV : VOk DcV 2 := ⟨fun _ _ _ h => h, fun h => by rw [h]; rfl, fun h => by rw [h]; simp [Value.oneCell']⟩
theorem okOV : VOk OV 3 := ⟨fun h1 h2 h3 h => h.keep h1 h2 h3, fun h => by obtain ⟨P, np, cp, B, nb, cb, rfl, _⟩ := h; rfl, fun h => by obtain ⟨P, np, cp, B, nb, cb, rfl, _⟩ := h; simp [Value.oneCell']⟩
/-- A row of the call's own that holds these. -/
def OwnG {α : Type} (V : World -> (Nat -> Prop) -> α -> List Value -> Prop) (e : TypeId) (size : Nat) (w : World) (base : Nat) (v : Value) (l : List α) : Prop := ∃ css : List (List Value), css.length = l.length /\ w.ownsRow base e size v l.length css.flatten /\ (∀ cs ∈ css, cs.length = size) /\ ∀ (i : Nat) (x : α), l[i]? = some x -> ∃ cs, css[i]? = some cs /\ V w (fun b => base <= b /\ v.ownBlock ≠ some b) x cs
section
variable {α : Type} {V : World -> (Nat -> Prop) -> α -> List Value -> Prop} {e : TypeId} {size : Nat} {w w' : World} {base : Nat} {v : Value} {l : List α}
theorem OwnG.nil (w : World) (base : Nat) : OwnG V e size w base (.slice none 0 0) [] := by
 refine ⟨[], rfl, World.ownsRow_nil _ _ _ _, ?_, ?_⟩
 ·intro cs h
  cases h
 intro i x h
 simp at h
theorem OwnG.lt (h : OwnG V e size w base v l) : ∀ k, v.ownBlock = some k -> base <= k /\ k < w.heap.size := by
 obtain ⟨css, h1, h2, h3, h4⟩ := h
 exact fun k hk => h2.lt k hk
theorem OwnG.gr (hV : VOk V size) (h : OwnG V e size w base v l) {r : Option Nat} (hg : w.grownBy w' r) (hr : ∀ k, r = some k -> k < base) : OwnG V e size w' base v l := by
 have hlt := h.lt
 obtain ⟨css, h1, h2, h3, h4⟩ := h
 refine ⟨css, h1, World.ownsRow.kept h2 hg ?_, h3, fun i x hx => ?_⟩
 ·cases hv : v.ownBlock with
  | none => exact .inl rfl
  | some k => exact .inr fun e => by have := hr k e.symm; have := (hlt k hv).1; omega
 obtain ⟨cs, e1, e2⟩ := h4 i x hx
 exact ⟨cs, e1, hV.keep hg.size (fun b hb hS => hg.block b hb fun e => by have := hr b e.symm; have := hS.1; omega) (fun _ _ h => h) e2⟩
theorem OwnG.below (hV : VOk V size) (h : OwnG V e size w base v l) (hb : Below w.heap.size w w') : OwnG V e size w' base v l := h.gr hV (Below.grown_ hb none) (fun k e => by cases e)
theorem OwnG.row (hV : VOk V size) (h : OwnG V e size w base v l) : ∃ A c, v = .slice A l.length c /\ RowOf w (fun b => base <= b) size A l.length c fun i cs => ∃ x, l[i]? = some x /\ V w (fun b => base <= b) x cs := by
 obtain ⟨css, h1, h2, h3, h4⟩ := h
 obtain ⟨A, c, rfl, hc, hA, hR⟩ := own_reads (S := fun b => base <= b) h2 (fun _ h => h)
 refine ⟨A, c, rfl, ⟨hc, hA⟩, fun hn => ?_⟩
 obtain ⟨b, o, rfl, hb, hS, hcell⟩ := hR.2 hn
 refine ⟨b, o, rfl, hb, hS, fun j hj => ?_⟩
 obtain ⟨cs, e1, e2⟩ := h4 j _ (List.getElem?_eq_getElem hj)
 refine ⟨cs, ⟨_, List.getElem?_eq_getElem hj, hV.keep (Nat.le_refl _) (fun _ _ _ => rfl) (fun b _ h => h.1) e2⟩, fun r u hu => ?_⟩
 have := hcell _ _ (flatG size css h3 j cs e1 r u hu)
 rw [show o + j * size + r = o + (j * size + r) by omega]
 exact this
theorem OwnG.push {w1 w2 : World} {lo : Nat} {v' : Value} {x : α} {cs : List Value} (hV : VOk V size) (h : ∃ css : List (List Value), css.length = l.length /\ (∀ cs ∈ css, cs.length = size) /\ (∀ (i : Nat) (x : α), l[i]? = some x -> ∃ cs, css[i]? = some cs /\ V w1 (fun b => base <= b /\ v.ownBlock ≠ some b) x cs) /\ w2.ownsRow base e size v' (l.length + 1) (css.flatten ++ cs))
  (hv : ∀ k, v.ownBlock = some k -> k < lo) (hlo : base <= lo) (hx : V w1 (fun b => lo <= b) x cs) (hg : w1.grownBy w2 v.ownBlock) (ho : v'.ownBlock = v.ownBlock ∨ v'.ownBlock = some w1.heap.size) : OwnG V e size w2 base v' (l ++ [x]) := by
 obtain ⟨css, h1, h3, h4, h2⟩ := h
 have keep : ∀ {y : α} {ds : List Value}, V w1 (fun b => base <= b /\ v.ownBlock ≠ some b) y ds -> V w2 (fun b => base <= b /\ v'.ownBlock ≠ some b) y ds := fun hy =>
  hV.keep hg.size (fun b hb hS => hg.block b hb (fun e => hS.2 e.symm)) (fun b hb hS => ⟨hS.1, by
   rcases ho with e | e
   ·rw [e]; exact hS.2
   rw [e]; intro e2; injection e2 with e2; omega⟩) hy
 refine ⟨css ++ [cs], by simp [h1], by rw [List.length_append, List.flatten_append]; simpa using h2, fun ds hd => ?_, fun i y hy => ?_⟩
 ·rcases List.mem_append.1 hd with h | h
  ·exact h3 ds h
  rw [List.mem_singleton.1 h]; exact hV.len hx
 by_cases hi : i < l.length
 ·rw [List.getElem?_append_left hi] at hy
  obtain ⟨ds, e1, e2⟩ := h4 i y hy
  exact ⟨ds, by rw [List.getElem?_append_left (by omega)]; exact e1, keep e2⟩
 have hil : i = l.length := by have := (List.getElem?_eq_some_iff.1 hy).1; simp at this; omega
 subst hil
 obtain rfl : x = y := by simpa using hy
 exact ⟨cs, by rw [<- h1]; simp, keep (hV.keep (Nat.le_refl _) (fun _ _ _ => rfl) (fun b _ h => ⟨Nat.le_trans hlo h, fun e => by have := hv b e; omega⟩) hx)⟩
theorem flatTk {n : Nat} : ∀ (css : List (List Value)) (k : Nat), (∀ cs ∈ css, cs.length = n) -> css.flatten.take (k * n) = (css.take k).flatten
 | [], k, _ => by simp
 | c :: t, 0, _ => by simp
 | c :: t, k + 1, h => by
  have hc := h c (by simp)
  have ih := flatTk t k fun x hx => h x (by simp [hx])
  rw [List.flatten_cons, List.take_succ_cons, List.flatten_cons, List.take_append, hc, show (k + 1) * n - n = k * n by rw [Nat.succ_mul]; omega, ih, List.take_of_length_le (by rw [hc, Nat.succ_mul]; omega)]
/-- The row's last element written anew. -/
theorem OwnG.put {y x : α} {cs : List Value} {lo : Nat} (hV : VOk V size) (h : OwnG V e size w base v (l ++ [y])) (hx : V w (fun k => lo <= k /\ v.ownBlock ≠ some k) x cs) (hlo : base <= lo) :
  ∃ b cap cur, v = .slice (some ⟨b, 0, none⟩) (l.length + 1) cap /\ base <= b /\ l.length + 1 <= cap /\ w.heap[b]? = some (.cells cur e (0, 0)) /\ l.length * size + size <= cur.size /\
   OwnG V e size (w.setRow b (cur.toList.take (l.length * size) ++ cs ++ cur.toList.drop (l.length * size + size)).toArray) base v (l ++ [x]) /\ w.grownBy (w.setRow b (cur.toList.take (l.length * size) ++ cs ++ cur.toList.drop (l.length * size + size)).toArray) (some b) := by
 have hcl := hV.len hx
 obtain ⟨css, c1, c2, c3, c4⟩ := h
 rw [List.length_append, List.length_singleton] at c1 c2
 rcases c2.2 with hn | ⟨b, cap, cur, rfl, hb, hg, hnc, hcm, hsz, htk⟩
 ·have := hn.2; omega
 have hbig : l.length * size + size <= cur.size := by rw [hsz, <- Nat.succ_mul]; exact Nat.mul_le_mul_right _ hnc
 have gr : w.grownBy (w.setRow b (cur.toList.take (l.length * size) ++ cs ++ cur.toList.drop (l.length * size + size)).toArray) (some b) := ⟨rfl, rfl, rfl, Nat.le_of_eq (by simp [World.setRow]), fun k _ hk => setRow_other _ _ _ _ (fun e => hk (by rw [e]))⟩
 have hlen : (cur.toList.take (l.length * size) ++ cs ++ cur.toList.drop (l.length * size + size)).length = cur.size := by simp [hcl]; omega
 have hA : cur.toList.take (l.length * size) = (css.take l.length).flatten := by
  rw [<- flatTk css l.length c3, <- htk, List.take_take, Nat.min_eq_left (Nat.mul_le_mul_right _ (by omega))]
 have hAl : (cur.toList.take (l.length * size)).length = l.length * size := by have hcs : cur.toList.length = cur.size := Array.length_toList; rw [List.length_take, hcs]; omega
 refine ⟨b, cap, cur, rfl, hb, hnc, hg, hbig, ⟨css.take l.length ++ [cs], by simp [c1], ⟨?_, .inr ⟨b, cap, _, by rw [List.length_append, List.length_singleton], hb, setRow_heap _ _ _ _ _ _ hg, by simpa using hnc, hcm, by rw [List.size_toArray, hlen, hsz], ?_⟩⟩, ?_, ?_⟩, gr⟩
 ·rw [List.flatten_append, List.length_append, <- hA, hAl, List.length_append, List.length_singleton, Nat.succ_mul]
  simp [hcl]
 ·rw [List.flatten_append, <- hA, List.length_append, List.length_singleton, List.take_append_of_le_length (by rw [List.length_append, hAl, hcl, Nat.succ_mul]; exact Nat.le_refl _), List.take_of_length_le (by rw [List.length_append, hAl, hcl, Nat.succ_mul]; exact Nat.le_refl _)]
  simp
 ·intro ds hd
  rcases List.mem_append.1 hd with h | h
  ·exact c3 ds (List.mem_of_mem_take h)
  rw [List.mem_singleton.1 h]; exact hcl
 intro i z hz
 have keep : ∀ {S : Nat -> Prop} {z : α} {ds : List Value}, (∀ k, S k -> base <= k /\ k ≠ b) -> V w S z ds -> V (w.setRow b (cur.toList.take (l.length * size) ++ cs ++ cur.toList.drop (l.length * size + size)).toArray) (fun k => base <= k /\ (Value.slice (some ⟨b, 0, none⟩) (l.length + 1) cap).ownBlock ≠ some k) z ds := fun hS hz =>
  hV.keep gr.size (fun k hk hs => gr.block k hk (fun e => (hS k hs).2 (Option.some.inj e))) (fun k _ hs => ⟨(hS k hs).1, fun e => (hS k hs).2 (Option.some.inj e).symm⟩) hz
 by_cases hi : i < l.length
 ·rw [List.getElem?_append_left hi] at hz
  obtain ⟨ds, e1, e2⟩ := c4 i z (by rw [List.getElem?_append_left hi]; exact hz)
  exact ⟨ds, by rw [List.getElem?_append_left (by simp [c1]; omega), List.getElem?_take_of_lt hi]; exact e1, keep (fun k hk => ⟨hk.1, fun e => hk.2 (by rw [e]; rfl)⟩) e2⟩
 have hil : i = l.length := by have := (List.getElem?_eq_some_iff.1 hz).1; simp at this; omega
 subst hil
 obtain rfl : x = z := by simpa using hz
 have htl : (css.take l.length).length = l.length := by rw [List.length_take, c1]; omega
 exact ⟨cs, by rw [List.getElem?_append_right (by omega), htl, Nat.sub_self]; rfl, keep (fun k hk => ⟨Nat.le_trans hlo hk.1, fun e => hk.2 (by rw [e]; rfl)⟩) hx⟩
/-- What append needs to know of the element's type. -/
def AppOk (t e : TypeId) (size : Nat) : Prop := Tryz.prog.underlying t = some (.slice e) /\ 0 < size /\ ∃ (i : TypeInfo) (z : Value) (bytes : Nat), Tryz.prog.info? e = some i /\ i.zero = some z /\ i.size = size /\ i.bytes = bytes /\ z.cells.size = size /\ bytes <= 1000
theorem AppOk.mk_ {t e : TypeId} {size : Nat} (h1 : Tryz.prog.underlying t = some (.slice e)) (h2 : 0 < size) (h3 : (Tryz.prog.info? e).any (fun i => i.size == size && decide (i.bytes <= 1000) && (i.zero.any fun z => z.cells.size == size)) = true) : AppOk t e size := by
 cases hi : Tryz.prog.info? e with
 | none => rw [hi] at h3; cases h3
 | some i =>
  rw [hi] at h3
  simp only [Option.any_some, Bool.and_eq_true, beq_iff_eq, decide_eq_true_eq] at h3
  cases hz : i.zero with
  | none => rw [hz] at h3; simp at h3
  | some z =>
   rw [hz] at h3
   simp only [Option.any_some, beq_iff_eq] at h3
   exact ⟨h1, h2, i, z, i.bytes, hi, hz, h3.1.1, rfl, h3.2, h3.1.2⟩
/-- append of one element onto a row of the call's own. -/
theorem OwnG.app {t ty : TypeId} (hV : VOk V size) (hA : AppOk t e size) (h : OwnG V e size w base v l) (lo q : Nat) (x : α) (cs : List Value) (hq : q < w.heap.size) (hc : w.rangeAt q 0 cs) (hx : V w (fun b => lo <= b) x cs) (hn : l.length + 1 <= 1000000) (hb : base <= w.heap.size) (hv : ∀ k, v.ownBlock = some k -> k < lo) (hlo : base <= lo) :
  ∃ v' w', (Builtin.append_ #[t, t] ty #[v, .slice (some ⟨q, 0, none⟩) 1 1]).run Tryz.prog w = .ok v' w' /\ OwnG V e size w' base v' (l ++ [x]) /\ w.grownBy w' v.ownBlock /\ (v'.ownBlock = v.ownBlock ∨ v'.ownBlock = some w.heap.size) := by
 obtain ⟨css, c1, c2, c3, c4⟩ := h
 obtain ⟨ht, hs0, i, z, bytes, hi, hz, his, hib, hzs, hbb⟩ := hA
 have hR : Reads w (fun _ => True) size (some ⟨q, 0, none⟩) 1 cs := ⟨by rw [hV.len hx]; omega, fun _ => ⟨q, 0, rfl, hq, trivial, fun j y hy => by have := hc j y hy; simpa using this⟩⟩
 obtain ⟨v', w', e1, e2, e3, e4⟩ := run_append_any (P := Tryz.prog) w base t ty e i z size bytes ht hi hz his hib hzs hs0 v l.length _ c2 (fun _ => True) _ 1 1 cs hR (hV.one hx) (by unfold maxLen; omega) (Nat.le_trans (Nat.mul_le_mul hn hbb) (by omega)) hb
 exact ⟨v', w', e1, OwnG.push hV ⟨css, c1, c3, c4, e2⟩ hv hlo hx e3 e4, e3, e4⟩
end
theorem XLf_of {w : World} {S : Nat -> Prop} {b q : Nat} : ∀ {l : List Ex} {i : Nat}, (∀ (j : Nat) (x : Ex), l[j]? = some x -> ∃ cs, XV w S x cs /\ w.rangeAt b (q + (i + j) * 6) cs) -> XLf w S b q i l
 | [], _, _ => by rw [XLf]; trivial
 | e :: t, i, h => by
  rw [XLf]
  refine ⟨h 0 e rfl, XLf_of fun j x hj => ?_⟩
  obtain ⟨cs, h1, h2⟩ := h (j + 1) x (by simpa using hj)
  exact ⟨cs, h1, by rwa [show i + 1 + j = i + (j + 1) by omega]⟩
theorem SLf_of {w : World} {S : Nat -> Prop} {b q : Nat} : ∀ {l : List St} {i : Nat}, (∀ (j : Nat) (x : St), l[j]? = some x -> ∃ cs, SV w S x cs /\ w.rangeAt b (q + (i + j) * 11) cs) -> SLf w S b q i l
 | [], _, _ => by rw [SLf]; trivial
 | e :: t, i, h => by
  rw [SLf]
  refine ⟨h 0 e rfl, SLf_of fun j x hj => ?_⟩
  obtain ⟨cs, h1, h2⟩ := h (j + 1) x (by simpa using hj)
  exact ⟨cs, h1, by rwa [show i + 1 + j = i + (j + 1) by omega]⟩
section
variable {w : World} {base : Nat} {v : Value} {e : TypeId}
theorem RowOf.nth {α : Type} {V : World -> (Nat -> Prop) -> α -> List Value -> Prop} {S : Nat -> Prop} {size c : Nat} {A : Option Addr} {l : List α} (h : RowOf w S size A l.length c fun i cs => ∃ x, l[i]? = some x /\ V w S x cs) (hn : 0 < l.length) :
  ∃ b q, A = some ⟨b, q, none⟩ /\ b < w.heap.size /\ S b /\ ∀ (j : Nat) (x : α), l[j]? = some x -> ∃ cs, V w S x cs /\ w.rangeAt b (q + (0 + j) * size) cs := by
 obtain ⟨b, q, e1, hb, hS, hx⟩ := h.2 hn
 refine ⟨b, q, e1, hb, hS, fun j x hj => ?_⟩
 obtain ⟨cs, ⟨y, hy, hv⟩, hr⟩ := hx j (List.getElem?_eq_some_iff.1 hj).1
 obtain rfl : y = x := by rw [hj] at hy; exact (Option.some.inj hy).symm
 exact ⟨cs, hv, by rwa [Nat.zero_add]⟩
theorem OwnG.xl {l : List Ex} (h : OwnG XV e 6 w base v l) : ∃ A c, v = .slice A l.length c /\ XL w (fun b => base <= b) A l.length c l := by
 obtain ⟨A, c, e1, h2⟩ := h.row okXV
 refine ⟨A, c, e1, ⟨rfl, h2.1⟩, fun hn => ?_⟩
 obtain ⟨b, q, e2, hb, hS, hx⟩ := h2.nth hn
 exact ⟨b, q, e2, hb, hS, XLf_of hx⟩
theorem OwnG.sl {l : List St} (h : OwnG SV e 11 w base v l) : ∃ A c, v = .slice A l.length c /\ SL w (fun b => base <= b) A l.length c l := by
 obtain ⟨A, c, e1, h2⟩ := h.row okSV
 refine ⟨A, c, e1, ⟨rfl, h2.1⟩, fun hn => ?_⟩
 obtain ⟨b, q, e2, hb, hS, hx⟩ := h2.nth hn
 exact ⟨b, q, e2, hb, hS, SLf_of hx⟩
theorem OwnG.ss {l : List Str} (h : OwnG StV e 1 w base v l) : ∃ A c, v = .slice A l.length c /\ SS w (fun b => base <= b) A l.length c l := by
 obtain ⟨A, c, e1, h2⟩ := h.row okStV
 exact ⟨A, c, e1, rfl, h2⟩
theorem OwnG.dl {l : List Decl'} (h : OwnG DcV e 2 w base v l) : ∃ A c, v = .slice A l.length c /\ DL w (fun b => base <= b) A l.length c l := by
 obtain ⟨A, c, e1, h2⟩ := h.row okDcV
 exact ⟨A, c, e1, rfl, h2⟩
theorem OwnG.ol {l : List Oper'} (h : OwnG OV e 3 w base v l) : ∃ A c, v = .slice A l.length c /\ OL w (fun b => base <= b) A l.length c l := by
 obtain ⟨A, c, e1, h2⟩ := h.row okOV
 exact ⟨A, c, e1, rfl, h2⟩
end
theorem apk_x : AppOk 25 27 6 := AppOk.mk_ Tryz.underlying25 (by omega) (by kernel_rfl)
theorem apk_s : AppOk 72 74 11 := AppOk.mk_ Tryz.underlying72 (by omega) (by kernel_rfl)
theorem apk_d : AppOk 33 83 2 := AppOk.mk_ Tryz.underlying33 (by omega) (by kernel_rfl)
theorem apk_o : AppOk 34 76 3 := AppOk.mk_ Tryz.underlying34 (by omega) (by kernel_rfl)
theorem apk_t : AppOk 22 9 1 := AppOk.mk_ Tryz.underlying22 (by omega) (by kernel_rfl)
open Go.RowKit
/-- Below base nothing but the blocks g, ob has changed. -/
structure Kp (base g ob : Nat) (w w' : World) : Prop where
 os : w'.os = w.os
 tape : w'.tape = w.tape
 output : w'.output = w.output
 size : w.heap.size <= w'.heap.size
 block : ∀ b, b < base -> b ≠ g -> b ≠ ob -> w'.heap[b]? = w.heap[b]?
theorem Kp.refl (base g ob : Nat) (w : World) : Kp base g ob w w := ⟨rfl, rfl, rfl, Nat.le_refl _, fun _ _ _ _ => rfl⟩
theorem Kp.trans {base g ob : Nat} {w w' w'' : World} (h : Kp base g ob w w') (k : Kp base g ob w' w'') : Kp base g ob w w'' := ⟨k.os.trans h.os, k.tape.trans h.tape, k.output.trans h.output, Nat.le_trans h.size k.size, fun b h1 h2 h3 => (k.block b h1 h2 h3).trans (h.block b h1 h2 h3)⟩
theorem Kp.gr {base g ob : Nat} {w w' : World} (hb : base <= w.heap.size) {r : Option Nat} (h : w.grownBy w' r) (hr : ∀ k, r = some k -> k = g ∨ k = ob ∨ base <= k) : Kp base g ob w w' :=
 ⟨h.os, h.tape, h.output, h.size, fun b h1 h2 h3 => h.block b (Nat.lt_of_lt_of_le h1 hb) (fun e => by rcases hr b e.symm with h | h | h; exact h2 h; exact h3 h; omega)⟩
theorem PSx.othr {L : List Lx.Tok} {A : Option Addr} {n c g B : Nat} {w w' : World} {bad : Bool} {R : List Tk} (tb : TB A g B) (h : PSx L A n c g w bad R) {r : Option Nat} (hg : w.grownBy w' r) (hr : ∀ k, r = some k -> B <= k) : PSx L A n c g w' bad R := by
 cases r with
 | some k => exact h.other tb hg (hr k rfl)
 | none => exact h.other (r := B) tb ⟨hg.os, hg.tape, hg.output, hg.size, fun b hb _ => hg.block b hb (by simp)⟩ (Nat.le_refl _)
/-- A store into the midst of a row. -/
theorem wp_store_at {P : Program} {o : Oper} {a : Act} {w : World} {K : Act -> World -> Prop} {Q : Exit -> Act -> World -> Prop} (ty : TypeId) (x y : Operand) (ho : o.op = .store ty x y) (b off : Nat) (cells : Array Value) (hx : a.eval x = .pointer (some ⟨b, off, none⟩)) (hy : a.eval y = .agg cells)
  (t : TypeId) (cur : Array Value) (hg : w.heap[b]? = some (.cells cur t (0, 0))) (hi : (P.info? ty).map (·.size) = some cells.size) (hl : off + cells.size <= cur.size) (h1 : cells.all (·.oneCell') = true)
  (h : K (a.put o.dst undef) (w.setRow b (cur.toList.take off ++ cells.toList ++ cur.toList.drop (off + cells.size)).toArray)) : o.wp P a w K Q := by
 have hst := run_storeCells_at (P := P) b off t cells.toList 0 cur w hg (by simpa using hl) (fun v hv => (Array.all_eq_true_iff_forall_mem.1 h1) v (by simpa using hv))
 simp only [Nat.add_zero, Array.length_toList] at hst
 have hrun : (storeVar ty ⟨b, off, none⟩ (.agg cells)).run P w = .ok () (w.setRow b (cur.toList.take off ++ cells.toList ++ cur.toList.drop (off + cells.size)).toArray) := by
  cases hq : P.info? ty with
  | none => simp [hq] at hi
  | some i =>
   have hs : cells.size = i.size := by simp [hq] at hi; omega
   simp [storeVar, sizeOf, typeInfo, hq, Value.cells, <- hs, hst]
 unfold Oper.wp execOp
 simp only [ho, hx, hy, Instr.storeAt, Instr.sureAddr, Sem.run_bind, Sem.run_pure, Result.andThen_ok, hrun]
 exact h
/-- append by its run, as one step of a region that draws its order. -/
theorem step_app {P : Program} {ops : Array Oper} {o : Oper} {a : Act} {w : World} {K : Act -> World -> Prop} {Q : Exit -> Act -> World -> Prop} {E : Prop}
  (hg : o.guard = none) (d x : Operand) (t : TypeId) (hop : o.op = Op.call { callee := Callee.builtin Builtin.append, args := #[d, x], argTypes := #[t, t] })
  (v u : Value) (hd : a.eval d = v) (hx : a.eval x = u) {v' : Value} {w' : World} (hr : (Builtin.append_ #[t, t] o.type #[v, u]).run P w = .ok v' w') (hK : K (a.put o.dst v') w') :
  if Region.wanted o (yielded ops a.tmps) = true then Oper.wp P o a w K Q else E := by
 have hw : Region.wanted o (yielded ops a.tmps) = true := by simp [Region.wanted, hg]
 rw [if_pos hw]
 unfold Oper.wp
 simp [execOp, hop, resolve, invoke, builtin, hd, hx, hr, Result.andThen]
 exact hK
/-- A state of a drawn region that several orders come to, walked on once. -/
theorem with_tail {P : Program} {md : Region.Mode} {ops : Array Oper} {Q : Exit -> Act -> World -> Prop} {S : World -> Prop} {fuel : Nat} {listed : Array Bool} {a : Act} {w : World} (k : Nat) (lk : Array Bool) (I : Act -> World -> Prop)
  (h1 : (∀ l a w, l = lk -> I a w -> wpAnyH P md ops Q S k l a w) -> wpAnyH P md ops Q S fuel listed a w) (h2 : ∀ a w, I a w -> wpAnyH P md ops Q S k lk a w) : wpAnyH P md ops Q S fuel listed a w := h1 fun l a w e h => by rw [e]; exact h2 a w h
/-- What stands while the region of an append runs. -/
structure CF {α : Type} (V : World -> (Nat -> Prop) -> α -> List Value -> Prop) (e t : TypeId) (size g ob pb base : Nat) (v : Value) (l : List α) (w wr : World) : Prop where
 pc : wr.cell? ⟨pb, 0, none⟩ = some (.pointer (some ⟨g, 0, none⟩))
 box : wr.heap[ob]? = some (.cells #[v] t (0, 0))
 own : OwnG V e size wr base v l
 kp : Kp base g ob w wr
 bs : base <= w.heap.size
theorem CF.gr {α : Type} {V : World -> (Nat -> Prop) -> α -> List Value -> Prop} {e t : TypeId} {size g ob pb base : Nat} {v : Value} {l : List α} {w wr wx : World} (hV : VOk V size) (h : CF V e t size g ob pb base v l w wr) (hg : wr.grownBy wx (some g)) (hpg : pb ≠ g) (hog : ob ≠ g) (hgb : g < base) : CF V e t size g ob pb base v l w wx :=
 ⟨(World.cell?_of_block (a := ⟨pb, 0, none⟩) (hg.block _ (World.block_lt_of_cell? _ _ h.pc) (fun e => hpg (Option.some.inj e)))).trans h.pc, (hg.block _ (lt_of_block h.box) (fun e => hog (Option.some.inj e))).trans h.box, h.own.gr hV hg (fun k e => by have := Option.some.inj e; omega), h.kp.trans (Kp.gr (Nat.le_trans h.bs h.kp.size) hg (fun k e => .inl (Option.some.inj e).symm)), h.bs⟩
theorem CF.cell {α : Type} {V : World -> (Nat -> Prop) -> α -> List Value -> Prop} {e t : TypeId} {size g ob pb base : Nat} {v : Value} {l : List α} {w wr : World} (h : CF V e t size g ob pb base v l w wr) : wr.cell? ⟨ob, 0, none⟩ = some v := by rw [cell_of_row _ _ _ _ _ _ h.box]; rfl
theorem args1_gen (L : List Lx.Tok) (A : Option Addr) (n c g : Nat) (w : World) (bad : Bool) (R : List Tk) (h : PSx L A n c g w bad R) (ob pb base : Nat) (v : Value) (l : List Ex) (hp : w.cell? ⟨pb, 0, none⟩ = some (.pointer (some ⟨g, 0, none⟩))) (hpg : pb ≠ g) (hpo : pb ≠ ob) (hog : ob ≠ g) (hob : w.heap[ob]? = some (.cells #[v] 25 (0, 0))) (hO : OwnG XV 27 6 w base v l)
  (hbo : ob < base) (hbp : pb < base) (hbs : base <= w.heap.size) (htb : TB A g ob) (hl : l.length < 100000) (PE : Res Ex) (hE : ∀ W, PSx L A n c g W bad R -> Calls Tryz.prog 23 #[.pointer (some ⟨g, 0, none⟩)] W (XP L A n c g W PE)) :
  Calls Tryz.prog 150 #[.pointer (some ⟨ob, 0, none⟩), .pointer (some ⟨pb, 0, none⟩)] w fun e w' => e = .returned (.tuple #[]) /\ ∃ x v', (PE.is x fun b r => PSx L A n c g w' b r) /\ w'.heap[ob]? = some (.cells #[v'] 25 (0, 0)) /\ OwnG XV 27 6 w' base v' (l ++ [x]) /\ Kp base g ob w w' := by
 obtain ⟨A0, c0, rfl, -⟩ := hO.row okXV
 have hdw : Below w.heap.size w w.drew := (Below.refl _ _).drew
 have HGB := hI (show g < base from by have := htb.2.1; omega)
 have HPG := hI hpg
 have HOG := hI hog
 have HPO := hI hpo
 have HBS := hI hbs
 have HBO := hI hbo
 have HBP := hI hbp
 have HTB := hI htb
 have HL := hI hl
 have HE := hI hE
 have HLT := hI hO.lt
 have Cwq := hI ((CF.mk hp hob hO (Kp.refl _ _ _ _) hbs : CF XV 27 25 6 g ob pb base _ l w w).gr okXV (Below.grown_ hdw (some g)) hpg hog HGB.out)
 have Pwq := hI (h.next hdw)
 clear h hp hpg hpo hog hob hO hbo hbp hbs htb hl hE hdw
 go_enter Tryz.func150, Tryz.ntmps150
 refine wp_region_held_drew (S := fun W => W.cell? ⟨pb, 0, none⟩ = some (.pointer (some ⟨g, 0, none⟩))) (by kernel_rfl) Cwq.out.pc (fun hHeld => ?_)
 generalize w.drew = wq at *
 refine with_tail 4 #[true, true, true, true, true, false, false, false, false] (fun a W => ∃ (x : Ex) (cs : List Value) (z : Nat), a = ⟨#[.pointer (some ⟨ob, 0, none⟩), .pointer (some ⟨pb, 0, none⟩), .slice A0 l.length c0, .pointer (some ⟨g, 0, none⟩), .agg cs.toArray, .int .i64 (l.length : Int), .slice (some ⟨z, 0, none⟩) 1 1, undef, undef], []⟩ /\ CF XV 27 25 6 g ob pb base (.slice A0 l.length c0) l w W /\ XV W (fun b => w.heap.size <= b) x cs /\ (PE.is x fun b r => PSx L A n c g W b r) /\ w.heap.size <= z /\ W.heap[z]? = some (.cells #[.int .i64 0, .int .i64 0, .string { data := #[] }, .string { data := #[] }, .slice none 0 0, .slice none 0 0] 27 (0, 0))) (fun TAIL => ?_) ?_
 ·have TL := hI TAIL
  clear TAIL
  refine wpAnyH_take (i := 1) (oi := ⟨some 3, _, _, _, _, _⟩) (v := .pointer (some ⟨g, 0, none⟩)) rfl (by kernel_rfl) (by kernel_rfl) (by kernel_rfl) (fun _ _ _ h => h) (Or.inl ⟨by rfl, ?_⟩) hHeld ?_
  ·intro W' hW
   go_simp
  try simp only [Act.put, sA, sB, sC]
  refine wpAnyH_ready (rs := [0, 2, 4]) (by kernel_rfl) (by simp) ?_
  refine AllReadyH.cons (o := ⟨some 2, _, _, _, _, _⟩) rfl (fun K hK => ?_) (AllReadyH.cons (o := ⟨some 4, _, _, _, _, _⟩) rfl (fun K hK => ?_) (AllReadyH.cons (o := ⟨some 6, _, _, _, _, _⟩) rfl (fun K hK => ?_) AllReadyH.nil))
  ·have cob := Cwq.out.cell
   go_simp
   clear cob
   refine hK.out _ _ Cwq.out.pc (fun hHeld => ?_)
   clear hK
   try simp only [Act.put, sA, sB, sC]
   refine wpAnyH_take (i := 3) (oi := ⟨some 5, _, _, _, _, _⟩) (v := .int .i64 (l.length : Int)) rfl (by kernel_rfl) (by kernel_rfl) (by kernel_rfl) (fun _ _ _ h => h) (Or.inl ⟨by rfl, ?_⟩) hHeld ?_
   ·intro W' hW
    go_simp
   try simp only [Act.put, sA, sB, sC]
   refine wpAnyH_ready (rs := [2, 4]) (by kernel_rfl) (by simp) ?_
   refine AllReadyH.cons (o := ⟨some 4, _, _, _, _, _⟩) rfl (fun K hK => ?_) (AllReadyH.cons (o := ⟨some 6, _, _, _, _, _⟩) rfl (fun K hK => ?_) AllReadyH.nil)
   ·go_simp
    refine (HE.out _ Pwq.out).mono ?_
    rintro e wk1_2 ⟨x, cs, rfl, hx, hg, hP⟩
    have Cwk1_2 := hI (Cwq.out.gr okXV hg HPG.out HOG.out HGB.out)
    have Xwk1_2 := hI (hx.more (S' := fun b => w.heap.size <= b) fun b _ (hb : wq.heap.size <= b) => Nat.le_trans Cwq.out.kp.size hb)
    have Iwk1_2 := hI (show PE.is x fun b r => PSx L A n c g wk1_2 b r from hP)
    clear hx hg hP
    refine hK.out _ _ Cwk1_2.out.pc (fun hHeld => ?_)
    clear hK
    try simp only [Act.put, sA, sB, sC]
    refine wpAnyH_ready (rs := [4]) (by kernel_rfl) (by simp) ?_
    refine AllReadyH.cons (o := ⟨some 6, _, _, _, _, _⟩) rfl (fun K hK => ?_) AllReadyH.nil
    ·go_simp
     obtain ⟨z, hz⟩ : ∃ z, z = wk1_2.heap.size := ⟨_, rfl⟩
     obtain ⟨wz2_3, hwz⟩ : ∃ W, W = wk1_2.alloc (.cells #[.int .i64 0, .int .i64 0, .string { data := #[] }, .string { data := #[] }, .slice none 0 0, .slice none 0 0] 27) := ⟨_, rfl⟩
     have hb := (Below.refl wk1_2.heap.size wk1_2).alloc (Nat.le_refl _) (.cells #[.int .i64 0, .int .i64 0, .string { data := #[] }, .string { data := #[] }, .slice none 0 0, .slice none 0 0] 27)
     rw [<- hwz] at hb
     have Zwz2_3 := hI (And.intro (show w.heap.size <= z from by rw [hz]; exact Cwk1_2.out.kp.size) (show wz2_3.heap[z]? = some (.cells #[.int .i64 0, .int .i64 0, .string { data := #[] }, .string { data := #[] }, .slice none 0 0, .slice none 0 0] 27 (0, 0)) from by rw [hwz, hz]; exact heap_alloc_new wk1_2 _))
     have Cwz2_3 := hI (Cwk1_2.out.gr okXV (Below.grown_ hb (some g)) HPG.out HOG.out HGB.out)
     have Xwz2_3 := hI (Xwk1_2.out.below hb)
     have Iwz2_3 := hI (Res.is_imp Iwk1_2.out fun b r h => h.next hb)
     rw [<- hz, <- hwz]
     clear hb hz hwz
     refine hK.out _ _ Cwz2_3.out.pc (fun hHeld => ?_)
     clear hK
     try simp only [Act.put, sA, sB, sC]
     exact TL.out _ _ _ (by kernel_rfl) ⟨x, cs, z, rfl, Cwz2_3.out, Xwz2_3.out, Iwz2_3.out, Zwz2_3.out⟩
   go_simp
   obtain ⟨z, hz⟩ : ∃ z, z = wq.heap.size := ⟨_, rfl⟩
   obtain ⟨wz1_4, hwz⟩ : ∃ W, W = wq.alloc (.cells #[.int .i64 0, .int .i64 0, .string { data := #[] }, .string { data := #[] }, .slice none 0 0, .slice none 0 0] 27) := ⟨_, rfl⟩
   have hb := (Below.refl wq.heap.size wq).alloc (Nat.le_refl _) (.cells #[.int .i64 0, .int .i64 0, .string { data := #[] }, .string { data := #[] }, .slice none 0 0, .slice none 0 0] 27)
   rw [<- hwz] at hb
   have Zwz1_4 := hI (And.intro (show w.heap.size <= z from by rw [hz]; exact Cwq.out.kp.size) (show wz1_4.heap[z]? = some (.cells #[.int .i64 0, .int .i64 0, .string { data := #[] }, .string { data := #[] }, .slice none 0 0, .slice none 0 0] 27 (0, 0)) from by rw [hwz, hz]; exact heap_alloc_new wq _))
   have Cwz1_4 := hI (Cwq.out.gr okXV (Below.grown_ hb (some g)) HPG.out HOG.out HGB.out)
   have Pwz1_4 := hI (Pwq.out.next hb)
   rw [<- hz, <- hwz]
   clear hb hz hwz
   refine hK.out _ _ Cwz1_4.out.pc (fun hHeld => ?_)
   clear hK
   try simp only [Act.put, sA, sB, sC]
   refine wpAnyH_ready (rs := [2]) (by kernel_rfl) (by simp) ?_
   refine AllReadyH.cons (o := ⟨some 4, _, _, _, _, _⟩) rfl (fun K hK => ?_) AllReadyH.nil
   ·go_simp
    refine (HE.out _ Pwz1_4.out).mono ?_
    rintro e wk2_5 ⟨x, cs, rfl, hx, hg, hP⟩
    have Cwk2_5 := hI (Cwz1_4.out.gr okXV hg HPG.out HOG.out HGB.out)
    have Xwk2_5 := hI (hx.more (S' := fun b => w.heap.size <= b) fun b _ (hb : wz1_4.heap.size <= b) => Nat.le_trans Cwz1_4.out.kp.size hb)
    have Iwk2_5 := hI (show PE.is x fun b r => PSx L A n c g wk2_5 b r from hP)
    have Zwk2_5 := hI ((hg.block z (lt_of_block Zwz1_4.out.2) (fun e => by have := Option.some.inj e; have := Zwz1_4.out.1; have := HGB.out; have := HBS.out; omega)).trans Zwz1_4.out.2)
    have Zwk2_5 := hI (And.intro Zwz1_4.out.1 Zwk2_5.out)
    clear hx hg hP
    refine hK.out _ _ Cwk2_5.out.pc (fun hHeld => ?_)
    clear hK
    try simp only [Act.put, sA, sB, sC]
    exact TL.out _ _ _ (by kernel_rfl) ⟨x, cs, z, rfl, Cwk2_5.out, Xwk2_5.out, Iwk2_5.out, Zwk2_5.out⟩
  ·go_simp
   refine (HE.out _ Pwq.out).mono ?_
   rintro e wk0_6 ⟨x, cs, rfl, hx, hg, hP⟩
   have Cwk0_6 := hI (Cwq.out.gr okXV hg HPG.out HOG.out HGB.out)
   have Xwk0_6 := hI (hx.more (S' := fun b => w.heap.size <= b) fun b _ (hb : wq.heap.size <= b) => Nat.le_trans Cwq.out.kp.size hb)
   have Iwk0_6 := hI (show PE.is x fun b r => PSx L A n c g wk0_6 b r from hP)
   clear hx hg hP
   refine hK.out _ _ Cwk0_6.out.pc (fun hHeld => ?_)
   clear hK
   try simp only [Act.put, sA, sB, sC]
   refine wpAnyH_ready (rs := [0, 4]) (by kernel_rfl) (by simp) ?_
   refine AllReadyH.cons (o := ⟨some 2, _, _, _, _, _⟩) rfl (fun K hK => ?_) (AllReadyH.cons (o := ⟨some 6, _, _, _, _, _⟩) rfl (fun K hK => ?_) AllReadyH.nil)
   ·have cob := Cwk0_6.out.cell
    go_simp
    clear cob
    refine hK.out _ _ Cwk0_6.out.pc (fun hHeld => ?_)
    clear hK
    try simp only [Act.put, sA, sB, sC]
    refine wpAnyH_take (i := 3) (oi := ⟨some 5, _, _, _, _, _⟩) (v := .int .i64 (l.length : Int)) rfl (by kernel_rfl) (by kernel_rfl) (by kernel_rfl) (fun _ _ _ h => h) (Or.inl ⟨by rfl, ?_⟩) hHeld ?_
    ·intro W' hW
     go_simp
    try simp only [Act.put, sA, sB, sC]
    refine wpAnyH_ready (rs := [4]) (by kernel_rfl) (by simp) ?_
    refine AllReadyH.cons (o := ⟨some 6, _, _, _, _, _⟩) rfl (fun K hK => ?_) AllReadyH.nil
    ·go_simp
     obtain ⟨z, hz⟩ : ∃ z, z = wk0_6.heap.size := ⟨_, rfl⟩
     obtain ⟨wz2_8, hwz⟩ : ∃ W, W = wk0_6.alloc (.cells #[.int .i64 0, .int .i64 0, .string { data := #[] }, .string { data := #[] }, .slice none 0 0, .slice none 0 0] 27) := ⟨_, rfl⟩
     have hb := (Below.refl wk0_6.heap.size wk0_6).alloc (Nat.le_refl _) (.cells #[.int .i64 0, .int .i64 0, .string { data := #[] }, .string { data := #[] }, .slice none 0 0, .slice none 0 0] 27)
     rw [<- hwz] at hb
     have Zwz2_8 := hI (And.intro (show w.heap.size <= z from by rw [hz]; exact Cwk0_6.out.kp.size) (show wz2_8.heap[z]? = some (.cells #[.int .i64 0, .int .i64 0, .string { data := #[] }, .string { data := #[] }, .slice none 0 0, .slice none 0 0] 27 (0, 0)) from by rw [hwz, hz]; exact heap_alloc_new wk0_6 _))
     have Cwz2_8 := hI (Cwk0_6.out.gr okXV (Below.grown_ hb (some g)) HPG.out HOG.out HGB.out)
     have Xwz2_8 := hI (Xwk0_6.out.below hb)
     have Iwz2_8 := hI (Res.is_imp Iwk0_6.out fun b r h => h.next hb)
     rw [<- hz, <- hwz]
     clear hb hz hwz
     refine hK.out _ _ Cwz2_8.out.pc (fun hHeld => ?_)
     clear hK
     try simp only [Act.put, sA, sB, sC]
     exact TL.out _ _ _ (by kernel_rfl) ⟨x, cs, z, rfl, Cwz2_8.out, Xwz2_8.out, Iwz2_8.out, Zwz2_8.out⟩
   go_simp
   obtain ⟨z, hz⟩ : ∃ z, z = wk0_6.heap.size := ⟨_, rfl⟩
   obtain ⟨wz1_9, hwz⟩ : ∃ W, W = wk0_6.alloc (.cells #[.int .i64 0, .int .i64 0, .string { data := #[] }, .string { data := #[] }, .slice none 0 0, .slice none 0 0] 27) := ⟨_, rfl⟩
   have hb := (Below.refl wk0_6.heap.size wk0_6).alloc (Nat.le_refl _) (.cells #[.int .i64 0, .int .i64 0, .string { data := #[] }, .string { data := #[] }, .slice none 0 0, .slice none 0 0] 27)
   rw [<- hwz] at hb
   have Zwz1_9 := hI (And.intro (show w.heap.size <= z from by rw [hz]; exact Cwk0_6.out.kp.size) (show wz1_9.heap[z]? = some (.cells #[.int .i64 0, .int .i64 0, .string { data := #[] }, .string { data := #[] }, .slice none 0 0, .slice none 0 0] 27 (0, 0)) from by rw [hwz, hz]; exact heap_alloc_new wk0_6 _))
   have Cwz1_9 := hI (Cwk0_6.out.gr okXV (Below.grown_ hb (some g)) HPG.out HOG.out HGB.out)
   have Xwz1_9 := hI (Xwk0_6.out.below hb)
   have Iwz1_9 := hI (Res.is_imp Iwk0_6.out fun b r h => h.next hb)
   rw [<- hz, <- hwz]
   clear hb hz hwz
   refine hK.out _ _ Cwz1_9.out.pc (fun hHeld => ?_)
   clear hK
   try simp only [Act.put, sA, sB, sC]
   refine wpAnyH_ready (rs := [0]) (by kernel_rfl) (by simp) ?_
   refine AllReadyH.cons (o := ⟨some 2, _, _, _, _, _⟩) rfl (fun K hK => ?_) AllReadyH.nil
   ·have cob := Cwz1_9.out.cell
    go_simp
    clear cob
    refine hK.out _ _ Cwz1_9.out.pc (fun hHeld => ?_)
    clear hK
    try simp only [Act.put, sA, sB, sC]
    refine wpAnyH_take (i := 3) (oi := ⟨some 5, _, _, _, _, _⟩) (v := .int .i64 (l.length : Int)) rfl (by kernel_rfl) (by kernel_rfl) (by kernel_rfl) (fun _ _ _ h => h) (Or.inl ⟨by rfl, ?_⟩) hHeld ?_
    ·intro W' hW
     go_simp
    try simp only [Act.put, sA, sB, sC]
    exact TL.out _ _ _ (by kernel_rfl) ⟨x, cs, z, rfl, Cwz1_9.out, Xwz1_9.out, Iwz1_9.out, Zwz1_9.out⟩
  go_simp
  obtain ⟨z, hz⟩ : ∃ z, z = wq.heap.size := ⟨_, rfl⟩
  obtain ⟨wz0_11, hwz⟩ : ∃ W, W = wq.alloc (.cells #[.int .i64 0, .int .i64 0, .string { data := #[] }, .string { data := #[] }, .slice none 0 0, .slice none 0 0] 27) := ⟨_, rfl⟩
  have hb := (Below.refl wq.heap.size wq).alloc (Nat.le_refl _) (.cells #[.int .i64 0, .int .i64 0, .string { data := #[] }, .string { data := #[] }, .slice none 0 0, .slice none 0 0] 27)
  rw [<- hwz] at hb
  have Zwz0_11 := hI (And.intro (show w.heap.size <= z from by rw [hz]; exact Cwq.out.kp.size) (show wz0_11.heap[z]? = some (.cells #[.int .i64 0, .int .i64 0, .string { data := #[] }, .string { data := #[] }, .slice none 0 0, .slice none 0 0] 27 (0, 0)) from by rw [hwz, hz]; exact heap_alloc_new wq _))
  have Cwz0_11 := hI (Cwq.out.gr okXV (Below.grown_ hb (some g)) HPG.out HOG.out HGB.out)
  have Pwz0_11 := hI (Pwq.out.next hb)
  rw [<- hz, <- hwz]
  clear hb hz hwz
  refine hK.out _ _ Cwz0_11.out.pc (fun hHeld => ?_)
  clear hK
  try simp only [Act.put, sA, sB, sC]
  refine wpAnyH_ready (rs := [0, 2]) (by kernel_rfl) (by simp) ?_
  refine AllReadyH.cons (o := ⟨some 2, _, _, _, _, _⟩) rfl (fun K hK => ?_) (AllReadyH.cons (o := ⟨some 4, _, _, _, _, _⟩) rfl (fun K hK => ?_) AllReadyH.nil)
  ·have cob := Cwz0_11.out.cell
   go_simp
   clear cob
   refine hK.out _ _ Cwz0_11.out.pc (fun hHeld => ?_)
   clear hK
   try simp only [Act.put, sA, sB, sC]
   refine wpAnyH_take (i := 3) (oi := ⟨some 5, _, _, _, _, _⟩) (v := .int .i64 (l.length : Int)) rfl (by kernel_rfl) (by kernel_rfl) (by kernel_rfl) (fun _ _ _ h => h) (Or.inl ⟨by rfl, ?_⟩) hHeld ?_
   ·intro W' hW
    go_simp
   try simp only [Act.put, sA, sB, sC]
   refine wpAnyH_ready (rs := [2]) (by kernel_rfl) (by simp) ?_
   refine AllReadyH.cons (o := ⟨some 4, _, _, _, _, _⟩) rfl (fun K hK => ?_) AllReadyH.nil
   ·go_simp
    refine (HE.out _ Pwz0_11.out).mono ?_
    rintro e wk2_13 ⟨x, cs, rfl, hx, hg, hP⟩
    have Cwk2_13 := hI (Cwz0_11.out.gr okXV hg HPG.out HOG.out HGB.out)
    have Xwk2_13 := hI (hx.more (S' := fun b => w.heap.size <= b) fun b _ (hb : wz0_11.heap.size <= b) => Nat.le_trans Cwz0_11.out.kp.size hb)
    have Iwk2_13 := hI (show PE.is x fun b r => PSx L A n c g wk2_13 b r from hP)
    have Zwk2_13 := hI ((hg.block z (lt_of_block Zwz0_11.out.2) (fun e => by have := Option.some.inj e; have := Zwz0_11.out.1; have := HGB.out; have := HBS.out; omega)).trans Zwz0_11.out.2)
    have Zwk2_13 := hI (And.intro Zwz0_11.out.1 Zwk2_13.out)
    clear hx hg hP
    refine hK.out _ _ Cwk2_13.out.pc (fun hHeld => ?_)
    clear hK
    try simp only [Act.put, sA, sB, sC]
    exact TL.out _ _ _ (by kernel_rfl) ⟨x, cs, z, rfl, Cwk2_13.out, Xwk2_13.out, Iwk2_13.out, Zwk2_13.out⟩
  go_simp
  refine (HE.out _ Pwz0_11.out).mono ?_
  rintro e wk1_14 ⟨x, cs, rfl, hx, hg, hP⟩
  have Cwk1_14 := hI (Cwz0_11.out.gr okXV hg HPG.out HOG.out HGB.out)
  have Xwk1_14 := hI (hx.more (S' := fun b => w.heap.size <= b) fun b _ (hb : wz0_11.heap.size <= b) => Nat.le_trans Cwz0_11.out.kp.size hb)
  have Iwk1_14 := hI (show PE.is x fun b r => PSx L A n c g wk1_14 b r from hP)
  have Zwk1_14 := hI ((hg.block z (lt_of_block Zwz0_11.out.2) (fun e => by have := Option.some.inj e; have := Zwz0_11.out.1; have := HGB.out; have := HBS.out; omega)).trans Zwz0_11.out.2)
  have Zwk1_14 := hI (And.intro Zwz0_11.out.1 Zwk1_14.out)
  clear hx hg hP
  refine hK.out _ _ Cwk1_14.out.pc (fun hHeld => ?_)
  clear hK
  try simp only [Act.put, sA, sB, sC]
  refine wpAnyH_ready (rs := [0]) (by kernel_rfl) (by simp) ?_
  refine AllReadyH.cons (o := ⟨some 2, _, _, _, _, _⟩) rfl (fun K hK => ?_) AllReadyH.nil
  ·have cob := Cwk1_14.out.cell
   go_simp
   clear cob
   refine hK.out _ _ Cwk1_14.out.pc (fun hHeld => ?_)
   clear hK
   try simp only [Act.put, sA, sB, sC]
   refine wpAnyH_take (i := 3) (oi := ⟨some 5, _, _, _, _, _⟩) (v := .int .i64 (l.length : Int)) rfl (by kernel_rfl) (by kernel_rfl) (by kernel_rfl) (fun _ _ _ h => h) (Or.inl ⟨by rfl, ?_⟩) hHeld ?_
   ·intro W' hW
    go_simp
   try simp only [Act.put, sA, sB, sC]
   exact TL.out _ _ _ (by kernel_rfl) ⟨x, cs, z, rfl, Cwk1_14.out, Xwk1_14.out, Iwk1_14.out, Zwk1_14.out⟩
 rintro a W ⟨x, cs, z, rfl, hC, hX, hIq, hz, hZ⟩
 have hlo : base <= w.heap.size := HBS.out
 have HLO := hI hlo
 obtain ⟨v1, w1, hrun, own1, gr1, ow1⟩ := hC.own.app (t := 25) (ty := 25) okXV apk_x w.heap.size z emE (exC 0 0 [] [] none 0 0 none 0 0) (lt_of_block hZ) (fun j v hv => by rw [Nat.zero_add, cell_of_row _ _ _ _ _ _ hZ, <- hv, <- Array.getElem?_toList]; rfl) (XV.shut (by unfold InR; omega) (XL.nil_ _ _) (XL.nil_ _ _)) (by have := HL.out; omega) (Nat.le_trans hlo hC.kp.size) (fun k e => (HLT.out k e).2) hlo
 have gq : ∀ k, (Value.slice A0 l.length c0).ownBlock = some k -> base <= k := fun k e => (HLT.out k e).1
 have PCw1 := hI ((World.cell?_of_block (a := ⟨pb, 0, none⟩) (gr1.block _ (World.block_lt_of_cell? _ _ hC.pc) (fun e => by have := gq pb e.symm; have := HBP.out; omega))).trans hC.pc)
 have HBw1 := hI ((gr1.block _ (lt_of_block hC.box) (fun e => by have := gq ob e.symm; have := HBO.out; omega)).trans hC.box)
 have KPw1 := hI (hC.kp.trans (Kp.gr (Nat.le_trans hlo hC.kp.size) gr1 (fun k e => .inr (.inr (gq k e)))))
 have ISw1 := hI (Res.is_imp hIq fun b r h => h.othr HTB.out gr1 (fun k e => by have := gq k e; have := HBO.out; omega))
 have XXw1 := hI (XV.keep (S' := fun k => w.heap.size <= k /\ v1.ownBlock ≠ some k) gr1.size (fun k hk hs => gr1.block k hk (fun e => by have := (HLT.out k e.symm).2; omega)) (fun k hk hs => ⟨hs, fun e => by
  rcases ow1 with e1 | e1
  ·rw [e1] at e; have := (HLT.out k e).2; omega
  rw [e1] at e; have := Option.some.inj e; omega⟩) hX)
 have HCL := hI (show cs.toArray.size = 6 from hX.six.1)
 have HC1 := hI hX.six.2
 have OWw1 := hI own1
 have HRUN := hI hrun
 clear hC hIq hX hz hZ gr1 ow1 gq hrun
 obtain ⟨b, cap, cur, rfl, hb, hnc, hg, hbig, -, -⟩ := own1.put okXV XXw1.out hlo
 have HNC := hI hnc
 clear own1 hb hg hbig hnc hlo cur
 refine wpAnyH_ready (rs := [5]) (by kernel_rfl) (by simp) ?_
 refine AllReadyH.cons (o := ⟨some 7, _, _, _, _, _⟩) rfl (fun K hK => ?_) AllReadyH.nil
 refine step_app rfl _ _ 25 rfl _ _ rfl rfl HRUN.out ?_
 clear HRUN
 refine hK.out _ _ PCw1.out (fun hHeld => ?_)
 clear hK
 try simp only [Act.put, sA, sB, sC]
 have hi1 : ((l.length : Nat) : Int) < ((l.length + 1 : Nat) : Int) := by omega
 refine wpAnyH_take (i := 6) (oi := ⟨some 8, _, _, _, _, _⟩) (v := .pointer (some ⟨b, l.length * 6, none⟩)) rfl (by kernel_rfl) (by kernel_rfl) (by kernel_rfl) (fun _ _ _ h => h) (Or.inl ⟨by rfl, ?_⟩) hHeld ?_
 ·intro W' hW
  go_simp
  intro hh
  exfalso
  omega
 clear hi1
 try simp only [Act.put, sA, sB, sC]
 refine wpAnyH_ready (rs := [7, 8]) (by kernel_rfl) (by simp) ?_
 refine AllReadyH.cons (o := ⟨none, _, _, _, _, _⟩) rfl (fun K hK => ?_) (AllReadyH.cons (o := ⟨none, _, _, _, _, _⟩) rfl (fun K hK => ?_) AllReadyH.nil)
 ·obtain ⟨b2, cap2, cur2, hv2, hb2, hnc2, hg2, hbig2, own2, gr2⟩ := OWw1.out.put okXV XXw1.out HLO.out
  obtain ⟨rfl, rfl⟩ : b2 = b /\ cap2 = cap := by
   injection hv2 with e1 e2 e3
   injection e1 with e1
   injection e1 with e1 e4
   exact ⟨e1.symm, e3.symm⟩
  refine Eq.mpr (if_pos (by kernel_rfl)) ?_
  refine wp_store_at 27 (.tmp 8) (.tmp 4) rfl b2 (l.length * 6) cs.toArray rfl rfl 27 cur2 hg2 (by rw [HCL.out]; exact ex_size) (by rw [HCL.out]; exact hbig2) HC1.out ?_
  rw [show cs.toArray.toList = cs from rfl, HCL.out]
  obtain ⟨w2, hw2⟩ : ∃ W, W = w1.setRow b2 (cur2.toList.take (l.length * 6) ++ cs ++ cur2.toList.drop (l.length * 6 + 6)).toArray := ⟨_, rfl⟩
  rw [<- hw2] at own2 gr2
  rw [<- hw2]
  clear hw2
  have OWw2 := hI own2
  have gq : ∀ k, some b2 = some k -> base <= k := fun k e => by have := Option.some.inj e; omega
  have PCw2 := hI ((World.cell?_of_block (a := ⟨pb, 0, none⟩) (gr2.block _ (World.block_lt_of_cell? _ _ PCw1.out) (fun e => by have e : pb = b2 := Option.some.inj e; have := HBP.out; omega))).trans PCw1.out)
  have HBw2 := hI ((gr2.block _ (lt_of_block HBw1.out) (fun e => by have := Option.some.inj e; have := HBO.out; omega)).trans HBw1.out)
  have KPw2 := hI (KPw1.out.trans (Kp.gr (Nat.le_trans HBS.out KPw1.out.size) gr2 (fun k e => .inr (.inr (gq k e)))))
  have ISw2 := hI (Res.is_imp ISw1.out fun b r h => h.othr HTB.out gr2 (fun k e => by have := gq k e; have := HBO.out; omega))
  refine hK.out _ _ PCw2.out (fun hHeld => ?_)
  clear hK
  try simp only [Act.put, sA, sB, sC]
  refine wpAnyH_ready (rs := [8]) (by kernel_rfl) (by simp) ?_
  refine AllReadyH.cons (o := ⟨none, _, _, _, _, _⟩) rfl (fun K hK => ?_) AllReadyH.nil
  have cob : w2.cell? ⟨ob, 0, none⟩ = some (.slice A0 l.length c0) := by rw [cell_of_row _ _ _ _ _ _ HBw2.out]; rfl
  have fob : w2.frozen? ⟨ob, 0, none⟩ = false := by simp [World.frozen?, show w2.heap[ob]? = _ from HBw2.out]
  go_simp
  clear cob fob
  have gb := gr_put w2 ob 0 (.slice (some ⟨b2, 0, none⟩) (l.length + 1) cap2)
  have HBw3' : (w2.setCell ⟨ob, 0, none⟩ (.slice (some ⟨b2, 0, none⟩) (l.length + 1) cap2)).heap[ob]? = some (.cells #[(.slice (some ⟨b2, 0, none⟩) (l.length + 1) cap2)] 25 (0, 0)) := by
   rw [setCell_eq_setRow w2 ob 0 _ _ _ _ HBw2.out]
   exact setRow_heap _ _ _ _ _ _ HBw2.out
  obtain ⟨w3, hw3⟩ : ∃ W, W = w2.setCell ⟨ob, 0, none⟩ (.slice (some ⟨b2, 0, none⟩) (l.length + 1) cap2) := ⟨_, rfl⟩
  rw [<- hw3] at gb HBw3'
  rw [<- hw3]
  clear hw3
  have HBw3 := hI HBw3'
  have PCw3 := hI ((World.cell?_of_block (a := ⟨pb, 0, none⟩) (gb.block _ (World.block_lt_of_cell? _ _ PCw2.out) (fun e => HPO.out (Option.some.inj e)))).trans PCw2.out)
  have KPw3 := hI (KPw2.out.trans (Kp.gr (Nat.le_trans HBS.out KPw2.out.size) gb (fun k e => .inr (.inl (Option.some.inj e).symm))))
  have ISw3 := hI (Res.is_imp ISw2.out fun b r h => h.other HTB.out gb (Nat.le_refl _))
  have OWw3 := hI (OWw2.out.gr okXV gb (fun k e => by have := Option.some.inj e; have := HBO.out; omega))
  refine hK.out _ _ PCw3.out (fun hHeld => ?_)
  clear hK
  try simp only [Act.put, sA, sB, sC]
  refine wpAnyH_done (by kernel_rfl) ?_ _
  go_end0
  exact ⟨rfl, x, _, ISw3.out, HBw3.out, OWw3.out, KPw3.out⟩
 have cob : w1.cell? ⟨ob, 0, none⟩ = some (.slice A0 l.length c0) := by rw [cell_of_row _ _ _ _ _ _ HBw1.out]; rfl
 have fob : w1.frozen? ⟨ob, 0, none⟩ = false := by simp [World.frozen?, show w1.heap[ob]? = _ from HBw1.out]
 go_simp
 clear cob fob
 have gb := gr_put w1 ob 0 (.slice (some ⟨b, 0, none⟩) (l.length + 1) cap)
 have HBw2' : (w1.setCell ⟨ob, 0, none⟩ (.slice (some ⟨b, 0, none⟩) (l.length + 1) cap)).heap[ob]? = some (.cells #[(.slice (some ⟨b, 0, none⟩) (l.length + 1) cap)] 25 (0, 0)) := by
  rw [setCell_eq_setRow w1 ob 0 _ _ _ _ HBw1.out]
  exact setRow_heap _ _ _ _ _ _ HBw1.out
 obtain ⟨w2, hw2⟩ : ∃ W, W = w1.setCell ⟨ob, 0, none⟩ (.slice (some ⟨b, 0, none⟩) (l.length + 1) cap) := ⟨_, rfl⟩
 rw [<- hw2] at gb HBw2'
 rw [<- hw2]
 clear hw2
 have HBw2 := hI HBw2'
 have PCw2 := hI ((World.cell?_of_block (a := ⟨pb, 0, none⟩) (gb.block _ (World.block_lt_of_cell? _ _ PCw1.out) (fun e => HPO.out (Option.some.inj e)))).trans PCw1.out)
 have KPw2 := hI (KPw1.out.trans (Kp.gr (Nat.le_trans HBS.out KPw1.out.size) gb (fun k e => .inr (.inl (Option.some.inj e).symm))))
 have ISw2 := hI (Res.is_imp ISw1.out fun b r h => h.other HTB.out gb (Nat.le_refl _))
 have OWw2 := hI (OWw1.out.gr okXV gb (fun k e => by have := Option.some.inj e; have := HBO.out; omega))
 have XXw2 := hI (XXw1.out.gr (S' := fun k => w.heap.size <= k /\ (Value.slice (some ⟨b, 0, none⟩) (l.length + 1) cap).ownBlock ≠ some k) gb (fun k _ hk => ⟨by have := hk.1; have := HBO.out; have := HLO.out; omega, hk⟩))
 refine hK.out _ _ PCw2.out (fun hHeld => ?_)
 clear hK gb
 try simp only [Act.put, sA, sB, sC]
 refine wpAnyH_ready (rs := [7]) (by kernel_rfl) (by simp) ?_
 refine AllReadyH.cons (o := ⟨none, _, _, _, _, _⟩) rfl (fun K hK => ?_) AllReadyH.nil
 obtain ⟨b2, cap2, cur2, hv2, hb2, hnc2, hg2, hbig2, own2, gr2⟩ := OWw2.out.put okXV XXw2.out HLO.out
 obtain ⟨rfl, rfl⟩ : b2 = b /\ cap2 = cap := by
  injection hv2 with e1 e2 e3
  injection e1 with e1
  injection e1 with e1 e4
  exact ⟨e1.symm, e3.symm⟩
 refine Eq.mpr (if_pos (by kernel_rfl)) ?_
 refine wp_store_at 27 (.tmp 8) (.tmp 4) rfl b2 (l.length * 6) cs.toArray rfl rfl 27 cur2 hg2 (by rw [HCL.out]; exact ex_size) (by rw [HCL.out]; exact hbig2) HC1.out ?_
 rw [show cs.toArray.toList = cs from rfl, HCL.out]
 obtain ⟨w3, hw3⟩ : ∃ W, W = w2.setRow b2 (cur2.toList.take (l.length * 6) ++ cs ++ cur2.toList.drop (l.length * 6 + 6)).toArray := ⟨_, rfl⟩
 rw [<- hw3] at own2 gr2
 rw [<- hw3]
 clear hw3
 have OWw3 := hI own2
 have gq : ∀ k, some b2 = some k -> base <= k := fun k e => by have := Option.some.inj e; omega
 have PCw3 := hI ((World.cell?_of_block (a := ⟨pb, 0, none⟩) (gr2.block _ (World.block_lt_of_cell? _ _ PCw2.out) (fun e => by have e : pb = b2 := Option.some.inj e; have := HBP.out; omega))).trans PCw2.out)
 have HBw3 := hI ((gr2.block _ (lt_of_block HBw2.out) (fun e => by have := Option.some.inj e; have := HBO.out; omega)).trans HBw2.out)
 have KPw3 := hI (KPw2.out.trans (Kp.gr (Nat.le_trans HBS.out KPw2.out.size) gr2 (fun k e => .inr (.inr (gq k e)))))
 have ISw3 := hI (Res.is_imp ISw2.out fun b r h => h.othr HTB.out gr2 (fun k e => by have := gq k e; have := HBO.out; omega))
 refine hK.out _ _ PCw3.out (fun hHeld => ?_)
 clear hK
 try simp only [Act.put, sA, sB, sC]
 refine wpAnyH_done (by kernel_rfl) ?_ _
 go_end0
 exact ⟨rfl, x, _, ISw3.out, HBw3.out, OWw3.out, KPw3.out⟩
open Go.RowKit
/-- A list behind its opening parenthesis, of whatever one reads. -/
def pLg {β : Type} (one : Nat -> List Tk -> Res β) : Nat -> List β -> List Tk -> Res (List β)
 | 0, _, R => .bad R
 | f + 1, acc, R => match one f R with
  | .bad r => .bad r
  | .ok e r => if isT [41] r = true then .ok (acc ++ [e]) r.tail else if isT [44] r = true then pLg one f (acc ++ [e]) r.tail else .bad r
/-- A list with its parentheses. -/
def pPg {β : Type} (one : Nat -> List Tk -> Res β) (f : Nat) (R : List Tk) : Res (List β) := if isT [40] R = true then if isT [41] R.tail = true then .ok [] R.tail.tail else pLg one f [] R.tail else .bad R
theorem pLg_pL : ∀ (f : Nat) (acc : List Ex) (R : List Tk), pLg (fun f R => pB f 0 R) f acc R = pL f acc R
 | 0, _, _ => by rw [pLg, pL]
 | f + 1, acc, R => by
  rw [pLg, pL]
  cases pB f 0 R with
  | bad r => rfl
  | ok e r => simp only [pLg_pL f]
/-- 1 as long as the parse has not failed. -/
def notBad (g : Nat) (w : World) : Nat := match w.cell? ⟨g, 2, none⟩ with
 | some (.bool true) => 0
 | _ => 1
theorem PSx.nb {L : List Lx.Tok} {A : Option Addr} {n c g : Nat} {w : World} {bad : Bool} {R : List Tk} (h : PSx L A n c g w bad R) : notBad g w = if bad = true then 0 else 1 := by
 obtain ⟨i, hi⟩ := h
 unfold notBad
 rw [hi.cells.2.2]
 cases bad <;> rfl
theorem commas_gen {β : Type} (L : List Lx.Tok) (A : Option Addr) (n c g : Nat) (w : World) (bad : Bool) (R : List Tk) (fo : Nat) (bnd caps : Array Value) (St : World -> List β -> Bool -> List Tk -> Prop) (one : Nat -> List Tk -> Res β) (c1 c2 F0 : Nat)
  (hc1 : 1 <= c1) (hc2 : 1 <= c2) (h : St w [] bad R) (hps : ∀ W acc b R', St W acc b R' -> PSx L A n c g W b R') (hst : ∀ W W' acc b b' R' R'', St W acc b R' -> W.grownBy W' (some g) -> PSx L A n c g W' b' R'' -> St W' acc b' R'')
  (hsf : ∀ f R' a r, one f R' = .ok a r -> r.length <= R'.length) (hsb : ∀ f R' r, one f R' = .bad r -> r.length <= R'.length)
  (hOne : ∀ f W acc R', f < F0 -> c1 * R'.length + c2 <= f + 1 -> acc.length + R'.length <= R.length -> St W acc false R' -> Calls Tryz.prog fo (bnd ++ caps) W fun e w' => e = .returned (.tuple #[]) /\ ∃ x, (one f R').is x fun b r => St w' (acc ++ [x]) b r)
  (hF : bad = false -> isT [40] R = true -> c1 * R.tail.length + c2 <= F0) (hcf : ∀ args w, (callFunc fo args).run Tryz.prog w = .ok (.enter fo args) w) :
  Calls Tryz.prog 56 #[.pointer (some ⟨g, 0, none⟩), .func (.func fo) bnd caps] w fun e w' => e = .returned (.tuple #[]) /\ ∃ acc, (if bad = true then .bad R else pPg one F0 R).is acc fun b r => St w' acc b r := by
 obtain ⟨PZ, hPZ⟩ : ∃ z, z = (if bad = true then .bad R else pPg one F0 R) := ⟨_, rfl⟩
 rw [<- hPZ]
 have HZ := hI hPZ
 have HPS := hI hps
 have HST := hI hst
 have HSF := hI hsf
 have HSB := hI hsb
 have HONE := hI hOne
 have HF := hI hF
 have hp := hps _ _ _ _ h
 have hb0 := (Below.refl w.heap.size w).alloc (Nat.le_refl _) (.cells #[.string { data := #[40] }] 9)
 have K1 := hI (need_any L A n c g _ bad R (hp.next hb0) [40] w.heap.size (by simp) (by have := hp.lt; omega) (by rw [cell_of_row _ _ _ _ _ _ (heap_alloc_new w _)]; rfl))
 have G1 := hI (Below.grown_ hb0 (some g))
 have H0 := hI h
 clear h hp hb0 hPZ hps hst hsf hsb hOne hF
 go_enter Tryz.func56, Tryz.ntmps56
 go_wp2_with fail
 refine K1.out.mono ?_
 rintro e w1 ⟨rfl, h1, hg⟩
 have S1 := hI (HST.out _ _ _ _ _ _ _ H0.out (World.grownBy.trans G1.out hg) h1)
 clear h1 hg K1 G1 H0
 generalize hb1 : (bad || !isT [40] R) = b1 at *
 generalize hR1 : tkR bad [40] R = R1 at *
 have HB1 := hI hb1
 have HR1 := hI hR1
 clear hb1 hR1
 go_wp2_with fail
 refine (take_any L A n c g w1 b1 R1 (HPS.out _ _ _ _ S1.out) [41]).mono ?_
 rintro e w2 ⟨rfl, h2, hg⟩
 have S2 := hI (HST.out _ _ _ _ _ _ _ S1.out hg h2)
 clear h2 hg S1
 by_cases ht : tk b1 [41] R1 = true
 ·obtain ⟨eb, ei, er⟩ := tk_true ht
  rw [ht]
  have hz := HZ.out
  rw [er] at S2
  rw [eb] at S2
  have hbb := HB1.out
  rw [eb] at hbb
  have hbad : bad = false := by cases bad with | false => rfl | true => cases hbb
  have h40 : isT [40] R = true := by rw [hbad] at hbb; simpa using hbb
  have hr1 : R1 = R.tail := by rw [<- HR1.out, hbad]; exact if_pos (by unfold tk; rw [h40]; rfl)
  rw [hbad, if_neg (by simp), pPg, if_pos h40, if_pos (by rw [<- hr1]; exact ei)] at hz
  have HZ2 := hI hz
  have HRR := hI hr1
  clear hz hbb hbad h40 hr1 eb ei er ht
  go_wp2
  (try simp only [Exit.inBlock, Exit.then])
  refine bodyPost_ret (results_none rfl _ _ _) rfl ?_
  refine ⟨rfl, [], ?_⟩
  rw [HZ2.out]
  exact ⟨rfl, by rw [<- HRR.out]; exact S2.out⟩
 obtain ⟨e1, e2⟩ := tk_false ht
 rw [e1]
 rw [e2] at S2
 obtain ⟨f1, hz1, hf1⟩ : ∃ f1, PZ = (if b1 = true then .bad R1 else pLg one f1 [] R1) /\ (b1 = false -> (c1 * R1.length + c2 <= f1 /\ f1 <= F0) /\ R1.length <= R.length) := by
  have hz := HZ.out
  have hb := HB1.out
  cases bad with
  | true =>
   obtain rfl : b1 = true := hb.symm
   have er : R = R1 := HR1.out
   rw [er] at hz
   exact ⟨0, hz, fun e => by cases e⟩
  | false =>
   rw [if_neg (by simp), pPg] at hz
   cases h4 : isT [40] R with
   | false =>
    rw [h4] at hb hz
    obtain rfl : b1 = true := hb.symm
    have er : R = R1 := by rw [<- HR1.out]; exact (if_neg (by unfold tk; rw [h4]; simp)).symm
    rw [er, if_neg (by simp)] at hz
    exact ⟨0, hz, fun e => by cases e⟩
   | true =>
    rw [h4] at hb hz
    obtain rfl : b1 = false := hb.symm
    have er : R1 = R.tail := by rw [<- HR1.out]; exact if_pos (by unfold tk; rw [h4]; rfl)
    have hn : isT [41] R.tail = false := by rw [<- er]; simpa [tk] using e1
    rw [if_pos rfl, if_neg (by rw [hn]; simp)] at hz
    exact ⟨F0, by rw [er]; exact hz, fun _ => ⟨⟨by rw [er]; exact HF.out rfl h4, Nat.le_refl _⟩, by rw [er, List.length_tail]; omega⟩⟩
 have Z2 := hI hz1
 have F2 := hI hf1
 clear hz1 hf1 e1 e2 ht HZ HF HB1 HR1
 go_wp2_with fail
 go_loopw [12] (fun _ wr => ∃ (acc : List β) (b : Bool) (R' : List Tk) (f1 : Nat), St wr acc b R' /\ PZ = (if b = true then .bad R' else pLg one f1 acc R') /\ (b = false -> (c1 * R'.length + c2 <= f1 /\ f1 <= F0) /\ acc.length + R'.length <= R.length)) (fun _ wr => 2 * (L.length - idxOf g wr) + notBad g wr)
 case atStart => exact ⟨[], b1, R1, f1, S2.out, Z2.out, fun e => ⟨(F2.out e).1, by rw [List.length_nil, Nat.zero_add]; exact (F2.out e).2⟩⟩
 case round =>
  clear S2 Z2 F2
  obtain ⟨acc, b, R', f1, hS, hZ, hF⟩ := hrel
  have S3 := hI hS
  have p3 := HPS.out _ _ _ _ hS
  have HMU := hI (show 2 * (L.length - idxOf g wr) + notBad g wr = 2 * R'.length + if b = true then 0 else 1 from by rw [p3.idx, p3.nb])
  obtain ⟨i3, hi3⟩ := p3
  obtain ⟨q0, q1, q2⟩ := hi3.cells
  clear hS hi3
  cases b with
  | true =>
   rw [if_pos rfl] at hZ
   have HZ3 := hI hZ
   clear hZ hF
   go_wp2
   go_end0
   refine ⟨rfl, acc, ?_⟩
   rw [HZ3.out]
   exact S3.out
  | false =>
   rw [if_neg (by simp)] at hZ
   obtain ⟨⟨hf1, hf2⟩, hla⟩ := hF rfl
   obtain ⟨f2, hf3⟩ : ∃ f2, f1 = f2 + 1 := ⟨f1 - 1, by omega⟩
   subst hf3
   have HF1 := hI hf1
   have HF2 := hI hf2
   have HLA := hI hla
   have HZ3 := hI hZ
   clear hZ hF hf1 hf2 hla
   go_wp2_with fail
   refine (HONE.out f2 wr acc R' (by have := HF2.out; omega) HF1.out HLA.out S3.out).mono ?_
   rintro e w4 ⟨rfl, x, hx⟩
   obtain ⟨b4, r4, h4, hr4, hb4, ho4⟩ := Res.is_ex (x := x) (P := one f2 R') (Q := fun b r => St w4 (acc ++ [x]) b r) hx
   have S4 := hI h4
   have HO4 := hI ho4
   have HB4 := hI hb4
   clear hx h4 hr4 ho4 hb4 S3
   go_wp2_with fail
   refine (take_any L A n c g w4 b4 r4 (HPS.out _ _ _ _ S4.out) [41]).mono ?_
   rintro e w5 ⟨rfl, h5, hg⟩
   have S5 := hI (HST.out _ _ _ _ _ _ _ S4.out hg h5)
   clear h5 hg S4
   by_cases ht : tk b4 [41] r4 = true
   ·obtain ⟨eb, ei, er⟩ := tk_true ht
    rw [ht]
    rw [er] at S5
    rw [eb] at S5
    have hz := HZ3.out
    rw [pLg, HO4.out eb] at hz
    have HZ4 := hI (show PZ = .ok (acc ++ [x]) r4.tail from hz.trans (if_pos ei))
    clear hz eb ei er ht
    go_wp2
    (try simp only [Exit.inBlock, Exit.then])
    refine bodyPost_ret (results_none rfl _ _ _) rfl ?_
    refine ⟨rfl, acc ++ [x], ?_⟩
    rw [HZ4.out]
    exact ⟨rfl, S5.out⟩
   obtain ⟨e1, e2⟩ := tk_false ht
   rw [e1]
   rw [e2] at S5
   have p5 := HPS.out _ _ _ _ S5.out
   have hb5 := (Below.refl w5.heap.size w5).alloc (Nat.le_refl _) (.cells #[.string { data := #[44] }] 9)
   have K5 := hI (need_any L A n c g _ b4 r4 (p5.next hb5) [44] w5.heap.size (by simp) (by have := p5.lt; omega) (by rw [cell_of_row _ _ _ _ _ _ (heap_alloc_new w5 _)]; rfl))
   have G5 := hI (Below.grown_ hb5 (some g))
   have HN4 := hI (show b4 = false -> isT [41] r4 = false from fun e => by rw [e] at e1; simpa [tk] using e1)
   clear p5 hb5 e1 e2 ht
   go_wp2_with fail
   refine K5.out.mono ?_
   rintro e w6 ⟨rfl, h6, hg⟩
   have S6 := hI (HST.out _ _ _ _ _ _ _ S5.out (World.grownBy.trans G5.out hg) h6)
   clear h6 hg K5 G5 S5
   obtain ⟨bn, rn, hzn, hbn, hln⟩ : ∃ bn rn, (bn = (b4 || !isT [44] r4) /\ rn = tkR b4 [44] r4) /\ PZ = (if bn = true then .bad rn else pLg one f2 (acc ++ [x]) rn) /\ (bn = false -> rn.length + 1 <= R'.length) /\ (bn = true -> rn.length <= R'.length) := by
    refine ⟨_, _, ⟨rfl, rfl⟩, ?_⟩
    have hz := HZ3.out
    rw [pLg] at hz
    cases b4 with
    | true =>
     have hl := HSB.out _ _ _ (HB4.out rfl)
     rw [HB4.out rfl] at hz
     have et : tkR true [44] r4 = r4 := rfl
     exact ⟨by rw [et]; exact hz, (fun e => by cases e), fun _ => by rw [et]; exact hl⟩
    | false =>
     rw [HO4.out rfl] at hz
     have hl := HSF.out _ _ _ _ (HO4.out rfl)
     have hn := HN4.out rfl
     cases h44 : isT [44] r4 with
     | true =>
      have et : tkR false [44] r4 = r4.tail := if_pos (by unfold tk; rw [h44]; rfl)
      have hlt : r4.tail.length + 1 = r4.length := by cases r4 with | nil => cases h44 | cons t r => rfl
      refine ⟨?_, (fun _ => by rw [et]; omega), (fun e => by cases e)⟩
      rw [et]
      exact hz.trans ((if_neg (by rw [hn]; simp)).trans (if_pos h44))
     | false =>
      have et : tkR false [44] r4 = r4 := if_neg (by unfold tk; rw [h44]; simp)
      refine ⟨?_, (fun e => by cases e), fun _ => by rw [et]; omega⟩
      rw [et]
      exact hz.trans ((if_neg (by rw [hn]; simp)).trans (if_neg (by rw [h44]; simp)))
   rw [<- hzn.1, <- hzn.2] at S6
   have Z6 := hI hbn
   have L6 := hI hln
   clear hzn hbn hln HZ3 HO4 HB4 HN4
   go_wp2
   go_roundw
   case rel => exact ⟨acc ++ [x], bn, rn, f2, S6.out, Z6.out, fun e => ⟨⟨by have h1 := HF1.out; have h2 := L6.out.1 e; have h3 := Nat.mul_le_mul_left c1 h2; rw [Nat.mul_add] at h3; omega, by have := HF2.out; omega⟩, by have h2 := L6.out.1 e; have h4 := HLA.out; rw [List.length_append, List.length_singleton]; omega⟩⟩
   case measure =>
    have p6 := HPS.out _ _ _ _ S6.out
    rw [p6.idx, p6.nb, HMU.out]
    have h2 := L6.out
    cases bn with
    | true => have := h2.2 rfl; simp; omega
    | false => have := h2.1 rfl; simp; omega
open Go.RowKit
theorem PSx.rlen {L : List Lx.Tok} {A : Option Addr} {n c g : Nat} {w : World} {bad : Bool} {R : List Tk} (h : PSx L A n c g w bad R) : R.length <= 70000 := by
 have e := h.idx
 obtain ⟨i, hi⟩ := h
 have := hi.ok.len
 omega
theorem enter_args1 (args : Array Value) (w : World) : (callFunc 150 args).run Tryz.prog w = .ok (.enter 150 args) w := by
 kernel_rfl
theorem args_gen (L : List Lx.Tok) (A : Option Addr) (n c g : Nat) (w : World) (bad : Bool) (R : List Tk) (h : PSx L A n c g w bad R) (f : Nat)
  (hE : ∀ f', f' < f -> ∀ W R', 8 * R'.length + 7 <= f' -> PSx L A n c g W false R' -> Calls Tryz.prog 23 #[.pointer (some ⟨g, 0, none⟩)] W (XP L A n c g W (pB f' 0 R')))
  (hm : bad = false -> 8 * R.length + 1 <= f) :
  Calls Tryz.prog 134 #[.pointer (some ⟨g, 0, none⟩)] w (LP L A n c g w (if bad = true then .bad R else pA f R)) := by
 have hPA : (if bad = true then Res.bad R else pA f R) = (if bad = true then Res.bad R else pPg (fun f R => pB f 0 R) (f - 1) R) := by
  cases bad with
  | true => rfl
  | false =>
   obtain ⟨f0, rfl⟩ : ∃ f0, f = f0 + 1 := ⟨f - 1, by have := hm rfl; omega⟩
   rw [if_neg (by simp), if_neg (by simp), pA, pPg, Nat.add_sub_cancel]
   simp only [pLg_pL]
 rw [hPA]
 obtain ⟨wa, hwa⟩ : ∃ wa, wa = w.alloc (.cells #[.pointer (some ⟨g, 0, none⟩)] 66) := ⟨_, rfl⟩
 obtain ⟨wb, hwb⟩ : ∃ wb, wb = wa.alloc (.cells #[.slice none 0 0] 25) := ⟨_, rfl⟩
 have hba : Below w.heap.size w wa := by rw [hwa]; exact (Below.refl _ _).alloc (Nat.le_refl _) _
 have hsa : wa.heap.size = w.heap.size + 1 := by rw [hwa]; exact World.size_alloc ..
 have hsb : wb.heap.size = w.heap.size + 2 := by rw [hwb, World.size_alloc, hsa]
 have hbb : Below wa.heap.size wa wb := by rw [hwb]; exact (Below.refl _ _).alloc (Nat.le_refl _) _
 have hq3 : wb.heap[w.heap.size + 1]? = some (.cells #[.slice none 0 0] 25 (0, 0)) := by rw [hwb, <- hsa]; exact heap_alloc_new wa _
 have hq1 : wb.heap[w.heap.size]? = some (.cells #[.pointer (some ⟨g, 0, none⟩)] 66 (0, 0)) := by
  rw [hbb.block _ (by omega), hwa]; exact heap_alloc_new w _
 have HG0 := hI (gr_below (Below.grown_ hba (some g)) hbb)
 have h0 := (h.next hba).next hbb
 have hgl := h.lt
 have htb := h.base
 have hrl := h.rlen
 have htb2 : TB A g (w.heap.size + 1) := by
  obtain ⟨⟨b, q, e, h1⟩, h2, h3⟩ := htb
  exact ⟨⟨b, q, e, by omega⟩, by omega, by omega⟩
 have K := hI (commas_gen (β := Ex) L A n c g wb bad R 150 #[] #[.pointer (some ⟨w.heap.size + 1, 0, none⟩), .pointer (some ⟨w.heap.size, 0, none⟩)]
  (fun W acc b R' => PSx L A n c g W b R' /\ ∃ v, W.cell? ⟨w.heap.size, 0, none⟩ = some (.pointer (some ⟨g, 0, none⟩)) /\ W.heap[w.heap.size + 1]? = some (.cells #[v] 25 (0, 0)) /\ OwnG XV 27 6 W (w.heap.size + 2) v acc /\ Kp (w.heap.size + 2) g (w.heap.size + 1) wb W)
  (fun f R => pB f 0 R) 8 8 (f - 1) (by omega) (by omega)
  ⟨h0, _, by rw [cell_of_row _ _ _ _ _ _ hq1]; rfl, hq3, OwnG.nil _ _, Kp.refl _ _ _ _⟩ (fun W acc b R' h => h.1)
  (fun W W' acc b b' R' R'' ⟨h1, v, h2, h3, h4, h5⟩ hg hp => ⟨hp, v, (World.cell?_of_block (a := ⟨w.heap.size, 0, none⟩) (hg.block _ (World.block_lt_of_cell? _ _ h2) (fun e => by have e : w.heap.size = g := Option.some.inj e; omega))).trans h2, (hg.block _ (lt_of_block h3) (fun e => by have := Option.some.inj e; omega)).trans h3, h4.gr okXV hg (fun k e => by have := Option.some.inj e; omega), h5.trans (Kp.gr (by have := h5.size; omega) hg (fun k e => .inl (Option.some.inj e).symm))⟩)
  (fun f R' a r e => suf_len ((suf_of ((suf_parts f).1 0 R')).1 _ _ e)) (fun f R' r e => suf_len ((suf_of ((suf_parts f).1 0 R')).2 _ e))
  (fun f' W acc R' hf hl hal ⟨h1, v, h2, h3, h4, h5⟩ => by
   refine (args1_gen L A n c g W false R' h1 (w.heap.size + 1) w.heap.size (w.heap.size + 2) v acc h2 (by omega) (by omega) (by omega) h3 h4 (by omega) (by omega) (by have := h5.size; omega) htb2 (by omega) (pB f' 0 R') (fun W hW => hE f' (by omega) W R' (by omega) hW)).mono ?_
   rintro e w' ⟨rfl, x, v', hP, hbx, hO, hK⟩
   refine ⟨rfl, x, Res.is_imp hP fun b r hp => ⟨hp, v', (World.cell?_of_block (a := ⟨w.heap.size, 0, none⟩) (hK.block _ (show w.heap.size < _ by omega) (show w.heap.size ≠ _ by omega) (show w.heap.size ≠ _ by omega))).trans h2, hbx, hO, h5.trans hK⟩⟩)
  (fun hb h40 => by
   have := hm hb
   have hlt : R.tail.length + 1 = R.length := by cases R with | nil => cases h40 | cons t r => rfl
   omega) enter_args1)
 generalize (if bad = true then Res.bad R else pPg (fun f R => pB f 0 R) (f - 1) R) = PZ at *
 have HSA := hI hsa
 have C1 := hI (show wb.cell? ⟨w.heap.size, 0, none⟩ = some (.pointer (some ⟨g, 0, none⟩)) from by rw [cell_of_row _ _ _ _ _ _ hq1]; rfl)
 have HSB := hI hsb
 have HGL := hI hgl
 clear h hE hm hPA hba hbb hq3 hq1 h0 htb htb2 hgl hrl hsb
 rw [hwa] at hwb
 go_enter Tryz.func134, Tryz.ntmps134
 go_upto_region 2 with fail
 rw [<- hwb]
 clear hwb hwa hsa
 have c1 : wb.cell? ⟨w.heap.size, 0, none⟩ = some (.pointer (some ⟨g, 0, none⟩)) := C1.out
 go_wp2_with fail
 refine K.out.mono ?_
 rintro e w1 ⟨rfl, acc, hP⟩
 obtain ⟨b, r, ⟨hps, v, hpc, hbx, hO, hK⟩, -, hb1, ho1⟩ := Res.is_ex hP
 obtain ⟨A1, c1', rfl, hxl⟩ := hO.xl
 have HPP := hI (show PZ.is acc fun b r => PSx L A n c g w1 b r from Res.is_imp hP fun b r h => h.1)
 have c3 : w1.cell? ⟨w.heap.size + 1, 0, none⟩ = some (.slice A1 acc.length c1') := by rw [cell_of_row _ _ _ _ _ _ hbx]; rfl
 have HXL := hI (hxl.more (S' := fun b => w.heap.size <= b) fun b _ (h : w.heap.size + 2 <= b) => by omega)
 have GR := hI (show w.grownBy w1 (some g) from by
  have g0 := HG0.out
  exact ⟨hK.os.trans g0.os, hK.tape.trans g0.tape, hK.output.trans g0.output, Nat.le_trans g0.size hK.size, fun b hb hne => (hK.block b (by omega) (fun e => hne (by rw [e])) (by omega)).trans (g0.block b hb hne)⟩)
 clear hP hps hpc hbx hO hK hb1 ho1 hxl c1 K C1
 go_wp2
 go_ret
 exact ⟨acc, A1, acc.length, c1', rfl, HXL.out, GR.out, HPP.out⟩
open Go.RowKit
section
variable {L : List Lx.Tok} {A : Option Addr} {n c g : Nat}
theorem unary_bad (W : World) (R : List Tk) (h : PSx L A n c g W true R) : Calls Tryz.prog 135 #[.pointer (some ⟨g, 0, none⟩)] W (XP L A n c g W (.bad R)) := by
 have := unary_gen L A n c g W true R h (.bad R) (.bad R) (.bad R) (.bad R) (fun e => by rcases e with e | e <;> cases e) (fun e => by cases e) (fun e => by cases e) (fun e => by cases e)
 exact this
theorem product_bad (W : World) (R : List Tk) (h : PSx L A n c g W true R) : Calls Tryz.prog 128 #[.pointer (some ⟨g, 0, none⟩)] W (XP L A n c g W (.bad R)) :=
 lvl_product L A n c g W true R h 0 (fun W R' h => unary_bad W R' h) (fun f' h => absurd h (Nat.not_lt_zero _)) (fun e => by cases e)
theorem sum_bad (W : World) (R : List Tk) (h : PSx L A n c g W true R) : Calls Tryz.prog 105 #[.pointer (some ⟨g, 0, none⟩)] W (XP L A n c g W (.bad R)) :=
 lvl_sum L A n c g W true R h 0 (fun W R' h => product_bad W R' h) (fun f' h => absurd h (Nat.not_lt_zero _)) (fun e => by cases e)
theorem comparison_bad (W : World) (R : List Tk) (h : PSx L A n c g W true R) : Calls Tryz.prog 81 #[.pointer (some ⟨g, 0, none⟩)] W (XP L A n c g W (.bad R)) :=
 lvl_comparison L A n c g W true R h 0 (fun W R' h => sum_bad W R' h) (fun f' h => absurd h (Nat.not_lt_zero _)) (fun e => by cases e)
theorem and_bad (W : World) (R : List Tk) (h : PSx L A n c g W true R) : Calls Tryz.prog 47 #[.pointer (some ⟨g, 0, none⟩)] W (XP L A n c g W (.bad R)) :=
 lvl_and L A n c g W true R h 0 (fun W R' h => comparison_bad W R' h) (fun f' h => absurd h (Nat.not_lt_zero _)) (fun e => by cases e)
theorem expr_bad (W : World) (R : List Tk) (h : PSx L A n c g W true R) : Calls Tryz.prog 23 #[.pointer (some ⟨g, 0, none⟩)] W (XP L A n c g W (.bad R)) :=
 lvl_expr L A n c g W true R h 0 (fun W R' h => and_bad W R' h) (fun f' h => absurd h (Nat.not_lt_zero _)) (fun e => by cases e)
end
/-- What the function of a level is. -/
def lvF : Nat -> Nat
 | 0 => 23
 | 1 => 47
 | 2 => 81
 | 3 => 105
 | _ => 128
/-- All the expression functions, with so much fuel. -/
structure At (L : List Lx.Tok) (A : Option Addr) (n c g f : Nat) : Prop where
 lv : ∀ k, k < 5 -> ∀ W R, 8 * R.length + 2 + (5 - k) <= f -> PSx L A n c g W false R -> Calls Tryz.prog (lvF k) #[.pointer (some ⟨g, 0, none⟩)] W (XP L A n c g W (pB f k R))
 un : ∀ W R, 8 * R.length + 1 <= f -> PSx L A n c g W false R -> Calls Tryz.prog 135 #[.pointer (some ⟨g, 0, none⟩)] W (XP L A n c g W (pU f R))
 ho : ∀ W R, 8 * R.length + 1 <= f -> PSx L A n c g W false R -> Calls Tryz.prog 116 #[.pointer (some ⟨g, 0, none⟩)] W (XP L A n c g W (pH f R))
 ca : ∀ W R s, 8 * R.length + 1 <= f -> PSx L A n c g W false R -> Calls Tryz.prog 117 #[.pointer (some ⟨g, 0, none⟩), .string (bs s)] W (XP L A n c g W (pK f s R))
theorem isT_len {s : Str} {R : List Tk} (h : isT s R = true) : R.tail.length + 1 = R.length := by cases R with | nil => cases h | cons t r => rfl
theorem kind_len {k : Int} {R : List Tk} (h : kindT R = k) (hk : k ≠ 0) : R.tail.length + 1 = R.length := by cases R with | nil => exact absurd h.symm hk | cons t r => rfl
theorem wd_len (b : Bool) (k : Int) (R : List Tk) : (wdR b k R).length <= R.length := by
 unfold wdR
 split
 ·exact Nat.le_refl _
 rw [List.length_tail]; omega
theorem tkR_len (b : Bool) (s : Str) (R : List Tk) : (tkR b s R).length <= R.length := by
 unfold tkR
 split
 ·rw [List.length_tail]; omega
 exact Nat.le_refl _
/-- What args answers behind a dot and a name. -/
def pDA (f : Nat) (R : List Tk) : Res (List Ex) := if wdB (false || !isT [46] R) 1 (tkR false [46] R) = true then .bad (wdR (false || !isT [46] R) 1 (tkR false [46] R)) else pA f (wdR (false || !isT [46] R) 1 (tkR false [46] R))
theorem dot_cases (R : List Tk) :
  (isT [46] R = false /\ wdB (false || !isT [46] R) 1 (tkR false [46] R) = true /\ wdR (false || !isT [46] R) 1 (tkR false [46] R) = R) ∨
  (isT [46] R = true /\ kindT R.tail ≠ 1 /\ wdB (false || !isT [46] R) 1 (tkR false [46] R) = true /\ wdR (false || !isT [46] R) 1 (tkR false [46] R) = R.tail) ∨
  (isT [46] R = true /\ kindT R.tail = 1 /\ wdB (false || !isT [46] R) 1 (tkR false [46] R) = false /\ wdR (false || !isT [46] R) 1 (tkR false [46] R) = R.tail.tail /\ wdS (false || !isT [46] R) 1 (tkR false [46] R) = textT R.tail) := by
 cases h : isT [46] R with
 | false =>
  left
  have e : tkR false [46] R = R := if_neg (by unfold tk; rw [h]; simp)
  rw [e]
  exact ⟨rfl, rfl, if_pos (.inl rfl)⟩
 | true =>
  right
  have e : tkR false [46] R = R.tail := if_pos (by unfold tk; rw [h]; rfl)
  rw [e]
  by_cases hk : kindT R.tail = 1
  ·right
   refine ⟨rfl, hk, by simp [wdB, hk], if_neg (by rintro (e | e); cases e; exact e hk), if_neg (by rintro (e | e); cases e; exact e hk)⟩
  left
  exact ⟨rfl, hk, by simp [wdB, hk], if_pos (.inr hk)⟩
theorem hostP (f : Nat) (R : List Tk) : ((pDA f R).map fun l => Ex.mk 7 0 (wdS (false || !isT [46] R) 1 (tkR false [46] R)) [] l []) = pH (f + 1) R := by
 rw [pH]
 unfold pDA
 rcases dot_cases R with ⟨h1, h2, h3⟩ | ⟨h1, hk, h2, h3⟩ | ⟨h1, hk, h2, h3, h4⟩
 ·rw [if_pos h2, h3, if_neg (by rw [h1]; simp)]; rfl
 ·rw [if_pos h2, h3, if_pos h1, if_neg hk]; rfl
 rw [if_neg (by rw [h2]; simp), h3, if_pos h1, if_pos hk, h4]
 cases pA f R.tail.tail <;> rfl
theorem callP (f : Nat) (s : Str) (R : List Tk) : kEnd s (wdS (false || !isT [46] R) 1 (tkR false [46] R)) (pDA f R) (pU f) = pK (f + 1) s R := by
 rw [pK]
 unfold pDA kEnd
 rcases dot_cases R with ⟨h1, h2, h3⟩ | ⟨h1, hk, h2, h3⟩ | ⟨h1, hk, h2, h3, h4⟩
 ·rw [if_pos h2, h3, if_neg (by rw [h1]; simp)]
 ·rw [if_pos h2, h3, if_pos h1, if_neg hk]
 rw [if_neg (by rw [h2]; simp), h3, if_pos h1, if_pos hk, h4]
 cases pA f R.tail.tail with
 | bad r => rfl
 | ok l r =>
  dsimp only
  split
  ·cases pU f r.tail <;> rfl
  rfl
theorem unaryP (f : Nat) (R : List Tk) : uEnd false R (pU f R.tail) (pB f 0 R.tail) (pH f R.tail) (pK f (textT R) R.tail) = pU (f + 1) R := by
 rw [pU]
 unfold uEnd pEnd
 have e : ∀ s, tk false s R = isT s R := fun s => rfl
 have e1 : ∀ k, (wdB false k R = false) = (kindT R = k) := fun k => by simp [wdB]
 simp only [e, e1]
 split
 ·cases pU f R.tail <;> rfl
 split
 ·cases pU f R.tail <;> rfl
 rfl
theorem at_all (L : List Lx.Tok) (A : Option Addr) (n c g : Nat) (f : Nat) : At L A n c g f := by
 induction f using Nat.strongRecOn with
 | ind f ih =>
  have hargs : ∀ f0, f0 < f -> ∀ W b R, (b = false -> 8 * R.length + 1 <= f0) -> PSx L A n c g W b R -> Calls Tryz.prog 134 #[.pointer (some ⟨g, 0, none⟩)] W (LP L A n c g W (if b = true then .bad R else pA f0 R)) := fun f0 h0 W b R hl h =>
   args_gen L A n c g W b R h f0 (fun f' hf W R' hl h => (ih f' (by omega)).lv 0 (by omega) W R' (by omega) h) hl
  have hda : ∀ f0, f0 < f -> ∀ W R, 8 * R.length <= f0 -> PSx L A n c g W (wdB (false || !isT [46] R) 1 (tkR false [46] R)) (wdR (false || !isT [46] R) 1 (tkR false [46] R)) -> Calls Tryz.prog 134 #[.pointer (some ⟨g, 0, none⟩)] W (LP L A n c g W (pDA f0 R)) := fun f0 h0 W R hl h =>
   hargs f0 h0 W _ _ (fun e => by
    rcases dot_cases R with ⟨h1, h2, h3⟩ | ⟨h1, hk, h2, h3⟩ | ⟨h1, hk, h2, h3, h4⟩
    ·rw [h2] at e; cases e
    ·rw [h2] at e; cases e
    rw [h3]
    have l1 := isT_len h1
    have l2 := kind_len hk (by decide)
    omega) h
  refine ⟨?_, ?_, ?_, ?_⟩
  ·intro k hk W R hl h
   match k, hk with
   | 0, _ => exact lvl_expr L A n c g W false R h f (fun W R' h => and_bad W R' h) (fun f' hf W R' hl h => (ih f' hf).lv 1 (by omega) W R' (by omega) h) (fun _ => by omega)
   | 1, _ => exact lvl_and L A n c g W false R h f (fun W R' h => comparison_bad W R' h) (fun f' hf W R' hl h => (ih f' hf).lv 2 (by omega) W R' (by omega) h) (fun _ => by omega)
   | 2, _ => exact lvl_comparison L A n c g W false R h f (fun W R' h => sum_bad W R' h) (fun f' hf W R' hl h => (ih f' hf).lv 3 (by omega) W R' (by omega) h) (fun _ => by omega)
   | 3, _ => exact lvl_sum L A n c g W false R h f (fun W R' h => product_bad W R' h) (fun f' hf W R' hl h => (ih f' hf).lv 4 (by omega) W R' (by omega) h) (fun _ => by omega)
   | 4, _ => exact lvl_product L A n c g W false R h f (fun W R' h => unary_bad W R' h) (fun f' hf W R' hl h => by
     obtain ⟨f0, rfl⟩ : ∃ f0, f' = f0 + 1 := ⟨f' - 1, by omega⟩
     rw [pB, if_pos (by omega)]
     exact (ih f0 (by omega)).un W R' (by omega) h) (fun _ => by omega)
  ·intro W R hl h
   obtain ⟨f0, rfl⟩ : ∃ f0, f = f0 + 1 := ⟨f - 1, by omega⟩
   rw [<- unaryP]
   exact unary_gen L A n c g W false R h _ _ _ _ (fun e W h => (ih f0 (by omega)).un W _ (by have := e.elim (fun e => isT_len (tk_true e).2.1) (fun e => isT_len (tk_true e).2.1); omega) h)
    (fun e W h => (ih f0 (by omega)).lv 0 (by omega) W _ (by have := isT_len (tk_true e).2.1; omega) h)
    (fun e W h => (ih f0 (by omega)).ho W _ (by have := isT_len (tk_true e).2.1; omega) h)
    (fun e _ W h => (ih f0 (by omega)).ca W _ _ (by have := kind_len (wd_false e).2.1 (by decide); omega) h)
  ·intro W R hl h
   obtain ⟨f0, rfl⟩ : ∃ f0, f = f0 + 1 := ⟨f - 1, by omega⟩
   rw [<- hostP]
   exact host_gen L A n c g W false R h _ (fun W h => hda f0 (by omega) W R (by omega) h)
  intro W R s hl h
  obtain ⟨f0, rfl⟩ : ∃ f0, f = f0 + 1 := ⟨f - 1, by omega⟩
  rw [<- callP]
  exact call_gen L A n c g W false R h s _ _ (fun W h => hda f0 (by omega) W R (by omega) h) (fun l r e he W h => (ih f0 (by omega)).un W _ (by
   have l1 := isT_len he
   unfold pDA at e
   split at e
   ·cases e
   have l2 := suf_len ((suf_of ((suf_parts f0).2.2.2.2.2.1 _)).1 _ _ e)
   have l3 := wd_len (false || !isT [46] R) 1 (tkR false [46] R)
   have l4 := tkR_len false [46] R
   omega) h)
open Go.RowKit
theorem SV.gr {w w' : World} {S S' : Nat -> Prop} {e : St} {cs : List Value} {r : Nat} (h : SV w S e cs) (hg : w.grownBy w' (some r)) (hS : ∀ b, b < w.heap.size -> S b -> b ≠ r /\ S' b) : SV w' S' e cs :=
 SV.keep hg.size (fun b hb hs => hg.block b hb fun e => (hS b hb hs).1 (Option.some.inj e)) (fun b hb hs => (hS b hb hs).2) h
theorem SL.gr {w w' : World} {S S' : Nat -> Prop} {A : Option Addr} {n c : Nat} {l : List St} {r : Nat} (h : SL w S A n c l) (hg : w.grownBy w' (some r)) (hS : ∀ b, b < w.heap.size -> S b -> b ≠ r /\ S' b) : SL w' S' A n c l :=
 SL.keep hg.size (fun b hb hs => hg.block b hb fun e => (hS b hb hs).1 (Option.some.inj e)) (fun b hb hs => (hS b hb hs).2) h
/-- What a function that reads a statement answers. -/
def SP (L : List Lx.Tok) (A : Option Addr) (n c g : Nat) (w : World) (P : Res St) (e : Ending) (w' : World) : Prop :=
 ∃ (st : St) (cs : List Value), e = .returned (.agg cs.toArray) /\ SV w' (fun b => w.heap.size <= b) st cs /\ w.grownBy w' (some g) /\ P.is st fun b r => PSx L A n c g w' b r
/-- .. a list of statements. -/
def TP (L : List Lx.Tok) (A : Option Addr) (n c g : Nat) (w : World) (P : Res (List St)) (e : Ending) (w' : World) : Prop :=
 ∃ (l : List St) (B : Option Addr) (m k : Nat), e = .returned (.slice B m k) /\ SL w' (fun b => w.heap.size <= b) B m k l /\ w.grownBy w' (some g) /\ P.is l fun b r => PSx L A n c g w' b r
theorem wl_app {P : Program} {ops : Array Oper} {rest : List Oper} {o : Oper} {a : Act} {w : World} {Q : Exit -> Act -> World -> Prop}
  (hg : o.guard = none) (d x : Operand) (t : TypeId) (hop : o.op = Op.call { callee := Callee.builtin Builtin.append, args := #[d, x], argTypes := #[t, t] })
  (v u : Value) (hd : a.eval d = v) (hx : a.eval x = u) {v' : Value} {w' : World} (hr : (Builtin.append_ #[t, t] o.type #[v, u]).run P w = .ok v' w') (h : wpList P ops Q rest (a.put o.dst v') w') : wpList P ops Q (o :: rest) a w :=
 wpList_plain hg fun _ hK => by
  unfold Oper.wp execOp
  simp only [hop, resolve, invoke, builtin, Sem.run_bind, Sem.run_pure, Result.andThen_ok, List.map_toArray, List.map_cons, List.map_nil, hd, hx, hr]
  exact hK _ _ h
theorem SL.nil_ (w : World) (S : Nat -> Prop) : SL w S none 0 0 [] := ⟨⟨rfl, Nat.le_refl _, fun _ => rfl⟩, fun h => absurd h (by omega)⟩
theorem tail_le (R : List Tk) : R.tail.length <= R.length := by rw [List.length_tail]; omega
theorem block_gen (L : List Lx.Tok) (A : Option Addr) (n c g : Nat) (w : World) (bad : Bool) (R : List Tk) (h : PSx L A n c g w bad R) (f : Nat)
  (hS : ∀ f', f' < f -> ∀ W R', 4 * R'.length + 3 <= f' -> PSx L A n c g W false R' -> Calls Tryz.prog 89 #[.pointer (some ⟨g, 0, none⟩)] W (SP L A n c g W (pS f' R')))
  (hlt : ∀ f R s r, pS f R = .ok s r -> r.length + 1 <= R.length)
  (hm : bad = false -> 4 * R.length + 1 <= f) :
  Calls Tryz.prog 58 #[.pointer (some ⟨g, 0, none⟩)] w (TP L A n c g w (if bad = true then .bad R else pBl f R)) := by
 obtain ⟨PZ, hPZ⟩ : ∃ z, z = (if bad = true then .bad R else pBl f R) := ⟨_, rfl⟩
 rw [<- hPZ]
 have hrl := h.rlen
 have hb0 := (Below.refl w.heap.size w).alloc (Nat.le_refl _) (.cells #[.string { data := #[123] }] 9)
 have K1 := hI (need_any L A n c g _ bad R (h.next hb0) [123] w.heap.size (by simp) (by have := h.lt; omega) (by rw [cell_of_row _ _ _ _ _ _ (heap_alloc_new w _)]; rfl))
 have G0 := hI (Below.grown_ hb0 (some g))
 have TBs := hI h.base
 have HGL := hI h.lt
 have HRL := hI hrl
 obtain ⟨f1, hz1, hf1⟩ : ∃ f1, PZ = (if (bad || !isT [123] R) = true then .bad (tkR bad [123] R) else pM f1 [] (tkR bad [123] R)) /\ ((bad || !isT [123] R) = false -> (4 * (tkR bad [123] R).length + 4 <= f1 /\ f1 <= f) /\ (tkR bad [123] R).length <= R.length) := by
  cases bad with
  | true => exact ⟨0, hPZ, fun e => by cases e⟩
  | false =>
   have hm := hm rfl
   obtain ⟨f0, rfl⟩ : ∃ f0, f = f0 + 1 := ⟨f - 1, by omega⟩
   rw [if_neg (by simp), pBl] at hPZ
   cases h4 : isT [123] R with
   | false =>
    have er : tkR false [123] R = R := if_neg (by unfold tk; rw [h4]; simp)
    rw [h4, if_neg (by simp)] at hPZ
    rw [er]
    exact ⟨0, hPZ, fun e => by cases e⟩
   | true =>
    have er : tkR false [123] R = R.tail := if_pos (by unfold tk; rw [h4]; rfl)
    rw [h4, if_pos rfl] at hPZ
    have hl := isT_len h4
    rw [er]
    exact ⟨f0, hPZ, fun _ => ⟨⟨by omega, by omega⟩, by omega⟩⟩
 have Z1 := hI hz1
 have F1 := hI hf1
 have HS := hI hS
 have HSTR := hI hlt
 generalize (bad || !isT [123] R) = b1 at *
 generalize tkR bad [123] R = R1 at *
 clear h hrl hb0 hPZ hz1 hf1 hS hlt hm
 go_enter Tryz.func58, Tryz.ntmps58
 go_wp2_with fail
 refine K1.out.mono ?_
 rintro e w1 ⟨rfl, h1, hg⟩
 have P1 := hI h1
 have G1 := hI (World.grownBy.trans G0.out hg)
 clear h1 hg K1 G0
 go_wp2_with fail
 go_loopw [3] (fun v3 wr => ∃ (acc : List St) (b : Bool) (R' : List Tk) (f1 : Nat), PSx L A n c g wr b R' /\ OwnG SV 74 11 wr w.heap.size v3 acc /\ w.grownBy wr (some g) /\ PZ = (if b = true then .bad R' else pM f1 acc R') /\ (b = false -> (4 * R'.length + 4 <= f1 /\ f1 <= f) /\ acc.length + R'.length <= R.length)) (fun _ wr => 2 * (L.length - idxOf g wr) + notBad g wr)
 case atStart => exact ⟨[], b1, R1, f1, P1.out, OwnG.nil _ _, G1.out, Z1.out, fun e => ⟨(F1.out e).1, by rw [List.length_nil, Nat.zero_add]; exact (F1.out e).2⟩⟩
 case round =>
  clear P1 G1 Z1 F1
  obtain ⟨acc, b, R', f2, hP, hO, hG, hZ, hF⟩ := hrel
  have HMU := hI (show 2 * (L.length - idxOf g wr) + notBad g wr = 2 * R'.length + if b = true then 0 else 1 from by rw [hP.idx, hP.nb])
  have P2 := hI hP
  have O2 := hI hO
  have G2 := hI hG
  obtain ⟨i2, hi2⟩ := hP
  obtain ⟨q0, q1, q2⟩ := hi2.cells
  clear hO hG hi2
  cases b with
  | true =>
   rw [if_pos rfl] at hZ
   have HZ2 := hI hZ
   clear hZ hF
   obtain ⟨A2, c2, rfl, hsl⟩ := O2.out.sl
   have HSL := hI hsl
   clear hsl
   go_wp2
   go_ret
   refine ⟨acc, A2, acc.length, c2, rfl, HSL.out, G2.out, ?_⟩
   rw [HZ2.out]
   exact P2.out
  | false =>
   rw [if_neg (by simp)] at hZ
   obtain ⟨⟨hf1, hf2⟩, hla⟩ := hF rfl
   obtain ⟨f3, hf3⟩ : ∃ f3, f2 = f3 + 1 := ⟨f2 - 1, by omega⟩
   subst hf3
   rw [pM] at hZ
   have HF1 := hI hf1
   have HF2 := hI hf2
   have HLA := hI hla
   have HZ3 := hI hZ
   clear hZ hF hf1 hf2 hla
   go_wp2_with fail
   refine (take_any L A n c g wr false R' P2.out [125]).mono ?_
   rintro e w3 ⟨rfl, h3, hg⟩
   by_cases ht : tk false [125] R' = true
   ·obtain ⟨eb, ei, er⟩ := tk_true ht
    rw [ht]
    rw [er] at h3
    have P3 := hI h3
    have O3 := hI (O2.out.gr okSV hg (fun k e => by have := Option.some.inj e; have := HGL.out; omega))
    have G3 := hI (World.grownBy.trans G2.out hg)
    have hz := HZ3.out
    rw [if_pos ei] at hz
    have HZ4 := hI hz
    clear hz eb ei er ht h3 hg P2 O2 G2
    obtain ⟨A2, c2, rfl, hsl⟩ := O3.out.sl
    have HSL := hI hsl
    clear hsl
    go_wp2
    go_ret
    refine ⟨acc, A2, acc.length, c2, rfl, HSL.out, G3.out, ?_⟩
    rw [HZ4.out]
    exact ⟨rfl, P3.out⟩
   obtain ⟨e1, e2⟩ := tk_false ht
   rw [e1]
   rw [e2] at h3
   have P3 := hI h3
   have O3 := hI (O2.out.gr okSV hg (fun k e => by have := Option.some.inj e; have := HGL.out; omega))
   have G3 := hI (World.grownBy.trans G2.out hg)
   have hz := HZ3.out
   rw [if_neg (by have e : isT [125] R' = false := by simpa [tk] using e1
                  rw [e]; simp)] at hz
   have HZ4 := hI hz
   clear hz e1 e2 ht h3 hg P2 O2 G2
   go_wp2_with fail
   refine (HS.out f3 (by have := HF2.out; omega) w3 R' (by have := HF1.out; omega) P3.out).mono ?_
   rintro e w4 ⟨st, cs, rfl, hx, hg, hP4⟩
   obtain ⟨b4, r4, hps, hr4, hb4, ho4⟩ := Res.is_ex (x := st) (P := pS f3 R') (Q := fun b r => PSx L A n c g w4 b r) hP4
   have hl4 := suf_len ((suf_stmts f3).1 R')
   rw [<- hr4] at hl4
   obtain ⟨sst, hss⟩ : ∃ z, z = st := ⟨_, rfl⟩
   have HSS := hI hss
   obtain ⟨sk, sn, sm, se, sb, sl⟩ := st
   obtain ⟨ex, B, nb, cb, Lb, nl, cl, rfl, hex, -, -⟩ := hx.open_
   obtain ⟨k1, n1, s1, m1, a1, o1⟩ := se
   obtain ⟨A1, na1, ca1, O1, no1, co1, rfl, -, -⟩ := hex.open_
   obtain ⟨w5, hw5⟩ : ∃ W, W = w4.alloc (.cells #[.int .i64 sk, .string (bs sn), .int .i64 sm, .int .i64 k1, .int .i64 n1, .string (bs s1), .string (bs m1), .slice A1 na1 ca1, .slice O1 no1 co1, .slice B nb cb, .slice Lb nl cl] 74) := ⟨_, rfl⟩
   have hb5 : Below w4.heap.size w4 w5 := by rw [hw5]; exact (Below.refl _ _).alloc (Nat.le_refl _) _
   have hr5 : w5.heap[w4.heap.size]? = some (.cells #[.int .i64 sk, .string (bs sn), .int .i64 sm, .int .i64 k1, .int .i64 n1, .string (bs s1), .string (bs m1), .slice A1 na1 ca1, .slice O1 no1 co1, .slice B nb cb, .slice Lb nl cl] 74 (0, 0)) := by rw [hw5]; exact heap_alloc_new w4 _
   have O4 := O3.out.gr okSV hg (fun k e => by have := Option.some.inj e; have := HGL.out; omega)
   have O5 := O4.below okSV hb5
   obtain ⟨v6, w6, hrun, O6, gr6, -⟩ := O5.app (t := 72) (ty := 72) okSV apk_s w3.heap.size w4.heap.size _ _ (lt_of_block hr5) (fun j v hv => by rw [Nat.zero_add, cell_of_row _ _ _ _ _ _ hr5, <- hv, <- Array.getElem?_toList]; rfl) (hx.below hb5) (by have := HLA.out; have := HRL.out; omega) (by have := G3.out.size; have := hg.size; have := hb5.size; omega) (fun k e => (O3.out.lt k e).2) G3.out.size
   have gq : ∀ k, u3.ownBlock = some k -> w.heap.size <= k := fun k e => (O3.out.lt k e).1
   have g45 := gr_below (World.grownBy.trans G3.out hg) hb5
   have G6 := hI (show w.grownBy w6 (some g) from ⟨gr6.os.trans g45.os, gr6.tape.trans g45.tape, gr6.output.trans g45.output, Nat.le_trans g45.size gr6.size, fun b hb hne => (gr6.block b (Nat.lt_of_lt_of_le hb g45.size) (fun e => by have := gq b e.symm; omega)).trans (g45.block b hb hne)⟩)
   have P6 := hI (PSx.othr TBs.out (hps.next hb5) gr6 gq)
   have OO6 := hI O6
   have HRUN := hI hrun
   have HL4 := hI hl4
   have HB4 := hI hb4
   have HO4 := hI ho4
   clear hx hg hP4 hps hr4 hb4 ho4 hl4 hss hex hb5 hr5 O4 O5 hrun O6 gr6 g45 gq P3 O3 G3
   rw [show (stC sk sn sm (exC k1 n1 s1 m1 A1 na1 ca1 O1 no1 co1) B nb cb Lb nl cl).toArray = #[.int .i64 sk, .string (bs sn), .int .i64 sm, .int .i64 k1, .int .i64 n1, .string (bs s1), .string (bs m1), .slice A1 na1 ca1, .slice O1 no1 co1, .slice B nb cb, .slice Lb nl cl] from rfl]
   go_wp2_with (at_builtin; rw [<- hw5]; refine wl_app rfl _ _ 72 rfl _ _ rfl rfl HRUN.out ?_)
   clear HRUN hw5
   have hstr : b4 = false -> r4.length + 1 <= R'.length := fun e => HSTR.out _ _ _ _ (HO4.out e)
   have hla := HLA.out
   have hf1 := HF1.out
   have hf2 := HF2.out
   have hl4 := HL4.out
   refine ⟨⟨acc ++ [.mk sk sn sm (.mk k1 n1 s1 m1 a1 o1) sb sl], b4, r4, f3, P6.out, OO6.out, G6.out, ?_, fun e => ⟨⟨by have := hstr e; omega, by omega⟩, by have := hstr e; rw [List.length_append, List.length_singleton]; omega⟩⟩, ?_⟩
   ·rw [HZ4.out]
    cases b4 with
    | true => rw [HB4.out rfl]; rfl
    | false => rw [HO4.out rfl]; rfl
   rw [P6.out.idx, P6.out.nb, HMU.out]
   cases b4 with
   | true => simp; omega
   | false => have := hstr rfl; simp; omega
open Go.RowKit
/-- Block r holds a statement's cells. -/
def SB (w : World) (r : Nat) (u : Array Value) : Prop := w.heap[r]? = some (.cells u 74 (0, 0))
theorem SB.gr {w w' : World} {r k : Nat} {u : Array Value} (h : SB w r u) (hg : w.grownBy w' (some k)) (hk : r ≠ k) : SB w' r u := (hg.block r (lt_of_block h) (fun e => hk (Option.some.inj e))).trans h
theorem SB.below {w w' : World} {r : Nat} {u : Array Value} (h : SB w r u) (hb : Below w.heap.size w w') : SB w' r u := (hb.block r (lt_of_block h)).trans h
theorem SB.lt {w : World} {r : Nat} {u : Array Value} (h : SB w r u) : r < w.heap.size := lt_of_block h
theorem SB.set {w : World} {r : Nat} {u : Array Value} (h : SB w r u) (j : Nat) (v : Value) : SB (w.setCell ⟨r, j, none⟩ v) r (u.setIfInBounds j v) := by
 unfold SB
 rw [setCell_eq_setRow w r j _ _ _ _ h]
 exact setRow_heap _ _ _ _ _ _ h
theorem st_size : (Tryz.prog.info? 74).map (·.size) = some 11 := by kernel_rfl
/-- Eleven values of one cell each. -/
def Elv (u : Array Value) : Prop := u.size = 11 /\ u.all (·.oneCell') = true
theorem SV.elv {w : World} {S : Nat -> Prop} {e : St} {cs : List Value} (h : SV w S e cs) : Elv cs.toArray := by
 refine ⟨by rw [List.size_toArray]; exact h.len, ?_⟩
 rw [List.all_toArray]
 exact List.all_eq_true.2 h.one
section
variable {ops : Array Oper} {rest : List Oper} {a : Act} {w : World} {Q : Exit -> Act -> World -> Prop} {o : Oper} {u old : Array Value}
theorem sb_put (hg : o.guard = none) (x y : Operand) (ho : o.op = .store 74 x y) (hd : o.dst = none) (r : Nat) (hx : a.eval x = .pointer (some ⟨r, 0, none⟩)) (hy : a.eval y = .agg u) (h6 : Elv u) (hb : SB w r old) (h6' : old.size = 11)
  (h : ∀ w', SB w' r u -> w.grownBy w' (some r) -> w'.heap.size = w.heap.size -> wpList Tryz.prog ops Q rest a w') : wpList Tryz.prog ops Q (o :: rest) a w := by
 refine wpList_store_rowTo hg _ x y ho hd r u hx hy _ _ hb (by rw [h6.1]; exact st_size) (by rw [h6.1, h6']) h6.2 ?_
 exact h _ (setRow_heap _ _ _ _ _ _ hb) ⟨rfl, rfl, rfl, Nat.le_of_eq (by simp [World.setRow]), fun k _ hk => setRow_other _ _ _ _ (fun e => hk (by rw [e]))⟩ (by simp [World.setRow])
theorem sb_load (hg : o.guard = none) (x : Operand) (ho : o.op = .load 74 x) (r : Nat) (hx : a.eval x = .pointer (some ⟨r, 0, none⟩)) (hb : SB w r u) (h6 : u.size = 11)
  (h : wpList Tryz.prog ops Q rest (a.put o.dst (.agg u)) w) : wpList Tryz.prog ops Q (o :: rest) a w :=
 wpList_load_row hg _ x ho r hx _ _ _ _ hb Tryz.underlying74 rfl (by rw [h6]; exact st_size) h
end
theorem sb_ret {fnn : Func} {p : Tmp} (hf : fnn.results = #[.cell p 74]) (tmps : Array Value) (w : World) (r : Nat) (u : Array Value) (hp : tmps.getD p undef = .pointer (some ⟨r, 0, none⟩)) (hb : SB w r u) (h6 : u.size = 11) : (results fnn tmps).run Tryz.prog w = .ok (.agg u) w :=
 results_cell_row hf tmps w r _ u _ _ hp hb Tryz.underlying74 rfl (by rw [h6]; exact st_size)
theorem SL.one {w : World} {S : Nat -> Prop} {e : St} {cs : List Value} {b : Nat} {t : TypeId} {fr : Nat × Nat} (h : SV w S e cs) (hb : w.heap[b]? = some (.cells cs.toArray t fr)) (hS : S b) : SL w S (some ⟨b, 0, none⟩) 1 1 [e] := by
 refine ⟨⟨rfl, Nat.le_refl _, fun h => by cases h⟩, fun _ => ⟨b, 0, rfl, lt_of_block hb, hS, ?_⟩⟩
 rw [SLf]
 refine ⟨⟨cs, h, fun j v hv => ?_⟩, by rw [SLf]; trivial⟩
 rw [Nat.zero_mul, Nat.zero_add]
 try rw [Nat.zero_add]
 rw [cell_of_row _ _ _ _ _ _ hb, <- hv, <- Array.getElem?_toList]
/-- A statement that is read took at least one token. -/
theorem pS_lt : ∀ (f : Nat) (R : List Tk) (s : St) (r : List Tk), pS f R = .ok s r -> r.length + 1 <= R.length
 | 0, R, s, r, h => by rw [pS] at h; cases h
 | f + 1, R, s, r, h => by
  have hn : R ≠ [] := by
   rintro rfl
   rw [pS] at h
   simp [isT, kindT, tIf] at h
  have hR : R.tail.length + 1 = R.length := by cases R with | nil => exact absurd rfl hn | cons t r => rfl
  have key : r <:+ R.tail -> r.length + 1 <= R.length := fun h => by have := h.length_le; omega
  apply key
  rw [pS] at h
  have t1 := tail_suf R.tail
  have t2 := (tail_suf R.tail.tail).trans t1
  split at h
  ·exact (suf_of ((suf_stmts f).2.1 R.tail)).1 _ _ h
  split at h
  ·split at h
   ·cases hb : pBl f R.tail.tail with
    | bad q => rw [hb] at h; cases h
    | ok b q =>
     rw [hb] at h
     injection h with h1 h2
     subst h2
     exact ((suf_of ((suf_stmts f).2.2.1 R.tail.tail)).1 _ _ hb).trans t1
   cases h
  split at h
  ·split at h
   ·split at h
    ·exact ((suf_of (suf_pN _ _)).1 _ _ h).trans t2
    cases h
   cases h
  split at h
  ·exact (suf_of (suf_pN _ _)).1 _ _ h
  split at h
  ·split at h
   ·split at h
    ·injection h with h1 h2
     subst h2
     exact t2
    cases h
   cases h
  split at h
  ·cases hb : pH (8 * R.length + 7) R.tail with
   | bad q => rw [hb] at h; cases h
   | ok b q =>
    rw [hb] at h
    dsimp only at h
    split at h
    ·injection h with h1 h2
     subst h2
     exact (tail_suf q).trans ((suf_of ((suf_parts _).2.2.2.1 R.tail)).1 _ _ hb)
    cases h
  split at h
  ·split at h
   ·cases hb : pK (8 * R.length + 7) (textT R) R.tail with
    | bad q => rw [hb] at h; cases h
    | ok b q =>
     rw [hb] at h
     dsimp only at h
     split at h
     ·injection h with h1 h2
      subst h2
      exact (tail_suf q).trans ((suf_of ((suf_parts _).2.2.2.2.1 _ R.tail)).1 _ _ hb)
     cases h
   split at h
   ·exact ((suf_of (suf_pN _ _)).1 _ _ h).trans t1
   cases h
  cases h
/-- expr, whatever the state. -/
theorem expr_any {L : List Lx.Tok} {A : Option Addr} {n c g : Nat} (W : World) (b : Bool) (R : List Tk) (h : PSx L A n c g W b R) : Calls Tryz.prog 23 #[.pointer (some ⟨g, 0, none⟩)] W (XP L A n c g W (if b = true then .bad R else pE R)) := by
 cases b with
 | true => exact expr_bad W R h
 | false => exact (at_all L A n c g (8 * R.length + 7)).lv 0 (by omega) W R (by omega) h
theorem host_any {L : List Lx.Tok} {A : Option Addr} {n c g : Nat} (W : World) (f : Nat) (R : List Tk) (hf : 8 * R.length + 1 <= f) (h : PSx L A n c g W false R) : Calls Tryz.prog 116 #[.pointer (some ⟨g, 0, none⟩)] W (XP L A n c g W (pH f R)) := (at_all L A n c g f).ho W R hf h
theorem call_any {L : List Lx.Tok} {A : Option Addr} {n c g : Nat} (W : World) (f : Nat) (R : List Tk) (s : Str) (hf : 8 * R.length + 1 <= f) (h : PSx L A n c g W false R) : Calls Tryz.prog 117 #[.pointer (some ⟨g, 0, none⟩), .string (bs s)] W (XP L A n c g W (pK f s R)) := (at_all L A n c g f).ca W R s hf h
end Go.Proofs.YtkakbidllpjopaaGreatDoor
