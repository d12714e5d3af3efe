/- The walk of SyntaxPrints (printed by wip/gensyu.py). Conditions: the library's tables are laid (SxW), strings as long as the machine has them, at most 2^60 parameters. -/
import Derived.Test.YthfjkdgaiaokdaaDoorSyU
import Derived.Test.YthfjkdgaiaokdaaDoorSyO
set_option linter.unusedVariables false
set_option linter.unusedSimpArgs false
namespace Go.Proofs.YthfjkdgaiaokdaaDoor
open Go.RowKit

set_option maxRecDepth 100000 in
set_option maxHeartbeats 12800000 in
theorem prints_any (p : Prog') (v : Value) (S : Nat → Prop) (w : World) (hw : SxW w) (hp : PV w S p v) (hws : p.Ws) :
    Calls Tryd.prog 4 #[v] w fun e w' => e = .returned (.bool true) ∧ Below w.heap.size w w' := by
  obtain ⟨D, nd, cd, O, no, co, hv, -, -⟩ := id hp
  subst hv
  obtain ⟨W0, hW0⟩ : ∃ W0 : World, W0 = w.alloc (.cells #[.slice D nd cd, .slice O no co] 25) := ⟨_, rfl⟩
  have hb0 : Below w.heap.size w W0 := by rw [hW0]; exact (Below.refl _ _).alloc (Nat.le_refl _) _
  have HF := Lib.hid (show ∀ W, Bz W0 W → (W.cell? ⟨w.heap.size, 0, none⟩ = some (.slice D nd cd) ∧ W.cell? ⟨w.heap.size, 1, none⟩ = some (.slice O no co)) from fun W h => by
    subst hW0
    have hq := heap_alloc_new w (.cells #[.slice D nd cd, .slice O no co] 25)
    exact cells2 ((h.b.block _ (lt_of_block hq)).trans hq))
  have HG := Lib.hid (show ∀ W, Bz W0 W → Below w.heap.size w W from fun W h => hb0.trans (h.b.mono hb0.size))
  have K0 := Lib.hid (show ∀ W, Bz W0 W → Calls Tryd.prog 8 #[.agg #[.slice D nd cd, .slice O no co]] W fun e w' => e = .returned (.bool (decide (roomG p < 0))) ∧ Below W.heap.size W w' from fun W h => great_any p _ S W (hp.below (HG.out W h)) hws)
  have KA := Lib.hid (show ∀ W, Bz W0 W → Calls Tryd.prog 9 #[] W fun e w' => e = .returned (.bool true) ∧ Below W.heap.size W w' from fun W h => awake_any W (hw.below (HG.out W h)))
  have KP := Lib.hid (show 0 ≤ roomG p → ∀ W, Bz W0 W → Calls Tryd.prog 12 #[.agg #[.slice D nd cd, .slice O no co]] W fun e w' => e = .returned (.tuple #[.string (bs (printS p)), .int .i64 (printE p)]) ∧ Below W.heap.size W w' from fun hr W h => print_any p _ S W (hw.below (HG.out W h)) (hp.below (HG.out W h)) (roomG_fit hr).1)
  have KC := Lib.hid (show 0 ≤ roomG p → ∀ W, Bz W0 W → Calls Tryd.prog 11 #[.agg #[.slice D nd cd, .slice O no co]] W fun e w' => e = .returned (.int .i64 (chkP p)) ∧ Below W.heap.size W w' from fun hr W h => rcheck_any p _ S W (hp.below (HG.out W h)) (roomG_fit hr).1.few (roomG_fit hr).2.1)
  have KT := Lib.hid (show 0 ≤ roomG p → chkP p = 0 → ∀ W, Bz W0 W → Calls Tryd.prog 13 #[.agg #[.slice D nd cd, .slice O no co]] W fun e w' => e = .returned (.string (bs (txP p))) ∧ Below W.heap.size W w' from fun hr hc W h => rtextP_any p _ S W (hw.below (HG.out W h)) (hp.below (HG.out W h)) (roomG_fit hr).1 hc)
  have HPS := Lib.hid (show printS p = if chkP p ≠ 0 then [] else if 65536 < (txP p).length then [] else txP p from rfl)
  have HPE := Lib.hid (show printE p = if chkP p ≠ 0 then chkP p else if 65536 < (txP p).length then 7 else 0 from rfl)
  have z0 : Bz W0 W0 := ⟨Below.refl _ _⟩
  generalize chkP p = c at *
  generalize roomG p = G at *
  generalize printS p = PS at *
  generalize printE p = PE at *
  generalize txP p = T at *
  clear hw hp hws hb0
  go_enter Tryd.func4, Tryd.ntmps4
  go_upto_region 1 with fail
  rw [← hW0]
  clear hW0
  obtain ⟨d0, d1⟩ := HF.out _ z0
  go_wp2_with fail
  refine (K0.out _ z0).mono ?_
  rintro e w1 ⟨rfl, hb⟩
  have z1 := z0.next hb
  clear hb z0 d0 d1
  by_cases hr : G < 0
  · go_wp2_with fail
    refine (KA.out _ z1).mono ?_
    rintro e w2 ⟨rfl, hb⟩
    have z2 := z1.next hb
    clear hb
    go_wp2
    go_ret
    exact ⟨rfl, HG.out _ z2⟩
  · have LP := Lib.hid (KP.out (by omega))
    have LC := Lib.hid (KC.out (by omega))
    have LT := Lib.hid (KT.out (by omega))
    clear KP KC KT
    obtain ⟨d0, d1⟩ := HF.out _ z1
    by_cases hc : c = 0
    · subst hc
      have KT := Lib.hid (LT.out rfl)
      clear LT
      by_cases hl : 65536 < T.length
      · have e1 := HPS.out
        have e2 := HPE.out
        rw [if_neg (by simp), if_pos hl] at e1 e2
        subst e1 e2
        have hl2 : (65536 : Int) < ((bs T).size : Int) := by rw [bs_size]; omega
        have HE0 : bs [] = ⟨#[]⟩ := rfl
        rw [HE0] at LP
        clear HPS HPE HE0 hl
        go_wp2_with fail
        refine (LP.out _ z1).mono ?_
        rintro e w2 ⟨rfl, hb⟩
        have z2 := z1.next hb
        clear hb d0 d1
        obtain ⟨d0, d1⟩ := HF.out _ z2
        go_wp2_with fail
        refine (LC.out _ z2).mono ?_
        rintro e w3 ⟨rfl, hb⟩
        have z3 := z2.next hb
        clear hb d0 d1
        obtain ⟨d0, d1⟩ := HF.out _ z3
        go_wp2_with fail
        refine (KT.out _ z3).mono ?_
        rintro e w4 ⟨rfl, hb⟩
        have z4 := z3.next hb
        clear hb d0 d1
        go_wp2_with fail
        refine (KA.out _ z4).mono ?_
        rintro e w5 ⟨rfl, hb⟩
        have z5 := Bz.next z4 hb
        clear hb
        go_wp2
        go_ret
        exact ⟨rfl, HG.out _ z5⟩
      · have e1 := HPS.out
        have e2 := HPE.out
        rw [if_neg (by simp), if_neg hl] at e1 e2
        obtain rfl := e2
        rw [e1] at LP
        clear e1
        have hl2 : ¬ (65536 : Int) < ((bs T).size : Int) := by rw [bs_size]; omega
        clear HPS HPE hl
        go_wp2_with fail
        refine (LP.out _ z1).mono ?_
        rintro e w2 ⟨rfl, hb⟩
        have z2 := z1.next hb
        clear hb d0 d1
        obtain ⟨d0, d1⟩ := HF.out _ z2
        go_wp2_with fail
        refine (LC.out _ z2).mono ?_
        rintro e w3 ⟨rfl, hb⟩
        have z3 := z2.next hb
        clear hb d0 d1
        obtain ⟨d0, d1⟩ := HF.out _ z3
        go_wp2_with fail
        refine (KT.out _ z3).mono ?_
        rintro e w4 ⟨rfl, hb⟩
        have z4 := z3.next hb
        clear hb d0 d1
        go_wp2_with fail
        refine (KA.out _ z4).mono ?_
        rintro e w5 ⟨rfl, hb⟩
        have z5 := Bz.next z4 hb
        clear hb
        go_wp2
        go_ret
        exact ⟨rfl, HG.out _ z5⟩
    · have hc1 : (c != 0) = true := by simp [hc]
      have e1 := HPS.out
      have e2 := HPE.out
      rw [if_pos hc] at e1 e2
      subst e1 e2
      have HE0 : bs [] = ⟨#[]⟩ := rfl
      rw [HE0] at LP
      clear HPS HPE HE0 hc LT
      go_wp2_with fail
      refine (LP.out _ z1).mono ?_
      rintro e w2 ⟨rfl, hb⟩
      have z2 := z1.next hb
      clear hb d0 d1
      obtain ⟨d0, d1⟩ := HF.out _ z2
      go_wp2_with fail
      refine (LC.out _ z2).mono ?_
      rintro e w3 ⟨rfl, hb⟩
      have z3 := z2.next hb
      clear hb d0 d1
      obtain ⟨d0, d1⟩ := HF.out _ z3
      go_wp2_with fail
      refine (KA.out _ z3).mono ?_
      rintro e w5 ⟨rfl, hb⟩
      have z5 := Bz.next z3 hb
      clear hb
      go_wp2
      go_ret
      exact ⟨rfl, HG.out _ z5⟩
end Go.Proofs.YthfjkdgaiaokdaaDoor
