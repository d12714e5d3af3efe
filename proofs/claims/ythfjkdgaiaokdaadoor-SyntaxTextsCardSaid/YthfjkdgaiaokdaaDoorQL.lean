/- The walk of SyntaxTexts (printed by wip/genpzl.py). Conditions: the library's tables are laid (SxW), strings as long as the machine has them, at most 2^60 parameters. -/
import Derived.Test.YthfjkdgaiaokdaaDoorQA
import Derived.Test.YthfjkdgaiaokdaaDoorQ3
set_option linter.unusedVariables false
set_option linter.unusedSimpArgs false
namespace Go.Proofs.YthfjkdgaiaokdaaDoor
open Go.RowKit

set_option maxRecDepth 100000 in
set_option maxHeartbeats 25600000 in
theorem texts_any (p q : Prog') (v u : Value) (S S' : Nat → Prop) (w : World) (hw : SxW w) (hp : PV w S p v) (hq : PV w S' q u) (hws : p.Ws) (hwq : q.Ws) :
    Calls Tryd.prog 6 #[v, u] w fun e w' => e = .returned (.bool true) ∧ Below w.heap.size w w' := by
  obtain ⟨D1, nd1, cd1, O1, no1, co1, hv1, -, -⟩ := id hp
  obtain ⟨D2, nd2, cd2, O2, no2, co2, hv2, -, -⟩ := id hq
  subst hv1
  subst hv2
  obtain ⟨W0, hW0⟩ : ∃ W0 : World, W0 = (w.alloc (.cells #[.slice D1 nd1 cd1, .slice O1 no1 co1] 25)).alloc (.cells #[.slice D2 nd2 cd2, .slice O2 no2 co2] 25) := ⟨_, rfl⟩
  have hba : Below w.heap.size w (w.alloc (.cells #[.slice D1 nd1 cd1, .slice O1 no1 co1] 25)) := (Below.refl _ _).alloc (Nat.le_refl _) _
  have hb0 : Below w.heap.size w W0 := by rw [hW0]; exact hba.alloc hba.size _
  have HF := Lib.hid (show ∀ W, Bz W0 W → (W.cell? ⟨w.heap.size, 0, none⟩ = some (.slice D1 nd1 cd1) ∧ W.cell? ⟨w.heap.size, 1, none⟩ = some (.slice O1 no1 co1) ∧ W.cell? ⟨w.heap.size + 1, 0, none⟩ = some (.slice D2 nd2 cd2) ∧ W.cell? ⟨w.heap.size + 1, 1, none⟩ = some (.slice O2 no2 co2)) from fun W h => by
    subst hW0
    have hs1 : (w.alloc (.cells #[.slice D1 nd1 cd1, .slice O1 no1 co1] 25)).heap.size = w.heap.size + 1 := World.size_alloc ..
    have hq := heap_alloc_new w (.cells #[.slice D1 nd1 cd1, .slice O1 no1 co1] 25)
    have hq2 := heap_alloc_new (w.alloc (.cells #[.slice D1 nd1 cd1, .slice O1 no1 co1] 25)) (.cells #[.slice D2 nd2 cd2, .slice O2 no2 co2] 25)
    have hq1 := (((Below.refl _ (w.alloc (.cells #[.slice D1 nd1 cd1, .slice O1 no1 co1] 25))).alloc (Nat.le_refl _) (.cells #[.slice D2 nd2 cd2, .slice O2 no2 co2] 25)).block w.heap.size (lt_of_block hq)).trans hq
    rw [hs1] at hq2
    have h1 := fun j v (hv : (#[.slice D1 nd1 cd1, .slice O1 no1 co1] : Array Value)[j]? = some v) => cell_of_Bz h (g := w.heap.size) (j := j) (v := v) (by rw [cell_of_row _ _ _ _ _ _ hq1]; exact hv) (lt_of_block hq1)
    have h2 := fun j v (hv : (#[.slice D2 nd2 cd2, .slice O2 no2 co2] : Array Value)[j]? = some v) => cell_of_Bz h (g := w.heap.size + 1) (j := j) (v := v) (by rw [cell_of_row _ _ _ _ _ _ hq2]; exact hv) (lt_of_block hq2)
    exact ⟨h1 0 _ rfl, h1 1 _ rfl, h2 0 _ rfl, h2 1 _ rfl⟩)
  have HG := Lib.hid (show ∀ W, Bz W0 W → Below w.heap.size w W from fun W h => hb0.trans (h.b.mono hb0.size))
  have KG1 := Lib.hid (show ∀ W, Bz W0 W → Calls Tryd.prog 8 #[.agg #[.slice D1 nd1 cd1, .slice O1 no1 co1]] W fun e w' => e = .returned (.bool (decide (roomG p < 0))) ∧ Below W.heap.size W w' from fun W h => great_any p _ S W (hp.below (HG.out W h)) hws)
  have KG2 := Lib.hid (show ∀ W, Bz W0 W → Calls Tryd.prog 8 #[.agg #[.slice D2 nd2 cd2, .slice O2 no2 co2]] W fun e w' => e = .returned (.bool (decide (roomG q < 0))) ∧ Below W.heap.size W w' from fun W h => great_any q _ S' W (hq.below (HG.out W h)) hwq)
  have KA := Lib.hid (show ∀ W, Bz W0 W → Calls Tryd.prog 9 #[] W fun e w' => e = .returned (.bool true) ∧ Below W.heap.size W w' from fun W h => awake_any W (hw.below (HG.out W h)))
  have KP1 := Lib.hid (show 0 ≤ roomG p → ∀ W, Bz W0 W → Calls Tryd.prog 12 #[.agg #[.slice D1 nd1 cd1, .slice O1 no1 co1]] W fun e w' => e = .returned (.tuple #[.string (bs (printS p)), .int .i64 (printE p)]) ∧ Below W.heap.size W w' from fun hr W h => print_any p _ S W (hw.below (HG.out W h)) (hp.below (HG.out W h)) (roomG_fit hr).1)
  have KP2 := Lib.hid (show 0 ≤ roomG q → ∀ W, Bz W0 W → Calls Tryd.prog 12 #[.agg #[.slice D2 nd2 cd2, .slice O2 no2 co2]] W fun e w' => e = .returned (.tuple #[.string (bs (printS q)), .int .i64 (printE q)]) ∧ Below W.heap.size W w' from fun hr W h => print_any q _ S' W (hw.below (HG.out W h)) (hq.below (HG.out W h)) (roomG_fit hr).1)
  have KS := Lib.hid (show 0 ≤ roomG p → ∀ W, Bz W0 W → Calls Tryd.prog 15 #[.agg #[.slice D1 nd1 cd1, .slice O1 no1 co1], .agg #[.slice D2 nd2 cd2, .slice O2 no2 co2]] W fun e w' => e = .returned (.bool (eqC p q)) ∧ Below W.heap.size W w' from fun hr W h => same_any p q (roomG_Fit hr) W S S' _ _ (hp.below (HG.out W h)) (hq.below (HG.out W h)))
  have z0 : Bz W0 W0 := ⟨Below.refl _ _⟩
  have HX := Lib.hid (show printE p = 0 → printE q = 0 → ((bs (printS p)).toList == (bs (printS q)).toList) = eqC p q from fun h1 h2 => by
    rw [bs_toList, bs_toList]
    have key : ∀ {x : Prog'}, printE x = 0 → chkP x = 0 ∧ (txP x).length ≤ 65536 ∧ printS x = txP x := fun {x} h => by
      unfold printE at h
      by_cases hc : chkP x ≠ 0
      · rw [if_pos hc] at h; exact absurd h hc
      · rw [if_neg hc] at h
        have hc : chkP x = 0 := Classical.not_not.1 hc
        by_cases hl : 65536 < (txP x).length
        · rw [if_pos hl] at h; cases h
        · exact ⟨hc, by omega, by unfold printS; rw [if_neg (by simp [hc]), if_neg hl]⟩
    obtain ⟨a1, a2, a3⟩ := key h1
    obtain ⟨b1, b2, b3⟩ := key h2
    rw [a3, b3]
    by_cases h : p = q
    · rw [eqC_pos h, h, beq_self_eq_true]
    · rw [eqC_neg h]
      exact beq_false_of_ne fun e => h (txP_inj a1 b1 hp.wd hq.wd a2 e))
  generalize roomG p = g1 at *
  generalize roomG q = g2 at *
  generalize printE p = e1 at *
  generalize printE q = e2 at *
  generalize (bs (printS p)) = s1 at *
  generalize (bs (printS q)) = s2 at *
  generalize eqC p q = E at *
  clear hw hp hq hws hwq hb0 hba
  go_enter Tryd.func6, Tryd.ntmps6
  go_upto_region 1 with fail
  rw [← hW0]
  clear hW0
  obtain ⟨c0, c1, d0, d1⟩ := HF.out _ z0
  go_wp2_with fail
  refine (KG1.out _ z0).mono ?_
  rintro e w1 ⟨rfl, hb⟩
  have z1 := z0.next hb
  clear hb c0 c1 d0 d1
  obtain ⟨c0, c1, d0, d1⟩ := HF.out _ z1
  by_cases hg1 : g1 < 0
  · rw [decide_eq_true hg1]
    go_wp2_with fail
    refine (KA.out _ z1).mono ?_
    rintro e w2 ⟨rfl, hb⟩
    have z2 := z1.next hb
    clear hb c0 c1 d0 d1
    obtain ⟨c0, c1, d0, d1⟩ := HF.out _ z2
    go_wp2
    go_ret
    exact ⟨rfl, HG.out _ z2⟩
  · rw [decide_eq_false hg1]
    have LP1 := Lib.hid (KP1.out (by omega))
    have LS := Lib.hid (KS.out (by omega))
    clear KP1 KS KG1
    go_wp2_with fail
    refine (KG2.out _ z1).mono ?_
    rintro e w2 ⟨rfl, hb⟩
    have z2 := z1.next hb
    clear hb c0 c1 d0 d1
    obtain ⟨c0, c1, d0, d1⟩ := HF.out _ z2
    by_cases hg2 : g2 < 0
    · rw [decide_eq_true hg2]
      go_wp2_with fail
      refine (KA.out _ z2).mono ?_
      rintro e w3 ⟨rfl, hb⟩
      have z3 := z2.next hb
      clear hb c0 c1 d0 d1
      obtain ⟨c0, c1, d0, d1⟩ := HF.out _ z3
      go_wp2
      go_ret
      exact ⟨rfl, HG.out _ z3⟩
    · rw [decide_eq_false hg2]
      have LP2 := Lib.hid (KP2.out (by omega))
      clear KP2 KG2 hg1 hg2
      go_wp2_with fail
      refine (LP1.out _ z2).mono ?_
      rintro e w3 ⟨rfl, hb⟩
      have z3 := z2.next hb
      clear hb c0 c1 d0 d1
      obtain ⟨c0, c1, d0, d1⟩ := HF.out _ z3
      go_wp2_with fail
      refine (LP2.out _ z3).mono ?_
      rintro e w4 ⟨rfl, hb⟩
      have z4 := z3.next hb
      clear hb c0 c1 d0 d1
      obtain ⟨c0, c1, d0, d1⟩ := HF.out _ z4
      by_cases h1 : e1 = 0
      · subst h1
        by_cases h2 : e2 = 0
        · subst h2
          have HE := Lib.hid (HX.out rfl rfl)
          clear HX LP1 LP2
          go_wp2_with fail
          refine (LS.out _ z4).mono ?_
          rintro e w5 ⟨rfl, hb⟩
          have z5 := z4.next hb
          clear hb c0 c1 d0 d1
          obtain ⟨c0, c1, d0, d1⟩ := HF.out _ z5
          have he := HE.out
          have hE : (E == E) = true := beq_self_eq_true E
          go_wp2_with fail
          refine (KA.out _ z5).mono ?_
          rintro e w6 ⟨rfl, hb⟩
          have z6 := z5.next hb
          clear hb c0 c1 d0 d1
          obtain ⟨c0, c1, d0, d1⟩ := HF.out _ z6
          go_wp2
          go_ret
          exact ⟨rfl, HG.out _ z6⟩
        · have hc1 : (e2 != 0) = true := by simp [h2]
          clear HX LP1 LP2
          go_wp2_with fail
          refine (KA.out _ z4).mono ?_
          rintro e w5 ⟨rfl, hb⟩
          have z5 := z4.next hb
          clear hb c0 c1 d0 d1
          obtain ⟨c0, c1, d0, d1⟩ := HF.out _ z5
          go_wp2
          go_ret
          exact ⟨rfl, HG.out _ z5⟩
      · have hc1 : (e1 != 0) = true := by simp [h1]
        clear HX LP1 LP2
        go_wp2_with fail
        refine (KA.out _ z4).mono ?_
        rintro e w5 ⟨rfl, hb⟩
        have z5 := z4.next hb
        clear hb c0 c1 d0 d1
        obtain ⟨c0, c1, d0, d1⟩ := HF.out _ z5
        go_wp2
        go_ret
        exact ⟨rfl, HG.out _ z5⟩
end Go.Proofs.YthfjkdgaiaokdaaDoor
