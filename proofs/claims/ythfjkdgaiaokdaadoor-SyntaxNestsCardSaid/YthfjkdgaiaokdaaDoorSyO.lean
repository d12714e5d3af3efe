/- The walk of SyntaxChecks (printed by wip/gensyo.py). Conditions: the library's tables are laid (SxW), strings as long as the machine has them, at most 2^60 parameters. -/
import Derived.Test.YthfjkdgaiaokdaaDoorSyN
import Derived.Test.YthfjkdgaiaokdaaDoorSyJ
set_option linter.unusedVariables false
set_option linter.unusedSimpArgs false
namespace Go.Proofs.YthfjkdgaiaokdaaDoor
open Go.RowKit

set_option maxRecDepth 100000 in
set_option maxHeartbeats 12800000 in
theorem checks_any (p : Prog') (v : Value) (S : Nat → Prop) (w : World) (hw : SxW w) (hp : PV w S p v) (hws : p.Ws) :
    Calls Tryd.prog 3 #[v] w fun e w' => e = .returned (.bool true) ∧ Below w.heap.size w w' := by
  obtain ⟨D, nd, cd, O, no, co, hv, -, -⟩ := id hp
  subst hv
  obtain ⟨W0, hW0⟩ : ∃ W0 : World, W0 = w.alloc (.cells #[.slice D nd cd, .slice O no co] 25) := ⟨_, rfl⟩
  have hb0 : Below w.heap.size w W0 := by rw [hW0]; exact (Below.refl _ _).alloc (Nat.le_refl _) _
  have HF := Lib.hid (show ∀ W, Bz W0 W → (W.cell? ⟨w.heap.size, 0, none⟩ = some (.slice D nd cd) ∧ W.cell? ⟨w.heap.size, 1, none⟩ = some (.slice O no co)) from fun W h => by
    subst hW0
    have hq := heap_alloc_new w (.cells #[.slice D nd cd, .slice O no co] 25)
    exact cells2 ((h.b.block _ (lt_of_block hq)).trans hq))
  have HG := Lib.hid (show ∀ W, Bz W0 W → Below w.heap.size w W from fun W h => hb0.trans (h.b.mono hb0.size))
  have K0 := Lib.hid (show ∀ W, Bz W0 W → Calls Tryd.prog 8 #[.agg #[.slice D nd cd, .slice O no co]] W fun e w' => e = .returned (.bool (decide (roomG p < 0))) ∧ Below W.heap.size W w' from fun W h => great_any p _ S W (hp.below (HG.out W h)) hws)
  have KA := Lib.hid (show ∀ W, Bz W0 W → Calls Tryd.prog 9 #[] W fun e w' => e = .returned (.bool true) ∧ Below W.heap.size W w' from fun W h => awake_any W (hw.below (HG.out W h)))
  have K1 := Lib.hid (show 0 ≤ roomG p → ∀ W, Bz W0 W → Calls Tryd.prog 10 #[.agg #[.slice D nd cd, .slice O no co]] W fun e w' => e = .returned (.int .i64 (chkP p)) ∧ Below W.heap.size W w' from fun hr W h => check_any p _ S W (hw.below (HG.out W h)) (hp.below (HG.out W h)) (roomG_fit hr).1.few)
  have K2 := Lib.hid (show 0 ≤ roomG p → ∀ W, Bz W0 W → Calls Tryd.prog 11 #[.agg #[.slice D nd cd, .slice O no co]] W fun e w' => e = .returned (.int .i64 (chkP p)) ∧ Below W.heap.size W w' from fun hr W h => rcheck_any p _ S W (hp.below (HG.out W h)) (roomG_fit hr).1.few (roomG_fit hr).2.1)
  have z0 : Bz W0 W0 := ⟨Below.refl _ _⟩
  generalize chkP p = c at *
  generalize roomG p = G at *
  clear hw hp hws hb0
  go_enter Tryd.func3, Tryd.ntmps3
  go_upto_region 1 with fail
  rw [← hW0]
  clear hW0
  obtain ⟨d0, d1⟩ := HF.out _ z0
  go_wp2_with fail
  refine (K0.out _ z0).mono ?_
  rintro e w1 ⟨rfl, hb⟩
  have z1 := z0.next hb
  clear hb z0 d0 d1
  by_cases hr : G < 0
  · go_wp2_with fail
    refine (KA.out _ z1).mono ?_
    rintro e w2 ⟨rfl, hb⟩
    have z2 := z1.next hb
    clear hb
    go_wp2
    go_ret
    exact ⟨rfl, HG.out _ z2⟩
  · have K1 := Lib.hid (K1.out (by omega))
    have K2 := Lib.hid (K2.out (by omega))
    have zd := z1.drew
    go_upto_region 3 with fail
    refine wp_region_held_drew (S := fun W => (W.cell? ⟨w.heap.size, 0, none⟩ = some (.slice D nd cd) ∧ W.cell? ⟨w.heap.size, 1, none⟩ = some (.slice O no co))) (by kernel_rfl) (HF.out _ zd) (fun hHeld => ?_)
    refine wpAnyH_take (i := 0) (oi := ⟨some 6, _, _, _, _, _⟩) (v := .agg #[.slice D nd cd, .slice O no co]) rfl (by kernel_rfl) (by kernel_rfl) (by kernel_rfl) (fun _ _ _ h => h) (Or.inl ⟨by rfl, ?_⟩) hHeld ?_
    · intro W hW
      obtain ⟨h0, h1⟩ := hW
      go_simp
    try simp only [Act.put, List.setIfInBounds_toArray, List.set_cons_zero, List.set_cons_succ]
    refine wpAnyH_take (i := 2) (oi := ⟨some 8, _, _, _, _, _⟩) (v := .agg #[.slice D nd cd, .slice O no co]) rfl (by kernel_rfl) (by kernel_rfl) (by kernel_rfl) (fun _ _ _ h => h) (Or.inl ⟨by rfl, ?_⟩) hHeld ?_
    · intro W hW
      obtain ⟨h0, h1⟩ := hW
      go_simp
    try simp only [Act.put, List.setIfInBounds_toArray, List.set_cons_zero, List.set_cons_succ]
    refine wpAnyH_ready (rs := [1]) (by kernel_rfl) (by simp) ?_
    refine AllReadyH.cons (o := ⟨some 7, _, _, _, _, _⟩) rfl (fun K hK => ?_) AllReadyH.nil
    refine Eq.mpr (if_pos (by kernel_rfl)) ?_
    go_simp
    refine (K1.out _ zd).mono ?_
    rintro e wx ⟨rfl, hb⟩
    have zx := zd.next hb
    refine hK.out _ _ (HF.out _ zx) (fun hHeld2 => ?_)
    clear hK
    try simp only [Act.put, List.setIfInBounds_toArray, List.set_cons_zero, List.set_cons_succ]
    refine wpAnyH_ready (rs := [3]) (by kernel_rfl) (by simp) ?_
    refine AllReadyH.cons (o := ⟨some 9, _, _, _, _, _⟩) rfl (fun K hK => ?_) AllReadyH.nil
    refine Eq.mpr (if_pos (by kernel_rfl)) ?_
    go_simp
    refine (K2.out _ zx).mono ?_
    rintro e wy ⟨rfl, hb⟩
    have zy := zx.next hb
    refine hK.out _ _ (HF.out _ zy) (fun hHeld3 => ?_)
    clear hK
    try simp only [Act.put, List.setIfInBounds_toArray, List.set_cons_zero, List.set_cons_succ]
    refine wpAnyH_take (i := 4) (oi := ⟨some 10, _, _, _, _, _⟩) (v := .bool true) rfl (by kernel_rfl) (by kernel_rfl) (by kernel_rfl) (fun _ _ _ h => h) (Or.inl ⟨by rfl, ?_⟩) hHeld3 ?_
    · intro W hW
      obtain ⟨h0, h1⟩ := hW
      go_simp
    try simp only [Act.put, List.setIfInBounds_toArray, List.set_cons_zero, List.set_cons_succ]
    refine wpAnyH_take (i := 5) (oi := ⟨some 11, _, _, _, _, _⟩) (v := .bool true) rfl (by kernel_rfl) (by kernel_rfl) (by kernel_rfl) (fun _ _ _ h => h) (Or.inl ⟨by rfl, ?_⟩) hHeld3 ?_
    · intro W hW
      obtain ⟨h0, h1⟩ := hW
      go_simp
    try simp only [Act.put, List.setIfInBounds_toArray, List.set_cons_zero, List.set_cons_succ]
    refine wpAnyH_ready (rs := [6]) (by kernel_rfl) (by simp) ?_
    refine AllReadyH.cons (o := ⟨some 12, _, _, _, _, _⟩) rfl (fun K hK => ?_) AllReadyH.nil
    refine Eq.mpr (if_pos (by kernel_rfl)) ?_
    go_simp
    refine (KA.out _ zy).mono ?_
    rintro e wz ⟨rfl, hb⟩
    have zz := zy.next hb
    refine hK.out _ _ (HF.out _ zz) (fun hHeld4 => ?_)
    clear hK
    try simp only [Act.put, List.setIfInBounds_toArray, List.set_cons_zero, List.set_cons_succ]
    refine wpAnyH_take (i := 7) (oi := ⟨some 13, _, _, _, _, _⟩) (v := .bool true) rfl (by kernel_rfl) (by kernel_rfl) (by kernel_rfl) (fun _ _ _ h => h) (Or.inl ⟨by rfl, ?_⟩) hHeld4 ?_
    · intro W hW
      obtain ⟨h0, h1⟩ := hW
      go_simp
    try simp only [Act.put, List.setIfInBounds_toArray, List.set_cons_zero, List.set_cons_succ]
    refine wpAnyH_take (i := 8) (oi := ⟨some 2, _, _, _, _, _⟩) (v := .bool true) rfl (by kernel_rfl) (by kernel_rfl) (by kernel_rfl) (fun _ _ _ h => h) (Or.inl ⟨by rfl, ?_⟩) hHeld4 ?_
    · intro W hW
      obtain ⟨h0, h1⟩ := hW
      go_simp
    try simp only [Act.put, List.setIfInBounds_toArray, List.set_cons_zero, List.set_cons_succ]
    refine wpAnyH_done (by kernel_rfl) ?_ _
    clear hHeld hHeld2 hHeld3 hHeld4
    go_wp2
    go_ret
    exact ⟨rfl, HG.out _ zz⟩
end Go.Proofs.YthfjkdgaiaokdaaDoor
