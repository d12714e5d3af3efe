/- The walk of SyntaxNests (printed by wip/genpzs.py). Conditions: the library's tables are laid (SxW), strings as long as the machine has them, at most 2^60 parameters; the number is a byte. -/
import Derived.Test.YthfjkdgaiaokdaaDoorPzR
import Derived.Test.YthfjkdgaiaokdaaDoorPzP
set_option linter.unusedVariables false
set_option linter.unusedSimpArgs false
namespace Go.Proofs.YthfjkdgaiaokdaaDoor
open Go.RowKit

theorem wl_app {P : Program} {ops : Array Oper} {rest : List Oper} {o : Oper} {a : Act} {w : World} {Q : Exit → Act → World → Prop}
    (hg : o.guard = none) (d x : Operand) (t : TypeId) (hop : o.op = Op.call { callee := Callee.builtin Builtin.append, args := #[d, x], argTypes := #[t, t] })
    (v u : Value) (hd : a.eval d = v) (hx : a.eval x = u) {v' : Value} {w' : World} (hr : (Builtin.append_ #[t, t] o.type #[v, u]).run P w = .ok v' w') (h : wpList P ops Q rest (a.put o.dst v') w') : wpList P ops Q (o :: rest) a w :=
  wpList_plain hg fun _ hK => by
    unfold Oper.wp execOp
    simp only [hop, resolve, invoke, builtin, Sem.run_bind, Sem.run_pure, Result.andThen_ok, List.map_toArray, List.map_cons, List.map_nil, hd, hx, hr]
    exact hK _ _ h
theorem mod65 {i : Int} (h : 0 ≤ i ∧ i ≤ 255) : i.tmod 65 = ((i.toNat % 65 : Nat) : Int) ∧ i.toNat % 65 ≤ 64 := by
  obtain ⟨j, rfl⟩ := Int.eq_ofNat_of_zero_le h.1
  exact ⟨by rw [Int.tmod_eq_emod_of_nonneg (by omega)]; simp, by have := Nat.mod_lt j (show 65 > 0 by omega); simp only [Int.toNat_natCast]; omega⟩
/-- A row of which one cell is written anew. -/
theorem cell_put {w : World} {g : Nat} {cur : Array Value} {t : TypeId} (h : w.heap[g]? = some (.cells cur t (0, 0))) (k : Nat) (v : Value) (hk : k < cur.size) :
    (w.setCell ⟨g, k, none⟩ v).cell? ⟨g, k, none⟩ = some v ∧ ∀ j, j ≠ k → (w.setCell ⟨g, k, none⟩ v).cell? ⟨g, j, none⟩ = w.cell? ⟨g, j, none⟩ := by
  have e : (w.setCell ⟨g, k, none⟩ v).heap[g]? = some (.cells (cur.setIfInBounds k v) t (0, 0)) := by
    rw [setCell_eq_setRow w g k _ _ _ _ h]
    exact setRow_heap _ _ _ _ _ _ h
  refine ⟨?_, fun j hj => ?_⟩
  · rw [cell_of_row _ _ _ _ _ _ e]
    simp [hk]
  · rw [cell_of_row _ _ _ _ _ _ e, cell_of_row _ _ _ _ _ _ h]
    simp [Array.getElem?_setIfInBounds, Ne.symm hj]
set_option maxRecDepth 100000 in
set_option maxHeartbeats 51200000 in
theorem nests_any (p : Prog') (v : Value) (S : Nat → Prop) (w : World) (i : Int) (hi : 0 ≤ i ∧ i ≤ 255) (hw : SxW w) (hp : PV w S p v) (hws : p.Ws) :
    Calls Tryd.prog 7 #[v, .int .u8 i] w fun e w' => e = .returned (.bool true) ∧ Below w.heap.size w w' := by
  obtain ⟨D, nd, cd, O, no, co, hv, hD, hO⟩ := id hp
  subst hv
  obtain ⟨W0, hW0⟩ : ∃ W0 : World, W0 = w.alloc (.cells #[.slice D nd cd, .slice O no co] 25) := ⟨_, rfl⟩
  have hb0 : Below w.heap.size w W0 := by rw [hW0]; exact (Below.refl _ _).alloc (Nat.le_refl _) _
  have HF0 := Lib.hid (show ∀ W, Bz W0 W → (W.cell? ⟨w.heap.size, 0, none⟩ = some (.slice D nd cd) ∧ W.cell? ⟨w.heap.size, 1, none⟩ = some (.slice O no co)) from fun W h => by
    subst hW0
    have hq := heap_alloc_new w (.cells #[.slice D nd cd, .slice O no co] 25)
    exact cells2 ((h.b.block _ (lt_of_block hq)).trans hq))
  have HG0 := Lib.hid (show ∀ W, Bz W0 W → Below w.heap.size w W from fun W h => hb0.trans (h.b.mono hb0.size))
  have hs0 : w.heap.size < W0.heap.size := by rw [hW0]; simp
  have KG := Lib.hid (show ∀ W, Bz W0 W → Calls Tryd.prog 8 #[.agg #[.slice D nd cd, .slice O no co]] W fun e w' => e = .returned (.bool (decide (roomG p < 0))) ∧ Below W.heap.size W w' from fun W h => great_any p _ S W (hp.below (HG0.out W h)) hws)
  have KC := Lib.hid (show 0 ≤ roomG p → ∀ W, Bz W0 W → Calls Tryd.prog 10 #[.agg #[.slice D nd cd, .slice O no co]] W fun e w' => e = .returned (.int .i64 (chkP p)) ∧ Below W.heap.size W w' from fun hr W h => check_any p _ S W (hw.below (HG0.out W h)) (hp.below (HG0.out W h)) (roomG_fit hr).1.few)
  have KA := Lib.hid (show ∀ W, Below w.heap.size w W → Calls Tryd.prog 9 #[] W fun e w' => e = .returned (.bool true) ∧ Below W.heap.size W w' from fun W h => awake_any W (hw.below h))
  have z0 : Bz W0 W0 := ⟨Below.refl _ _⟩
  have HP := Lib.hid hp
  have HWS := Lib.hid hw
  clear hw hp hb0
  go_enter Tryd.func7, Tryd.ntmps7
  go_upto_region 1 with fail
  rw [← hW0]
  clear hW0
  obtain ⟨c0, c1⟩ := HF0.out _ z0
  go_wp2_with fail
  refine (KG.out _ z0).mono ?_
  rintro e w1 ⟨rfl, hb⟩
  have z1 := z0.next hb
  clear hb c0 c1
  by_cases hg : roomG p < 0
  · rw [decide_eq_true hg]
    clear HP KC hws hD hO
    generalize roomG p = G at *
    go_wp2_with fail
    refine (KA.out _ (HG0.out _ z1)).mono ?_
    rintro e wq ⟨rfl, hb⟩
    have zq := z1.next hb
    go_wp2
    go_ret
    exact ⟨rfl, HG0.out _ zq⟩
  · rw [decide_eq_false hg]
    have hg : 0 ≤ roomG p := by omega
    have LC := Lib.hid (KC.out hg)
    clear KC KG hws
    obtain ⟨c0, c1⟩ := HF0.out _ z1
    by_cases hno : no = 0
    · have hno1 : ((no : Int) == 0) = true := by simp [hno]
      have hno2 : (no : Int) = 0 := by omega
      clear HP hD hO LC hg hno
      generalize roomG p = G at *
      go_wp2_with fail
      refine (KA.out _ (HG0.out _ z1)).mono ?_
      rintro e wq ⟨rfl, hb⟩
      have zq := z1.next hb
      go_wp2
      go_ret
      exact ⟨rfl, HG0.out _ zq⟩
    have hno1 : ((no : Int) == 0) = false := by simp [hno]
    have hno2 : ¬ (no : Int) = 0 := by omega
    go_wp2_with fail
    refine (LC.out _ z1).mono ?_
    rintro e w2 ⟨rfl, hb⟩
    have z2 := z1.next hb
    clear hb c0 c1 LC z0 z1
    by_cases hc : chkP p = 0
    · have HC := Lib.hid hc
      have HGR := Lib.hid hg
      rw [hc]
      obtain ⟨c0, c1⟩ := HF0.out _ z2
      obtain ⟨W3, hW3⟩ : ∃ W3 : World, W3 = w2.alloc (.cells #[.slice D nd cd, .slice O no co] 25) := ⟨_, rfl⟩
      obtain ⟨g7, hg7⟩ : ∃ g : Nat, g = w2.heap.size := ⟨_, rfl⟩
      have hbw := HG0.out _ z2
      have hg7w : w.heap.size < g7 := by have := z2.b.size; omega
      have hb3 : Below w2.heap.size w2 W3 := by rw [hW3]; exact (Below.refl _ _).alloc (Nat.le_refl _) _
      have BB : Bxs g7 25 W3 #[.slice D nd cd, .slice O no co] W3 := ⟨World.grownBy.refl _ _, by rw [hW3, hg7]; exact heap_alloc_new w2 _⟩
      obtain ⟨ds, os⟩ := p
      dsimp only at hD hO
      have hFIT := roomG_fit2 hg
      have HB := Lib.hid (show ∀ X W, Bxs g7 25 W3 X W → ((W.cell? ⟨w.heap.size, 0, none⟩ = some (.slice D nd cd) ∧ W.cell? ⟨w.heap.size, 1, none⟩ = some (.slice O no co)) ∧ OL W (fun b => b < w.heap.size) O no co os ∧ DL W (fun b => b < w.heap.size) D nd cd ds ∧ Below w.heap.size w W) from fun X W h => by
        have hbz : Below w.heap.size w W := by
          have h1 := hbw.trans (hb3.mono hbw.size)
          exact ⟨h.gr.os.trans h1.os, h.gr.tape.trans h1.tape, h.gr.output.trans h1.output, Nat.le_trans h1.size h.gr.size, fun b hb => (h.gr.block b (Nat.lt_of_lt_of_le hb h1.size) (fun e => by have := Option.some.inj e; omega)).trans (h1.block b hb)⟩
        have h2 := HF0.out _ (z2.next hb3)
        refine ⟨⟨h.cellOf (by omega) h2.1, h.cellOf (by omega) h2.2⟩, hO.keep hbz.size (fun b hb _ => hbz.block b hb) fun b hb _ => hb, hD.keep hbz.size (fun b hb _ => hbz.block b hb) fun b hb _ => hb, hbz⟩)
      clear hD hO hb3 hbw
      go_upto_region 4 with fail
      rw [← hW3, ← hg7]
      clear hW3 c0 c1 z2 hg7
      obtain ⟨⟨c0, c1⟩, hO3, hD3, -⟩ := HB.out _ _ BB
      obtain ⟨Wb, hWb⟩ : ∃ Wb, Wb = W3 := ⟨_, rfl⟩
      subst hWb
      obtain ⟨o0, os0, rfl⟩ : ∃ o0 os0, os = o0 :: os0 := by
        cases os with
        | nil => exact absurd hO3.1 (by simpa using hno)
        | cons o0 os0 => exact ⟨o0, os0, rfl⟩
      obtain ⟨B, hB⟩ : ∃ B : Nat, B = Wb.heap.size := ⟨_, rfl⟩
      have hgB : g7 < B := by rw [hB]; exact BB.lt
      obtain ⟨css, k1, k2, k3, k4⟩ := RowOf.reads hO3.2 (fun j cs h => by obtain ⟨x, _, h⟩ := h; obtain ⟨_, _, _, _, _, _, rfl, _⟩ := h; rfl)
      have hone : ∀ u ∈ css.flatten, u.oneCell' = true := fun u hu => by
        obtain ⟨cs, hcs, hu⟩ := List.mem_flatten.1 hu
        obtain ⟨j, hj, rfl⟩ := List.getElem_of_mem hcs
        obtain ⟨x, _, h⟩ := k2 j _ (List.getElem?_eq_getElem hj)
        obtain ⟨_, _, _, _, _, _, e, _⟩ := h
        rw [e] at hu
        simp only [List.mem_cons, List.mem_nil_iff, or_false] at hu
        rcases hu with rfl | rfl | rfl <;> rfl
      have own0 := own_empty Wb B 41 3 (Nat.le_of_eq hB)
      have BE := BB.next ((Below.refl _ _).alloc (Nat.le_refl _) (.cells #[] 41))
      have hs4 : B ≤ (Wb.alloc (.cells #[] 41)).heap.size := by rw [hB]; simp
      have hn4 : no ≤ 400 := by have := hO3.1; have := hFIT.2.1; omega
      obtain ⟨v5, w5, hrun, own5, gr5⟩ := app_o (Wb.alloc (.cells #[] 41)) 23 B _ 0 _ own0 _ O no co _ (k4.grown BE.gr (fun g e h => by have := Option.some.inj e; omega)) hone (by omega) hs4
      rw [← hB] at gr5
      have lt5 : ∀ k, (Value.slice (some ⟨B, 0, none⟩) 0 0).ownBlock = some k → B ≤ k := fun k e => Nat.le_of_eq (Option.some.inj e)
      have BF := BE.own hgB gr5 lt5 (Nat.le_of_eq hB.symm)
      have HRUN := Lib.hid hrun
      have c1a := (HB.out _ _ BE).1.2
      rw [Nat.zero_add, List.flatten_nil, List.nil_append] at own5
      obtain ⟨g, cap, cur, rfl, hgB2, hgh, hcap, -, hcs, -⟩ : ∃ g cap cur, v5 = .slice (some ⟨g, 0, none⟩) no cap ∧ B ≤ g ∧ w5.heap[g]? = some (.cells cur 41 (0, 0)) ∧ no ≤ cap ∧ cap ≤ maxLen ∧ cur.size = cap * 3 ∧ cur.toList.take (no * 3) = css.flatten := by
        rcases own5.2 with ⟨_, h0⟩ | h
        · exact absurd h0 hno
        · exact h
      obtain ⟨A5, c5, e5, hrow5⟩ := own_row own5 k1 k3 (fun j cs => ∃ x, (o0 :: os0)[j]? = some x ∧ OV Wb (fun b => b < w.heap.size) x cs) k2
      injection e5 with e5 _ e6
      subst e5
      subst e6
      have hcl : ∃ u, w5.cell? ⟨g7, 1, none⟩ = some u := ⟨_, by rw [cell_of_row _ _ _ _ _ _ BF.bx]; rfl⟩
      obtain ⟨u, hcl⟩ := hcl
      have hfz := BF.free 1
      have BG := BF.set 1 (.slice (some ⟨g, 0, none⟩) no cap)
      have HLT := Lib.hid (lt_of_block hgh)
      have hgh6 : (w5.setCell ⟨g7, 1, none⟩ (.slice (some ⟨g, 0, none⟩) no cap)).heap[g]? = some (.cells cur 41 (0, 0)) := ((grown_put w5 g7 1 _).block g (lt_of_block hgh) (fun e => by have := Option.some.inj e; omega)).trans hgh
      have HROW := Lib.hid hrow5
      have HGN := Lib.hid (show ∀ j, (w5.setCell ⟨g7, 1, none⟩ (.slice (some ⟨g, 0, none⟩) no cap)).cell? ⟨g, j, none⟩ = w5.cell? ⟨g, j, none⟩ from fun j => by rw [cell_of_row _ _ _ _ _ _ hgh6, cell_of_row _ _ _ _ _ _ hgh])
      clear k1 k2 k3 k4 hone own0 BE hs4 own5 gr5 lt5 hrun hrow5 hgh
      obtain ⟨w6, hw6⟩ : ∃ w6, w6 = w5.setCell ⟨g7, 1, none⟩ (.slice (some ⟨g, 0, none⟩) no cap) := ⟨_, rfl⟩
      rw [← hw6] at BG hgh6 HGN
      go_wp2_with (at_builtin; refine wl_app rfl _ _ 23 rfl _ _ rfl rfl HRUN.out ?_)
      rw [← hw6]
      clear hw6 hcl hfz c0 c1 c1a HRUN
      have hS2 : 2 < cur.size := by rw [hcs]; omega
      obtain ⟨b, q, cs0, eO, hbS, hb, ⟨x0, hx0, hxv⟩, hrow⟩ := hO3.2.at 0 (by omega)
      obtain rfl : o0 = x0 := by simpa using hx0
      obtain ⟨Pp, np, cp, Bb, nb, cb, rfl, hPs, hBs⟩ := hxv
      rw [Nat.zero_mul, Nat.add_zero] at hrow
      subst eO
      have hb : b < w.heap.size := hb
      obtain ⟨hmod, hm64⟩ := mod65 hi
      obtain ⟨m, hm⟩ : ∃ z : Nat, z = i.toNat % 65 := ⟨_, rfl⟩
      rw [← hm] at hmod hm64
      clear hm
      have hw1 : IntKind.u8.wrap (m : Int) = (m : Int) := by simp [IntKind.wrap, IntKind.bits, IntKind.signed]; omega
      have hw2 : IntKind.i64.wrap (m : Int) = (m : Int) := by simp [IntKind.wrap, IntKind.bits, IntKind.signed]; omega
      have HM := Lib.hid hm64
      have S5F := Lib.hid (show ∀ W, Bxs g7 25 Wb #[.slice D nd cd, .slice (some ⟨g, 0, none⟩) no cap] W → (W.cell? ⟨w.heap.size, 0, none⟩ = some (.slice D nd cd) ∧ W.cell? ⟨w.heap.size, 1, none⟩ = some (.slice (some ⟨b, q, none⟩) no co) ∧ W.cell? ⟨g7, 0, none⟩ = some (.slice D nd cd) ∧ W.cell? ⟨g7, 1, none⟩ = some (.slice (some ⟨g, 0, none⟩) no cap) ∧ W.cell? ⟨b, q + 2, none⟩ = some (.slice Bb nb cb)) from fun W h => ⟨(HB.out _ _ h).1.1, (HB.out _ _ h).1.2, by rw [cell_of_row _ _ _ _ _ _ h.bx]; rfl, by rw [cell_of_row _ _ _ _ _ _ h.bx]; rfl, h.cellOf (by omega) (hrow 2 _ rfl)⟩)
      have BG : Bxs g7 25 Wb #[.slice D nd cd, .slice (some ⟨g, 0, none⟩) no cap] w6 := BG
      have BD := BG.next (Below.refl _ _).drew
      have hn6 : (no : Int) ≤ 400 := by omega
      have hpos : (0 : Int) < (no : Int) := by omega
      obtain ⟨wd, hwd⟩ : ∃ wd : World, wd = w6.drew := ⟨_, rfl⟩
      have hgd : wd.heap[g]? = some (.cells cur 41 (0, 0)) := by rw [hwd]; exact hgh6
      have HGD := Lib.hid (show ∀ j, wd.cell? ⟨g, j, none⟩ = w5.cell? ⟨g, j, none⟩ from fun j => by rw [hwd]; exact HGN.out j)
      rw [← hwd] at BD
      have HWD := Lib.hid hwd
      clear hwd
      refine wp_region_held_drew (S := fun W => (W.cell? ⟨w.heap.size, 0, none⟩ = some (.slice D nd cd) ∧ W.cell? ⟨w.heap.size, 1, none⟩ = some (.slice (some ⟨b, q, none⟩) no co) ∧ W.cell? ⟨g7, 0, none⟩ = some (.slice D nd cd) ∧ W.cell? ⟨g7, 1, none⟩ = some (.slice (some ⟨g, 0, none⟩) no cap) ∧ W.cell? ⟨b, q + 2, none⟩ = some (.slice Bb nb cb))) (by kernel_rfl) (by rw [← HWD.out]; exact S5F.out _ BD) (fun hHeld => ?_)
      rw [← HWD.out] at hHeld ⊢
      refine wpAnyH_take (i := 0) (oi := ⟨some 36, _, _, _, _, _⟩) (v := .pointer (some ⟨g7, 1, none⟩)) rfl (by kernel_rfl) (by kernel_rfl) (by kernel_rfl) (fun _ _ _ h => h) (Or.inl ⟨by rfl, ?_⟩) hHeld ?_
      · intro W hW
        obtain ⟨h0, h1, h2, h3, h4⟩ := hW
        go_simp
      try simp only [Act.put, List.setIfInBounds_toArray, List.set_cons_zero, List.set_cons_succ]
      refine wpAnyH_take (i := 1) (oi := ⟨some 37, _, _, _, _, _⟩) (v := .slice (some ⟨g, 0, none⟩) no cap) rfl (by kernel_rfl) (by kernel_rfl) (by kernel_rfl) (fun _ _ _ h => h) (Or.inl ⟨by rfl, ?_⟩) hHeld ?_
      · intro W hW
        obtain ⟨h0, h1, h2, h3, h4⟩ := hW
        go_simp
      try simp only [Act.put, List.setIfInBounds_toArray, List.set_cons_zero, List.set_cons_succ]
      refine wpAnyH_take (i := 2) (oi := ⟨some 38, _, _, _, _, _⟩) (v := .int .u8 i) rfl (by kernel_rfl) (by kernel_rfl) (by kernel_rfl) (fun _ _ _ h => h) (Or.inl ⟨by rfl, ?_⟩) hHeld ?_
      · intro W hW
        obtain ⟨h0, h1, h2, h3, h4⟩ := hW
        go_simp
      try simp only [Act.put, List.setIfInBounds_toArray, List.set_cons_zero, List.set_cons_succ]
      refine wpAnyH_take (i := 3) (oi := ⟨some 39, _, _, _, _, _⟩) (v := .int .u8 (m : Int)) rfl (by kernel_rfl) (by kernel_rfl) (by kernel_rfl) (fun _ _ _ h => h) (Or.inl ⟨by rfl, ?_⟩) hHeld ?_
      · intro W hW
        obtain ⟨h0, h1, h2, h3, h4⟩ := hW
        go_simp
      try simp only [Act.put, List.setIfInBounds_toArray, List.set_cons_zero, List.set_cons_succ]
      refine wpAnyH_take (i := 4) (oi := ⟨some 40, _, _, _, _, _⟩) (v := .int .i64 (m : Int)) rfl (by kernel_rfl) (by kernel_rfl) (by kernel_rfl) (fun _ _ _ h => h) (Or.inl ⟨by rfl, ?_⟩) hHeld ?_
      · intro W hW
        obtain ⟨h0, h1, h2, h3, h4⟩ := hW
        go_simp
      try simp only [Act.put, List.setIfInBounds_toArray, List.set_cons_zero, List.set_cons_succ]
      refine wpAnyH_take (i := 5) (oi := ⟨some 41, _, _, _, _, _⟩) (v := .pointer (some ⟨w.heap.size, 1, none⟩)) rfl (by kernel_rfl) (by kernel_rfl) (by kernel_rfl) (fun _ _ _ h => h) (Or.inl ⟨by rfl, ?_⟩) hHeld ?_
      · intro W hW
        obtain ⟨h0, h1, h2, h3, h4⟩ := hW
        go_simp
      try simp only [Act.put, List.setIfInBounds_toArray, List.set_cons_zero, List.set_cons_succ]
      refine wpAnyH_take (i := 6) (oi := ⟨some 42, _, _, _, _, _⟩) (v := .slice (some ⟨b, q, none⟩) no co) rfl (by kernel_rfl) (by kernel_rfl) (by kernel_rfl) (fun _ _ _ h => h) (Or.inl ⟨by rfl, ?_⟩) hHeld ?_
      · intro W hW
        obtain ⟨h0, h1, h2, h3, h4⟩ := hW
        go_simp
      try simp only [Act.put, List.setIfInBounds_toArray, List.set_cons_zero, List.set_cons_succ]
      refine wpAnyH_take (i := 7) (oi := ⟨some 43, _, _, _, _, _⟩) (v := .pointer (some ⟨b, q, none⟩)) rfl (by kernel_rfl) (by kernel_rfl) (by kernel_rfl) (fun _ _ _ h => h) (Or.inl ⟨by rfl, ?_⟩) hHeld ?_
      · intro W hW
        obtain ⟨h0, h1, h2, h3, h4⟩ := hW
        go_simp
      try simp only [Act.put, List.setIfInBounds_toArray, List.set_cons_zero, List.set_cons_succ]
      refine wpAnyH_take (i := 8) (oi := ⟨some 44, _, _, _, _, _⟩) (v := .pointer (some ⟨b, q + 2, none⟩)) rfl (by kernel_rfl) (by kernel_rfl) (by kernel_rfl) (fun _ _ _ h => h) (Or.inl ⟨by rfl, ?_⟩) hHeld ?_
      · intro W hW
        obtain ⟨h0, h1, h2, h3, h4⟩ := hW
        go_simp
      try simp only [Act.put, List.setIfInBounds_toArray, List.set_cons_zero, List.set_cons_succ]
      refine wpAnyH_take (i := 9) (oi := ⟨some 45, _, _, _, _, _⟩) (v := .slice Bb nb cb) rfl (by kernel_rfl) (by kernel_rfl) (by kernel_rfl) (fun _ _ _ h => h) (Or.inl ⟨by rfl, ?_⟩) hHeld ?_
      · intro W hW
        obtain ⟨h0, h1, h2, h3, h4⟩ := hW
        go_simp
      try simp only [Act.put, List.setIfInBounds_toArray, List.set_cons_zero, List.set_cons_succ]
      refine wpAnyH_take (i := 10) (oi := ⟨some 46, _, _, _, _, _⟩) (v := .agg #[.int .i64 4, .string { data := #[] }, .int .i64 (m : Int), .int .i64 0, .int .i64 0, .string { data := #[] }, .string { data := #[] }, .slice none 0 0, .slice none 0 0, .slice Bb nb cb, .slice none 0 0]) rfl (by kernel_rfl) (by kernel_rfl) (by kernel_rfl) (fun _ _ _ h => h) (Or.inl ⟨by rfl, ?_⟩) hHeld ?_
      · intro W hW
        obtain ⟨h0, h1, h2, h3, h4⟩ := hW
        go_simp
      try simp only [Act.put, List.setIfInBounds_toArray, List.set_cons_zero, List.set_cons_succ]
      refine wpAnyH_ready (rs := [11]) (by kernel_rfl) (by simp) ?_
      refine AllReadyH.cons (o := ⟨some 47, _, _, _, _, _⟩) rfl (fun K hK => ?_) AllReadyH.nil
      have BE := BD.next ((Below.refl _ _).alloc (Nat.le_refl _) (.cells #[.int .i64 4, .string { data := #[] }, .int .i64 (m : Int), .int .i64 0, .int .i64 0, .string { data := #[] }, .string { data := #[] }, .slice none 0 0, .slice none 0 0, .slice Bb nb cb, .slice none 0 0] 46))
      have hge : (wd.alloc (.cells #[.int .i64 4, .string { data := #[] }, .int .i64 (m : Int), .int .i64 0, .int .i64 0, .string { data := #[] }, .string { data := #[] }, .slice none 0 0, .slice none 0 0, .slice Bb nb cb, .slice none 0 0] 46)).heap[g]? = some (.cells cur 41 (0, 0)) := (((Below.refl wd.heap.size wd).alloc (Nat.le_refl _) _).block g (lt_of_block hgd)).trans hgd
      have hst : (wd.alloc (.cells #[.int .i64 4, .string { data := #[] }, .int .i64 (m : Int), .int .i64 0, .int .i64 0, .string { data := #[] }, .string { data := #[] }, .slice none 0 0, .slice none 0 0, .slice Bb nb cb, .slice none 0 0] 46)).heap[wd.heap.size]? = some (.cells #[.int .i64 4, .string { data := #[] }, .int .i64 (m : Int), .int .i64 0, .int .i64 0, .string { data := #[] }, .string { data := #[] }, .slice none 0 0, .slice none 0 0, .slice Bb nb cb, .slice none 0 0] 46 (0, 0)) := heap_alloc_new wd _
      have hgs : g < wd.heap.size := lt_of_block hgd
      go_simp
      obtain ⟨gs, hgsd⟩ : ∃ z : Nat, z = wd.heap.size := ⟨_, rfl⟩
      rw [← hgsd] at hst hgs ⊢
      generalize wd.alloc (.cells #[.int .i64 4, .string { data := #[] }, .int .i64 (m : Int), .int .i64 0, .int .i64 0, .string { data := #[] }, .string { data := #[] }, .slice none 0 0, .slice none 0 0, .slice Bb nb cb, .slice none 0 0] 46) = we at *
      clear hgsd
      refine hK.out _ _ (S5F.out _ BE) (fun hHeld2 => ?_)
      clear hK hHeld
      try simp only [Act.put, List.setIfInBounds_toArray, List.set_cons_zero, List.set_cons_succ]
      refine wpAnyH_take (i := 12) (oi := ⟨some 48, _, _, _, _, _⟩) (v := .pointer (some ⟨g, 0, none⟩)) rfl (by kernel_rfl) (by kernel_rfl) (by kernel_rfl) (fun _ _ _ h => h) (Or.inl ⟨by rfl, ?_⟩) hHeld2 ?_
      · intro W hW
        obtain ⟨h0, h1, h2, h3, h4⟩ := hW
        go_simp
      try simp only [Act.put, List.setIfInBounds_toArray, List.set_cons_zero, List.set_cons_succ]
      refine wpAnyH_take (i := 13) (oi := ⟨some 49, _, _, _, _, _⟩) (v := .pointer (some ⟨g, 2, none⟩)) rfl (by kernel_rfl) (by kernel_rfl) (by kernel_rfl) (fun _ _ _ h => h) (Or.inl ⟨by rfl, ?_⟩) hHeld2 ?_
      · intro W hW
        obtain ⟨h0, h1, h2, h3, h4⟩ := hW
        go_simp
      try simp only [Act.put, List.setIfInBounds_toArray, List.set_cons_zero, List.set_cons_succ]
      refine wpAnyH_ready (rs := [14]) (by kernel_rfl) (by simp) ?_
      refine AllReadyH.cons (o := ⟨none, _, _, _, _, _⟩) rfl (fun K hK => ?_) AllReadyH.nil
      have hcl : ∃ u, we.cell? ⟨g, 2, none⟩ = some u := ⟨_, by rw [cell_of_row _ _ _ _ _ _ hge]; exact Array.getElem?_eq_getElem hS2⟩
      obtain ⟨u, hcl⟩ := hcl
      have hfz : we.frozen? ⟨g, 2, none⟩ = false := by simp [World.frozen?, hge]
      go_simp
      clear hcl hfz
      obtain ⟨wz, hwz⟩ : ∃ wz, wz = we.setCell ⟨g, 2, none⟩ (.slice (some ⟨gs, 0, none⟩) 1 1) := ⟨_, rfl⟩
      have hkz : ∀ k, k ≠ g → wz.heap[k]? = we.heap[k]? := fun k hk => by rw [hwz]; exact Below.heap_setCell _ _ _ k (fun e => hk (by first | exact e | exact e.symm))
      have hsz : wz.heap.size = we.heap.size := by rw [hwz]; simp
      have hcp := cell_put hge 2 (.slice (some ⟨gs, 0, none⟩) 1 1) hS2
      rw [← hwz] at hcp
      have hblw := (HB.out _ _ BE).2.2.2
      have hblz : Below w.heap.size w wz := ⟨by rw [hwz]; exact hblw.os, by rw [hwz]; exact hblw.tape, by rw [hwz]; exact hblw.output, by rw [hsz]; exact hblw.size, fun k hk => (hkz k (by omega)).trans (hblw.block k hk)⟩
      have hkb : ∀ k, k < Wb.heap.size → k < w.heap.size → wz.heap[k]? = Wb.heap[k]? := fun k _ hk => (hkz k (by omega)).trans (BE.block (by omega) (by omega))
      have hszb : Wb.heap.size ≤ wz.heap.size := by rw [hsz]; exact BE.gr.size
      have hgz : g < wz.heap.size := by rw [hsz]; exact lt_of_block hge
      have hcl5 : ∀ j, j ≠ 2 → wz.cell? ⟨g, j, none⟩ = w5.cell? ⟨g, j, none⟩ := fun j hj => (hcp.2 j hj).trans (((cell_of_row _ _ _ _ _ _ hge).trans (cell_of_row _ _ _ _ _ _ hgd).symm).trans (HGD.out j))
      have hstz : wz.heap[gs]? = some (.cells #[.int .i64 4, .string { data := #[] }, .int .i64 (m : Int), .int .i64 0, .int .i64 0, .string { data := #[] }, .string { data := #[] }, .slice none 0 0, .slice none 0 0, .slice Bb nb cb, .slice none 0 0] 46 (0, 0)) := (hkz gs (by omega)).trans hst
      have hSLb : SL wz (fun _ => True) Bb nb cb o0.body := hBs.keep hszb hkb fun _ _ _ => trivial
      have hSLr : SL wz (fun _ => True) (some ⟨gs, 0, none⟩) 1 1 [rep m o0.body] := by
        refine ⟨⟨rfl, Nat.le_refl _, fun h => by cases h⟩, fun _ => ⟨gs, 0, rfl, lt_of_block hstz, trivial, ?_⟩⟩
        rw [SLf]
        refine ⟨⟨stC 4 [] (m : Int) (exC 0 0 [] [] none 0 0 none 0 0) Bb nb cb none 0 0, ?_, ?_⟩, by rw [SLf]; trivial⟩
        · unfold rep
          rw [SV]
          refine ⟨_, _, _, _, _, _, _, rfl, by unfold InR; have := HM.out; omega, ?_, hSLb.1, ⟨rfl, Nat.le_refl _, fun _ => rfl⟩, hSLb.2, fun h => absurd h (by omega)⟩
          exact XV.shut (by unfold InR; omega) ⟨⟨rfl, Nat.le_refl _, fun _ => rfl⟩, fun h => absurd h (by omega)⟩ ⟨⟨rfl, Nat.le_refl _, fun _ => rfl⟩, fun h => absurd h (by omega)⟩
        · intro j u hu
          rw [Nat.zero_mul, Nat.zero_add]
          try rw [Nat.zero_add]
          rw [cell_of_row _ _ _ _ _ _ hstz]
          rw [← hu, ← Array.getElem?_toList]
          rfl
      have hOLq : OL wz (fun _ => True) (some ⟨g, 0, none⟩) no cap ((⟨o0.name, o0.params, [rep m o0.body]⟩ : Oper') :: os0) := by
        refine ⟨hO3.1, ⟨hcap, fun h => by cases h⟩, fun _ => ⟨g, 0, rfl, hgz, trivial, fun j hj => ?_⟩⟩
        obtain ⟨g', q', cs, eg, _, _, ⟨x, hx, hxv⟩, hr⟩ := HROW.out.at j hj
        injection eg with eg
        injection eg with eg1 eg2
        subst eg1
        subst eg2
        cases j with
        | zero =>
          obtain rfl : o0 = x := by simpa using hx
          obtain ⟨P', np', cp', B', nb', cb', rfl, hP', _⟩ := hxv
          refine ⟨[.string (bs o0.name), .slice P' np' cp', .slice (some ⟨gs, 0, none⟩) 1 1], ⟨_, rfl, _, _, _, _, _, _, rfl, hP'.keep hszb hkb (fun _ _ _ => trivial), hSLr⟩, fun r u hu => ?_⟩
          match r, hu with
          | 0, hu => rw [hcl5 _ (by omega)]; exact hr 0 u hu
          | 1, hu => rw [hcl5 _ (by omega)]; exact hr 1 u hu
          | 2, hu =>
            have : u = .slice (some ⟨gs, 0, none⟩) 1 1 := by simpa using hu.symm
            subst this
            exact hcp.1
          | r + 3, hu => simp at hu
        | succ j =>
          refine ⟨cs, ⟨x, by simpa using hx, hxv.keep hszb hkb (fun _ _ _ => trivial)⟩, fun r u hu => ?_⟩
          rw [hcl5 _ (by omega)]
          exact hr r u hu
      have hPq : PV wz (fun _ => True) (nest m ds o0 os0) (.agg #[.slice D nd cd, .slice (some ⟨g, 0, none⟩) no cap]) := ⟨_, _, _, _, _, _, rfl, hD3.keep hszb hkb (fun _ _ _ => trivial), hOLq⟩
      have hPp : PV wz (fun b => b < w.heap.size) ⟨ds, o0 :: os0⟩ (.agg #[.slice D nd cd, .slice (some ⟨b, q, none⟩) no co]) := ⟨_, _, _, _, _, _, rfl, hD3.keep hszb hkb (fun _ _ h => h), hO3.keep hszb hkb (fun _ _ h => h)⟩
      have hOV0 : OV wz (fun b => b < w.heap.size) o0 [.string (bs o0.name), .slice Pp np cp, .slice Bb nb cb] := ⟨_, _, _, _, _, _, rfl, hPs.keep hszb hkb (fun _ _ h => h), hBs.keep hszb hkb (fun _ _ h => h)⟩
      have hrz : wz.rangeAt b q [.string (bs o0.name), .slice Pp np cp, .slice Bb nb cb] := rangeAt_keep hrow (hkb b hbS hb)
      have hP1 : PV wz (fun b => b < w.heap.size) ⟨[], [o0]⟩ (.agg #[.slice none 0 0, .slice (some ⟨b, q, none⟩) 1 co]) := ⟨_, _, _, _, _, _, rfl, ⟨rfl, ⟨Nat.le_refl _, fun _ => rfl⟩, fun h => absurd h (by omega)⟩, ⟨rfl, ⟨by have := hO3.2.1.1; omega, fun h => by cases h⟩, fun _ => ⟨b, q, rfl, by omega, hb, fun j hj => by
        obtain rfl : j = 0 := by omega
        exact ⟨_, ⟨o0, rfl, hOV0⟩, by rw [Nat.zero_mul, Nat.add_zero]; exact hrz⟩⟩⟩⟩
      have hF5 := S5F.out _ BE
      have SZF := Lib.hid (show ∀ W, Bz wz W → (W.cell? ⟨w.heap.size, 0, none⟩ = some (.slice D nd cd) ∧ W.cell? ⟨w.heap.size, 1, none⟩ = some (.slice (some ⟨b, q, none⟩) no co) ∧ W.cell? ⟨g7, 0, none⟩ = some (.slice D nd cd) ∧ W.cell? ⟨g7, 1, none⟩ = some (.slice (some ⟨g, 0, none⟩) no cap) ∧ W.cell? ⟨b, q + 2, none⟩ = some (.slice Bb nb cb)) from fun W h => by
        have hk : ∀ k j, k ≠ g → k < we.heap.size → W.cell? ⟨k, j, none⟩ = we.cell? ⟨k, j, none⟩ := fun k j hk hl => World.cell?_of_block (a := ⟨k, j, none⟩) ((h.b.block k (by rw [hsz]; exact hl)).trans (hkz k hk))
        have l1 := World.block_lt_of_cell? _ _ hF5.1
        have l2 := World.block_lt_of_cell? _ _ hF5.2.2.1
        have l3 := World.block_lt_of_cell? _ _ hF5.2.2.2.2
        exact ⟨(hk w.heap.size 0 (by omega) l1).trans hF5.1, (hk w.heap.size 1 (by omega) l1).trans hF5.2.1, (hk g7 0 (by omega) l2).trans hF5.2.2.1, (hk g7 1 (by omega) l2).trans hF5.2.2.2.1, (hk b (q + 2) (by omega) l3).trans hF5.2.2.2.2⟩)
      have zz0 : Bz wz wz := ⟨Below.refl _ _⟩
      rw [← hwz]
      refine hK.out _ _ (by have := SZF.out _ zz0; exact this) (fun hHeld3 => ?_)
      clear hK hHeld2 hHeld3
      try simp only [Act.put, List.setIfInBounds_toArray, List.set_cons_zero, List.set_cons_succ]
      refine wpAnyH_done (by kernel_rfl) ?_ _
      have hgw := World.grownBy.refl wz none
      have hFP : (Prog'.mk ds (o0 :: os0)).Few2 := (roomG_fit HGR.out).1
      have hsz0 : St.sizes o0.body ≤ 400 := (hFIT.2.2 o0 (List.mem_cons_self ..)).2
      have hsr : St.sizes [rep m o0.body] = 1 + (1 + 0 + 0) + St.sizes o0.body + 0 + 0 := by unfold rep; rw [St.sizes, St.sizes, St.size, Ex.size]; rfl
      have hFQ : (nest m ds o0 os0).Few2 := ⟨by have := hFIT.1; show ds.length ≤ 10000; omega, by have := hFIT.2.1; show (_ :: os0).length ≤ 10000; simp only [List.length_cons] at this ⊢; omega, fun o ho => by
        rcases List.mem_cons.1 ho with rfl | ho
        · show St.sizes [rep m o0.body] ≤ 10000; omega
        · have := (hFIT.2.2 o (List.mem_cons_of_mem _ ho)).2; omega⟩
      have hF1 : (Prog'.mk [] [o0]).opers.length ≤ 10000 ∧ ∀ o ∈ (Prog'.mk [] [o0]).opers, St.sizes o.body ≤ 10000 := ⟨by show 1 ≤ 10000; omega, fun o ho => by rw [show o = o0 from by simpa using ho]; omega⟩
      have hFit : (Prog'.mk ds (o0 :: os0)).Fit := roomG_Fit HGR.out
      have hNS := nest_size m ds o0 os0
      have hNC := nest_chk (n := m) (by omega) (by have := HM.out; omega) HC.out
      have hNL := nest_len (n := m) HC.out
      have hNE := eqC_neg (nest_ne m ds o0 os0)
      have hcnt := opNs_tk (o0 :: os0) (o0 :: os0).length (fun o ho => by have := (hFIT.2.2 o ho).2; omega)
      rw [List.take_length] at hcnt
      have hlen4 := hFIT.2.1
      have HBW := Lib.hid (show ∀ W, Bz wz W → Below w.heap.size w W from fun W h => hblz.trans (h.b.mono hblz.size))
      have KPp := Lib.hid (show ∀ W, Bz wz W → Calls Tryd.prog 12 #[.agg #[.slice D nd cd, .slice (some ⟨b, q, none⟩) no co]] W fun e w' => e = .returned (.tuple #[.string (bs (printS (Prog'.mk ds (o0 :: os0)))), .int .i64 (printE (Prog'.mk ds (o0 :: os0)))]) ∧ Below W.heap.size W w' from fun W h => print_any (Prog'.mk ds (o0 :: os0)) _ _ W (HWS.out.below (HBW.out W h)) (hPp.below h.b) hFP)
      have KPq := Lib.hid (show ∀ W, Bz wz W → Calls Tryd.prog 12 #[.agg #[.slice D nd cd, .slice (some ⟨g, 0, none⟩) no cap]] W fun e w' => e = .returned (.tuple #[.string (bs (printS (nest m ds o0 os0))), .int .i64 (printE (nest m ds o0 os0))]) ∧ Below W.heap.size W w' from fun W h => print_any (nest m ds o0 os0) _ _ W (HWS.out.below (HBW.out W h)) (hPq.below h.b) hFQ)
      have KSp := Lib.hid (show ∀ W, Bz wz W → Calls Tryd.prog 14 #[.agg #[.slice D nd cd, .slice (some ⟨b, q, none⟩) no co]] W fun e w' => e = .returned (.tuple #[.int .i64 (opNs (o0 :: os0)), .int .i64 (opXs (o0 :: os0))]) ∧ Below W.heap.size W w' from fun W h => sizeP_any (Prog'.mk ds (o0 :: os0)) hFP.2 W _ _ (hPp.below h.b))
      have KSq := Lib.hid (show ∀ W, Bz wz W → Calls Tryd.prog 14 #[.agg #[.slice D nd cd, .slice (some ⟨g, 0, none⟩) no cap]] W fun e w' => e = .returned (.tuple #[.int .i64 ((opNs (o0 :: os0) : Int) + 1), .int .i64 (opXs (o0 :: os0))]) ∧ Below W.heap.size W w' from fun W h => by
        have := sizeP_any (nest m ds o0 os0) hFQ.2 W _ _ (hPq.below h.b)
        rw [hNS.1, hNS.2] at this
        exact this)
      have KS1 := Lib.hid (show ∀ W, Bz wz W → Calls Tryd.prog 14 #[.agg #[.slice none 0 0, .slice (some ⟨b, q, none⟩) 1 co]] W fun e w' => e = .returned (.tuple #[.int .i64 (St.nss o0.body), .int .i64 (St.xss o0.body)]) ∧ Below W.heap.size W w' from fun W h => by
        have := sizeP_any (Prog'.mk [] [o0]) hF1 W _ _ (hP1.below h.b)
        rw [show opNs (Prog'.mk [] [o0]).opers = St.nss o0.body from Nat.add_zero _, show opXs (Prog'.mk [] [o0]).opers = St.xss o0.body from Nat.add_zero _] at this
        exact this)
      have KE := Lib.hid (show ∀ W, Bz wz W → Calls Tryd.prog 15 #[.agg #[.slice D nd cd, .slice (some ⟨b, q, none⟩) no co], .agg #[.slice D nd cd, .slice (some ⟨g, 0, none⟩) no cap]] W fun e w' => e = .returned (.bool false) ∧ Below W.heap.size W w' from fun W h => by
        have := same_any (Prog'.mk ds (o0 :: os0)) (nest m ds o0 os0) hFit W _ _ _ _ (hPp.below h.b) (hPq.below h.b)
        rw [hNE] at this
        exact this)
      have KB := Lib.hid (show ∀ W, Bz wz W → Calls Tryd.prog 9 #[] W fun e w' => e = .returned (.bool true) ∧ Below W.heap.size W w' from fun W h => KA.out W (HBW.out W h))
      have HSL := Lib.hid (show ∀ W, (Instr.slice 23 (.slice (some ⟨b, q, none⟩) no co) none (some (.int .i64 1)) none).run Tryd.prog W = .ok (.slice (some ⟨b, q, none⟩) 1 co) W from fun W => hi_o W _ no co 1 (by have := hO3.2.1.1; omega))
      obtain ⟨k1, hk1⟩ : ∃ z : Nat, z = St.nss o0.body := ⟨_, rfl⟩
      obtain ⟨k2, hk2⟩ : ∃ z : Nat, z = St.xss o0.body := ⟨_, rfl⟩
      have hks := St.nss_le o0.body
      have hx2 : (k2 : Int) ≤ opXs (o0 :: os0) := by rw [opXs, hk2]; omega
      have HPC := Lib.hid (show (printE (Prog'.mk ds (o0 :: os0)) = 7 ∨ (printE (Prog'.mk ds (o0 :: os0)) = 0 ∧ (printE (nest m ds o0 os0) = 7 ∨ printE (nest m ds o0 os0) = 18))) ∧ (printE (nest m ds o0 os0) = 0 ∨ printE (nest m ds o0 os0) = 7 ∨ printE (nest m ds o0 os0) = 18) ∨ (printE (Prog'.mk ds (o0 :: os0)) = 0 ∧ printE (nest m ds o0 os0) = 0 ∧ ((bs (printS (Prog'.mk ds (o0 :: os0)))).size : Int) + 2 * (k1 : Int) < ((bs (printS (nest m ds o0 os0))).size : Int) ∧ (bs (printS (Prog'.mk ds (o0 :: os0)))).size ≤ 65536) from by
        have hq : printE (nest m ds o0 os0) = 18 ∨ (printE (nest m ds o0 os0) = 7) ∨ (printE (nest m ds o0 os0) = 0 ∧ printS (nest m ds o0 os0) = txP (nest m ds o0 os0)) := by
          rcases hNC with e | e
          · rcases print_of e with ⟨h1, h2, h3⟩ | ⟨h1, h2, h3⟩
            · exact .inr (.inl h2)
            · exact .inr (.inr ⟨h2, h3⟩)
          · left; unfold printE; rw [if_pos (by rw [e]; decide), e]
        rcases print_of HC.out with ⟨h1, h2, h3⟩ | ⟨h1, h2, h3⟩
        · left; exact ⟨.inl h2, hq.elim (fun h => .inr (.inr h)) (fun h => h.elim (fun h => .inr (.inl h)) (fun h => .inl h.1))⟩
        · rcases hq with h | h | h
          · left; exact ⟨.inr ⟨h2, .inr h⟩, .inr (.inr h)⟩
          · left; exact ⟨.inr ⟨h2, .inl h⟩, .inr (.inl h)⟩
          · right
            refine ⟨h2, h.1, ?_, by rw [bs_size, h3]; omega⟩
            rw [bs_size, bs_size, h3, h.2, hk1]
            omega)
      rw [← hk1, ← hk2] at KS1
      have hk400 : (k1 : Int) ≤ 400 := by omega
      have han : (opNs (o0 :: os0) : Int) ≤ 4000000 := by omega
      clear hFP hsz0 hsr hFQ hF1 hFit hNS hNC hNL hNE hcnt hlen4 hk1 hk2 hks hgw
      clear hPp hPq hOV0 hrz hP1 hF5 hOLq hSLr hSLb hstz hcl5 hgz hszb hkb hblz hblw hcp hsz hkz BE BD hge hst hgs hgd HC HGR HP HWS hFIT KA HROW HGD HGN HWD S5F HB HM hO3 hD3 hPs hBs hbS hb hrow hwz
      obtain ⟨c0, c1, d0, d1, d2⟩ := SZF.out _ zz0
      generalize opNs (o0 :: os0) = na at *
      generalize opXs (o0 :: os0) = nx at *
      generalize printE (Prog'.mk ds (o0 :: os0)) = e1 at *
      generalize printE (nest m ds o0 os0) = e2 at *
      generalize bs (printS (Prog'.mk ds (o0 :: os0))) = s1 at *
      generalize bs (printS (nest m ds o0 os0)) = s2 at *
      have hwa : IntKind.i64.wrap ((na : Int) + 1) = (na : Int) + 1 := by simp [IntKind.wrap, IntKind.bits, IntKind.signed]; omega
      go_wp2_with fail
      refine (KSp.out _ zz0).mono ?_
      rintro e wq ⟨rfl, hb⟩
      have zz1 := zz0.next hb
      clear hb c0 c1 d0 d1 d2 zz0
      obtain ⟨c0, c1, d0, d1, d2⟩ := SZF.out _ zz1
      go_wp2_with fail
      refine (KSq.out _ zz1).mono ?_
      rintro e wq ⟨rfl, hb⟩
      have zz2 := zz1.next hb
      clear hb c0 c1 d0 d1 d2 zz1
      obtain ⟨c0, c1, d0, d1, d2⟩ := SZF.out _ zz2
      go_wp2_with fail
      refine (KPp.out _ zz2).mono ?_
      rintro e wq ⟨rfl, hb⟩
      have zz3 := zz2.next hb
      clear hb c0 c1 d0 d1 d2 zz2
      obtain ⟨c0, c1, d0, d1, d2⟩ := SZF.out _ zz3
      go_wp2_with fail
      refine (KPq.out _ zz3).mono ?_
      rintro e wq ⟨rfl, hb⟩
      have zz4 := zz3.next hb
      clear hb c0 c1 d0 d1 d2 zz3
      obtain ⟨c0, c1, d0, d1, d2⟩ := SZF.out _ zz4
      go_wp2_with fail
      refine (KE.out _ zz4).mono ?_
      rintro e wq ⟨rfl, hb⟩
      have zz5 := zz4.next hb
      clear hb c0 c1 d0 d1 d2 zz4
      obtain ⟨c0, c1, d0, d1, d2⟩ := SZF.out _ zz5
      rcases HPC.out with ⟨h1, h2⟩ | ⟨h1, h2, h3, h4⟩
      · clear HPC
        rcases h1 with h1 | ⟨h1, h3⟩
        · subst h1
          rcases h2 with h2 | h2 | h2
          · subst h2
            go_wp2_with fail
            refine (KB.out _ zz5).mono ?_
            rintro e wq ⟨rfl, hb⟩
            have zf := Bz.next zz5 hb
            clear hb c0 c1 d0 d1 d2
            go_wp2
            go_ret
            exact ⟨rfl, HBW.out _ zf⟩
          · subst h2
            go_wp2_with fail
            refine (KB.out _ zz5).mono ?_
            rintro e wq ⟨rfl, hb⟩
            have zf := Bz.next zz5 hb
            clear hb c0 c1 d0 d1 d2
            go_wp2
            go_ret
            exact ⟨rfl, HBW.out _ zf⟩
          · subst h2
            go_wp2_with fail
            refine (KB.out _ zz5).mono ?_
            rintro e wq ⟨rfl, hb⟩
            have zf := Bz.next zz5 hb
            clear hb c0 c1 d0 d1 d2
            go_wp2
            go_ret
            exact ⟨rfl, HBW.out _ zf⟩
        · subst h1
          clear h2
          rcases h3 with h2 | h2
          · subst h2
            go_wp2_with fail
            refine (KB.out _ zz5).mono ?_
            rintro e wq ⟨rfl, hb⟩
            have zf := Bz.next zz5 hb
            clear hb c0 c1 d0 d1 d2
            go_wp2
            go_ret
            exact ⟨rfl, HBW.out _ zf⟩
          · subst h2
            go_wp2_with fail
            refine (KB.out _ zz5).mono ?_
            rintro e wq ⟨rfl, hb⟩
            have zf := Bz.next zz5 hb
            clear hb c0 c1 d0 d1 d2
            go_wp2
            go_ret
            exact ⟨rfl, HBW.out _ zf⟩
      · subst h1
        subst h2
        clear HPC
        have hsl := HSL.out
        have hk2w : IntKind.i64.wrap (2 * (k1 : Int)) = 2 * (k1 : Int) := by simp [IntKind.wrap, IntKind.bits, IntKind.signed]; omega
        have hk3w : IntKind.i64.wrap ((s1.size : Int) + 2 * (k1 : Int)) = (s1.size : Int) + 2 * (k1 : Int) := by simp [IntKind.wrap, IntKind.bits, IntKind.signed]; omega
        go_wp2_with fail
        refine (KS1.out _ zz5).mono ?_
        rintro e wq ⟨rfl, hb⟩
        have zz6 := zz5.next hb
        clear hb c0 c1 d0 d1 d2 zz5
        obtain ⟨c0, c1, d0, d1, d2⟩ := SZF.out _ zz6
        go_wp2_with fail
        refine (KB.out _ zz6).mono ?_
        rintro e wq ⟨rfl, hb⟩
        have zf := Bz.next zz6 hb
        clear hb c0 c1 d0 d1 d2
        go_wp2
        go_ret
        exact ⟨rfl, HBW.out _ zf⟩
    · have hc1 : (chkP p != 0) = true := by simp [hc]
      clear HP hD hO
      generalize chkP p = C at *
      generalize roomG p = G at *
      go_wp2_with fail
      refine (KA.out _ (HG0.out _ z2)).mono ?_
      rintro e wq ⟨rfl, hb⟩
      have zq := z2.next hb
      go_wp2
      go_ret
      exact ⟨rfl, HG0.out _ zq⟩
end Go.Proofs.YthfjkdgaiaokdaaDoor
