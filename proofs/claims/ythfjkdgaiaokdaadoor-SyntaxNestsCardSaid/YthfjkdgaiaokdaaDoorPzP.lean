/- The walk of SyntaxParts (printed by wip/genpzp.py). Conditions: the library's tables are laid (SxW), strings as long as the machine has them, at most 2^60 parameters; the numbers are bytes. -/
import Derived.Test.YthfjkdgaiaokdaaDoorPzO
set_option linter.unusedVariables false
set_option linter.unusedSimpArgs false
namespace Go.Proofs.YthfjkdgaiaokdaaDoor
open Go.RowKit

theorem OL.mono {w w' : World} {S S' : Nat → Prop} {A : Option Addr} {n c : Nat} {l : List Oper'} {g : Nat} (h : OL w S A n c l) (hg : w.grownBy w' (some g)) (hS : ∀ b, b < w.heap.size → S b → b ≠ g ∧ S' b) : OL w' S' A n c l :=
  h.keep hg.size (fun b hb hs => hg.block b hb fun e => (hS b hb hs).1 (Option.some.inj e)) fun b hb hs => (hS b hb hs).2
theorem DL.mono {w w' : World} {S S' : Nat → Prop} {A : Option Addr} {n c : Nat} {l : List Decl'} {g : Nat} (h : DL w S A n c l) (hg : w.grownBy w' (some g)) (hS : ∀ b, b < w.heap.size → S b → b ≠ g ∧ S' b) : DL w' S' A n c l :=
  h.keep hg.size (fun b hb hs => hg.block b hb fun e => (hS b hb hs).1 (Option.some.inj e)) fun b hb hs => (hS b hb hs).2
theorem Bxs.trans {g : Nat} {t : TypeId} {w0 w1 w2 : World} {X Y : Array Value} (h : Bxs g t w0 X w1) (k : Bxs g t w1 Y w2) : Bxs g t w0 Y w2 := ⟨World.grownBy.trans h.gr k.gr, k.bx⟩
theorem Bxs.refl {g : Nat} {t : TypeId} {w0 w1 : World} {X : Array Value} (h : Bxs g t w0 X w1) : Bxs g t w1 X w1 := ⟨World.grownBy.refl _ _, h.bx⟩
theorem own_empty (w : World) (base : Nat) (e : TypeId) (size : Nat) (hb : base ≤ w.heap.size) : (w.alloc (.cells #[] e)).ownsRow base e size (.slice (some ⟨w.heap.size, 0, none⟩) 0 0) 0 ([] : List (List Value)).flatten :=
  ⟨by simp, .inr ⟨w.heap.size, 0, _, rfl, hb, heap_alloc_new w _, Nat.le_refl _, Nat.zero_le _, by simp, by simp⟩⟩
theorem mod_byte {i : Int} {n : Nat} (h0 : 0 ≤ i) (hn : 0 < n) : i.tmod (n : Int) = ((i.toNat % n : Nat) : Int) ∧ i.toNat % n < n := by
  obtain ⟨j, rfl⟩ := Int.eq_ofNat_of_zero_le h0
  exact ⟨by rw [Int.tmod_eq_emod_of_nonneg (by omega)]; simp, Nat.mod_lt _ hn⟩
set_option maxRecDepth 100000 in
set_option maxHeartbeats 51200000 in
theorem parts_any (p : Prog') (v : Value) (S : Nat → Prop) (w : World) (i k : Int) (hi : 0 ≤ i ∧ i ≤ 255) (hk : 0 ≤ k ∧ k ≤ 255) (hw : SxW w) (hp : PV w S p v) (hws : p.Ws) :
    Calls Tryd.prog 5 #[v, .int .u8 i, .int .u8 k] w fun e w' => e = .returned (.bool true) ∧ Below w.heap.size w w' := by
  obtain ⟨D, nd, cd, O, no, co, hv, hD, hO⟩ := id hp
  subst hv
  obtain ⟨W0, hW0⟩ : ∃ W0 : World, W0 = w.alloc (.cells #[.slice D nd cd, .slice O no co] 25) := ⟨_, rfl⟩
  have hb0 : Below w.heap.size w W0 := by rw [hW0]; exact (Below.refl _ _).alloc (Nat.le_refl _) _
  have HF0 := Lib.hid (show ∀ W, Bz W0 W → (W.cell? ⟨w.heap.size, 0, none⟩ = some (.slice D nd cd) ∧ W.cell? ⟨w.heap.size, 1, none⟩ = some (.slice O no co)) from fun W h => by
    subst hW0
    have hq := heap_alloc_new w (.cells #[.slice D nd cd, .slice O no co] 25)
    exact cells2 ((h.b.block _ (lt_of_block hq)).trans hq))
  have HG0 := Lib.hid (show ∀ W, Bz W0 W → Below w.heap.size w W from fun W h => hb0.trans (h.b.mono hb0.size))
  have hs0 : w.heap.size < W0.heap.size := by rw [hW0]; simp
  have KG := Lib.hid (show ∀ W, Bz W0 W → Calls Tryd.prog 8 #[.agg #[.slice D nd cd, .slice O no co]] W fun e w' => e = .returned (.bool (decide (roomG p < 0))) ∧ Below W.heap.size W w' from fun W h => great_any p _ S W (hp.below (HG0.out W h)) hws)
  have KC := Lib.hid (show 0 ≤ roomG p → ∀ W, Bz W0 W → Calls Tryd.prog 10 #[.agg #[.slice D nd cd, .slice O no co]] W fun e w' => e = .returned (.int .i64 (chkP p)) ∧ Below W.heap.size W w' from fun hr W h => check_any p _ S W (hw.below (HG0.out W h)) (hp.below (HG0.out W h)) (roomG_fit hr).1.few)
  have KA := Lib.hid (show ∀ W, Below w.heap.size w W → Calls Tryd.prog 9 #[] W fun e w' => e = .returned (.bool true) ∧ Below W.heap.size W w' from fun W h => awake_any W (hw.below h))
  have z0 : Bz W0 W0 := ⟨Below.refl _ _⟩
  have HP := Lib.hid hp
  have HWS := Lib.hid hw
  clear hw hp hb0
  go_enter Tryd.func5, Tryd.ntmps5
  go_upto_region 1 with fail
  rw [← hW0]
  clear hW0
  obtain ⟨c0, c1⟩ := HF0.out _ z0
  go_wp2_with fail
  refine (KG.out _ z0).mono ?_
  rintro e w1 ⟨rfl, hb⟩
  have z1 := z0.next hb
  clear hb c0 c1
  by_cases hg : roomG p < 0
  · rw [decide_eq_true hg]
    clear HP KC hws hD hO
    generalize roomG p = G at *
    go_wp2_with fail
    refine (KA.out _ (HG0.out _ z1)).mono ?_
    rintro e w2 ⟨rfl, hb⟩
    have z2 := z1.next hb
    go_wp2
    go_ret
    exact ⟨rfl, HG0.out _ z2⟩
  · rw [decide_eq_false hg]
    have hg : 0 ≤ roomG p := by omega
    have LC := Lib.hid (KC.out hg)
    clear KC KG hws
    obtain ⟨c0, c1⟩ := HF0.out _ z1
    go_wp2_with fail
    refine (LC.out _ z1).mono ?_
    rintro e w2 ⟨rfl, hb⟩
    have z2 := z1.next hb
    clear hb c0 c1 LC z0 z1
    by_cases hc : chkP p = 0
    · have HC := Lib.hid hc
      have HGR := Lib.hid hg
      rw [hc]
      obtain ⟨c0, c1⟩ := HF0.out _ z2
      obtain ⟨W3, hW3⟩ : ∃ W3 : World, W3 = w2.alloc (.cells #[.slice D nd cd, .slice O no co] 25) := ⟨_, rfl⟩
      obtain ⟨g7, hg7⟩ : ∃ g : Nat, g = w2.heap.size := ⟨_, rfl⟩
      have hbw := HG0.out _ z2
      have hg7w : w.heap.size < g7 := by have := z2.b.size; omega
      have hb3 : Below w2.heap.size w2 W3 := by rw [hW3]; exact (Below.refl _ _).alloc (Nat.le_refl _) _
      have B3 : Bxs g7 25 W3 #[.slice D nd cd, .slice O no co] W3 := ⟨World.grownBy.refl _ _, by rw [hW3, hg7]; exact heap_alloc_new w2 _⟩
      obtain ⟨ds, os⟩ := p
      dsimp only at hD hO
      have hFIT := roomG_fit2 hg
      have HB := Lib.hid (show ∀ X W, Bxs g7 25 W3 X W → ((W.cell? ⟨w.heap.size, 0, none⟩ = some (.slice D nd cd) ∧ W.cell? ⟨w.heap.size, 1, none⟩ = some (.slice O no co)) ∧ OL W (fun b => b < w.heap.size) O no co os ∧ DL W (fun b => b < w.heap.size) D nd cd ds ∧ Below w.heap.size w W) from fun X W h => by
        have hbz : Below w.heap.size w W := by
          have h1 := hbw.trans (hb3.mono hbw.size)
          exact ⟨h.gr.os.trans h1.os, h.gr.tape.trans h1.tape, h.gr.output.trans h1.output, Nat.le_trans h1.size h.gr.size, fun b hb => (h.gr.block b (Nat.lt_of_lt_of_le hb h1.size) (fun e => by have := Option.some.inj e; omega)).trans (h1.block b hb)⟩
        have h2 := HF0.out _ (z2.next hb3)
        refine ⟨⟨h.cellOf (by omega) h2.1, h.cellOf (by omega) h2.2⟩, hO.keep hbz.size (fun b hb _ => hbz.block b hb) fun b hb _ => hb, hD.keep hbz.size (fun b hb _ => hbz.block b hb) fun b hb _ => hb, hbz⟩)
      have HSZ := Lib.hid (show g7 < W3.heap.size from B3.lt)
      clear hD hO hb3 hbw
      go_upto_region 4 with fail
      rw [← hW3, ← hg7]
      clear hW3 c0 c1 z2 hg7
      obtain ⟨⟨c0, c1⟩, hO3, hD3, -⟩ := HB.out _ _ B3
      obtain ⟨Wb, hWb⟩ : ∃ Wb, Wb = W3 := ⟨_, rfl⟩
      subst hWb
      have BB := B3
      have HBX := Lib.hid (show ∀ X W, Bxs g7 25 Wb X W → ((W.cell? ⟨w.heap.size, 0, none⟩ = some (.slice D nd cd) ∧ W.cell? ⟨w.heap.size, 1, none⟩ = some (.slice O no co)) ∧ OL W (fun b => b < w.heap.size) O no co os ∧ DL W (fun b => b < w.heap.size) D nd cd ds ∧ Below w.heap.size w W) ∧ OL W (fun b => b ≠ g7) O no co os ∧ DL W (fun b => b ≠ g7) D nd cd ds from fun X W h => by
        have h1 := HB.out X W h
        exact ⟨h1, h1.2.1.keep (Nat.le_refl _) (fun _ _ _ => rfl) fun b _ hs => by have : b < w.heap.size := hs; show b ≠ g7; omega, h1.2.2.1.keep (Nat.le_refl _) (fun _ _ _ => rfl) fun b _ hs => by have : b < w.heap.size := hs; show b ≠ g7; omega⟩)
      clear HB B3
      have HB := HBX
      clear HBX
      have HLEN := Lib.hid (show no ≤ 400 ∧ nd ≤ 400 by have h1 := hO3.1; have h2 := hD3.1; have h3 := hFIT.1; have h4 := hFIT.2.1; omega)
      by_cases hno : 0 < (no : Int)
      · skip
        have hp0 : 0 < no := by omega
        obtain ⟨hmod, hlt⟩ := mod_byte hi.1 hp0
        obtain ⟨m, hm⟩ : ∃ z : Nat, z = i.toNat % no := ⟨_, rfl⟩
        rw [← hm] at hmod hlt
        clear hm
        have hwr : IntKind.i64.wrap i = i := by simp [IntKind.wrap, IntKind.bits, IntKind.signed]; omega
        have hnz : ¬ (no : Int) = 0 := by omega
        have hmo : (no : Int) ≤ 400 := by have := HLEN.out; omega
        have hw1 : IntKind.i64.wrap ((m : Int) + 1) = (m : Int) + 1 := by simp [IntKind.wrap, IntKind.bits, IntKind.signed]; omega
        go_upto_region 6 with fail
        clear c0 c1 hmod hwr hnz
        have BD := BB.next (Below.refl _ _).drew
        have HSB := Lib.hid BD.gr.size
        obtain ⟨B, hB⟩ : ∃ B : Nat, B = Wb.drew.heap.size := ⟨_, rfl⟩
        have hgB : g7 < B := by rw [hB]; exact BD.lt
        have hcc : no ≤ co := hO3.2.1.1
        obtain ⟨css, k1, k2, k3, k4⟩ := RowOf.reads hO3.2 (fun j cs h => by obtain ⟨x, _, h⟩ := h; obtain ⟨_, _, _, _, _, _, rfl, _⟩ := h; rfl)
        have K2 := Lib.hid k2
        have hone : ∀ u ∈ css.flatten, u.oneCell' = true := fun u hu => by
          obtain ⟨cs, hcs, hu⟩ := List.mem_flatten.1 hu
          obtain ⟨j, hj, rfl⟩ := List.getElem_of_mem hcs
          obtain ⟨x, _, h⟩ := k2 j _ (List.getElem?_eq_getElem hj)
          obtain ⟨_, _, _, _, _, _, e, _⟩ := h
          rw [e] at hu
          simp only [List.mem_cons, List.mem_nil_iff, or_false] at hu
          rcases hu with rfl | rfl | rfl <;> rfl
        have R1 := Lib.hid (k4.first (k := m) (by omega))
        have R2 := Lib.hid (k4.cut (k := m + 1) (cap := co) (by omega) hcc)
        have O1 := Lib.hid (show ∀ u ∈ css.flatten.take (m * 3), u.oneCell' = true from fun u hu => hone u (List.mem_of_mem_take hu))
        have O2 := Lib.hid (show ∀ u ∈ css.flatten.drop ((m + 1) * 3), u.oneCell' = true from fun u hu => hone u (List.mem_of_mem_drop hu))
        have HI := Lib.hid (hi_o · O no co m (by omega))
        have HL := Lib.hid (fun W => show (Instr.slice 23 (.slice O no co) (some (.int .i64 ((m : Int) + 1))) none none).run Tryd.prog W = .ok (.slice (if co = m + 1 then O else O.map (fun x => x.add ((m + 1) * 3))) (no - (m + 1)) (co - (m + 1))) W from lo_o W O no co (m + 1) (by omega))
        obtain ⟨A2, hA2⟩ : ∃ A2, A2 = if co = m + 1 then O else O.map (fun x => x.add ((m + 1) * 3)) := ⟨_, rfl⟩
        rw [← hA2] at R2 HL
        obtain ⟨n2, hn2⟩ : ∃ z : Nat, z = no - (m + 1) := ⟨_, rfl⟩
        rw [← hn2] at R2 HL
        obtain ⟨c2, hc2⟩ : ∃ z : Nat, z = co - (m + 1) := ⟨_, rfl⟩
        rw [← hc2] at HL
        have HK1 := Lib.hid k1
        have HK3 := Lib.hid k3
        have HLT := Lib.hid hlt
        have HN2 := Lib.hid hn2
        clear k1 k2 k3 k4 hone hA2 hn2 hc2 hcc hp0 hlt
        obtain ⟨wd, hwd⟩ : ∃ wd : World, wd = Wb.drew := ⟨_, rfl⟩
        rw [← hwd] at BD hB HSB
        have HWD := Lib.hid hwd
        refine wp_region_held_drew (S := fun W => (W.cell? ⟨w.heap.size, 0, none⟩ = some (.slice D nd cd) ∧ W.cell? ⟨w.heap.size, 1, none⟩ = some (.slice O no co))) (by kernel_rfl) (by rw [← HWD.out]; exact (HB.out _ _ BD).1.1) (fun hHeld => ?_)
        rw [← hwd] at hHeld ⊢
        clear hwd
        refine wpAnyH_take (i := 1) (oi := ⟨some 38, _, _, _, _, _⟩) (v := .pointer (some ⟨w.heap.size, 1, none⟩)) rfl (by kernel_rfl) (by kernel_rfl) (by kernel_rfl) (fun _ _ _ h => h) (Or.inl ⟨by rfl, ?_⟩) hHeld ?_
        · intro W hW
          obtain ⟨h0, h1⟩ := hW
          go_simp
        try simp only [Act.put, List.setIfInBounds_toArray, List.set_cons_zero, List.set_cons_succ]
        refine wpAnyH_take (i := 2) (oi := ⟨some 39, _, _, _, _, _⟩) (v := .slice O no co) rfl (by kernel_rfl) (by kernel_rfl) (by kernel_rfl) (fun _ _ _ h => h) (Or.inl ⟨by rfl, ?_⟩) hHeld ?_
        · intro W hW
          obtain ⟨h0, h1⟩ := hW
          go_simp
        try simp only [Act.put, List.setIfInBounds_toArray, List.set_cons_zero, List.set_cons_succ]
        refine wpAnyH_take (i := 3) (oi := ⟨some 40, _, _, _, _, _⟩) (v := .int .i64 (m : Int)) rfl (by kernel_rfl) (by kernel_rfl) (by kernel_rfl) (fun _ _ _ h => h) (Or.inl ⟨by rfl, ?_⟩) hHeld ?_
        · intro W hW
          obtain ⟨h0, h1⟩ := hW
          go_simp
        try simp only [Act.put, List.setIfInBounds_toArray, List.set_cons_zero, List.set_cons_succ]
        refine wpAnyH_take (i := 4) (oi := ⟨some 41, _, _, _, _, _⟩) (v := .slice O m co) rfl (by kernel_rfl) (by kernel_rfl) (by kernel_rfl) (fun _ _ _ h => h) (Or.inl ⟨by rfl, ?_⟩) hHeld ?_
        · intro W hW
          obtain ⟨h0, h1⟩ := hW
          have hx := HI.out W; go_simp
        try simp only [Act.put, List.setIfInBounds_toArray, List.set_cons_zero, List.set_cons_succ]
        refine wpAnyH_take (i := 6) (oi := ⟨some 43, _, _, _, _, _⟩) (v := .pointer (some ⟨w.heap.size, 1, none⟩)) rfl (by kernel_rfl) (by kernel_rfl) (by kernel_rfl) (fun _ _ _ h => h) (Or.inl ⟨by rfl, ?_⟩) hHeld ?_
        · intro W hW
          obtain ⟨h0, h1⟩ := hW
          go_simp
        try simp only [Act.put, List.setIfInBounds_toArray, List.set_cons_zero, List.set_cons_succ]
        refine wpAnyH_take (i := 7) (oi := ⟨some 44, _, _, _, _, _⟩) (v := .slice O no co) rfl (by kernel_rfl) (by kernel_rfl) (by kernel_rfl) (fun _ _ _ h => h) (Or.inl ⟨by rfl, ?_⟩) hHeld ?_
        · intro W hW
          obtain ⟨h0, h1⟩ := hW
          go_simp
        try simp only [Act.put, List.setIfInBounds_toArray, List.set_cons_zero, List.set_cons_succ]
        refine wpAnyH_take (i := 8) (oi := ⟨some 45, _, _, _, _, _⟩) (v := .int .i64 (m : Int)) rfl (by kernel_rfl) (by kernel_rfl) (by kernel_rfl) (fun _ _ _ h => h) (Or.inl ⟨by rfl, ?_⟩) hHeld ?_
        · intro W hW
          obtain ⟨h0, h1⟩ := hW
          go_simp
        try simp only [Act.put, List.setIfInBounds_toArray, List.set_cons_zero, List.set_cons_succ]
        refine wpAnyH_take (i := 9) (oi := ⟨some 46, _, _, _, _, _⟩) (v := .int .i64 ((m : Int) + 1)) rfl (by kernel_rfl) (by kernel_rfl) (by kernel_rfl) (fun _ _ _ h => h) (Or.inl ⟨by rfl, ?_⟩) hHeld ?_
        · intro W hW
          obtain ⟨h0, h1⟩ := hW
          go_simp
        try simp only [Act.put, List.setIfInBounds_toArray, List.set_cons_zero, List.set_cons_succ]
        refine wpAnyH_take (i := 10) (oi := ⟨some 47, _, _, _, _, _⟩) (v := .slice A2 n2 c2) rfl (by kernel_rfl) (by kernel_rfl) (by kernel_rfl) (fun _ _ _ h => h) (Or.inl ⟨by rfl, ?_⟩) hHeld ?_
        · intro W hW
          obtain ⟨h0, h1⟩ := hW
          have hx := HL.out W; go_simp
        try simp only [Act.put, List.setIfInBounds_toArray, List.set_cons_zero, List.set_cons_succ]
        refine wpAnyH_ready (rs := [0]) (by kernel_rfl) (by simp) ?_
        refine AllReadyH.cons (o := ⟨some 37, _, _, _, _, _⟩) rfl (fun K hK => ?_) AllReadyH.nil
        have own0 := own_empty wd B 41 3 (Nat.le_of_eq hB)
        have BE := BD.next ((Below.refl _ _).alloc (Nat.le_refl _) (.cells #[] 41))
        have hs4 : wd.heap.size ≤ (wd.alloc (.cells #[] 41)).heap.size := by simp
        rw [← hB] at own0
        go_simp
        rw [← hB]
        generalize wd.alloc (.cells #[] 41) = w4 at *
        refine hK.out _ _ (HB.out _ _ BE).1.1 (fun hHeld2 => ?_)
        clear hK hHeld
        try simp only [Act.put, List.setIfInBounds_toArray, List.set_cons_zero, List.set_cons_succ]
        refine wpAnyH_ready (rs := [5]) (by kernel_rfl) (by simp) ?_
        refine AllReadyH.cons (o := ⟨some 42, _, _, _, _, _⟩) rfl (fun K hK => ?_) AllReadyH.nil
        have hB4 : B ≤ w4.heap.size := by rw [hB]; exact hs4
        obtain ⟨v5, w5, hrun, own5, gr5⟩ := app_o w4 23 B _ 0 _ own0 _ O m co _ (R1.out.grown BE.gr (fun g e h => by have := Option.some.inj e; omega)) O1.out (by have := HLT.out; omega) hB4
        have lt5 : ∀ k, (Value.slice (some ⟨B, 0, none⟩) 0 0).ownBlock = some k → B ≤ k := fun k e => Nat.le_of_eq (Option.some.inj e)
        have BF := BE.own hgB gr5 lt5 (by rw [hB]; exact HSB.out)
        refine step_app rfl _ _ 23 rfl _ _ (by first | rfl | simp [Act.eval, Act.put]) (by first | rfl | simp [Act.eval, Act.put]) hrun ?_
        clear hrun
        refine hK.out _ _ (HB.out _ _ BF).1.1 (fun hHeld3 => ?_)
        clear hK hHeld2
        try simp only [Act.put, List.setIfInBounds_toArray, List.set_cons_zero, List.set_cons_succ]
        refine wpAnyH_ready (rs := [11]) (by kernel_rfl) (by simp) ?_
        refine AllReadyH.cons (o := ⟨some 48, _, _, _, _, _⟩) rfl (fun K hK => ?_) AllReadyH.nil
        have hB5 : B ≤ w5.heap.size := Nat.le_trans hB4 gr5.size
        obtain ⟨v6, w6, hrun, owmo, gr6⟩ := app_o w5 23 B v5 (0 + m) _ own5 _ A2 n2 c2 _ (R2.out.grown BF.gr (fun g e h => by have := Option.some.inj e; omega)) O2.out (by have := HN2.out; have := HLT.out; omega) hB5
        have lt6 : ∀ k, v5.ownBlock = some k → B ≤ k := fun k e => (own5.lt k e).1
        have BG := BF.own hgB gr6 lt6 (by rw [hB]; exact HSB.out)
        refine step_app rfl _ _ 23 rfl _ _ (by first | rfl | simp [Act.eval, Act.put]) (by first | rfl | simp [Act.eval, Act.put]) hrun ?_
        clear hrun
        refine hK.out _ _ (HB.out _ _ BG).1.1 (fun hHeld4 => ?_)
        clear hK hHeld3
        try simp only [Act.put, List.setIfInBounds_toArray, List.set_cons_zero, List.set_cons_succ]
        refine wpAnyH_take (i := 12) (oi := ⟨some 49, _, _, _, _, _⟩) (v := .pointer (some ⟨g7, 1, none⟩)) rfl (by kernel_rfl) (by kernel_rfl) (by kernel_rfl) (fun _ _ _ h => h) (Or.inl ⟨by rfl, ?_⟩) hHeld4 ?_
        · intro W hW
          obtain ⟨h0, h1⟩ := hW
          go_simp
        try simp only [Act.put, List.setIfInBounds_toArray, List.set_cons_zero, List.set_cons_succ]
        refine wpAnyH_ready (rs := [13]) (by kernel_rfl) (by simp) ?_
        refine AllReadyH.cons (o := ⟨none, _, _, _, _, _⟩) rfl (fun K hK => ?_) AllReadyH.nil
        rw [flat_erase css m HK3.out] at owmo
        have hln : (css.eraseIdx m).length = 0 + m + n2 := by rw [List.length_eraseIdx, if_pos (by have := HK1.out; have := HLT.out; omega)]; have := HK1.out; have := HLT.out; have := HN2.out; omega
        obtain ⟨Ao, ko, hv6, hrow6⟩ := own_row owmo hln (fun cs hcs => HK3.out cs (List.mem_of_mem_eraseIdx hcs)) (fun j cs => ∃ x, (os.eraseIdx m)[j]? = some x ∧ OV w6 (fun b => b < w.heap.size) x cs) (erase_match (fun j cs h => by
          obtain ⟨x, h1, h2⟩ := K2.out j cs h
          exact ⟨x, h1, h2.keep BG.gr.size (fun b hb hs => BG.block hb (by omega)) fun _ _ h => h⟩) m)
        subst hv6
        obtain ⟨mo, hmo⟩ : ∃ z : Nat, z = 0 + m + n2 := ⟨_, rfl⟩
        rw [← hmo] at hrow6 hln ⊢
        have HN6 := Lib.hid hmo
        clear hmo
        have hcl : ∃ u, w6.cell? ⟨g7, 1, none⟩ = some u := ⟨_, by rw [cell_of_row _ _ _ _ _ _ BG.bx]; rfl⟩
        obtain ⟨u, hcl⟩ := hcl
        have hfz := BG.free 1
        have BH := BG.set 1 (.slice Ao mo ko)
        have hll : (os.eraseIdx m).length = mo := by have := HN6.out; rw [List.length_eraseIdx, if_pos (by have := HLT.out; have := hO3.1; omega)]; have := hO3.1; have := HLT.out; have := HN2.out; omega
        have hL6 : OL w6 (fun b => b ≠ g7) Ao mo ko (os.eraseIdx m) := ⟨hll.symm, hrow6.keep (Nat.le_refl _) (fun _ _ _ => rfl) (fun b _ (h : B ≤ b) => (by omega : b ≠ g7)) (fun j cs h => by obtain ⟨x, h1, h2⟩ := h; exact ⟨x, h1, h2.keep (Nat.le_refl _) (fun _ _ _ => rfl) (fun b _ (h : b < w.heap.size) => (by omega : b ≠ g7))⟩)⟩
        have hL7 := hL6.mono (S' := fun b => b ≠ g7) (grown_put w6 g7 1 (.slice Ao mo ko)) (fun b _ hs => ⟨hs, hs⟩)
        refine Eq.mpr (if_pos (by kernel_rfl)) ?_
        go_simp
        clear hcl hfz hln hll
        have HB7 := Lib.hid (show ∀ X W, Bxs g7 25 (w6.setCell ⟨g7, 1, none⟩ (.slice Ao mo ko)) X W → ((W.cell? ⟨w.heap.size, 0, none⟩ = some (.slice D nd cd) ∧ W.cell? ⟨w.heap.size, 1, none⟩ = some (.slice O no co)) ∧ OL W (fun b => b < w.heap.size) O no co os ∧ DL W (fun b => b < w.heap.size) D nd cd ds ∧ Below w.heap.size w W) ∧ OL W (fun b => b ≠ g7) Ao mo ko (os.eraseIdx m) ∧ DL W (fun b => b ≠ g7) D nd cd ds from fun X W h => by
          have h1 := HB.out X W (BH.trans h)
          exact ⟨h1.1, hL7.mono h.gr (fun b _ hs => ⟨hs, hs⟩), h1.2.2⟩)
        have BB7 := BH.refl
        have hfa := (HB.out _ _ BH).1.1
        refine hK.out _ _ hfa (fun hHeld5 => ?_)
        try simp only [Act.put, List.setIfInBounds_toArray, List.set_cons_zero, List.set_cons_succ]
        refine wpAnyH_done (by kernel_rfl) ?_ _
        clear hK hHeld4 hHeld5 BD BE BF BG BH own0 own5 owmo gr5 gr6 lt5 lt6 hL6 hL7 hrow6 hs4 hB4 hB5 hfa
        clear R1 R2 O1 O2 HI HL HK1 HK3 HLT HN2 K2 HWD HSB
        generalize w6.setCell ⟨g7, 1, none⟩ (.slice Ao mo ko) = wz at *
        clear HB BB
        obtain ⟨Wb, hWb⟩ : ∃ Wb, Wb = wz := ⟨_, rfl⟩
        subst hWb
        have BB := BB7
        have HB := HB7
        clear BB7 HB7
        obtain ⟨⟨⟨c0, c1⟩, hO3, hD3, -⟩, -⟩ := HB.out _ _ BB
        by_cases hnd : 0 < (nd : Int)
        · skip
          have hp0 : 0 < nd := by omega
          obtain ⟨hmod, hlt⟩ := mod_byte hk.1 hp0
          obtain ⟨r, hr⟩ : ∃ z : Nat, z = k.toNat % nd := ⟨_, rfl⟩
          rw [← hr] at hmod hlt
          clear hr
          have hwr : IntKind.i64.wrap k = k := by simp [IntKind.wrap, IntKind.bits, IntKind.signed]; omega
          have hnz : ¬ (nd : Int) = 0 := by omega
          have hmd : (nd : Int) ≤ 400 := by have := HLEN.out; omega
          have hw1 : IntKind.i64.wrap ((r : Int) + 1) = (r : Int) + 1 := by simp [IntKind.wrap, IntKind.bits, IntKind.signed]; omega
          go_upto_region 9 with fail
          clear c0 c1 hmod hwr hnz
          have BD := BB.next (Below.refl _ _).drew
          have HSB := Lib.hid BD.gr.size
          obtain ⟨B, hB⟩ : ∃ B : Nat, B = Wb.drew.heap.size := ⟨_, rfl⟩
          have hgB : g7 < B := by rw [hB]; exact BD.lt
          have hcc : nd ≤ cd := hD3.2.1.1
          obtain ⟨css, k1, k2, k3, k4⟩ := RowOf.reads hD3.2 (fun j cs h => by obtain ⟨x, _, h⟩ := h; rw [h]; rfl)
          have K2 := Lib.hid k2
          have hone : ∀ u ∈ css.flatten, u.oneCell' = true := fun u hu => by
            obtain ⟨cs, hcs, hu⟩ := List.mem_flatten.1 hu
            obtain ⟨j, hj, rfl⟩ := List.getElem_of_mem hcs
            obtain ⟨x, _, h⟩ := k2 j _ (List.getElem?_eq_getElem hj)
            rw [h] at hu
            simp only [List.mem_cons, List.mem_nil_iff, or_false] at hu
            rcases hu with rfl | rfl <;> rfl
          have R1 := Lib.hid (k4.first (k := r) (by omega))
          have R2 := Lib.hid (k4.cut (k := r + 1) (cap := cd) (by omega) hcc)
          have O1 := Lib.hid (show ∀ u ∈ css.flatten.take (r * 2), u.oneCell' = true from fun u hu => hone u (List.mem_of_mem_take hu))
          have O2 := Lib.hid (show ∀ u ∈ css.flatten.drop ((r + 1) * 2), u.oneCell' = true from fun u hu => hone u (List.mem_of_mem_drop hu))
          have HI := Lib.hid (hi_d · D nd cd r (by omega))
          have HL := Lib.hid (fun W => show (Instr.slice 22 (.slice D nd cd) (some (.int .i64 ((r : Int) + 1))) none none).run Tryd.prog W = .ok (.slice (if cd = r + 1 then D else D.map (fun x => x.add ((r + 1) * 2))) (nd - (r + 1)) (cd - (r + 1))) W from lo_d W D nd cd (r + 1) (by omega))
          obtain ⟨A2, hA2⟩ : ∃ A2, A2 = if cd = r + 1 then D else D.map (fun x => x.add ((r + 1) * 2)) := ⟨_, rfl⟩
          rw [← hA2] at R2 HL
          obtain ⟨n2, hn2⟩ : ∃ z : Nat, z = nd - (r + 1) := ⟨_, rfl⟩
          rw [← hn2] at R2 HL
          obtain ⟨c2, hc2⟩ : ∃ z : Nat, z = cd - (r + 1) := ⟨_, rfl⟩
          rw [← hc2] at HL
          have HK1 := Lib.hid k1
          have HK3 := Lib.hid k3
          have HLT := Lib.hid hlt
          have HN2 := Lib.hid hn2
          clear k1 k2 k3 k4 hone hA2 hn2 hc2 hcc hp0 hlt
          obtain ⟨wd, hwd⟩ : ∃ wd : World, wd = Wb.drew := ⟨_, rfl⟩
          rw [← hwd] at BD hB HSB
          have HWD := Lib.hid hwd
          refine wp_region_held_drew (S := fun W => (W.cell? ⟨w.heap.size, 0, none⟩ = some (.slice D nd cd) ∧ W.cell? ⟨w.heap.size, 1, none⟩ = some (.slice O no co))) (by kernel_rfl) (by rw [← HWD.out]; exact (HB.out _ _ BD).1.1) (fun hHeld => ?_)
          rw [← hwd] at hHeld ⊢
          clear hwd
          refine wpAnyH_take (i := 1) (oi := ⟨some 61, _, _, _, _, _⟩) (v := .pointer (some ⟨w.heap.size, 0, none⟩)) rfl (by kernel_rfl) (by kernel_rfl) (by kernel_rfl) (fun _ _ _ h => h) (Or.inl ⟨by rfl, ?_⟩) hHeld ?_
          · intro W hW
            obtain ⟨h0, h1⟩ := hW
            go_simp
          try simp only [Act.put, List.setIfInBounds_toArray, List.set_cons_zero, List.set_cons_succ]
          refine wpAnyH_take (i := 2) (oi := ⟨some 62, _, _, _, _, _⟩) (v := .slice D nd cd) rfl (by kernel_rfl) (by kernel_rfl) (by kernel_rfl) (fun _ _ _ h => h) (Or.inl ⟨by rfl, ?_⟩) hHeld ?_
          · intro W hW
            obtain ⟨h0, h1⟩ := hW
            go_simp
          try simp only [Act.put, List.setIfInBounds_toArray, List.set_cons_zero, List.set_cons_succ]
          refine wpAnyH_take (i := 3) (oi := ⟨some 63, _, _, _, _, _⟩) (v := .int .i64 (r : Int)) rfl (by kernel_rfl) (by kernel_rfl) (by kernel_rfl) (fun _ _ _ h => h) (Or.inl ⟨by rfl, ?_⟩) hHeld ?_
          · intro W hW
            obtain ⟨h0, h1⟩ := hW
            go_simp
          try simp only [Act.put, List.setIfInBounds_toArray, List.set_cons_zero, List.set_cons_succ]
          refine wpAnyH_take (i := 4) (oi := ⟨some 64, _, _, _, _, _⟩) (v := .slice D r cd) rfl (by kernel_rfl) (by kernel_rfl) (by kernel_rfl) (fun _ _ _ h => h) (Or.inl ⟨by rfl, ?_⟩) hHeld ?_
          · intro W hW
            obtain ⟨h0, h1⟩ := hW
            have hx := HI.out W; go_simp
          try simp only [Act.put, List.setIfInBounds_toArray, List.set_cons_zero, List.set_cons_succ]
          refine wpAnyH_take (i := 6) (oi := ⟨some 66, _, _, _, _, _⟩) (v := .pointer (some ⟨w.heap.size, 0, none⟩)) rfl (by kernel_rfl) (by kernel_rfl) (by kernel_rfl) (fun _ _ _ h => h) (Or.inl ⟨by rfl, ?_⟩) hHeld ?_
          · intro W hW
            obtain ⟨h0, h1⟩ := hW
            go_simp
          try simp only [Act.put, List.setIfInBounds_toArray, List.set_cons_zero, List.set_cons_succ]
          refine wpAnyH_take (i := 7) (oi := ⟨some 67, _, _, _, _, _⟩) (v := .slice D nd cd) rfl (by kernel_rfl) (by kernel_rfl) (by kernel_rfl) (fun _ _ _ h => h) (Or.inl ⟨by rfl, ?_⟩) hHeld ?_
          · intro W hW
            obtain ⟨h0, h1⟩ := hW
            go_simp
          try simp only [Act.put, List.setIfInBounds_toArray, List.set_cons_zero, List.set_cons_succ]
          refine wpAnyH_take (i := 8) (oi := ⟨some 68, _, _, _, _, _⟩) (v := .int .i64 (r : Int)) rfl (by kernel_rfl) (by kernel_rfl) (by kernel_rfl) (fun _ _ _ h => h) (Or.inl ⟨by rfl, ?_⟩) hHeld ?_
          · intro W hW
            obtain ⟨h0, h1⟩ := hW
            go_simp
          try simp only [Act.put, List.setIfInBounds_toArray, List.set_cons_zero, List.set_cons_succ]
          refine wpAnyH_take (i := 9) (oi := ⟨some 69, _, _, _, _, _⟩) (v := .int .i64 ((r : Int) + 1)) rfl (by kernel_rfl) (by kernel_rfl) (by kernel_rfl) (fun _ _ _ h => h) (Or.inl ⟨by rfl, ?_⟩) hHeld ?_
          · intro W hW
            obtain ⟨h0, h1⟩ := hW
            go_simp
          try simp only [Act.put, List.setIfInBounds_toArray, List.set_cons_zero, List.set_cons_succ]
          refine wpAnyH_take (i := 10) (oi := ⟨some 70, _, _, _, _, _⟩) (v := .slice A2 n2 c2) rfl (by kernel_rfl) (by kernel_rfl) (by kernel_rfl) (fun _ _ _ h => h) (Or.inl ⟨by rfl, ?_⟩) hHeld ?_
          · intro W hW
            obtain ⟨h0, h1⟩ := hW
            have hx := HL.out W; go_simp
          try simp only [Act.put, List.setIfInBounds_toArray, List.set_cons_zero, List.set_cons_succ]
          refine wpAnyH_ready (rs := [0]) (by kernel_rfl) (by simp) ?_
          refine AllReadyH.cons (o := ⟨some 60, _, _, _, _, _⟩) rfl (fun K hK => ?_) AllReadyH.nil
          have own0 := own_empty wd B 50 2 (Nat.le_of_eq hB)
          have BE := BD.next ((Below.refl _ _).alloc (Nat.le_refl _) (.cells #[] 50))
          have hs4 : wd.heap.size ≤ (wd.alloc (.cells #[] 50)).heap.size := by simp
          rw [← hB] at own0
          go_simp
          rw [← hB]
          generalize wd.alloc (.cells #[] 50) = w4 at *
          refine hK.out _ _ (HB.out _ _ BE).1.1 (fun hHeld2 => ?_)
          clear hK hHeld
          try simp only [Act.put, List.setIfInBounds_toArray, List.set_cons_zero, List.set_cons_succ]
          refine wpAnyH_ready (rs := [5]) (by kernel_rfl) (by simp) ?_
          refine AllReadyH.cons (o := ⟨some 65, _, _, _, _, _⟩) rfl (fun K hK => ?_) AllReadyH.nil
          have hB4 : B ≤ w4.heap.size := by rw [hB]; exact hs4
          obtain ⟨v5, w5, hrun, own5, gr5⟩ := app_d w4 22 B _ 0 _ own0 _ D r cd _ (R1.out.grown BE.gr (fun g e h => by have := Option.some.inj e; omega)) O1.out (by have := HLT.out; omega) hB4
          have lt5 : ∀ k, (Value.slice (some ⟨B, 0, none⟩) 0 0).ownBlock = some k → B ≤ k := fun k e => Nat.le_of_eq (Option.some.inj e)
          have BF := BE.own hgB gr5 lt5 (by rw [hB]; exact HSB.out)
          refine step_app rfl _ _ 22 rfl _ _ (by first | rfl | simp [Act.eval, Act.put]) (by first | rfl | simp [Act.eval, Act.put]) hrun ?_
          clear hrun
          refine hK.out _ _ (HB.out _ _ BF).1.1 (fun hHeld3 => ?_)
          clear hK hHeld2
          try simp only [Act.put, List.setIfInBounds_toArray, List.set_cons_zero, List.set_cons_succ]
          refine wpAnyH_ready (rs := [11]) (by kernel_rfl) (by simp) ?_
          refine AllReadyH.cons (o := ⟨some 71, _, _, _, _, _⟩) rfl (fun K hK => ?_) AllReadyH.nil
          have hB5 : B ≤ w5.heap.size := Nat.le_trans hB4 gr5.size
          obtain ⟨v6, w6, hrun, owmd, gr6⟩ := app_d w5 22 B v5 (0 + r) _ own5 _ A2 n2 c2 _ (R2.out.grown BF.gr (fun g e h => by have := Option.some.inj e; omega)) O2.out (by have := HN2.out; have := HLT.out; omega) hB5
          have lt6 : ∀ k, v5.ownBlock = some k → B ≤ k := fun k e => (own5.lt k e).1
          have BG := BF.own hgB gr6 lt6 (by rw [hB]; exact HSB.out)
          refine step_app rfl _ _ 22 rfl _ _ (by first | rfl | simp [Act.eval, Act.put]) (by first | rfl | simp [Act.eval, Act.put]) hrun ?_
          clear hrun
          refine hK.out _ _ (HB.out _ _ BG).1.1 (fun hHeld4 => ?_)
          clear hK hHeld3
          try simp only [Act.put, List.setIfInBounds_toArray, List.set_cons_zero, List.set_cons_succ]
          refine wpAnyH_take (i := 12) (oi := ⟨some 72, _, _, _, _, _⟩) (v := .pointer (some ⟨g7, 0, none⟩)) rfl (by kernel_rfl) (by kernel_rfl) (by kernel_rfl) (fun _ _ _ h => h) (Or.inl ⟨by rfl, ?_⟩) hHeld4 ?_
          · intro W hW
            obtain ⟨h0, h1⟩ := hW
            go_simp
          try simp only [Act.put, List.setIfInBounds_toArray, List.set_cons_zero, List.set_cons_succ]
          refine wpAnyH_ready (rs := [13]) (by kernel_rfl) (by simp) ?_
          refine AllReadyH.cons (o := ⟨none, _, _, _, _, _⟩) rfl (fun K hK => ?_) AllReadyH.nil
          rw [flat_erase css r HK3.out] at owmd
          have hln : (css.eraseIdx r).length = 0 + r + n2 := by rw [List.length_eraseIdx, if_pos (by have := HK1.out; have := HLT.out; omega)]; have := HK1.out; have := HLT.out; have := HN2.out; omega
          obtain ⟨Ad, kd, hv6, hrow6⟩ := own_row owmd hln (fun cs hcs => HK3.out cs (List.mem_of_mem_eraseIdx hcs)) (fun j cs => ∃ x, (ds.eraseIdx r)[j]? = some x ∧ cs = [.string (bs x.name), .string (bs x.kind)]) (erase_match (fun j cs h => by
            obtain ⟨x, h1, h2⟩ := K2.out j cs h
            exact ⟨x, h1, h2⟩) r)
          subst hv6
          obtain ⟨md, hmd⟩ : ∃ z : Nat, z = 0 + r + n2 := ⟨_, rfl⟩
          rw [← hmd] at hrow6 hln ⊢
          have HN6 := Lib.hid hmd
          clear hmd
          have hcl : ∃ u, w6.cell? ⟨g7, 0, none⟩ = some u := ⟨_, by rw [cell_of_row _ _ _ _ _ _ BG.bx]; rfl⟩
          obtain ⟨u, hcl⟩ := hcl
          have hfz := BG.free 0
          have BH := BG.set 0 (.slice Ad md kd)
          have hll : (ds.eraseIdx r).length = md := by have := HN6.out; rw [List.length_eraseIdx, if_pos (by have := HLT.out; have := hD3.1; omega)]; have := hD3.1; have := HLT.out; have := HN2.out; omega
          have hL6 : DL w6 (fun b => b ≠ g7) Ad md kd (ds.eraseIdx r) := ⟨hll.symm, hrow6.keep (Nat.le_refl _) (fun _ _ _ => rfl) (fun b _ (h : B ≤ b) => (by omega : b ≠ g7)) (fun _ _ h => h)⟩
          have hL7 := hL6.mono (S' := fun b => b ≠ g7) (grown_put w6 g7 0 (.slice Ad md kd)) (fun b _ hs => ⟨hs, hs⟩)
          refine Eq.mpr (if_pos (by kernel_rfl)) ?_
          go_simp
          clear hcl hfz hln hll
          have HB7 := Lib.hid (show ∀ X W, Bxs g7 25 (w6.setCell ⟨g7, 0, none⟩ (.slice Ad md kd)) X W → ((W.cell? ⟨w.heap.size, 0, none⟩ = some (.slice D nd cd) ∧ W.cell? ⟨w.heap.size, 1, none⟩ = some (.slice O no co)) ∧ OL W (fun b => b < w.heap.size) O no co os ∧ DL W (fun b => b < w.heap.size) D nd cd ds ∧ Below w.heap.size w W) ∧ OL W (fun b => b ≠ g7) Ao mo ko (os.eraseIdx m) ∧ DL W (fun b => b ≠ g7) Ad md kd (ds.eraseIdx r) from fun X W h => by
            have h1 := HB.out X W (BH.trans h)
            exact ⟨h1.1, h1.2.1, hL7.mono h.gr (fun b _ hs => ⟨hs, hs⟩)⟩)
          have BB7 := BH.refl
          have hfa := (HB.out _ _ BH).1.1
          refine hK.out _ _ hfa (fun hHeld5 => ?_)
          try simp only [Act.put, List.setIfInBounds_toArray, List.set_cons_zero, List.set_cons_succ]
          refine wpAnyH_done (by kernel_rfl) ?_ _
          clear hK hHeld4 hHeld5 BD BE BF BG BH own0 own5 owmd gr5 gr6 lt5 lt6 hL6 hL7 hrow6 hs4 hB4 hB5 hfa
          clear R1 R2 O1 O2 HI HL HK1 HK3 HLT HN2 K2 HWD HSB
          generalize w6.setCell ⟨g7, 0, none⟩ (.slice Ad md kd) = wz at *
          clear HB BB
          obtain ⟨Wb, hWb⟩ : ∃ Wb, Wb = wz := ⟨_, rfl⟩
          subst hWb
          have BB := BB7
          have HB := HB7
          clear BB7 HB7
          obtain ⟨⟨⟨c0, c1⟩, hO3, hD3, -⟩, -⟩ := HB.out _ _ BB
          clear hO3 hD3
          have hqc : chkP (Prog'.mk (ds.eraseIdx r) (os.eraseIdx m)) = 0 := chkP_sub (p := (Prog'.mk ds os)) (List.eraseIdx_sublist _ _) (List.eraseIdx_sublist _ _) HC.out
          have hFQ : (Prog'.mk (ds.eraseIdx r) (os.eraseIdx m)).Few2 := ⟨by have h1 := (show List.Sublist (ds.eraseIdx r) ds from (List.eraseIdx_sublist _ _)).length_le; have h2 := hFIT.1; show ((ds.eraseIdx r)).length ≤ 10000; omega, by have h1 := (show List.Sublist (os.eraseIdx m) os from (List.eraseIdx_sublist _ _)).length_le; have h2 := hFIT.2.1; show ((os.eraseIdx m)).length ≤ 10000; omega, fun o ho => by have h1 := (hFIT.2.2 o ((show List.Sublist (os.eraseIdx m) os from (List.eraseIdx_sublist _ _)).subset ho)).2; omega⟩
          have hFP : (Prog'.mk ds os).Few2 := (roomG_fit HGR.out).1
          have hPR := print_parts (p := (Prog'.mk ds os)) (q := (Prog'.mk (ds.eraseIdx r) (os.eraseIdx m))) HC.out hqc (txP_sub (p := (Prog'.mk ds os)) (List.eraseIdx_sublist _ _) (List.eraseIdx_sublist _ _))
          have hOS := ops_sub (show List.Sublist (os.eraseIdx m) os from (List.eraseIdx_sublist _ _))
          have HVP := Lib.hid (show ∀ X W, Bxs g7 25 Wb X W → PV W (fun b => b < w.heap.size) (Prog'.mk ds os) (.agg #[.slice D nd cd, .slice O no co]) ∧ Below w.heap.size w W from fun X W h => ⟨⟨D, nd, cd, O, no, co, rfl, (HB.out X W h).1.2.2.1, (HB.out X W h).1.2.1⟩, (HB.out X W h).1.2.2.2⟩)
          have HVQ := Lib.hid (show ∀ X W, Bxs g7 25 Wb X W → PV W (fun b => b ≠ g7) (Prog'.mk (ds.eraseIdx r) (os.eraseIdx m)) (.agg #[.slice Ad md kd, .slice Ao mo ko]) from fun X W h => ⟨_, _, _, _, _, _, rfl, (HB.out X W h).2.2, (HB.out X W h).2.1⟩)
          have KPp := Lib.hid (show ∀ X W, Bxs g7 25 Wb X W → Calls Tryd.prog 12 #[.agg #[.slice D nd cd, .slice O no co]] W fun e w' => e = .returned (.tuple #[.string (bs (printS (Prog'.mk ds os))), .int .i64 (printE (Prog'.mk ds os))]) ∧ Below W.heap.size W w' from fun X W h => print_any (Prog'.mk ds os) _ _ W (HWS.out.below (HVP.out X W h).2) (HVP.out X W h).1 hFP)
          have KPq := Lib.hid (show ∀ X W, Bxs g7 25 Wb X W → Calls Tryd.prog 12 #[.agg #[.slice Ad md kd, .slice Ao mo ko]] W fun e w' => e = .returned (.tuple #[.string (bs (printS (Prog'.mk (ds.eraseIdx r) (os.eraseIdx m)))), .int .i64 (printE (Prog'.mk (ds.eraseIdx r) (os.eraseIdx m)))]) ∧ Below W.heap.size W w' from fun X W h => print_any (Prog'.mk (ds.eraseIdx r) (os.eraseIdx m)) _ _ W (HWS.out.below (HVP.out X W h).2) (HVQ.out X W h) hFQ)
          have KSp := Lib.hid (show ∀ X W, Bxs g7 25 Wb X W → Calls Tryd.prog 14 #[.agg #[.slice D nd cd, .slice O no co]] W fun e w' => e = .returned (.tuple #[.int .i64 (opNs os), .int .i64 (opXs os)]) ∧ Below W.heap.size W w' from fun X W h => sizeP_any (Prog'.mk ds os) hFP.2 W _ _ (HVP.out X W h).1)
          have KSq := Lib.hid (show ∀ X W, Bxs g7 25 Wb X W → Calls Tryd.prog 14 #[.agg #[.slice Ad md kd, .slice Ao mo ko]] W fun e w' => e = .returned (.tuple #[.int .i64 (opNs (os.eraseIdx m)), .int .i64 (opXs (os.eraseIdx m))]) ∧ Below W.heap.size W w' from fun X W h => sizeP_any (Prog'.mk (ds.eraseIdx r) (os.eraseIdx m)) hFQ.2 W _ _ (HVQ.out X W h))
          have KCq := Lib.hid (show ∀ X W, Bxs g7 25 Wb X W → Calls Tryd.prog 10 #[.agg #[.slice Ad md kd, .slice Ao mo ko]] W fun e w' => e = .returned (.int .i64 0) ∧ Below W.heap.size W w' from fun X W h => by have := check_any (Prog'.mk (ds.eraseIdx r) (os.eraseIdx m)) _ _ W (HWS.out.below (HVP.out X W h).2) (HVQ.out X W h) hFQ.few; rwa [hqc] at this)
          have KB := Lib.hid (show ∀ X W, Bxs g7 25 Wb X W → Calls Tryd.prog 9 #[] W fun e w' => e = .returned (.bool true) ∧ Below W.heap.size W w' from fun X W h => KA.out W (HVP.out X W h).2)
          have HFC := Lib.hid (show ∀ W, Bxs g7 25 Wb #[.slice Ad md kd, .slice Ao mo ko] W → (W.cell? ⟨w.heap.size, 0, none⟩ = some (.slice D nd cd) ∧ W.cell? ⟨w.heap.size, 1, none⟩ = some (.slice O no co) ∧ W.cell? ⟨g7, 0, none⟩ = some (.slice Ad md kd) ∧ W.cell? ⟨g7, 1, none⟩ = some (.slice Ao mo ko)) from fun W h => ⟨(HB.out _ _ h).1.1.1, (HB.out _ _ h).1.1.2, by rw [cell_of_row _ _ _ _ _ _ h.bx]; rfl, by rw [cell_of_row _ _ _ _ _ _ h.bx]; rfl⟩)
          have HBW := Lib.hid (show ∀ X W, Bxs g7 25 Wb X W → Below w.heap.size w W from fun X W h => (HVP.out X W h).2)
          have BB : Bxs g7 25 Wb #[.slice Ad md kd, .slice Ao mo ko] Wb := BB
          have hns : (opNs (os.eraseIdx m) : Int) ≤ opNs os := by omega
          have hxs : (opXs (os.eraseIdx m) : Int) ≤ opXs os := by omega
          have hPR := Lib.hid (show (printE (Prog'.mk ds os) = 0 ∧ printE (Prog'.mk (ds.eraseIdx r) (os.eraseIdx m)) = 0 ∧ ((bs (printS (Prog'.mk (ds.eraseIdx r) (os.eraseIdx m)))).size : Int) ≤ ((bs (printS (Prog'.mk ds os))).size : Int)) ∨ printE (Prog'.mk ds os) = 7 from hPR.imp (fun h => ⟨h.1, h.2.1, by have := h.2.2; simp only [bs_size]; omega⟩) id)
          clear HVP HVQ HB hqc hFQ hFP hOS HC HGR HP HWS hFIT HLEN KA
          clear c0 c1
          obtain ⟨c0, c1, d0, d1⟩ := HFC.out _ BB
          generalize opNs (os.eraseIdx m) = n1 at *
          generalize opXs (os.eraseIdx m) = n2' at *
          generalize opNs os = n3 at *
          generalize opXs os = n4 at *
          generalize printE (Prog'.mk ds os) = e1 at *
          generalize printE (Prog'.mk (ds.eraseIdx r) (os.eraseIdx m)) = e2 at *
          have hl1 : ∀ s : Str, (bs s).size = s.length := bs_size
          generalize printS (Prog'.mk ds os) = s1 at *
          generalize printS (Prog'.mk (ds.eraseIdx r) (os.eraseIdx m)) = s2 at *
          go_wp2_with fail
          refine (KPp.out _ _ BB).mono ?_
          rintro e wq ⟨rfl, hb⟩
          have B1 := BB.next hb
          clear hb c0 c1 d0 d1 BB
          obtain ⟨c0, c1, d0, d1⟩ := HFC.out _ B1
          go_wp2_with fail
          refine (KPq.out _ _ B1).mono ?_
          rintro e wq ⟨rfl, hb⟩
          have B2 := B1.next hb
          clear hb c0 c1 d0 d1 B1
          obtain ⟨c0, c1, d0, d1⟩ := HFC.out _ B2
          go_wp2_with fail
          refine (KSp.out _ _ B2).mono ?_
          rintro e wq ⟨rfl, hb⟩
          have B4 := B2.next hb
          clear hb c0 c1 d0 d1 B2
          obtain ⟨c0, c1, d0, d1⟩ := HFC.out _ B4
          go_wp2_with fail
          refine (KSq.out _ _ B4).mono ?_
          rintro e wq ⟨rfl, hb⟩
          have B5 := B4.next hb
          clear hb c0 c1 d0 d1 B4
          obtain ⟨c0, c1, d0, d1⟩ := HFC.out _ B5
          go_wp2_with fail
          refine (KCq.out _ _ B5).mono ?_
          rintro e wq ⟨rfl, hb⟩
          have B6 := B5.next hb
          clear hb c0 c1 d0 d1 B5
          obtain ⟨c0, c1, d0, d1⟩ := HFC.out _ B6
          rcases hPR.out with ⟨h1, h2, h3⟩ | h1
          · subst h1
            first | subst h2 | clear h2
            clear hPR hl1
            go_wp2_with fail
            refine (KB.out _ _ B6).mono ?_
            rintro e wq ⟨rfl, hb⟩
            have B7 := B6.next hb
            clear hb c0 c1 d0 d1 B6
            go_wp2
            go_ret
            exact ⟨rfl, HBW.out _ _ B7⟩
          · subst h1
            clear hPR hl1
            go_wp2_with fail
            refine (KB.out _ _ B6).mono ?_
            rintro e wq ⟨rfl, hb⟩
            have B7 := B6.next hb
            clear hb c0 c1 d0 d1 B6
            go_wp2
            go_ret
            exact ⟨rfl, HBW.out _ _ B7⟩
        · skip
          clear hO3 hD3
          have hqc : chkP (Prog'.mk ds (os.eraseIdx m)) = 0 := chkP_sub (p := (Prog'.mk ds os)) (List.Sublist.refl _) (List.eraseIdx_sublist _ _) HC.out
          have hFQ : (Prog'.mk ds (os.eraseIdx m)).Few2 := ⟨by have h1 := (show List.Sublist ds ds from (List.Sublist.refl _)).length_le; have h2 := hFIT.1; show (ds).length ≤ 10000; omega, by have h1 := (show List.Sublist (os.eraseIdx m) os from (List.eraseIdx_sublist _ _)).length_le; have h2 := hFIT.2.1; show ((os.eraseIdx m)).length ≤ 10000; omega, fun o ho => by have h1 := (hFIT.2.2 o ((show List.Sublist (os.eraseIdx m) os from (List.eraseIdx_sublist _ _)).subset ho)).2; omega⟩
          have hFP : (Prog'.mk ds os).Few2 := (roomG_fit HGR.out).1
          have hPR := print_parts (p := (Prog'.mk ds os)) (q := (Prog'.mk ds (os.eraseIdx m))) HC.out hqc (txP_sub (p := (Prog'.mk ds os)) (List.Sublist.refl _) (List.eraseIdx_sublist _ _))
          have hOS := ops_sub (show List.Sublist (os.eraseIdx m) os from (List.eraseIdx_sublist _ _))
          have HVP := Lib.hid (show ∀ X W, Bxs g7 25 Wb X W → PV W (fun b => b < w.heap.size) (Prog'.mk ds os) (.agg #[.slice D nd cd, .slice O no co]) ∧ Below w.heap.size w W from fun X W h => ⟨⟨D, nd, cd, O, no, co, rfl, (HB.out X W h).1.2.2.1, (HB.out X W h).1.2.1⟩, (HB.out X W h).1.2.2.2⟩)
          have HVQ := Lib.hid (show ∀ X W, Bxs g7 25 Wb X W → PV W (fun b => b ≠ g7) (Prog'.mk ds (os.eraseIdx m)) (.agg #[.slice D nd cd, .slice Ao mo ko]) from fun X W h => ⟨_, _, _, _, _, _, rfl, (HB.out X W h).2.2, (HB.out X W h).2.1⟩)
          have KPp := Lib.hid (show ∀ X W, Bxs g7 25 Wb X W → Calls Tryd.prog 12 #[.agg #[.slice D nd cd, .slice O no co]] W fun e w' => e = .returned (.tuple #[.string (bs (printS (Prog'.mk ds os))), .int .i64 (printE (Prog'.mk ds os))]) ∧ Below W.heap.size W w' from fun X W h => print_any (Prog'.mk ds os) _ _ W (HWS.out.below (HVP.out X W h).2) (HVP.out X W h).1 hFP)
          have KPq := Lib.hid (show ∀ X W, Bxs g7 25 Wb X W → Calls Tryd.prog 12 #[.agg #[.slice D nd cd, .slice Ao mo ko]] W fun e w' => e = .returned (.tuple #[.string (bs (printS (Prog'.mk ds (os.eraseIdx m)))), .int .i64 (printE (Prog'.mk ds (os.eraseIdx m)))]) ∧ Below W.heap.size W w' from fun X W h => print_any (Prog'.mk ds (os.eraseIdx m)) _ _ W (HWS.out.below (HVP.out X W h).2) (HVQ.out X W h) hFQ)
          have KSp := Lib.hid (show ∀ X W, Bxs g7 25 Wb X W → Calls Tryd.prog 14 #[.agg #[.slice D nd cd, .slice O no co]] W fun e w' => e = .returned (.tuple #[.int .i64 (opNs os), .int .i64 (opXs os)]) ∧ Below W.heap.size W w' from fun X W h => sizeP_any (Prog'.mk ds os) hFP.2 W _ _ (HVP.out X W h).1)
          have KSq := Lib.hid (show ∀ X W, Bxs g7 25 Wb X W → Calls Tryd.prog 14 #[.agg #[.slice D nd cd, .slice Ao mo ko]] W fun e w' => e = .returned (.tuple #[.int .i64 (opNs (os.eraseIdx m)), .int .i64 (opXs (os.eraseIdx m))]) ∧ Below W.heap.size W w' from fun X W h => sizeP_any (Prog'.mk ds (os.eraseIdx m)) hFQ.2 W _ _ (HVQ.out X W h))
          have KCq := Lib.hid (show ∀ X W, Bxs g7 25 Wb X W → Calls Tryd.prog 10 #[.agg #[.slice D nd cd, .slice Ao mo ko]] W fun e w' => e = .returned (.int .i64 0) ∧ Below W.heap.size W w' from fun X W h => by have := check_any (Prog'.mk ds (os.eraseIdx m)) _ _ W (HWS.out.below (HVP.out X W h).2) (HVQ.out X W h) hFQ.few; rwa [hqc] at this)
          have KB := Lib.hid (show ∀ X W, Bxs g7 25 Wb X W → Calls Tryd.prog 9 #[] W fun e w' => e = .returned (.bool true) ∧ Below W.heap.size W w' from fun X W h => KA.out W (HVP.out X W h).2)
          have HFC := Lib.hid (show ∀ W, Bxs g7 25 Wb #[.slice D nd cd, .slice Ao mo ko] W → (W.cell? ⟨w.heap.size, 0, none⟩ = some (.slice D nd cd) ∧ W.cell? ⟨w.heap.size, 1, none⟩ = some (.slice O no co) ∧ W.cell? ⟨g7, 0, none⟩ = some (.slice D nd cd) ∧ W.cell? ⟨g7, 1, none⟩ = some (.slice Ao mo ko)) from fun W h => ⟨(HB.out _ _ h).1.1.1, (HB.out _ _ h).1.1.2, by rw [cell_of_row _ _ _ _ _ _ h.bx]; rfl, by rw [cell_of_row _ _ _ _ _ _ h.bx]; rfl⟩)
          have HBW := Lib.hid (show ∀ X W, Bxs g7 25 Wb X W → Below w.heap.size w W from fun X W h => (HVP.out X W h).2)
          have BB : Bxs g7 25 Wb #[.slice D nd cd, .slice Ao mo ko] Wb := BB
          have hns : (opNs (os.eraseIdx m) : Int) ≤ opNs os := by omega
          have hxs : (opXs (os.eraseIdx m) : Int) ≤ opXs os := by omega
          have hPR := Lib.hid (show (printE (Prog'.mk ds os) = 0 ∧ printE (Prog'.mk ds (os.eraseIdx m)) = 0 ∧ ((bs (printS (Prog'.mk ds (os.eraseIdx m)))).size : Int) ≤ ((bs (printS (Prog'.mk ds os))).size : Int)) ∨ printE (Prog'.mk ds os) = 7 from hPR.imp (fun h => ⟨h.1, h.2.1, by have := h.2.2; simp only [bs_size]; omega⟩) id)
          clear HVP HVQ HB hqc hFQ hFP hOS HC HGR HP HWS hFIT HLEN KA
          clear c0 c1
          obtain ⟨c0, c1, d0, d1⟩ := HFC.out _ BB
          generalize opNs (os.eraseIdx m) = n1 at *
          generalize opXs (os.eraseIdx m) = n2' at *
          generalize opNs os = n3 at *
          generalize opXs os = n4 at *
          generalize printE (Prog'.mk ds os) = e1 at *
          generalize printE (Prog'.mk ds (os.eraseIdx m)) = e2 at *
          have hl1 : ∀ s : Str, (bs s).size = s.length := bs_size
          generalize printS (Prog'.mk ds os) = s1 at *
          generalize printS (Prog'.mk ds (os.eraseIdx m)) = s2 at *
          go_wp2_with fail
          refine (KPp.out _ _ BB).mono ?_
          rintro e wq ⟨rfl, hb⟩
          have B1 := BB.next hb
          clear hb c0 c1 d0 d1 BB
          obtain ⟨c0, c1, d0, d1⟩ := HFC.out _ B1
          go_wp2_with fail
          refine (KPq.out _ _ B1).mono ?_
          rintro e wq ⟨rfl, hb⟩
          have B2 := B1.next hb
          clear hb c0 c1 d0 d1 B1
          obtain ⟨c0, c1, d0, d1⟩ := HFC.out _ B2
          go_wp2_with fail
          refine (KSp.out _ _ B2).mono ?_
          rintro e wq ⟨rfl, hb⟩
          have B4 := B2.next hb
          clear hb c0 c1 d0 d1 B2
          obtain ⟨c0, c1, d0, d1⟩ := HFC.out _ B4
          go_wp2_with fail
          refine (KSq.out _ _ B4).mono ?_
          rintro e wq ⟨rfl, hb⟩
          have B5 := B4.next hb
          clear hb c0 c1 d0 d1 B4
          obtain ⟨c0, c1, d0, d1⟩ := HFC.out _ B5
          go_wp2_with fail
          refine (KCq.out _ _ B5).mono ?_
          rintro e wq ⟨rfl, hb⟩
          have B6 := B5.next hb
          clear hb c0 c1 d0 d1 B5
          obtain ⟨c0, c1, d0, d1⟩ := HFC.out _ B6
          rcases hPR.out with ⟨h1, h2, h3⟩ | h1
          · subst h1
            first | subst h2 | clear h2
            clear hPR hl1
            go_wp2_with fail
            refine (KB.out _ _ B6).mono ?_
            rintro e wq ⟨rfl, hb⟩
            have B7 := B6.next hb
            clear hb c0 c1 d0 d1 B6
            go_wp2
            go_ret
            exact ⟨rfl, HBW.out _ _ B7⟩
          · subst h1
            clear hPR hl1
            go_wp2_with fail
            refine (KB.out _ _ B6).mono ?_
            rintro e wq ⟨rfl, hb⟩
            have B7 := B6.next hb
            clear hb c0 c1 d0 d1 B6
            go_wp2
            go_ret
            exact ⟨rfl, HBW.out _ _ B7⟩
      · skip
        by_cases hnd : 0 < (nd : Int)
        · skip
          have hp0 : 0 < nd := by omega
          obtain ⟨hmod, hlt⟩ := mod_byte hk.1 hp0
          obtain ⟨r, hr⟩ : ∃ z : Nat, z = k.toNat % nd := ⟨_, rfl⟩
          rw [← hr] at hmod hlt
          clear hr
          have hwr : IntKind.i64.wrap k = k := by simp [IntKind.wrap, IntKind.bits, IntKind.signed]; omega
          have hnz : ¬ (nd : Int) = 0 := by omega
          have hmd : (nd : Int) ≤ 400 := by have := HLEN.out; omega
          have hw1 : IntKind.i64.wrap ((r : Int) + 1) = (r : Int) + 1 := by simp [IntKind.wrap, IntKind.bits, IntKind.signed]; omega
          go_upto_region 9 with fail
          clear c0 c1 hmod hwr hnz
          have BD := BB.next (Below.refl _ _).drew
          have HSB := Lib.hid BD.gr.size
          obtain ⟨B, hB⟩ : ∃ B : Nat, B = Wb.drew.heap.size := ⟨_, rfl⟩
          have hgB : g7 < B := by rw [hB]; exact BD.lt
          have hcc : nd ≤ cd := hD3.2.1.1
          obtain ⟨css, k1, k2, k3, k4⟩ := RowOf.reads hD3.2 (fun j cs h => by obtain ⟨x, _, h⟩ := h; rw [h]; rfl)
          have K2 := Lib.hid k2
          have hone : ∀ u ∈ css.flatten, u.oneCell' = true := fun u hu => by
            obtain ⟨cs, hcs, hu⟩ := List.mem_flatten.1 hu
            obtain ⟨j, hj, rfl⟩ := List.getElem_of_mem hcs
            obtain ⟨x, _, h⟩ := k2 j _ (List.getElem?_eq_getElem hj)
            rw [h] at hu
            simp only [List.mem_cons, List.mem_nil_iff, or_false] at hu
            rcases hu with rfl | rfl <;> rfl
          have R1 := Lib.hid (k4.first (k := r) (by omega))
          have R2 := Lib.hid (k4.cut (k := r + 1) (cap := cd) (by omega) hcc)
          have O1 := Lib.hid (show ∀ u ∈ css.flatten.take (r * 2), u.oneCell' = true from fun u hu => hone u (List.mem_of_mem_take hu))
          have O2 := Lib.hid (show ∀ u ∈ css.flatten.drop ((r + 1) * 2), u.oneCell' = true from fun u hu => hone u (List.mem_of_mem_drop hu))
          have HI := Lib.hid (hi_d · D nd cd r (by omega))
          have HL := Lib.hid (fun W => show (Instr.slice 22 (.slice D nd cd) (some (.int .i64 ((r : Int) + 1))) none none).run Tryd.prog W = .ok (.slice (if cd = r + 1 then D else D.map (fun x => x.add ((r + 1) * 2))) (nd - (r + 1)) (cd - (r + 1))) W from lo_d W D nd cd (r + 1) (by omega))
          obtain ⟨A2, hA2⟩ : ∃ A2, A2 = if cd = r + 1 then D else D.map (fun x => x.add ((r + 1) * 2)) := ⟨_, rfl⟩
          rw [← hA2] at R2 HL
          obtain ⟨n2, hn2⟩ : ∃ z : Nat, z = nd - (r + 1) := ⟨_, rfl⟩
          rw [← hn2] at R2 HL
          obtain ⟨c2, hc2⟩ : ∃ z : Nat, z = cd - (r + 1) := ⟨_, rfl⟩
          rw [← hc2] at HL
          have HK1 := Lib.hid k1
          have HK3 := Lib.hid k3
          have HLT := Lib.hid hlt
          have HN2 := Lib.hid hn2
          clear k1 k2 k3 k4 hone hA2 hn2 hc2 hcc hp0 hlt
          obtain ⟨wd, hwd⟩ : ∃ wd : World, wd = Wb.drew := ⟨_, rfl⟩
          rw [← hwd] at BD hB HSB
          have HWD := Lib.hid hwd
          refine wp_region_held_drew (S := fun W => (W.cell? ⟨w.heap.size, 0, none⟩ = some (.slice D nd cd) ∧ W.cell? ⟨w.heap.size, 1, none⟩ = some (.slice O no co))) (by kernel_rfl) (by rw [← HWD.out]; exact (HB.out _ _ BD).1.1) (fun hHeld => ?_)
          rw [← hwd] at hHeld ⊢
          clear hwd
          refine wpAnyH_take (i := 1) (oi := ⟨some 61, _, _, _, _, _⟩) (v := .pointer (some ⟨w.heap.size, 0, none⟩)) rfl (by kernel_rfl) (by kernel_rfl) (by kernel_rfl) (fun _ _ _ h => h) (Or.inl ⟨by rfl, ?_⟩) hHeld ?_
          · intro W hW
            obtain ⟨h0, h1⟩ := hW
            go_simp
          try simp only [Act.put, List.setIfInBounds_toArray, List.set_cons_zero, List.set_cons_succ]
          refine wpAnyH_take (i := 2) (oi := ⟨some 62, _, _, _, _, _⟩) (v := .slice D nd cd) rfl (by kernel_rfl) (by kernel_rfl) (by kernel_rfl) (fun _ _ _ h => h) (Or.inl ⟨by rfl, ?_⟩) hHeld ?_
          · intro W hW
            obtain ⟨h0, h1⟩ := hW
            go_simp
          try simp only [Act.put, List.setIfInBounds_toArray, List.set_cons_zero, List.set_cons_succ]
          refine wpAnyH_take (i := 3) (oi := ⟨some 63, _, _, _, _, _⟩) (v := .int .i64 (r : Int)) rfl (by kernel_rfl) (by kernel_rfl) (by kernel_rfl) (fun _ _ _ h => h) (Or.inl ⟨by rfl, ?_⟩) hHeld ?_
          · intro W hW
            obtain ⟨h0, h1⟩ := hW
            go_simp
          try simp only [Act.put, List.setIfInBounds_toArray, List.set_cons_zero, List.set_cons_succ]
          refine wpAnyH_take (i := 4) (oi := ⟨some 64, _, _, _, _, _⟩) (v := .slice D r cd) rfl (by kernel_rfl) (by kernel_rfl) (by kernel_rfl) (fun _ _ _ h => h) (Or.inl ⟨by rfl, ?_⟩) hHeld ?_
          · intro W hW
            obtain ⟨h0, h1⟩ := hW
            have hx := HI.out W; go_simp
          try simp only [Act.put, List.setIfInBounds_toArray, List.set_cons_zero, List.set_cons_succ]
          refine wpAnyH_take (i := 6) (oi := ⟨some 66, _, _, _, _, _⟩) (v := .pointer (some ⟨w.heap.size, 0, none⟩)) rfl (by kernel_rfl) (by kernel_rfl) (by kernel_rfl) (fun _ _ _ h => h) (Or.inl ⟨by rfl, ?_⟩) hHeld ?_
          · intro W hW
            obtain ⟨h0, h1⟩ := hW
            go_simp
          try simp only [Act.put, List.setIfInBounds_toArray, List.set_cons_zero, List.set_cons_succ]
          refine wpAnyH_take (i := 7) (oi := ⟨some 67, _, _, _, _, _⟩) (v := .slice D nd cd) rfl (by kernel_rfl) (by kernel_rfl) (by kernel_rfl) (fun _ _ _ h => h) (Or.inl ⟨by rfl, ?_⟩) hHeld ?_
          · intro W hW
            obtain ⟨h0, h1⟩ := hW
            go_simp
          try simp only [Act.put, List.setIfInBounds_toArray, List.set_cons_zero, List.set_cons_succ]
          refine wpAnyH_take (i := 8) (oi := ⟨some 68, _, _, _, _, _⟩) (v := .int .i64 (r : Int)) rfl (by kernel_rfl) (by kernel_rfl) (by kernel_rfl) (fun _ _ _ h => h) (Or.inl ⟨by rfl, ?_⟩) hHeld ?_
          · intro W hW
            obtain ⟨h0, h1⟩ := hW
            go_simp
          try simp only [Act.put, List.setIfInBounds_toArray, List.set_cons_zero, List.set_cons_succ]
          refine wpAnyH_take (i := 9) (oi := ⟨some 69, _, _, _, _, _⟩) (v := .int .i64 ((r : Int) + 1)) rfl (by kernel_rfl) (by kernel_rfl) (by kernel_rfl) (fun _ _ _ h => h) (Or.inl ⟨by rfl, ?_⟩) hHeld ?_
          · intro W hW
            obtain ⟨h0, h1⟩ := hW
            go_simp
          try simp only [Act.put, List.setIfInBounds_toArray, List.set_cons_zero, List.set_cons_succ]
          refine wpAnyH_take (i := 10) (oi := ⟨some 70, _, _, _, _, _⟩) (v := .slice A2 n2 c2) rfl (by kernel_rfl) (by kernel_rfl) (by kernel_rfl) (fun _ _ _ h => h) (Or.inl ⟨by rfl, ?_⟩) hHeld ?_
          · intro W hW
            obtain ⟨h0, h1⟩ := hW
            have hx := HL.out W; go_simp
          try simp only [Act.put, List.setIfInBounds_toArray, List.set_cons_zero, List.set_cons_succ]
          refine wpAnyH_ready (rs := [0]) (by kernel_rfl) (by simp) ?_
          refine AllReadyH.cons (o := ⟨some 60, _, _, _, _, _⟩) rfl (fun K hK => ?_) AllReadyH.nil
          have own0 := own_empty wd B 50 2 (Nat.le_of_eq hB)
          have BE := BD.next ((Below.refl _ _).alloc (Nat.le_refl _) (.cells #[] 50))
          have hs4 : wd.heap.size ≤ (wd.alloc (.cells #[] 50)).heap.size := by simp
          rw [← hB] at own0
          go_simp
          rw [← hB]
          generalize wd.alloc (.cells #[] 50) = w4 at *
          refine hK.out _ _ (HB.out _ _ BE).1.1 (fun hHeld2 => ?_)
          clear hK hHeld
          try simp only [Act.put, List.setIfInBounds_toArray, List.set_cons_zero, List.set_cons_succ]
          refine wpAnyH_ready (rs := [5]) (by kernel_rfl) (by simp) ?_
          refine AllReadyH.cons (o := ⟨some 65, _, _, _, _, _⟩) rfl (fun K hK => ?_) AllReadyH.nil
          have hB4 : B ≤ w4.heap.size := by rw [hB]; exact hs4
          obtain ⟨v5, w5, hrun, own5, gr5⟩ := app_d w4 22 B _ 0 _ own0 _ D r cd _ (R1.out.grown BE.gr (fun g e h => by have := Option.some.inj e; omega)) O1.out (by have := HLT.out; omega) hB4
          have lt5 : ∀ k, (Value.slice (some ⟨B, 0, none⟩) 0 0).ownBlock = some k → B ≤ k := fun k e => Nat.le_of_eq (Option.some.inj e)
          have BF := BE.own hgB gr5 lt5 (by rw [hB]; exact HSB.out)
          refine step_app rfl _ _ 22 rfl _ _ (by first | rfl | simp [Act.eval, Act.put]) (by first | rfl | simp [Act.eval, Act.put]) hrun ?_
          clear hrun
          refine hK.out _ _ (HB.out _ _ BF).1.1 (fun hHeld3 => ?_)
          clear hK hHeld2
          try simp only [Act.put, List.setIfInBounds_toArray, List.set_cons_zero, List.set_cons_succ]
          refine wpAnyH_ready (rs := [11]) (by kernel_rfl) (by simp) ?_
          refine AllReadyH.cons (o := ⟨some 71, _, _, _, _, _⟩) rfl (fun K hK => ?_) AllReadyH.nil
          have hB5 : B ≤ w5.heap.size := Nat.le_trans hB4 gr5.size
          obtain ⟨v6, w6, hrun, owmd, gr6⟩ := app_d w5 22 B v5 (0 + r) _ own5 _ A2 n2 c2 _ (R2.out.grown BF.gr (fun g e h => by have := Option.some.inj e; omega)) O2.out (by have := HN2.out; have := HLT.out; omega) hB5
          have lt6 : ∀ k, v5.ownBlock = some k → B ≤ k := fun k e => (own5.lt k e).1
          have BG := BF.own hgB gr6 lt6 (by rw [hB]; exact HSB.out)
          refine step_app rfl _ _ 22 rfl _ _ (by first | rfl | simp [Act.eval, Act.put]) (by first | rfl | simp [Act.eval, Act.put]) hrun ?_
          clear hrun
          refine hK.out _ _ (HB.out _ _ BG).1.1 (fun hHeld4 => ?_)
          clear hK hHeld3
          try simp only [Act.put, List.setIfInBounds_toArray, List.set_cons_zero, List.set_cons_succ]
          refine wpAnyH_take (i := 12) (oi := ⟨some 72, _, _, _, _, _⟩) (v := .pointer (some ⟨g7, 0, none⟩)) rfl (by kernel_rfl) (by kernel_rfl) (by kernel_rfl) (fun _ _ _ h => h) (Or.inl ⟨by rfl, ?_⟩) hHeld4 ?_
          · intro W hW
            obtain ⟨h0, h1⟩ := hW
            go_simp
          try simp only [Act.put, List.setIfInBounds_toArray, List.set_cons_zero, List.set_cons_succ]
          refine wpAnyH_ready (rs := [13]) (by kernel_rfl) (by simp) ?_
          refine AllReadyH.cons (o := ⟨none, _, _, _, _, _⟩) rfl (fun K hK => ?_) AllReadyH.nil
          rw [flat_erase css r HK3.out] at owmd
          have hln : (css.eraseIdx r).length = 0 + r + n2 := by rw [List.length_eraseIdx, if_pos (by have := HK1.out; have := HLT.out; omega)]; have := HK1.out; have := HLT.out; have := HN2.out; omega
          obtain ⟨Ad, kd, hv6, hrow6⟩ := own_row owmd hln (fun cs hcs => HK3.out cs (List.mem_of_mem_eraseIdx hcs)) (fun j cs => ∃ x, (ds.eraseIdx r)[j]? = some x ∧ cs = [.string (bs x.name), .string (bs x.kind)]) (erase_match (fun j cs h => by
            obtain ⟨x, h1, h2⟩ := K2.out j cs h
            exact ⟨x, h1, h2⟩) r)
          subst hv6
          obtain ⟨md, hmd⟩ : ∃ z : Nat, z = 0 + r + n2 := ⟨_, rfl⟩
          rw [← hmd] at hrow6 hln ⊢
          have HN6 := Lib.hid hmd
          clear hmd
          have hcl : ∃ u, w6.cell? ⟨g7, 0, none⟩ = some u := ⟨_, by rw [cell_of_row _ _ _ _ _ _ BG.bx]; rfl⟩
          obtain ⟨u, hcl⟩ := hcl
          have hfz := BG.free 0
          have BH := BG.set 0 (.slice Ad md kd)
          have hll : (ds.eraseIdx r).length = md := by have := HN6.out; rw [List.length_eraseIdx, if_pos (by have := HLT.out; have := hD3.1; omega)]; have := hD3.1; have := HLT.out; have := HN2.out; omega
          have hL6 : DL w6 (fun b => b ≠ g7) Ad md kd (ds.eraseIdx r) := ⟨hll.symm, hrow6.keep (Nat.le_refl _) (fun _ _ _ => rfl) (fun b _ (h : B ≤ b) => (by omega : b ≠ g7)) (fun _ _ h => h)⟩
          have hL7 := hL6.mono (S' := fun b => b ≠ g7) (grown_put w6 g7 0 (.slice Ad md kd)) (fun b _ hs => ⟨hs, hs⟩)
          refine Eq.mpr (if_pos (by kernel_rfl)) ?_
          go_simp
          clear hcl hfz hln hll
          have HB7 := Lib.hid (show ∀ X W, Bxs g7 25 (w6.setCell ⟨g7, 0, none⟩ (.slice Ad md kd)) X W → ((W.cell? ⟨w.heap.size, 0, none⟩ = some (.slice D nd cd) ∧ W.cell? ⟨w.heap.size, 1, none⟩ = some (.slice O no co)) ∧ OL W (fun b => b < w.heap.size) O no co os ∧ DL W (fun b => b < w.heap.size) D nd cd ds ∧ Below w.heap.size w W) ∧ OL W (fun b => b ≠ g7) O no co os ∧ DL W (fun b => b ≠ g7) Ad md kd (ds.eraseIdx r) from fun X W h => by
            have h1 := HB.out X W (BH.trans h)
            exact ⟨h1.1, h1.2.1, hL7.mono h.gr (fun b _ hs => ⟨hs, hs⟩)⟩)
          have BB7 := BH.refl
          have hfa := (HB.out _ _ BH).1.1
          refine hK.out _ _ hfa (fun hHeld5 => ?_)
          try simp only [Act.put, List.setIfInBounds_toArray, List.set_cons_zero, List.set_cons_succ]
          refine wpAnyH_done (by kernel_rfl) ?_ _
          clear hK hHeld4 hHeld5 BD BE BF BG BH own0 own5 owmd gr5 gr6 lt5 lt6 hL6 hL7 hrow6 hs4 hB4 hB5 hfa
          clear R1 R2 O1 O2 HI HL HK1 HK3 HLT HN2 K2 HWD HSB
          generalize w6.setCell ⟨g7, 0, none⟩ (.slice Ad md kd) = wz at *
          clear HB BB
          obtain ⟨Wb, hWb⟩ : ∃ Wb, Wb = wz := ⟨_, rfl⟩
          subst hWb
          have BB := BB7
          have HB := HB7
          clear BB7 HB7
          obtain ⟨⟨⟨c0, c1⟩, hO3, hD3, -⟩, -⟩ := HB.out _ _ BB
          clear hO3 hD3
          have hqc : chkP (Prog'.mk (ds.eraseIdx r) os) = 0 := chkP_sub (p := (Prog'.mk ds os)) (List.eraseIdx_sublist _ _) (List.Sublist.refl _) HC.out
          have hFQ : (Prog'.mk (ds.eraseIdx r) os).Few2 := ⟨by have h1 := (show List.Sublist (ds.eraseIdx r) ds from (List.eraseIdx_sublist _ _)).length_le; have h2 := hFIT.1; show ((ds.eraseIdx r)).length ≤ 10000; omega, by have h1 := (show List.Sublist os os from (List.Sublist.refl _)).length_le; have h2 := hFIT.2.1; show (os).length ≤ 10000; omega, fun o ho => by have h1 := (hFIT.2.2 o ((show List.Sublist os os from (List.Sublist.refl _)).subset ho)).2; omega⟩
          have hFP : (Prog'.mk ds os).Few2 := (roomG_fit HGR.out).1
          have hPR := print_parts (p := (Prog'.mk ds os)) (q := (Prog'.mk (ds.eraseIdx r) os)) HC.out hqc (txP_sub (p := (Prog'.mk ds os)) (List.eraseIdx_sublist _ _) (List.Sublist.refl _))
          have hOS := ops_sub (show List.Sublist os os from (List.Sublist.refl _))
          have HVP := Lib.hid (show ∀ X W, Bxs g7 25 Wb X W → PV W (fun b => b < w.heap.size) (Prog'.mk ds os) (.agg #[.slice D nd cd, .slice O no co]) ∧ Below w.heap.size w W from fun X W h => ⟨⟨D, nd, cd, O, no, co, rfl, (HB.out X W h).1.2.2.1, (HB.out X W h).1.2.1⟩, (HB.out X W h).1.2.2.2⟩)
          have HVQ := Lib.hid (show ∀ X W, Bxs g7 25 Wb X W → PV W (fun b => b ≠ g7) (Prog'.mk (ds.eraseIdx r) os) (.agg #[.slice Ad md kd, .slice O no co]) from fun X W h => ⟨_, _, _, _, _, _, rfl, (HB.out X W h).2.2, (HB.out X W h).2.1⟩)
          have KPp := Lib.hid (show ∀ X W, Bxs g7 25 Wb X W → Calls Tryd.prog 12 #[.agg #[.slice D nd cd, .slice O no co]] W fun e w' => e = .returned (.tuple #[.string (bs (printS (Prog'.mk ds os))), .int .i64 (printE (Prog'.mk ds os))]) ∧ Below W.heap.size W w' from fun X W h => print_any (Prog'.mk ds os) _ _ W (HWS.out.below (HVP.out X W h).2) (HVP.out X W h).1 hFP)
          have KPq := Lib.hid (show ∀ X W, Bxs g7 25 Wb X W → Calls Tryd.prog 12 #[.agg #[.slice Ad md kd, .slice O no co]] W fun e w' => e = .returned (.tuple #[.string (bs (printS (Prog'.mk (ds.eraseIdx r) os))), .int .i64 (printE (Prog'.mk (ds.eraseIdx r) os))]) ∧ Below W.heap.size W w' from fun X W h => print_any (Prog'.mk (ds.eraseIdx r) os) _ _ W (HWS.out.below (HVP.out X W h).2) (HVQ.out X W h) hFQ)
          have KSp := Lib.hid (show ∀ X W, Bxs g7 25 Wb X W → Calls Tryd.prog 14 #[.agg #[.slice D nd cd, .slice O no co]] W fun e w' => e = .returned (.tuple #[.int .i64 (opNs os), .int .i64 (opXs os)]) ∧ Below W.heap.size W w' from fun X W h => sizeP_any (Prog'.mk ds os) hFP.2 W _ _ (HVP.out X W h).1)
          have KSq := Lib.hid (show ∀ X W, Bxs g7 25 Wb X W → Calls Tryd.prog 14 #[.agg #[.slice Ad md kd, .slice O no co]] W fun e w' => e = .returned (.tuple #[.int .i64 (opNs os), .int .i64 (opXs os)]) ∧ Below W.heap.size W w' from fun X W h => sizeP_any (Prog'.mk (ds.eraseIdx r) os) hFQ.2 W _ _ (HVQ.out X W h))
          have KCq := Lib.hid (show ∀ X W, Bxs g7 25 Wb X W → Calls Tryd.prog 10 #[.agg #[.slice Ad md kd, .slice O no co]] W fun e w' => e = .returned (.int .i64 0) ∧ Below W.heap.size W w' from fun X W h => by have := check_any (Prog'.mk (ds.eraseIdx r) os) _ _ W (HWS.out.below (HVP.out X W h).2) (HVQ.out X W h) hFQ.few; rwa [hqc] at this)
          have KB := Lib.hid (show ∀ X W, Bxs g7 25 Wb X W → Calls Tryd.prog 9 #[] W fun e w' => e = .returned (.bool true) ∧ Below W.heap.size W w' from fun X W h => KA.out W (HVP.out X W h).2)
          have HFC := Lib.hid (show ∀ W, Bxs g7 25 Wb #[.slice Ad md kd, .slice O no co] W → (W.cell? ⟨w.heap.size, 0, none⟩ = some (.slice D nd cd) ∧ W.cell? ⟨w.heap.size, 1, none⟩ = some (.slice O no co) ∧ W.cell? ⟨g7, 0, none⟩ = some (.slice Ad md kd) ∧ W.cell? ⟨g7, 1, none⟩ = some (.slice O no co)) from fun W h => ⟨(HB.out _ _ h).1.1.1, (HB.out _ _ h).1.1.2, by rw [cell_of_row _ _ _ _ _ _ h.bx]; rfl, by rw [cell_of_row _ _ _ _ _ _ h.bx]; rfl⟩)
          have HBW := Lib.hid (show ∀ X W, Bxs g7 25 Wb X W → Below w.heap.size w W from fun X W h => (HVP.out X W h).2)
          have BB : Bxs g7 25 Wb #[.slice Ad md kd, .slice O no co] Wb := BB
          have hns : (opNs os : Int) ≤ opNs os := by omega
          have hxs : (opXs os : Int) ≤ opXs os := by omega
          have hPR := Lib.hid (show (printE (Prog'.mk ds os) = 0 ∧ printE (Prog'.mk (ds.eraseIdx r) os) = 0 ∧ ((bs (printS (Prog'.mk (ds.eraseIdx r) os))).size : Int) ≤ ((bs (printS (Prog'.mk ds os))).size : Int)) ∨ printE (Prog'.mk ds os) = 7 from hPR.imp (fun h => ⟨h.1, h.2.1, by have := h.2.2; simp only [bs_size]; omega⟩) id)
          clear HVP HVQ HB hqc hFQ hFP hOS HC HGR HP HWS hFIT HLEN KA
          clear c0 c1
          obtain ⟨c0, c1, d0, d1⟩ := HFC.out _ BB
          generalize opNs os = n1 at *
          generalize opXs os = n2' at *
          generalize opNs os = n3 at *
          generalize opXs os = n4 at *
          generalize printE (Prog'.mk ds os) = e1 at *
          generalize printE (Prog'.mk (ds.eraseIdx r) os) = e2 at *
          have hl1 : ∀ s : Str, (bs s).size = s.length := bs_size
          generalize printS (Prog'.mk ds os) = s1 at *
          generalize printS (Prog'.mk (ds.eraseIdx r) os) = s2 at *
          go_wp2_with fail
          refine (KPp.out _ _ BB).mono ?_
          rintro e wq ⟨rfl, hb⟩
          have B1 := BB.next hb
          clear hb c0 c1 d0 d1 BB
          obtain ⟨c0, c1, d0, d1⟩ := HFC.out _ B1
          go_wp2_with fail
          refine (KPq.out _ _ B1).mono ?_
          rintro e wq ⟨rfl, hb⟩
          have B2 := B1.next hb
          clear hb c0 c1 d0 d1 B1
          obtain ⟨c0, c1, d0, d1⟩ := HFC.out _ B2
          go_wp2_with fail
          refine (KSp.out _ _ B2).mono ?_
          rintro e wq ⟨rfl, hb⟩
          have B4 := B2.next hb
          clear hb c0 c1 d0 d1 B2
          obtain ⟨c0, c1, d0, d1⟩ := HFC.out _ B4
          go_wp2_with fail
          refine (KSq.out _ _ B4).mono ?_
          rintro e wq ⟨rfl, hb⟩
          have B5 := B4.next hb
          clear hb c0 c1 d0 d1 B4
          obtain ⟨c0, c1, d0, d1⟩ := HFC.out _ B5
          go_wp2_with fail
          refine (KCq.out _ _ B5).mono ?_
          rintro e wq ⟨rfl, hb⟩
          have B6 := B5.next hb
          clear hb c0 c1 d0 d1 B5
          obtain ⟨c0, c1, d0, d1⟩ := HFC.out _ B6
          rcases hPR.out with ⟨h1, h2, h3⟩ | h1
          · subst h1
            first | subst h2 | clear h2
            clear hPR hl1
            go_wp2_with fail
            refine (KB.out _ _ B6).mono ?_
            rintro e wq ⟨rfl, hb⟩
            have B7 := B6.next hb
            clear hb c0 c1 d0 d1 B6
            go_wp2
            go_ret
            exact ⟨rfl, HBW.out _ _ B7⟩
          · subst h1
            clear hPR hl1
            go_wp2_with fail
            refine (KB.out _ _ B6).mono ?_
            rintro e wq ⟨rfl, hb⟩
            have B7 := B6.next hb
            clear hb c0 c1 d0 d1 B6
            go_wp2
            go_ret
            exact ⟨rfl, HBW.out _ _ B7⟩
        · skip
          clear hO3 hD3
          have hqc : chkP (Prog'.mk ds os) = 0 := chkP_sub (p := (Prog'.mk ds os)) (List.Sublist.refl _) (List.Sublist.refl _) HC.out
          have hFQ : (Prog'.mk ds os).Few2 := ⟨by have h1 := (show List.Sublist ds ds from (List.Sublist.refl _)).length_le; have h2 := hFIT.1; show (ds).length ≤ 10000; omega, by have h1 := (show List.Sublist os os from (List.Sublist.refl _)).length_le; have h2 := hFIT.2.1; show (os).length ≤ 10000; omega, fun o ho => by have h1 := (hFIT.2.2 o ((show List.Sublist os os from (List.Sublist.refl _)).subset ho)).2; omega⟩
          have hFP : (Prog'.mk ds os).Few2 := (roomG_fit HGR.out).1
          have hPR := print_parts (p := (Prog'.mk ds os)) (q := (Prog'.mk ds os)) HC.out hqc (txP_sub (p := (Prog'.mk ds os)) (List.Sublist.refl _) (List.Sublist.refl _))
          have hOS := ops_sub (show List.Sublist os os from (List.Sublist.refl _))
          have HVP := Lib.hid (show ∀ X W, Bxs g7 25 Wb X W → PV W (fun b => b < w.heap.size) (Prog'.mk ds os) (.agg #[.slice D nd cd, .slice O no co]) ∧ Below w.heap.size w W from fun X W h => ⟨⟨D, nd, cd, O, no, co, rfl, (HB.out X W h).1.2.2.1, (HB.out X W h).1.2.1⟩, (HB.out X W h).1.2.2.2⟩)
          have HVQ := Lib.hid (show ∀ X W, Bxs g7 25 Wb X W → PV W (fun b => b ≠ g7) (Prog'.mk ds os) (.agg #[.slice D nd cd, .slice O no co]) from fun X W h => ⟨_, _, _, _, _, _, rfl, (HB.out X W h).2.2, (HB.out X W h).2.1⟩)
          have KPp := Lib.hid (show ∀ X W, Bxs g7 25 Wb X W → Calls Tryd.prog 12 #[.agg #[.slice D nd cd, .slice O no co]] W fun e w' => e = .returned (.tuple #[.string (bs (printS (Prog'.mk ds os))), .int .i64 (printE (Prog'.mk ds os))]) ∧ Below W.heap.size W w' from fun X W h => print_any (Prog'.mk ds os) _ _ W (HWS.out.below (HVP.out X W h).2) (HVP.out X W h).1 hFP)
          have KPq := Lib.hid (show ∀ X W, Bxs g7 25 Wb X W → Calls Tryd.prog 12 #[.agg #[.slice D nd cd, .slice O no co]] W fun e w' => e = .returned (.tuple #[.string (bs (printS (Prog'.mk ds os))), .int .i64 (printE (Prog'.mk ds os))]) ∧ Below W.heap.size W w' from fun X W h => print_any (Prog'.mk ds os) _ _ W (HWS.out.below (HVP.out X W h).2) (HVQ.out X W h) hFQ)
          have KSp := Lib.hid (show ∀ X W, Bxs g7 25 Wb X W → Calls Tryd.prog 14 #[.agg #[.slice D nd cd, .slice O no co]] W fun e w' => e = .returned (.tuple #[.int .i64 (opNs os), .int .i64 (opXs os)]) ∧ Below W.heap.size W w' from fun X W h => sizeP_any (Prog'.mk ds os) hFP.2 W _ _ (HVP.out X W h).1)
          have KSq := Lib.hid (show ∀ X W, Bxs g7 25 Wb X W → Calls Tryd.prog 14 #[.agg #[.slice D nd cd, .slice O no co]] W fun e w' => e = .returned (.tuple #[.int .i64 (opNs os), .int .i64 (opXs os)]) ∧ Below W.heap.size W w' from fun X W h => sizeP_any (Prog'.mk ds os) hFQ.2 W _ _ (HVQ.out X W h))
          have KCq := Lib.hid (show ∀ X W, Bxs g7 25 Wb X W → Calls Tryd.prog 10 #[.agg #[.slice D nd cd, .slice O no co]] W fun e w' => e = .returned (.int .i64 0) ∧ Below W.heap.size W w' from fun X W h => by have := check_any (Prog'.mk ds os) _ _ W (HWS.out.below (HVP.out X W h).2) (HVQ.out X W h) hFQ.few; rwa [hqc] at this)
          have KB := Lib.hid (show ∀ X W, Bxs g7 25 Wb X W → Calls Tryd.prog 9 #[] W fun e w' => e = .returned (.bool true) ∧ Below W.heap.size W w' from fun X W h => KA.out W (HVP.out X W h).2)
          have HFC := Lib.hid (show ∀ W, Bxs g7 25 Wb #[.slice D nd cd, .slice O no co] W → (W.cell? ⟨w.heap.size, 0, none⟩ = some (.slice D nd cd) ∧ W.cell? ⟨w.heap.size, 1, none⟩ = some (.slice O no co) ∧ W.cell? ⟨g7, 0, none⟩ = some (.slice D nd cd) ∧ W.cell? ⟨g7, 1, none⟩ = some (.slice O no co)) from fun W h => ⟨(HB.out _ _ h).1.1.1, (HB.out _ _ h).1.1.2, by rw [cell_of_row _ _ _ _ _ _ h.bx]; rfl, by rw [cell_of_row _ _ _ _ _ _ h.bx]; rfl⟩)
          have HBW := Lib.hid (show ∀ X W, Bxs g7 25 Wb X W → Below w.heap.size w W from fun X W h => (HVP.out X W h).2)
          have BB : Bxs g7 25 Wb #[.slice D nd cd, .slice O no co] Wb := BB
          have hns : (opNs os : Int) ≤ opNs os := by omega
          have hxs : (opXs os : Int) ≤ opXs os := by omega
          have hPR := Lib.hid (show (printE (Prog'.mk ds os) = 0 ∧ printE (Prog'.mk ds os) = 0 ∧ ((bs (printS (Prog'.mk ds os))).size : Int) ≤ ((bs (printS (Prog'.mk ds os))).size : Int)) ∨ printE (Prog'.mk ds os) = 7 from hPR.imp (fun h => ⟨h.1, h.2.1, by have := h.2.2; simp only [bs_size]; omega⟩) id)
          clear HVP HVQ HB hqc hFQ hFP hOS HC HGR HP HWS hFIT HLEN KA
          clear c0 c1
          obtain ⟨c0, c1, d0, d1⟩ := HFC.out _ BB
          generalize opNs os = n1 at *
          generalize opXs os = n2' at *
          generalize opNs os = n3 at *
          generalize opXs os = n4 at *
          generalize printE (Prog'.mk ds os) = e1 at *
          generalize printE (Prog'.mk ds os) = e2 at *
          have hl1 : ∀ s : Str, (bs s).size = s.length := bs_size
          generalize printS (Prog'.mk ds os) = s1 at *
          generalize printS (Prog'.mk ds os) = s2 at *
          go_wp2_with fail
          refine (KPp.out _ _ BB).mono ?_
          rintro e wq ⟨rfl, hb⟩
          have B1 := BB.next hb
          clear hb c0 c1 d0 d1 BB
          obtain ⟨c0, c1, d0, d1⟩ := HFC.out _ B1
          go_wp2_with fail
          refine (KPq.out _ _ B1).mono ?_
          rintro e wq ⟨rfl, hb⟩
          have B2 := B1.next hb
          clear hb c0 c1 d0 d1 B1
          obtain ⟨c0, c1, d0, d1⟩ := HFC.out _ B2
          go_wp2_with fail
          refine (KSp.out _ _ B2).mono ?_
          rintro e wq ⟨rfl, hb⟩
          have B4 := B2.next hb
          clear hb c0 c1 d0 d1 B2
          obtain ⟨c0, c1, d0, d1⟩ := HFC.out _ B4
          go_wp2_with fail
          refine (KSq.out _ _ B4).mono ?_
          rintro e wq ⟨rfl, hb⟩
          have B5 := B4.next hb
          clear hb c0 c1 d0 d1 B4
          obtain ⟨c0, c1, d0, d1⟩ := HFC.out _ B5
          go_wp2_with fail
          refine (KCq.out _ _ B5).mono ?_
          rintro e wq ⟨rfl, hb⟩
          have B6 := B5.next hb
          clear hb c0 c1 d0 d1 B5
          obtain ⟨c0, c1, d0, d1⟩ := HFC.out _ B6
          rcases hPR.out with ⟨h1, h2, h3⟩ | h1
          · subst h1
            first | subst h2 | clear h2
            clear hPR hl1
            go_wp2_with fail
            refine (KB.out _ _ B6).mono ?_
            rintro e wq ⟨rfl, hb⟩
            have B7 := B6.next hb
            clear hb c0 c1 d0 d1 B6
            go_wp2
            go_ret
            exact ⟨rfl, HBW.out _ _ B7⟩
          · subst h1
            clear hPR hl1
            go_wp2_with fail
            refine (KB.out _ _ B6).mono ?_
            rintro e wq ⟨rfl, hb⟩
            have B7 := B6.next hb
            clear hb c0 c1 d0 d1 B6
            go_wp2
            go_ret
            exact ⟨rfl, HBW.out _ _ B7⟩
    · have hc1 : (chkP p != 0) = true := by simp [hc]
      clear HP hD hO
      generalize chkP p = C at *
      generalize roomG p = G at *
      go_wp2_with fail
      refine (KA.out _ (HG0.out _ z2)).mono ?_
      rintro e w3 ⟨rfl, hb⟩
      have z3 := z2.next hb
      go_wp2
      go_ret
      exact ⟨rfl, HG0.out _ z3⟩
end Go.Proofs.YthfjkdgaiaokdaaDoor
