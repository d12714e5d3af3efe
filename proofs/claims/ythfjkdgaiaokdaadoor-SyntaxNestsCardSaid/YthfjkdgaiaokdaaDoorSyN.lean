/- The walk of Great (printed by wip/gensyn.py). Conditions: strings as long as the machine has them, at most 2^60 parameters. -/
import Derived.Test.YthfjkdgaiaokdaaDoorSyM
set_option linter.unusedVariables false
set_option linter.unusedSimpArgs false
namespace Go.Proofs.YthfjkdgaiaokdaaDoor
open Go.RowKit

set_option maxRecDepth 100000 in
set_option maxHeartbeats 12800000 in
theorem great_any (p : Prog') (v : Value) (S : Nat → Prop) (w : World) (hp : PV w S p v) (hws : p.Ws) :
    Calls Tryd.prog 8 #[v] w fun e w' => e = .returned (.bool (decide (roomG p < 0))) ∧ Below w.heap.size w w' := by
  obtain ⟨ds, os⟩ := p
  obtain ⟨D, nd, cd, O, no, co, rfl, hd, ho⟩ := hp
  dsimp only at hd ho
  have HD := Lib.hid hd
  have HO := Lib.hid ho
  have HND := Lib.hid hd.1
  have HNO := Lib.hid ho.1
  have HWS := Lib.hid hws
  obtain ⟨E, hE⟩ : ∃ E, E = decide (roomG ⟨ds, os⟩ < 0) := ⟨_, rfl⟩
  rw [← hE]
  have HE := Lib.hid (show E = decide (roomDs ds (roomOs os 400) < 0) from hE)
  obtain ⟨W0, hW0⟩ : ∃ W0 : World, W0 = w.alloc (.cells #[.slice D nd cd, .slice O no co] 25) := ⟨_, rfl⟩
  have hb0 : Below w.heap.size w W0 := by rw [hW0]; exact (Below.refl _ _).alloc (Nat.le_refl _) _
  have HF := Lib.hid (show ∀ W, Bz W0 W → (W.cell? ⟨w.heap.size, 0, none⟩ = some (.slice D nd cd) ∧ W.cell? ⟨w.heap.size, 1, none⟩ = some (.slice O no co)) from fun W h => by
    subst hW0
    have hq := heap_alloc_new w (.cells #[.slice D nd cd, .slice O no co] 25)
    exact cells2 ((h.b.block _ (lt_of_block hq)).trans hq))
  have HG := Lib.hid (show ∀ W, Bz W0 W → Below w.heap.size w W from fun W h => hb0.trans (h.b.mono hb0.size))
  have z0 : Bz W0 W0 := ⟨Below.refl _ _⟩
  clear hd ho hws hE hb0
  go_enter Tryd.func8, Tryd.ntmps8
  go_upto_region 1 with fail
  rw [← hW0]
  clear hW0
  obtain ⟨d0, d1⟩ := HF.out _ z0
  go_wp2_with fail
  clear d0 d1
  go_loopw [3, 4] (fun left i wr => ∃ (q : Nat) (L : Int), q ≤ os.length ∧ left = .int .i64 L ∧ i = .int .i64 q ∧ Hid (L = roomOs (os.take q) 400) ∧ -5000000000000000000 ≤ L ∧ L + q ≤ 400 ∧ Bz W0 wr) (fun _ i _ => os.length - (intOf i).toNat)
  case atStart => exact ⟨0, 400, Nat.zero_le _, rfl, rfl, Lib.hid (by rw [List.take_zero, roomOs]), by omega, by omega, z0⟩
  case round =>
    clear z0
    obtain ⟨q, L, hq, rfl, rfl, n1, hL1, hL2, zr⟩ := hrel
    obtain ⟨wv, hwv⟩ : ∃ wv, wv = wr := ⟨_, rfl⟩
    subst hwv
    obtain ⟨d0, d1⟩ := HF.out _ zr
    by_cases hc : q < os.length ∧ 0 ≤ L
    · have hi2 : (q : Int) < (no : Int) := by have := HNO.out; omega
      have hi3 : (0 : Int) ≤ L := hc.2
      obtain ⟨b, off, cs, rfl, hb, hS, ⟨x, hx, hov⟩, hrow⟩ := HO.out.2.at q (by have := HNO.out; omega)
      have HQL := Lib.hid hc.1
      have hxw := HWS.out.2 x (List.mem_of_getElem? hx)
      have hu := roomOs_up hx (by rw [← n1.out]; exact hi3)
      rw [← n1.out] at hu
      have hT1 := roomO_le x L
      obtain ⟨xn, xp, xb⟩ := x
      obtain ⟨P2, np2, cp2, B2, nb2, cb2, rfl, hss, hsb⟩ := hov
      dsimp only at hxw hss hsb
      have HSS := Lib.hid hss
      have HNP := Lib.hid hss.1
      have HPW := Lib.hid hxw.2.2.1
      have hz1 : (bs xn).size ≤ 9223372036854775807 := hxw.2.1
      have hz2 : np2 ≤ 1152921504606846976 := by have := hss.1; have := hxw.1; omega
      have HRS := Lib.hid (roomS_any _ xb (Nat.le_refl _) hxw.2.2.2)
      obtain ⟨V, hV⟩ : ∃ V, V = roomS xb (L - 1 - (np2 : Int) - ((bs xn).size : Int) / 100) := ⟨_, rfl⟩
      have hV2 : V = roomS xb (L - 1 - (xp.length : Int) - (xn.length : Int) / 100) := by rw [hV, hss.1, bs_size]
      have HVG := Lib.hid (show ∀ r, r ≤ 20 → -4611686018427387904 ≤ roomP (xp.take r) V from fun r hr => by
        rw [hV2]
        exact roomO_ge (o := ⟨xn, xp, xb⟩) hi3 hxw.1 hxw.2.1 hxw.2.2.1 hxw.2.2.2 r hr)
      have hVl : V ≤ 400 := by have := roomS_le xb (L - 1 - (np2 : Int) - ((bs xn).size : Int) / 100); omega
      have HV := Lib.hid (show roomO ⟨xn, xp, xb⟩ L = roomP (xp.take 20) V by rw [roomO, hV2])
      have HU := Lib.hid hu
      have HUL := Lib.hid (show roomO ⟨xn, xp, xb⟩ L + ((q + 1 : Nat) : Int) ≤ 400 by omega)
      have HC := Lib.hid (show ∀ W, Bz W0 W → (W.cell? ⟨w.heap.size, 1, none⟩ = some (.slice (some ⟨b, off, none⟩) no co) ∧ W.cell? ⟨b, off + q * 3, none⟩ = some (.string (bs xn)) ∧ W.cell? ⟨b, off + q * 3 + 1, none⟩ = some (.slice P2 np2 cp2) ∧ W.cell? ⟨b, off + q * 3 + 2, none⟩ = some (.slice B2 nb2 cb2)) from fun W h => by
        have hr := rangeAt_keep hrow ((HG.out _ h).block b hb)
        exact ⟨(HF.out _ h).2, by have := hr 0 _ rfl; simpa using this, hr 1 _ rfl, hr 2 _ rfl⟩)
      have K1 := Lib.hid (show ∀ W, Bz W0 W → Calls Tryd.prog 16 #[.slice B2 nb2 cb2, .int .i64 (L - 1 - (np2 : Int) - ((bs xn).size : Int) / 100)] W fun e' w' => e' = .returned (.int .i64 V) ∧ Below W.heap.size W w' from fun W h => by
        rw [hV]
        exact HRS.out W S _ _ _ _ (hsb.below (HG.out W h)) (by omega) (by omega))
      have zd := zr.drew
      clear hx hb hS hrow hc hxw hu hT1 hss hsb hV hV2 HRS n1
      go_upto_region 5 with fail
      refine wp_region_held_drew (S := fun W => (W.cell? ⟨w.heap.size, 1, none⟩ = some (.slice (some ⟨b, off, none⟩) no co) ∧ W.cell? ⟨b, off + q * 3, none⟩ = some (.string (bs xn)) ∧ W.cell? ⟨b, off + q * 3 + 1, none⟩ = some (.slice P2 np2 cp2) ∧ W.cell? ⟨b, off + q * 3 + 2, none⟩ = some (.slice B2 nb2 cb2))) (by kernel_rfl) (HC.out _ zd) (fun hHeld => ?_)
      refine wpAnyH_take (i := 0) (oi := ⟨some 18, _, _, _, _, _⟩) (v := .pointer (some ⟨w.heap.size, 1, none⟩)) rfl (by kernel_rfl) (by kernel_rfl) (by kernel_rfl) (fun _ _ _ h => h) (Or.inl ⟨by rfl, ?_⟩) hHeld ?_
      · intro W hW
        obtain ⟨h0, h1, h2, h3⟩ := hW
        go_simp
      try simp only [Act.put, List.setIfInBounds_toArray, List.set_cons_zero, List.set_cons_succ]
      refine wpAnyH_take (i := 1) (oi := ⟨some 19, _, _, _, _, _⟩) (v := .slice (some ⟨b, off, none⟩) no co) rfl (by kernel_rfl) (by kernel_rfl) (by kernel_rfl) (fun _ _ _ h => h) (Or.inl ⟨by rfl, ?_⟩) hHeld ?_
      · intro W hW
        obtain ⟨h0, h1, h2, h3⟩ := hW
        go_simp
      try simp only [Act.put, List.setIfInBounds_toArray, List.set_cons_zero, List.set_cons_succ]
      refine wpAnyH_take (i := 2) (oi := ⟨some 20, _, _, _, _, _⟩) (v := .int .i64 (q : Int)) rfl (by kernel_rfl) (by kernel_rfl) (by kernel_rfl) (fun _ _ _ h => h) (Or.inl ⟨by rfl, ?_⟩) hHeld ?_
      · intro W hW
        obtain ⟨h0, h1, h2, h3⟩ := hW
        go_simp
      try simp only [Act.put, List.setIfInBounds_toArray, List.set_cons_zero, List.set_cons_succ]
      refine wpAnyH_take (i := 3) (oi := ⟨some 21, _, _, _, _, _⟩) (v := .pointer (some ⟨b, off + q * 3, none⟩)) rfl (by kernel_rfl) (by kernel_rfl) (by kernel_rfl) (fun _ _ _ h => h) (Or.inl ⟨by rfl, ?_⟩) hHeld ?_
      · intro W hW
        obtain ⟨h0, h1, h2, h3⟩ := hW
        go_simp
      try simp only [Act.put, List.setIfInBounds_toArray, List.set_cons_zero, List.set_cons_succ]
      refine wpAnyH_take (i := 4) (oi := ⟨some 22, _, _, _, _, _⟩) (v := .pointer (some ⟨b, off + q * 3 + 2, none⟩)) rfl (by kernel_rfl) (by kernel_rfl) (by kernel_rfl) (fun _ _ _ h => h) (Or.inl ⟨by rfl, ?_⟩) hHeld ?_
      · intro W hW
        obtain ⟨h0, h1, h2, h3⟩ := hW
        go_simp
      try simp only [Act.put, List.setIfInBounds_toArray, List.set_cons_zero, List.set_cons_succ]
      refine wpAnyH_take (i := 5) (oi := ⟨some 23, _, _, _, _, _⟩) (v := .slice B2 nb2 cb2) rfl (by kernel_rfl) (by kernel_rfl) (by kernel_rfl) (fun _ _ _ h => h) (Or.inl ⟨by rfl, ?_⟩) hHeld ?_
      · intro W hW
        obtain ⟨h0, h1, h2, h3⟩ := hW
        go_simp
      try simp only [Act.put, List.setIfInBounds_toArray, List.set_cons_zero, List.set_cons_succ]
      refine wpAnyH_take (i := 6) (oi := ⟨some 24, _, _, _, _, _⟩) (v := .int .i64 L) rfl (by kernel_rfl) (by kernel_rfl) (by kernel_rfl) (fun _ _ _ h => h) (Or.inl ⟨by rfl, ?_⟩) hHeld ?_
      · intro W hW
        obtain ⟨h0, h1, h2, h3⟩ := hW
        go_simp
      try simp only [Act.put, List.setIfInBounds_toArray, List.set_cons_zero, List.set_cons_succ]
      refine wpAnyH_take (i := 7) (oi := ⟨some 25, _, _, _, _, _⟩) (v := .int .i64 (L - 1)) rfl (by kernel_rfl) (by kernel_rfl) (by kernel_rfl) (fun _ _ _ h => h) (Or.inl ⟨by rfl, ?_⟩) hHeld ?_
      · intro W hW
        obtain ⟨h0, h1, h2, h3⟩ := hW
        go_simp
        exact wrap_i64 (by omega) (by omega)
      try simp only [Act.put, List.setIfInBounds_toArray, List.set_cons_zero, List.set_cons_succ]
      refine wpAnyH_take (i := 8) (oi := ⟨some 26, _, _, _, _, _⟩) (v := .pointer (some ⟨w.heap.size, 1, none⟩)) rfl (by kernel_rfl) (by kernel_rfl) (by kernel_rfl) (fun _ _ _ h => h) (Or.inl ⟨by rfl, ?_⟩) hHeld ?_
      · intro W hW
        obtain ⟨h0, h1, h2, h3⟩ := hW
        go_simp
      try simp only [Act.put, List.setIfInBounds_toArray, List.set_cons_zero, List.set_cons_succ]
      refine wpAnyH_take (i := 9) (oi := ⟨some 27, _, _, _, _, _⟩) (v := .slice (some ⟨b, off, none⟩) no co) rfl (by kernel_rfl) (by kernel_rfl) (by kernel_rfl) (fun _ _ _ h => h) (Or.inl ⟨by rfl, ?_⟩) hHeld ?_
      · intro W hW
        obtain ⟨h0, h1, h2, h3⟩ := hW
        go_simp
      try simp only [Act.put, List.setIfInBounds_toArray, List.set_cons_zero, List.set_cons_succ]
      refine wpAnyH_take (i := 10) (oi := ⟨some 28, _, _, _, _, _⟩) (v := .int .i64 (q : Int)) rfl (by kernel_rfl) (by kernel_rfl) (by kernel_rfl) (fun _ _ _ h => h) (Or.inl ⟨by rfl, ?_⟩) hHeld ?_
      · intro W hW
        obtain ⟨h0, h1, h2, h3⟩ := hW
        go_simp
      try simp only [Act.put, List.setIfInBounds_toArray, List.set_cons_zero, List.set_cons_succ]
      refine wpAnyH_take (i := 11) (oi := ⟨some 29, _, _, _, _, _⟩) (v := .pointer (some ⟨b, off + q * 3, none⟩)) rfl (by kernel_rfl) (by kernel_rfl) (by kernel_rfl) (fun _ _ _ h => h) (Or.inl ⟨by rfl, ?_⟩) hHeld ?_
      · intro W hW
        obtain ⟨h0, h1, h2, h3⟩ := hW
        go_simp
      try simp only [Act.put, List.setIfInBounds_toArray, List.set_cons_zero, List.set_cons_succ]
      refine wpAnyH_take (i := 12) (oi := ⟨some 30, _, _, _, _, _⟩) (v := .pointer (some ⟨b, off + q * 3 + 1, none⟩)) rfl (by kernel_rfl) (by kernel_rfl) (by kernel_rfl) (fun _ _ _ h => h) (Or.inl ⟨by rfl, ?_⟩) hHeld ?_
      · intro W hW
        obtain ⟨h0, h1, h2, h3⟩ := hW
        go_simp
      try simp only [Act.put, List.setIfInBounds_toArray, List.set_cons_zero, List.set_cons_succ]
      refine wpAnyH_take (i := 13) (oi := ⟨some 31, _, _, _, _, _⟩) (v := .slice P2 np2 cp2) rfl (by kernel_rfl) (by kernel_rfl) (by kernel_rfl) (fun _ _ _ h => h) (Or.inl ⟨by rfl, ?_⟩) hHeld ?_
      · intro W hW
        obtain ⟨h0, h1, h2, h3⟩ := hW
        go_simp
      try simp only [Act.put, List.setIfInBounds_toArray, List.set_cons_zero, List.set_cons_succ]
      refine wpAnyH_take (i := 14) (oi := ⟨some 32, _, _, _, _, _⟩) (v := .int .i64 (np2 : Int)) rfl (by kernel_rfl) (by kernel_rfl) (by kernel_rfl) (fun _ _ _ h => h) (Or.inl ⟨by rfl, ?_⟩) hHeld ?_
      · intro W hW
        obtain ⟨h0, h1, h2, h3⟩ := hW
        go_simp
      try simp only [Act.put, List.setIfInBounds_toArray, List.set_cons_zero, List.set_cons_succ]
      refine wpAnyH_take (i := 15) (oi := ⟨some 33, _, _, _, _, _⟩) (v := .int .i64 (L - 1 - (np2 : Int))) rfl (by kernel_rfl) (by kernel_rfl) (by kernel_rfl) (fun _ _ _ h => h) (Or.inl ⟨by rfl, ?_⟩) hHeld ?_
      · intro W hW
        obtain ⟨h0, h1, h2, h3⟩ := hW
        go_simp
        exact wrap_i64 (by omega) (by omega)
      try simp only [Act.put, List.setIfInBounds_toArray, List.set_cons_zero, List.set_cons_succ]
      refine wpAnyH_take (i := 16) (oi := ⟨some 34, _, _, _, _, _⟩) (v := .pointer (some ⟨w.heap.size, 1, none⟩)) rfl (by kernel_rfl) (by kernel_rfl) (by kernel_rfl) (fun _ _ _ h => h) (Or.inl ⟨by rfl, ?_⟩) hHeld ?_
      · intro W hW
        obtain ⟨h0, h1, h2, h3⟩ := hW
        go_simp
      try simp only [Act.put, List.setIfInBounds_toArray, List.set_cons_zero, List.set_cons_succ]
      refine wpAnyH_take (i := 17) (oi := ⟨some 35, _, _, _, _, _⟩) (v := .slice (some ⟨b, off, none⟩) no co) rfl (by kernel_rfl) (by kernel_rfl) (by kernel_rfl) (fun _ _ _ h => h) (Or.inl ⟨by rfl, ?_⟩) hHeld ?_
      · intro W hW
        obtain ⟨h0, h1, h2, h3⟩ := hW
        go_simp
      try simp only [Act.put, List.setIfInBounds_toArray, List.set_cons_zero, List.set_cons_succ]
      refine wpAnyH_take (i := 18) (oi := ⟨some 36, _, _, _, _, _⟩) (v := .int .i64 (q : Int)) rfl (by kernel_rfl) (by kernel_rfl) (by kernel_rfl) (fun _ _ _ h => h) (Or.inl ⟨by rfl, ?_⟩) hHeld ?_
      · intro W hW
        obtain ⟨h0, h1, h2, h3⟩ := hW
        go_simp
      try simp only [Act.put, List.setIfInBounds_toArray, List.set_cons_zero, List.set_cons_succ]
      refine wpAnyH_take (i := 19) (oi := ⟨some 37, _, _, _, _, _⟩) (v := .pointer (some ⟨b, off + q * 3, none⟩)) rfl (by kernel_rfl) (by kernel_rfl) (by kernel_rfl) (fun _ _ _ h => h) (Or.inl ⟨by rfl, ?_⟩) hHeld ?_
      · intro W hW
        obtain ⟨h0, h1, h2, h3⟩ := hW
        go_simp
      try simp only [Act.put, List.setIfInBounds_toArray, List.set_cons_zero, List.set_cons_succ]
      refine wpAnyH_take (i := 20) (oi := ⟨some 38, _, _, _, _, _⟩) (v := .pointer (some ⟨b, off + q * 3, none⟩)) rfl (by kernel_rfl) (by kernel_rfl) (by kernel_rfl) (fun _ _ _ h => h) (Or.inl ⟨by rfl, ?_⟩) hHeld ?_
      · intro W hW
        obtain ⟨h0, h1, h2, h3⟩ := hW
        go_simp
      try simp only [Act.put, List.setIfInBounds_toArray, List.set_cons_zero, List.set_cons_succ]
      refine wpAnyH_take (i := 21) (oi := ⟨some 39, _, _, _, _, _⟩) (v := .string (bs xn)) rfl (by kernel_rfl) (by kernel_rfl) (by kernel_rfl) (fun _ _ _ h => h) (Or.inl ⟨by rfl, ?_⟩) hHeld ?_
      · intro W hW
        obtain ⟨h0, h1, h2, h3⟩ := hW
        go_simp
      try simp only [Act.put, List.setIfInBounds_toArray, List.set_cons_zero, List.set_cons_succ]
      refine wpAnyH_take (i := 22) (oi := ⟨some 40, _, _, _, _, _⟩) (v := .int .i64 ((bs xn).size : Int)) rfl (by kernel_rfl) (by kernel_rfl) (by kernel_rfl) (fun _ _ _ h => h) (Or.inl ⟨by rfl, ?_⟩) hHeld ?_
      · intro W hW
        obtain ⟨h0, h1, h2, h3⟩ := hW
        go_simp
      try simp only [Act.put, List.setIfInBounds_toArray, List.set_cons_zero, List.set_cons_succ]
      refine wpAnyH_take (i := 23) (oi := ⟨some 41, _, _, _, _, _⟩) (v := .int .i64 (((bs xn).size : Int) / 100)) rfl (by kernel_rfl) (by kernel_rfl) (by kernel_rfl) (fun _ _ _ h => h) (Or.inl ⟨by rfl, ?_⟩) hHeld ?_
      · intro W hW
        obtain ⟨h0, h1, h2, h3⟩ := hW
        go_simp
        exact wrap_i64 (by omega) (by omega)
      try simp only [Act.put, List.setIfInBounds_toArray, List.set_cons_zero, List.set_cons_succ]
      refine wpAnyH_take (i := 24) (oi := ⟨some 42, _, _, _, _, _⟩) (v := .int .i64 (L - 1 - (np2 : Int) - ((bs xn).size : Int) / 100)) rfl (by kernel_rfl) (by kernel_rfl) (by kernel_rfl) (fun _ _ _ h => h) (Or.inl ⟨by rfl, ?_⟩) hHeld ?_
      · intro W hW
        obtain ⟨h0, h1, h2, h3⟩ := hW
        go_simp
        exact wrap_i64 (by omega) (by omega)
      try simp only [Act.put, List.setIfInBounds_toArray, List.set_cons_zero, List.set_cons_succ]
      refine wpAnyH_ready (rs := [25]) (by kernel_rfl) (by simp) ?_
      refine AllReadyH.cons (o := ⟨some 43, _, _, _, _, _⟩) rfl (fun K hK => ?_) AllReadyH.nil
      refine Eq.mpr (if_pos (by kernel_rfl)) ?_
      go_simp
      refine (K1.out _ zd).mono ?_
      rintro e wt ⟨rfl, hb⟩
      have zt := zd.next hb
      refine hK.out _ _ (HC.out _ zt) (fun hHeld2 => ?_)
      clear hK
      try simp only [Act.put, List.setIfInBounds_toArray, List.set_cons_zero, List.set_cons_succ]
      refine wpAnyH_take (i := 26) (oi := ⟨some 3, _, _, _, _, _⟩) (v := .int .i64 V) rfl (by kernel_rfl) (by kernel_rfl) (by kernel_rfl) (fun _ _ _ h => h) (Or.inl ⟨by rfl, ?_⟩) hHeld2 ?_
      · intro W hW
        obtain ⟨h0, h1, h2, h3⟩ := hW
        go_simp
      try simp only [Act.put, List.setIfInBounds_toArray, List.set_cons_zero, List.set_cons_succ]
      refine wpAnyH_done (by kernel_rfl) ?_ _
      clear hHeld hHeld2 K1
      obtain ⟨g0, g1, g2, g3⟩ := HC.out _ zt
      go_wp2_with fail
      clear g0 g1 g2 g3
      have hV0 := HVG.out 0 (by omega)
      go_loopw [3, 5] (fun left j wp => ∃ (r : Nat) (M : Int), r ≤ xp.length ∧ r ≤ 20 ∧ left = .int .i64 M ∧ j = .int .i64 r ∧ Hid (M = roomP (xp.take r) V) ∧ Bz W0 wp) (fun _ j _ => 20 - (intOf j).toNat)
      case atStart => exact ⟨0, V, Nat.zero_le _, by omega, rfl, rfl, Lib.hid (by rw [List.take_zero, roomP]), zt⟩
      case round =>
        clear zt hV0
        obtain ⟨r, M, hr, hr20, rfl, rfl, n2, zp⟩ := hrel
        obtain ⟨wu, hwu⟩ : ∃ wu, wu = wr := ⟨_, rfl⟩
        subst hwu
        obtain ⟨g0, g1, g2, g3⟩ := HC.out _ zp
        have hM1 : -4611686018427387904 ≤ M := by rw [n2.out]; exact HVG.out r hr20
        have hM2 : M ≤ 400 := by rw [n2.out]; exact Int.le_trans (roomP_le _ _) hVl
        by_cases hc2 : r < xp.length ∧ r < 20
        · have hj2 : (r : Int) < (np2 : Int) := by have := HNP.out; omega
          have hj3 : (r : Int) < 20 := by omega
          obtain ⟨b2, off2, cs2, rfl, hb2, hS2, ⟨s, hs, rfl⟩, hrow3⟩ := HSS.out.2.at r (by have := HNP.out; omega)
          have HRL := Lib.hid hc2
          have hsz : (bs s).size ≤ 9223372036854775807 := HPW.out s (List.mem_of_getElem? hs)
          have p0 : wu.cell? ⟨b2, off2 + r, none⟩ = some (.string (bs s)) := by
            have := rangeAt_keep hrow3 ((HG.out _ zp).block b2 hb2) 0 _ rfl
            simpa using this
          have HN2 := Lib.hid (show M - ((bs s).size : Int) / 100 = roomP (xp.take (r + 1)) V by rw [roomP_up hs, ← n2.out, bs_size])
          clear hs hb2 hS2 hrow3 hc2
          go_wp2
          go_roundw
          case rel => exact ⟨r + 1, _, HRL.out.1, HRL.out.2, rfl, by go_num, HN2, zp⟩
          case measure => exact meas_up _ _ HRL.out.2
        · have HX := Lib.hid (show M = roomOs (os.take (q + 1)) 400 by
            rw [n2.out, HU.out, HV.out]
            by_cases h20 : r < 20
            · rw [List.take_of_length_le (show xp.length ≤ r by omega), List.take_of_length_le (show xp.length ≤ 20 by omega)]
            · rw [show r = 20 by omega])
          have hX2 : M + ((q + 1 : Nat) : Int) ≤ 400 := by rw [HX.out, HU.out]; exact HUL.out
          clear n2
          rcases (show ¬ (r : Int) < (np2 : Int) ∨ ((r : Int) < (np2 : Int) ∧ ¬ (r : Int) < 20) by have := HNP.out; omega) with hj2 | ⟨hj2, hj3⟩
          · clear hc2
            go_wp2
            go_roundw
            case rel => exact ⟨q + 1, M, HQL.out, rfl, by go_num, HX, by omega, hX2, zp⟩
            case measure => exact meas_up _ _ HQL.out
          · clear hc2
            go_wp2
            go_roundw
            case rel => exact ⟨q + 1, M, HQL.out, rfl, by go_num, HX, by omega, hX2, zp⟩
            case measure => exact meas_up _ _ HQL.out
    · obtain ⟨L0, hL0⟩ : ∃ L0, L0 = L := ⟨_, rfl⟩
      subst hL0
      have HE2 := Lib.hid (show E = decide (roomDs ds L0 < 0) by rw [HE.out, n1.out, roomOs_end (l := os) (q := q) (a := 400) (by have := n1.out; rw [← this]; omega)])
      have hm1 := hL1
      have hm2 : L0 ≤ 400 := by omega
      rcases (show ¬ (q : Int) < (no : Int) ∨ ((q : Int) < (no : Int) ∧ ¬ (0 : Int) ≤ L0) by have := HNO.out; omega) with hi2 | ⟨hi2, hi3⟩
      · clear hc n1 hq hL1 hL2
        go_wp2_with fail
        clear d0 d1
        have Z0 := zr
        clear zr
        go_loopw [3, 6] (fun left i wr => ∃ (q : Nat) (L : Int), q ≤ ds.length ∧ left = .int .i64 L ∧ i = .int .i64 q ∧ Hid (L = roomDs (ds.take q) L0) ∧ -5000000000000000000 ≤ L ∧ L + q ≤ 400 ∧ Bz W0 wr) (fun _ i _ => ds.length - (intOf i).toNat)
        case atStart => exact ⟨0, L0, Nat.zero_le _, rfl, rfl, Lib.hid (by rw [List.take_zero, roomDs]), hm1, by omega, Z0⟩
        case round =>
          clear Z0
          obtain ⟨q, L, hq, rfl, rfl, n1, hL1, hL2, zr⟩ := hrel
          obtain ⟨wv, hwv⟩ : ∃ wv, wv = wr := ⟨_, rfl⟩
          subst hwv
          obtain ⟨d0, d1⟩ := HF.out _ zr
          by_cases hc : q < ds.length ∧ 0 ≤ L
          · have hi2 : (q : Int) < (nd : Int) := by have := HND.out; omega
            have hi3 : (0 : Int) ≤ L := hc.2
            obtain ⟨b, off, cs, rfl, hb, hS, ⟨x, hx, rfl⟩, hrow⟩ := HD.out.2.at q (by have := HND.out; omega)
            have HQL := Lib.hid hc.1
            have hxw := HWS.out.1 x (List.mem_of_getElem? hx)
            have hu := roomDs_up hx (by rw [← n1.out]; exact hi3)
            rw [← n1.out] at hu
            obtain ⟨xn, xk⟩ := x
            have hz1 : (bs xn).size ≤ 9223372036854775807 := hxw.1
            have hz2 : (bs xk).size ≤ 9223372036854775807 := hxw.2
            have HU := Lib.hid (show L - 1 - ((bs xn).size : Int) / 100 - ((bs xk).size : Int) / 100 = roomDs (ds.take (q + 1)) L0 from hu.symm)
            have HC := Lib.hid (show ∀ W, Bz W0 W → (W.cell? ⟨w.heap.size, 0, none⟩ = some (.slice (some ⟨b, off, none⟩) nd cd) ∧ W.cell? ⟨b, off + q * 2, none⟩ = some (.string (bs xn)) ∧ W.cell? ⟨b, off + q * 2 + 1, none⟩ = some (.string (bs xk))) from fun W h => by
              have hr := rangeAt_keep hrow ((HG.out _ h).block b hb)
              exact ⟨(HF.out _ h).1, by have := hr 0 _ rfl; simpa using this, hr 1 _ rfl⟩)
            have zd := zr.drew
            clear hx hb hS hrow hc hu hxw n1
            go_upto_region 13 with fail
            refine wp_region_held_drew (S := fun W => (W.cell? ⟨w.heap.size, 0, none⟩ = some (.slice (some ⟨b, off, none⟩) nd cd) ∧ W.cell? ⟨b, off + q * 2, none⟩ = some (.string (bs xn)) ∧ W.cell? ⟨b, off + q * 2 + 1, none⟩ = some (.string (bs xk)))) (by kernel_rfl) (HC.out _ zd) (fun hHeld => ?_)
            refine wpAnyH_take (i := 0) (oi := ⟨some 83, _, _, _, _, _⟩) (v := .int .i64 L) rfl (by kernel_rfl) (by kernel_rfl) (by kernel_rfl) (fun _ _ _ h => h) (Or.inl ⟨by rfl, ?_⟩) hHeld ?_
            · intro W hW
              obtain ⟨h0, h1, h2⟩ := hW
              go_simp
            try simp only [Act.put, List.setIfInBounds_toArray, List.set_cons_zero, List.set_cons_succ]
            refine wpAnyH_take (i := 1) (oi := ⟨some 84, _, _, _, _, _⟩) (v := .int .i64 (L - 1)) rfl (by kernel_rfl) (by kernel_rfl) (by kernel_rfl) (fun _ _ _ h => h) (Or.inl ⟨by rfl, ?_⟩) hHeld ?_
            · intro W hW
              obtain ⟨h0, h1, h2⟩ := hW
              go_simp
              exact wrap_i64 (by omega) (by omega)
            try simp only [Act.put, List.setIfInBounds_toArray, List.set_cons_zero, List.set_cons_succ]
            refine wpAnyH_take (i := 2) (oi := ⟨some 85, _, _, _, _, _⟩) (v := .pointer (some ⟨w.heap.size, 0, none⟩)) rfl (by kernel_rfl) (by kernel_rfl) (by kernel_rfl) (fun _ _ _ h => h) (Or.inl ⟨by rfl, ?_⟩) hHeld ?_
            · intro W hW
              obtain ⟨h0, h1, h2⟩ := hW
              go_simp
            try simp only [Act.put, List.setIfInBounds_toArray, List.set_cons_zero, List.set_cons_succ]
            refine wpAnyH_take (i := 3) (oi := ⟨some 86, _, _, _, _, _⟩) (v := .slice (some ⟨b, off, none⟩) nd cd) rfl (by kernel_rfl) (by kernel_rfl) (by kernel_rfl) (fun _ _ _ h => h) (Or.inl ⟨by rfl, ?_⟩) hHeld ?_
            · intro W hW
              obtain ⟨h0, h1, h2⟩ := hW
              go_simp
            try simp only [Act.put, List.setIfInBounds_toArray, List.set_cons_zero, List.set_cons_succ]
            refine wpAnyH_take (i := 4) (oi := ⟨some 87, _, _, _, _, _⟩) (v := .int .i64 (q : Int)) rfl (by kernel_rfl) (by kernel_rfl) (by kernel_rfl) (fun _ _ _ h => h) (Or.inl ⟨by rfl, ?_⟩) hHeld ?_
            · intro W hW
              obtain ⟨h0, h1, h2⟩ := hW
              go_simp
            try simp only [Act.put, List.setIfInBounds_toArray, List.set_cons_zero, List.set_cons_succ]
            refine wpAnyH_take (i := 5) (oi := ⟨some 88, _, _, _, _, _⟩) (v := .pointer (some ⟨b, off + q * 2, none⟩)) rfl (by kernel_rfl) (by kernel_rfl) (by kernel_rfl) (fun _ _ _ h => h) (Or.inl ⟨by rfl, ?_⟩) hHeld ?_
            · intro W hW
              obtain ⟨h0, h1, h2⟩ := hW
              go_simp
            try simp only [Act.put, List.setIfInBounds_toArray, List.set_cons_zero, List.set_cons_succ]
            refine wpAnyH_take (i := 6) (oi := ⟨some 89, _, _, _, _, _⟩) (v := .pointer (some ⟨b, off + q * 2, none⟩)) rfl (by kernel_rfl) (by kernel_rfl) (by kernel_rfl) (fun _ _ _ h => h) (Or.inl ⟨by rfl, ?_⟩) hHeld ?_
            · intro W hW
              obtain ⟨h0, h1, h2⟩ := hW
              go_simp
            try simp only [Act.put, List.setIfInBounds_toArray, List.set_cons_zero, List.set_cons_succ]
            refine wpAnyH_take (i := 7) (oi := ⟨some 90, _, _, _, _, _⟩) (v := .string (bs xn)) rfl (by kernel_rfl) (by kernel_rfl) (by kernel_rfl) (fun _ _ _ h => h) (Or.inl ⟨by rfl, ?_⟩) hHeld ?_
            · intro W hW
              obtain ⟨h0, h1, h2⟩ := hW
              go_simp
            try simp only [Act.put, List.setIfInBounds_toArray, List.set_cons_zero, List.set_cons_succ]
            refine wpAnyH_take (i := 8) (oi := ⟨some 91, _, _, _, _, _⟩) (v := .int .i64 ((bs xn).size : Int)) rfl (by kernel_rfl) (by kernel_rfl) (by kernel_rfl) (fun _ _ _ h => h) (Or.inl ⟨by rfl, ?_⟩) hHeld ?_
            · intro W hW
              obtain ⟨h0, h1, h2⟩ := hW
              go_simp
            try simp only [Act.put, List.setIfInBounds_toArray, List.set_cons_zero, List.set_cons_succ]
            refine wpAnyH_take (i := 9) (oi := ⟨some 92, _, _, _, _, _⟩) (v := .int .i64 (((bs xn).size : Int) / 100)) rfl (by kernel_rfl) (by kernel_rfl) (by kernel_rfl) (fun _ _ _ h => h) (Or.inl ⟨by rfl, ?_⟩) hHeld ?_
            · intro W hW
              obtain ⟨h0, h1, h2⟩ := hW
              go_simp
              exact wrap_i64 (by omega) (by omega)
            try simp only [Act.put, List.setIfInBounds_toArray, List.set_cons_zero, List.set_cons_succ]
            refine wpAnyH_take (i := 10) (oi := ⟨some 93, _, _, _, _, _⟩) (v := .int .i64 (L - 1 - ((bs xn).size : Int) / 100)) rfl (by kernel_rfl) (by kernel_rfl) (by kernel_rfl) (fun _ _ _ h => h) (Or.inl ⟨by rfl, ?_⟩) hHeld ?_
            · intro W hW
              obtain ⟨h0, h1, h2⟩ := hW
              go_simp
              exact wrap_i64 (by omega) (by omega)
            try simp only [Act.put, List.setIfInBounds_toArray, List.set_cons_zero, List.set_cons_succ]
            refine wpAnyH_take (i := 11) (oi := ⟨some 94, _, _, _, _, _⟩) (v := .pointer (some ⟨w.heap.size, 0, none⟩)) rfl (by kernel_rfl) (by kernel_rfl) (by kernel_rfl) (fun _ _ _ h => h) (Or.inl ⟨by rfl, ?_⟩) hHeld ?_
            · intro W hW
              obtain ⟨h0, h1, h2⟩ := hW
              go_simp
            try simp only [Act.put, List.setIfInBounds_toArray, List.set_cons_zero, List.set_cons_succ]
            refine wpAnyH_take (i := 12) (oi := ⟨some 95, _, _, _, _, _⟩) (v := .slice (some ⟨b, off, none⟩) nd cd) rfl (by kernel_rfl) (by kernel_rfl) (by kernel_rfl) (fun _ _ _ h => h) (Or.inl ⟨by rfl, ?_⟩) hHeld ?_
            · intro W hW
              obtain ⟨h0, h1, h2⟩ := hW
              go_simp
            try simp only [Act.put, List.setIfInBounds_toArray, List.set_cons_zero, List.set_cons_succ]
            refine wpAnyH_take (i := 13) (oi := ⟨some 96, _, _, _, _, _⟩) (v := .int .i64 (q : Int)) rfl (by kernel_rfl) (by kernel_rfl) (by kernel_rfl) (fun _ _ _ h => h) (Or.inl ⟨by rfl, ?_⟩) hHeld ?_
            · intro W hW
              obtain ⟨h0, h1, h2⟩ := hW
              go_simp
            try simp only [Act.put, List.setIfInBounds_toArray, List.set_cons_zero, List.set_cons_succ]
            refine wpAnyH_take (i := 14) (oi := ⟨some 97, _, _, _, _, _⟩) (v := .pointer (some ⟨b, off + q * 2, none⟩)) rfl (by kernel_rfl) (by kernel_rfl) (by kernel_rfl) (fun _ _ _ h => h) (Or.inl ⟨by rfl, ?_⟩) hHeld ?_
            · intro W hW
              obtain ⟨h0, h1, h2⟩ := hW
              go_simp
            try simp only [Act.put, List.setIfInBounds_toArray, List.set_cons_zero, List.set_cons_succ]
            refine wpAnyH_take (i := 15) (oi := ⟨some 98, _, _, _, _, _⟩) (v := .pointer (some ⟨b, off + q * 2 + 1, none⟩)) rfl (by kernel_rfl) (by kernel_rfl) (by kernel_rfl) (fun _ _ _ h => h) (Or.inl ⟨by rfl, ?_⟩) hHeld ?_
            · intro W hW
              obtain ⟨h0, h1, h2⟩ := hW
              go_simp
            try simp only [Act.put, List.setIfInBounds_toArray, List.set_cons_zero, List.set_cons_succ]
            refine wpAnyH_take (i := 16) (oi := ⟨some 99, _, _, _, _, _⟩) (v := .string (bs xk)) rfl (by kernel_rfl) (by kernel_rfl) (by kernel_rfl) (fun _ _ _ h => h) (Or.inl ⟨by rfl, ?_⟩) hHeld ?_
            · intro W hW
              obtain ⟨h0, h1, h2⟩ := hW
              go_simp
            try simp only [Act.put, List.setIfInBounds_toArray, List.set_cons_zero, List.set_cons_succ]
            refine wpAnyH_take (i := 17) (oi := ⟨some 100, _, _, _, _, _⟩) (v := .int .i64 ((bs xk).size : Int)) rfl (by kernel_rfl) (by kernel_rfl) (by kernel_rfl) (fun _ _ _ h => h) (Or.inl ⟨by rfl, ?_⟩) hHeld ?_
            · intro W hW
              obtain ⟨h0, h1, h2⟩ := hW
              go_simp
            try simp only [Act.put, List.setIfInBounds_toArray, List.set_cons_zero, List.set_cons_succ]
            refine wpAnyH_take (i := 18) (oi := ⟨some 101, _, _, _, _, _⟩) (v := .int .i64 (((bs xk).size : Int) / 100)) rfl (by kernel_rfl) (by kernel_rfl) (by kernel_rfl) (fun _ _ _ h => h) (Or.inl ⟨by rfl, ?_⟩) hHeld ?_
            · intro W hW
              obtain ⟨h0, h1, h2⟩ := hW
              go_simp
              exact wrap_i64 (by omega) (by omega)
            try simp only [Act.put, List.setIfInBounds_toArray, List.set_cons_zero, List.set_cons_succ]
            refine wpAnyH_take (i := 19) (oi := ⟨some 102, _, _, _, _, _⟩) (v := .int .i64 (L - 1 - ((bs xn).size : Int) / 100 - ((bs xk).size : Int) / 100)) rfl (by kernel_rfl) (by kernel_rfl) (by kernel_rfl) (fun _ _ _ h => h) (Or.inl ⟨by rfl, ?_⟩) hHeld ?_
            · intro W hW
              obtain ⟨h0, h1, h2⟩ := hW
              go_simp
              exact wrap_i64 (by omega) (by omega)
            try simp only [Act.put, List.setIfInBounds_toArray, List.set_cons_zero, List.set_cons_succ]
            refine wpAnyH_take (i := 20) (oi := ⟨some 3, _, _, _, _, _⟩) (v := .int .i64 (L - 1 - ((bs xn).size : Int) / 100 - ((bs xk).size : Int) / 100)) rfl (by kernel_rfl) (by kernel_rfl) (by kernel_rfl) (fun _ _ _ h => h) (Or.inl ⟨by rfl, ?_⟩) hHeld ?_
            · intro W hW
              obtain ⟨h0, h1, h2⟩ := hW
              go_simp
            try simp only [Act.put, List.setIfInBounds_toArray, List.set_cons_zero, List.set_cons_succ]
            refine wpAnyH_done (by kernel_rfl) ?_ _
            clear hHeld HC
            go_wp2
            go_roundw
            case rel => exact ⟨q + 1, _, HQL.out, rfl, by go_num, HU, by omega, by omega, zd⟩
            case measure => exact meas_up _ _ HQL.out
          · have HR := Lib.hid (show E = decide (L < 0) by rw [HE2.out, n1.out, roomDs_end (l := ds) (q := q) (a := L0) (by have := n1.out; rw [← this]; omega)])
            rcases (show ¬ (q : Int) < (nd : Int) ∨ ((q : Int) < (nd : Int) ∧ ¬ (0 : Int) ≤ L) by have := HND.out; omega) with hi2 | ⟨hi2, hi3⟩
            · clear hc n1
              go_wp2
              go_ret
              exact ⟨congrArg (fun v => Ending.returned (.bool v)) HR.out.symm, HG.out _ zr⟩
            · have HR2 := Lib.hid (show E = true by rw [HR.out]; exact decide_eq_true (by omega))
              clear hc n1 HR
              go_wp2
              go_ret
              exact ⟨congrArg (fun v => Ending.returned (.bool v)) HR2.out.symm, HG.out _ zr⟩
      · clear hc n1 hq hL1 hL2
        go_wp2_with fail
        clear d0 d1
        have Z0 := zr
        clear zr
        go_loopw [3, 6] (fun left i wr => ∃ (q : Nat) (L : Int), q ≤ ds.length ∧ left = .int .i64 L ∧ i = .int .i64 q ∧ Hid (L = roomDs (ds.take q) L0) ∧ -5000000000000000000 ≤ L ∧ L + q ≤ 400 ∧ Bz W0 wr) (fun _ i _ => ds.length - (intOf i).toNat)
        case atStart => exact ⟨0, L0, Nat.zero_le _, rfl, rfl, Lib.hid (by rw [List.take_zero, roomDs]), hm1, by omega, Z0⟩
        case round =>
          clear Z0
          obtain ⟨q, L, hq, rfl, rfl, n1, hL1, hL2, zr⟩ := hrel
          obtain ⟨wv, hwv⟩ : ∃ wv, wv = wr := ⟨_, rfl⟩
          subst hwv
          obtain ⟨d0, d1⟩ := HF.out _ zr
          by_cases hc : q < ds.length ∧ 0 ≤ L
          · have hi2 : (q : Int) < (nd : Int) := by have := HND.out; omega
            have hi3 : (0 : Int) ≤ L := hc.2
            obtain ⟨b, off, cs, rfl, hb, hS, ⟨x, hx, rfl⟩, hrow⟩ := HD.out.2.at q (by have := HND.out; omega)
            have HQL := Lib.hid hc.1
            have hxw := HWS.out.1 x (List.mem_of_getElem? hx)
            have hu := roomDs_up hx (by rw [← n1.out]; exact hi3)
            rw [← n1.out] at hu
            obtain ⟨xn, xk⟩ := x
            have hz1 : (bs xn).size ≤ 9223372036854775807 := hxw.1
            have hz2 : (bs xk).size ≤ 9223372036854775807 := hxw.2
            have HU := Lib.hid (show L - 1 - ((bs xn).size : Int) / 100 - ((bs xk).size : Int) / 100 = roomDs (ds.take (q + 1)) L0 from hu.symm)
            have HC := Lib.hid (show ∀ W, Bz W0 W → (W.cell? ⟨w.heap.size, 0, none⟩ = some (.slice (some ⟨b, off, none⟩) nd cd) ∧ W.cell? ⟨b, off + q * 2, none⟩ = some (.string (bs xn)) ∧ W.cell? ⟨b, off + q * 2 + 1, none⟩ = some (.string (bs xk))) from fun W h => by
              have hr := rangeAt_keep hrow ((HG.out _ h).block b hb)
              exact ⟨(HF.out _ h).1, by have := hr 0 _ rfl; simpa using this, hr 1 _ rfl⟩)
            have zd := zr.drew
            clear hx hb hS hrow hc hu hxw n1
            go_upto_region 13 with fail
            refine wp_region_held_drew (S := fun W => (W.cell? ⟨w.heap.size, 0, none⟩ = some (.slice (some ⟨b, off, none⟩) nd cd) ∧ W.cell? ⟨b, off + q * 2, none⟩ = some (.string (bs xn)) ∧ W.cell? ⟨b, off + q * 2 + 1, none⟩ = some (.string (bs xk)))) (by kernel_rfl) (HC.out _ zd) (fun hHeld => ?_)
            refine wpAnyH_take (i := 0) (oi := ⟨some 83, _, _, _, _, _⟩) (v := .int .i64 L) rfl (by kernel_rfl) (by kernel_rfl) (by kernel_rfl) (fun _ _ _ h => h) (Or.inl ⟨by rfl, ?_⟩) hHeld ?_
            · intro W hW
              obtain ⟨h0, h1, h2⟩ := hW
              go_simp
            try simp only [Act.put, List.setIfInBounds_toArray, List.set_cons_zero, List.set_cons_succ]
            refine wpAnyH_take (i := 1) (oi := ⟨some 84, _, _, _, _, _⟩) (v := .int .i64 (L - 1)) rfl (by kernel_rfl) (by kernel_rfl) (by kernel_rfl) (fun _ _ _ h => h) (Or.inl ⟨by rfl, ?_⟩) hHeld ?_
            · intro W hW
              obtain ⟨h0, h1, h2⟩ := hW
              go_simp
              exact wrap_i64 (by omega) (by omega)
            try simp only [Act.put, List.setIfInBounds_toArray, List.set_cons_zero, List.set_cons_succ]
            refine wpAnyH_take (i := 2) (oi := ⟨some 85, _, _, _, _, _⟩) (v := .pointer (some ⟨w.heap.size, 0, none⟩)) rfl (by kernel_rfl) (by kernel_rfl) (by kernel_rfl) (fun _ _ _ h => h) (Or.inl ⟨by rfl, ?_⟩) hHeld ?_
            · intro W hW
              obtain ⟨h0, h1, h2⟩ := hW
              go_simp
            try simp only [Act.put, List.setIfInBounds_toArray, List.set_cons_zero, List.set_cons_succ]
            refine wpAnyH_take (i := 3) (oi := ⟨some 86, _, _, _, _, _⟩) (v := .slice (some ⟨b, off, none⟩) nd cd) rfl (by kernel_rfl) (by kernel_rfl) (by kernel_rfl) (fun _ _ _ h => h) (Or.inl ⟨by rfl, ?_⟩) hHeld ?_
            · intro W hW
              obtain ⟨h0, h1, h2⟩ := hW
              go_simp
            try simp only [Act.put, List.setIfInBounds_toArray, List.set_cons_zero, List.set_cons_succ]
            refine wpAnyH_take (i := 4) (oi := ⟨some 87, _, _, _, _, _⟩) (v := .int .i64 (q : Int)) rfl (by kernel_rfl) (by kernel_rfl) (by kernel_rfl) (fun _ _ _ h => h) (Or.inl ⟨by rfl, ?_⟩) hHeld ?_
            · intro W hW
              obtain ⟨h0, h1, h2⟩ := hW
              go_simp
            try simp only [Act.put, List.setIfInBounds_toArray, List.set_cons_zero, List.set_cons_succ]
            refine wpAnyH_take (i := 5) (oi := ⟨some 88, _, _, _, _, _⟩) (v := .pointer (some ⟨b, off + q * 2, none⟩)) rfl (by kernel_rfl) (by kernel_rfl) (by kernel_rfl) (fun _ _ _ h => h) (Or.inl ⟨by rfl, ?_⟩) hHeld ?_
            · intro W hW
              obtain ⟨h0, h1, h2⟩ := hW
              go_simp
            try simp only [Act.put, List.setIfInBounds_toArray, List.set_cons_zero, List.set_cons_succ]
            refine wpAnyH_take (i := 6) (oi := ⟨some 89, _, _, _, _, _⟩) (v := .pointer (some ⟨b, off + q * 2, none⟩)) rfl (by kernel_rfl) (by kernel_rfl) (by kernel_rfl) (fun _ _ _ h => h) (Or.inl ⟨by rfl, ?_⟩) hHeld ?_
            · intro W hW
              obtain ⟨h0, h1, h2⟩ := hW
              go_simp
            try simp only [Act.put, List.setIfInBounds_toArray, List.set_cons_zero, List.set_cons_succ]
            refine wpAnyH_take (i := 7) (oi := ⟨some 90, _, _, _, _, _⟩) (v := .string (bs xn)) rfl (by kernel_rfl) (by kernel_rfl) (by kernel_rfl) (fun _ _ _ h => h) (Or.inl ⟨by rfl, ?_⟩) hHeld ?_
            · intro W hW
              obtain ⟨h0, h1, h2⟩ := hW
              go_simp
            try simp only [Act.put, List.setIfInBounds_toArray, List.set_cons_zero, List.set_cons_succ]
            refine wpAnyH_take (i := 8) (oi := ⟨some 91, _, _, _, _, _⟩) (v := .int .i64 ((bs xn).size : Int)) rfl (by kernel_rfl) (by kernel_rfl) (by kernel_rfl) (fun _ _ _ h => h) (Or.inl ⟨by rfl, ?_⟩) hHeld ?_
            · intro W hW
              obtain ⟨h0, h1, h2⟩ := hW
              go_simp
            try simp only [Act.put, List.setIfInBounds_toArray, List.set_cons_zero, List.set_cons_succ]
            refine wpAnyH_take (i := 9) (oi := ⟨some 92, _, _, _, _, _⟩) (v := .int .i64 (((bs xn).size : Int) / 100)) rfl (by kernel_rfl) (by kernel_rfl) (by kernel_rfl) (fun _ _ _ h => h) (Or.inl ⟨by rfl, ?_⟩) hHeld ?_
            · intro W hW
              obtain ⟨h0, h1, h2⟩ := hW
              go_simp
              exact wrap_i64 (by omega) (by omega)
            try simp only [Act.put, List.setIfInBounds_toArray, List.set_cons_zero, List.set_cons_succ]
            refine wpAnyH_take (i := 10) (oi := ⟨some 93, _, _, _, _, _⟩) (v := .int .i64 (L - 1 - ((bs xn).size : Int) / 100)) rfl (by kernel_rfl) (by kernel_rfl) (by kernel_rfl) (fun _ _ _ h => h) (Or.inl ⟨by rfl, ?_⟩) hHeld ?_
            · intro W hW
              obtain ⟨h0, h1, h2⟩ := hW
              go_simp
              exact wrap_i64 (by omega) (by omega)
            try simp only [Act.put, List.setIfInBounds_toArray, List.set_cons_zero, List.set_cons_succ]
            refine wpAnyH_take (i := 11) (oi := ⟨some 94, _, _, _, _, _⟩) (v := .pointer (some ⟨w.heap.size, 0, none⟩)) rfl (by kernel_rfl) (by kernel_rfl) (by kernel_rfl) (fun _ _ _ h => h) (Or.inl ⟨by rfl, ?_⟩) hHeld ?_
            · intro W hW
              obtain ⟨h0, h1, h2⟩ := hW
              go_simp
            try simp only [Act.put, List.setIfInBounds_toArray, List.set_cons_zero, List.set_cons_succ]
            refine wpAnyH_take (i := 12) (oi := ⟨some 95, _, _, _, _, _⟩) (v := .slice (some ⟨b, off, none⟩) nd cd) rfl (by kernel_rfl) (by kernel_rfl) (by kernel_rfl) (fun _ _ _ h => h) (Or.inl ⟨by rfl, ?_⟩) hHeld ?_
            · intro W hW
              obtain ⟨h0, h1, h2⟩ := hW
              go_simp
            try simp only [Act.put, List.setIfInBounds_toArray, List.set_cons_zero, List.set_cons_succ]
            refine wpAnyH_take (i := 13) (oi := ⟨some 96, _, _, _, _, _⟩) (v := .int .i64 (q : Int)) rfl (by kernel_rfl) (by kernel_rfl) (by kernel_rfl) (fun _ _ _ h => h) (Or.inl ⟨by rfl, ?_⟩) hHeld ?_
            · intro W hW
              obtain ⟨h0, h1, h2⟩ := hW
              go_simp
            try simp only [Act.put, List.setIfInBounds_toArray, List.set_cons_zero, List.set_cons_succ]
            refine wpAnyH_take (i := 14) (oi := ⟨some 97, _, _, _, _, _⟩) (v := .pointer (some ⟨b, off + q * 2, none⟩)) rfl (by kernel_rfl) (by kernel_rfl) (by kernel_rfl) (fun _ _ _ h => h) (Or.inl ⟨by rfl, ?_⟩) hHeld ?_
            · intro W hW
              obtain ⟨h0, h1, h2⟩ := hW
              go_simp
            try simp only [Act.put, List.setIfInBounds_toArray, List.set_cons_zero, List.set_cons_succ]
            refine wpAnyH_take (i := 15) (oi := ⟨some 98, _, _, _, _, _⟩) (v := .pointer (some ⟨b, off + q * 2 + 1, none⟩)) rfl (by kernel_rfl) (by kernel_rfl) (by kernel_rfl) (fun _ _ _ h => h) (Or.inl ⟨by rfl, ?_⟩) hHeld ?_
            · intro W hW
              obtain ⟨h0, h1, h2⟩ := hW
              go_simp
            try simp only [Act.put, List.setIfInBounds_toArray, List.set_cons_zero, List.set_cons_succ]
            refine wpAnyH_take (i := 16) (oi := ⟨some 99, _, _, _, _, _⟩) (v := .string (bs xk)) rfl (by kernel_rfl) (by kernel_rfl) (by kernel_rfl) (fun _ _ _ h => h) (Or.inl ⟨by rfl, ?_⟩) hHeld ?_
            · intro W hW
              obtain ⟨h0, h1, h2⟩ := hW
              go_simp
            try simp only [Act.put, List.setIfInBounds_toArray, List.set_cons_zero, List.set_cons_succ]
            refine wpAnyH_take (i := 17) (oi := ⟨some 100, _, _, _, _, _⟩) (v := .int .i64 ((bs xk).size : Int)) rfl (by kernel_rfl) (by kernel_rfl) (by kernel_rfl) (fun _ _ _ h => h) (Or.inl ⟨by rfl, ?_⟩) hHeld ?_
            · intro W hW
              obtain ⟨h0, h1, h2⟩ := hW
              go_simp
            try simp only [Act.put, List.setIfInBounds_toArray, List.set_cons_zero, List.set_cons_succ]
            refine wpAnyH_take (i := 18) (oi := ⟨some 101, _, _, _, _, _⟩) (v := .int .i64 (((bs xk).size : Int) / 100)) rfl (by kernel_rfl) (by kernel_rfl) (by kernel_rfl) (fun _ _ _ h => h) (Or.inl ⟨by rfl, ?_⟩) hHeld ?_
            · intro W hW
              obtain ⟨h0, h1, h2⟩ := hW
              go_simp
              exact wrap_i64 (by omega) (by omega)
            try simp only [Act.put, List.setIfInBounds_toArray, List.set_cons_zero, List.set_cons_succ]
            refine wpAnyH_take (i := 19) (oi := ⟨some 102, _, _, _, _, _⟩) (v := .int .i64 (L - 1 - ((bs xn).size : Int) / 100 - ((bs xk).size : Int) / 100)) rfl (by kernel_rfl) (by kernel_rfl) (by kernel_rfl) (fun _ _ _ h => h) (Or.inl ⟨by rfl, ?_⟩) hHeld ?_
            · intro W hW
              obtain ⟨h0, h1, h2⟩ := hW
              go_simp
              exact wrap_i64 (by omega) (by omega)
            try simp only [Act.put, List.setIfInBounds_toArray, List.set_cons_zero, List.set_cons_succ]
            refine wpAnyH_take (i := 20) (oi := ⟨some 3, _, _, _, _, _⟩) (v := .int .i64 (L - 1 - ((bs xn).size : Int) / 100 - ((bs xk).size : Int) / 100)) rfl (by kernel_rfl) (by kernel_rfl) (by kernel_rfl) (fun _ _ _ h => h) (Or.inl ⟨by rfl, ?_⟩) hHeld ?_
            · intro W hW
              obtain ⟨h0, h1, h2⟩ := hW
              go_simp
            try simp only [Act.put, List.setIfInBounds_toArray, List.set_cons_zero, List.set_cons_succ]
            refine wpAnyH_done (by kernel_rfl) ?_ _
            clear hHeld HC
            go_wp2
            go_roundw
            case rel => exact ⟨q + 1, _, HQL.out, rfl, by go_num, HU, by omega, by omega, zd⟩
            case measure => exact meas_up _ _ HQL.out
          · have HR := Lib.hid (show E = decide (L < 0) by rw [HE2.out, n1.out, roomDs_end (l := ds) (q := q) (a := L0) (by have := n1.out; rw [← this]; omega)])
            rcases (show ¬ (q : Int) < (nd : Int) ∨ ((q : Int) < (nd : Int) ∧ ¬ (0 : Int) ≤ L) by have := HND.out; omega) with hi2 | ⟨hi2, hi3⟩
            · clear hc n1
              go_wp2
              go_ret
              exact ⟨congrArg (fun v => Ending.returned (.bool v)) HR.out.symm, HG.out _ zr⟩
            · have HR2 := Lib.hid (show E = true by rw [HR.out]; exact decide_eq_true (by omega))
              clear hc n1 HR
              go_wp2
              go_ret
              exact ⟨congrArg (fun v => Ending.returned (.bool v)) HR2.out.symm, HG.out _ zr⟩
end Go.Proofs.YthfjkdgaiaokdaaDoor
