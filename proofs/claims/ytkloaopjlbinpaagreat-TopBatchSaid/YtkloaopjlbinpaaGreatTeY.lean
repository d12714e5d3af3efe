/- The walk of eliminate's Pairs. Condition: at most 20 operations. -/
import Derived.Test.YtkloaopjlbinpaaGreatTeX
set_option linter.unusedVariables false
set_option linter.unusedSimpArgs false
namespace Go.Proofs.YtkloaopjlbinpaaGreat
open Go.RowKit Go.MapKept

theorem own_base {w : World} {base base' : Nat} {v : Value} {t : TypeId} {sz n : Nat} {xs : List Value} (h : w.ownsRow base' t sz v n xs) (hb : base ≤ base') : w.ownsRow base t sz v n xs := by
  refine ⟨h.1, ?_⟩
  rcases h.2 with e | ⟨b, cap, c0, e, q1, q2, q3⟩
  · exact .inl e
  · exact .inr ⟨b, cap, c0, e, Nat.le_trans hb q1, q2, q3⟩
theorem nat_cell {w : World} {A : Option Addr} {l : List Nat} {n j x : Nat} (hR : Reads w (fun _ => True) 1 A n (l.map nI)) (hj : j < n) (hx : l[j]? = some x) : ∃ b q, A = some ⟨b, q, none⟩ ∧ b < w.heap.size ∧ w.cell? ⟨b, q + j, none⟩ = some (.int .i64 x) := by
  obtain ⟨b, q, rfl, hb, -, hc⟩ := hR.2 (by omega)
  exact ⟨b, q, rfl, hb, hc j _ (by rw [List.getElem?_map, hx]; rfl)⟩
theorem prs_len (L : List Opn) : (prs L).length = min (fl true L L.length).length (fl false L L.length).length := List.length_zip
theorem min_case (a b : Nat) : (if (a : Int) ≤ (b : Int) then (a : Int) else (b : Int)) = ((min a b : Nat) : Int) := by
  by_cases h : a ≤ b
  · rw [if_pos (by omega), Nat.min_eq_left h]
  · rw [if_neg (by omega), Nat.min_eq_right (by omega)]
set_option maxRecDepth 100000 in
set_option maxHeartbeats 6400000 in
theorem pairs_any (w : World) (A : Option Addr) (n c : Nat) (L : List Opn) (hl : L.length = n) (hn : n ≤ 20) (hA : Reads w (fun _ => True) 3 A n (L.flatMap opC)) :
    Calls Tryz.prog 27 #[.slice A n c] w fun e w' => ∃ v1 v2 : Value, e = .returned (.tuple #[v1, v2]) ∧ w'.ownsRow (w.heap.size) 88 2 v1 (prs L).length ((prs L).flatMap twoC) ∧ w'.ownsRow (w.heap.size) 3 1 v2 (rst L n).length ((rst L n).map nI) ∧ Below w.heap.size w w' := by
  have HL := Lib.hid hl
  have HN := Lib.hid hn
  have HA := Lib.hid hA
  have hn6 : (n : Int) ≤ 20 := by omega
  have hmm := @run_makeMap Tryz.prog
  have KF := Lib.hid (firsts_any w A n c L hl hn hA)
  clear hl hn hA
  go_enter Tryz.func27, Tryz.ntmps27
  go_wp2_with fail
  refine KF.out.mono ?_
  rintro e w1 ⟨v1, v2, rfl, h1, h2, hb⟩
  obtain ⟨A1, c1, rfl, -, -, hR1⟩ := own_reads (S := fun _ => True) h1 (fun _ _ => trivial)
  obtain ⟨A2, c2, rfl, -, -, hR2⟩ := own_reads (S := fun _ => True) h2 (fun _ _ => trivial)
  have PL := Lib.hid (prs_len L)
  have KL := Lib.hid (And.intro (fl_len true L n) (fl_len false L n))
  rw [HL.out] at PL
  obtain ⟨k1, hk1⟩ : ∃ k, k = (fl true L n).length := ⟨_, rfl⟩
  obtain ⟨k2, hk2⟩ : ∃ k, k = (fl false L n).length := ⟨_, rfl⟩
  rw [← hk1, ← hk2] at PL KL
  rw [← hk1] at hR1
  rw [← hk2] at hR2
  rw [← hk1, ← hk2]
  have hm6 := min_case k1 k2
  obtain ⟨m, hm⟩ : ∃ m, m = min k1 k2 := ⟨_, rfl⟩
  rw [← hm] at PL hm6
  have HM := Lib.hid (show m ≤ k1 ∧ m ≤ k2 from by rw [hm]; exact ⟨Nat.min_le_left _ _, Nat.min_le_right _ _⟩)
  have hm7 : (m : Int) ≤ 20 := by have := HM.out; have := KL.out; omega
  obtain ⟨mb, hmb⟩ : ∃ b, b = w1.heap.size := ⟨_, rfl⟩
  obtain ⟨W3, hW3⟩ : ∃ W, W = w1.alloc (.map #[] 0) := ⟨_, rfl⟩
  have b3 : Below w1.heap.size w1 W3 := by rw [hW3]; exact below_alloc _ _
  have M3 := Lib.hid (show IntMap W3 mb (prF L 0) from by rw [hW3, pr_zero, hmb]; exact IntMap.made w1)
  have Z3 := Lib.hid (show W3.heap.size = mb + 1 from by rw [hW3, World.size_alloc, hmb])
  have B3 := Lib.hid (show Below w.heap.size w W3 from hb.trans (b3.mono hb.size))
  have MB := Lib.hid (show w.heap.size ≤ mb from by rw [hmb]; exact hb.size)
  have LE := Lib.hid (show ∀ b, b < w1.heap.size → b < mb from fun b h => by rw [hmb]; exact h)
  have R1 := Lib.hid (And.intro hR1 (fun (W : World) (h : KX (fun b => b = mb ∨ mb + 1 ≤ b) W3 W) (b : Nat) (hb : b < w1.heap.size) => (h.block b (Nat.lt_of_lt_of_le hb b3.size) (fun hx => by have := LE.out b hb; omega)).trans (b3.block b hb)))
  have R2 := Lib.hid hR2
  clear h1 h2 hb hR1 hR2 hk1 hk2 hm b3 KF
  go_upto_region 3 with fail
  rw [← hW3, ← hmb]
  clear hW3 hmm hmb
  go_wp2_with fail
  try simp only [hm6]
  go_loopw [7, 22] (fun v7 v22 wr => ∃ j : Nat, v22 = .int .i64 j ∧ j ≤ m ∧ IntMap wr mb (prF L j) ∧ wr.ownsRow (mb + 1) 88 2 v7 ((prs L).take j).length (((prs L).take j).flatMap twoC) ∧ KX (fun b => b = mb ∨ mb + 1 ≤ b) W3 wr) (fun _ v22 _ => m - (intOf v22).toNat)
  case atStart => exact ⟨0, rfl, Nat.zero_le _, M3.out, World.ownsRow_nil _ _ _ _, KX.refl _ _⟩
  case round =>
    clear M3
    obtain ⟨j, rfl, hj, hm, ho7, hkx⟩ := hrel
    have O7 := Lib.hid ho7
    have MM := Lib.hid hm
    have KK := Lib.hid hkx
    have LJ := Lib.hid hj
    clear hm ho7 hkx hj
    by_cases hlt : j < m
    · have hi2 : (j : Int) < (m : Int) := by omega
      have hi3 : (j : Int) < (k1 : Int) := by have := HM.out; omega
      have hi4 : (j : Int) < (k2 : Int) := by have := HM.out; omega
      obtain ⟨p, hp⟩ : ∃ p, (prs L)[j]? = some p := ⟨_, List.getElem?_eq_getElem (by have := PL.out; omega)⟩
      have hp2 : (fl true L n)[j]? = some p.1 ∧ (fl false L n)[j]? = some p.2 := by
        have := hp
        unfold prs at this
        rw [HL.out, List.getElem?_zip_eq_some] at this
        exact this
      obtain ⟨b1, q1, rfl, hb1, d1⟩ := nat_cell R1.out.1 (by omega) hp2.1
      obtain ⟨b2, q2, rfl, hb2, d2⟩ := nat_cell R2.out (by omega) hp2.2
      have HP := Lib.hid hp
      have HLT := Lib.hid hlt
      have DC := Lib.hid (show ∀ W, KX (fun b => b = mb ∨ mb + 1 ≤ b) W3 W → (fun W => W.cell? ⟨b1, q1 + j, none⟩ = some (.int .i64 p.1) ∧ W.cell? ⟨b2, q2 + j, none⟩ = some (.int .i64 p.2)) W from fun W h => ⟨(World.cell?_of_block (a := ⟨b1, q1 + j, none⟩) (R1.out.2 W h b1 hb1)).trans d1, (World.cell?_of_block (a := ⟨b2, q2 + j, none⟩) (R1.out.2 W h b2 hb2)).trans d2⟩)
      clear hp hp2 hb1 hb2 d1 d2 hlt
      go_upto_region 7 with fail
      have KD : KX (fun b => b = mb ∨ mb + 1 ≤ b) wr wr.drew := ⟨rfl, rfl, rfl, Nat.le_refl _, fun _ _ _ => rfl⟩
      refine wp_region_held_drew (S := (fun W => W.cell? ⟨b1, q1 + j, none⟩ = some (.int .i64 p.1) ∧ W.cell? ⟨b2, q2 + j, none⟩ = some (.int .i64 p.2))) (by kernel_rfl) (DC.out _ (KK.out.trans KD)) (fun hHeld => ?_)
      have SW := Lib.hid hHeld
      have KQ := Lib.hid (KK.out.trans KD)
      have OQ := Lib.hid (show wr.drew.ownsRow (mb + 1) 88 2 u7 ((prs L).take j).length (((prs L).take j).flatMap twoC) from O7.out)
      have MQ := Lib.hid (show IntMap wr.drew mb (prF L j) from MM.out)
      clear hHeld KD KK O7 MM
      generalize wr.drew = wq at *
      refine wpAnyH_take (i := 0) (oi := ⟨some 25, _, _, _, _, _⟩) (v := u7) rfl (by kernel_rfl) (by kernel_rfl) (by kernel_rfl) (fun _ _ _ h => h) (Or.inl ⟨by rfl, ?_⟩) SW.out ?_
      · intro W' hW
        go_simp
      try simp only [Act.put, List.setIfInBounds_toArray, List.set_cons_zero, List.set_cons_succ]
      refine wpAnyH_take (i := 1) (oi := ⟨some 26, _, _, _, _, _⟩) (v := .slice (some ⟨b1, q1, none⟩) k1 c1) rfl (by kernel_rfl) (by kernel_rfl) (by kernel_rfl) (fun _ _ _ h => h) (Or.inl ⟨by rfl, ?_⟩) SW.out ?_
      · intro W' hW
        go_simp
      try simp only [Act.put, List.setIfInBounds_toArray, List.set_cons_zero, List.set_cons_succ]
      refine wpAnyH_take (i := 2) (oi := ⟨some 27, _, _, _, _, _⟩) (v := .int .i64 j) rfl (by kernel_rfl) (by kernel_rfl) (by kernel_rfl) (fun _ _ _ h => h) (Or.inl ⟨by rfl, ?_⟩) SW.out ?_
      · intro W' hW
        go_simp
      try simp only [Act.put, List.setIfInBounds_toArray, List.set_cons_zero, List.set_cons_succ]
      refine wpAnyH_take (i := 3) (oi := ⟨some 28, _, _, _, _, _⟩) (v := .pointer (some ⟨b1, q1 + j, none⟩)) rfl (by kernel_rfl) (by kernel_rfl) (by kernel_rfl) (fun _ _ _ h => h) (Or.inl ⟨by rfl, ?_⟩) SW.out ?_
      · intro W' hW
        go_simp
      try simp only [Act.put, List.setIfInBounds_toArray, List.set_cons_zero, List.set_cons_succ]
      refine wpAnyH_take (i := 4) (oi := ⟨some 29, _, _, _, _, _⟩) (v := .int .i64 p.1) rfl (by kernel_rfl) (by kernel_rfl) (by kernel_rfl) (fun _ _ _ h => h) (Or.inl ⟨by rfl, ?_⟩) SW.out ?_
      · intro W' hW
        have c9 := hW.1
        go_simp
      try simp only [Act.put, List.setIfInBounds_toArray, List.set_cons_zero, List.set_cons_succ]
      refine wpAnyH_take (i := 5) (oi := ⟨some 30, _, _, _, _, _⟩) (v := .slice (some ⟨b2, q2, none⟩) k2 c2) rfl (by kernel_rfl) (by kernel_rfl) (by kernel_rfl) (fun _ _ _ h => h) (Or.inl ⟨by rfl, ?_⟩) SW.out ?_
      · intro W' hW
        go_simp
      try simp only [Act.put, List.setIfInBounds_toArray, List.set_cons_zero, List.set_cons_succ]
      refine wpAnyH_take (i := 6) (oi := ⟨some 31, _, _, _, _, _⟩) (v := .int .i64 j) rfl (by kernel_rfl) (by kernel_rfl) (by kernel_rfl) (fun _ _ _ h => h) (Or.inl ⟨by rfl, ?_⟩) SW.out ?_
      · intro W' hW
        go_simp
      try simp only [Act.put, List.setIfInBounds_toArray, List.set_cons_zero, List.set_cons_succ]
      refine wpAnyH_take (i := 7) (oi := ⟨some 32, _, _, _, _, _⟩) (v := .pointer (some ⟨b2, q2 + j, none⟩)) rfl (by kernel_rfl) (by kernel_rfl) (by kernel_rfl) (fun _ _ _ h => h) (Or.inl ⟨by rfl, ?_⟩) SW.out ?_
      · intro W' hW
        go_simp
      try simp only [Act.put, List.setIfInBounds_toArray, List.set_cons_zero, List.set_cons_succ]
      refine wpAnyH_take (i := 8) (oi := ⟨some 33, _, _, _, _, _⟩) (v := .int .i64 p.2) rfl (by kernel_rfl) (by kernel_rfl) (by kernel_rfl) (fun _ _ _ h => h) (Or.inl ⟨by rfl, ?_⟩) SW.out ?_
      · intro W' hW
        have c9 := hW.2
        go_simp
      try simp only [Act.put, List.setIfInBounds_toArray, List.set_cons_zero, List.set_cons_succ]
      refine wpAnyH_take (i := 9) (oi := ⟨some 34, _, _, _, _, _⟩) (v := .agg #[.int .i64 p.1, .int .i64 p.2]) rfl (by kernel_rfl) (by kernel_rfl) (by kernel_rfl) (fun _ _ _ h => h) (Or.inl ⟨by rfl, ?_⟩) SW.out ?_
      · intro W' hW
        go_simp
      try simp only [Act.put, List.setIfInBounds_toArray, List.set_cons_zero, List.set_cons_succ]
      refine wpAnyH_ready (rs := [10]) (by kernel_rfl) (by simp) ?_
      refine AllReadyH.cons (o := ⟨some 35, _, _, _, _, _⟩) rfl (fun K hK => ?_) AllReadyH.nil
      go_simp
      obtain ⟨A7, c7, w5, run, ho5, hk5, ow5⟩ := app_two OQ.out (by rw [List.length_take]; have := HM.out; have := KL.out; have := HN.out; omega) (by have := KQ.out.size; have := Z3.out; omega) p 84
      have TK := Lib.hid (show (prs L).take (j + 1) = (prs L).take j ++ [p] from by rw [List.take_add_one, HP.out]; rfl)
      have O5 := Lib.hid (show w5.ownsRow (mb + 1) 88 2 (.slice A7 (((prs L).take j).length + 1) c7) ((prs L).take (j + 1)).length (((prs L).take (j + 1)).flatMap twoC) from by rw [TK.out]; exact ho5)
      have K5 := Lib.hid (KQ.out.trans (hk5.mono fun b _ h => .inr (OQ.out.lt b h).1))
      have M5 := Lib.hid (MQ.out.keep (hk5.block _ MQ.out.lt (fun h => by have := (OQ.out.lt mb h).1; omega)))
      have KAL := Lib.hid (KQ.out.trans (KX.of_below (below_alloc wq (.cells #[.int .i64 p.1, .int .i64 p.2] 88))))
      obtain ⟨dl, hdl⟩ : ∃ z, z = ((prs L).take j).length + 1 := ⟨_, rfl⟩
      rw [← hdl] at run O5
      have RUN := Lib.hid run
      clear hdl ho5 hk5 ow5 OQ KQ MQ run TK
      refine hK.out _ _ (DC.out _ KAL.out) (fun hHeld => ?_)
      clear hK hHeld
      try simp only [Act.put, List.setIfInBounds_toArray, List.set_cons_zero, List.set_cons_succ]
      refine wpAnyH_ready (rs := [11]) (by kernel_rfl) (by simp) ?_
      refine AllReadyH.cons (o := ⟨some 36, _, _, _, _, _⟩) rfl (fun K hK => ?_) AllReadyH.nil
      refine step_app (.tmp 25) (.tmp 35) 84 rfl u7 _ _ w5 rfl rfl RUN.out ?_
      refine hK.out _ _ (DC.out _ K5.out) (fun hHeld => ?_)
      clear hK hHeld
      try simp only [Act.put, List.setIfInBounds_toArray, List.set_cons_zero, List.set_cons_succ]
      refine wpAnyH_ready (rs := [12]) (by kernel_rfl) (by simp) ?_
      refine AllReadyH.cons (o := ⟨some 7, _, _, _, _, _⟩) rfl (fun K hK => ?_) AllReadyH.nil
      go_simp
      refine hK.out _ _ (DC.out _ K5.out) (fun hHeld => ?_)
      clear hK hHeld
      try simp only [Act.put, List.setIfInBounds_toArray, List.set_cons_zero, List.set_cons_succ]
      refine wpAnyH_done (by kernel_rfl) ?_ _
      clear SW RUN KAL
      go_upto_region 8 with fail
      have KD : KX (fun b => b = mb ∨ mb + 1 ≤ b) w5 w5.drew := ⟨rfl, rfl, rfl, Nat.le_refl _, fun _ _ _ => rfl⟩
      refine wp_region_held_drew (S := (fun W => W.cell? ⟨b1, q1 + j, none⟩ = some (.int .i64 p.1) ∧ W.cell? ⟨b2, q2 + j, none⟩ = some (.int .i64 p.2))) (by kernel_rfl) (DC.out _ (K5.out.trans KD)) (fun hHeld => ?_)
      have SW := Lib.hid hHeld
      have KQ := Lib.hid (K5.out.trans KD)
      have OQ := Lib.hid (show w5.drew.ownsRow (mb + 1) 88 2 (.slice A7 dl c7) ((prs L).take (j + 1)).length (((prs L).take (j + 1)).flatMap twoC) from by have := O5.out; exact this)
      have MQ := Lib.hid (show IntMap w5.drew mb (prF L j) from M5.out)
      clear hHeld KD K5 O5 M5
      generalize w5.drew = wq at *
      refine wpAnyH_take (i := 0) (oi := ⟨some 37, _, _, _, _, _⟩) (v := .map (some mb)) rfl (by kernel_rfl) (by kernel_rfl) (by kernel_rfl) (fun _ _ _ h => h) (Or.inl ⟨by rfl, ?_⟩) SW.out ?_
      · intro W' hW
        go_simp
      try simp only [Act.put, List.setIfInBounds_toArray, List.set_cons_zero, List.set_cons_succ]
      refine wpAnyH_take (i := 1) (oi := ⟨some 38, _, _, _, _, _⟩) (v := .slice (some ⟨b1, q1, none⟩) k1 c1) rfl (by kernel_rfl) (by kernel_rfl) (by kernel_rfl) (fun _ _ _ h => h) (Or.inl ⟨by rfl, ?_⟩) SW.out ?_
      · intro W' hW
        go_simp
      try simp only [Act.put, List.setIfInBounds_toArray, List.set_cons_zero, List.set_cons_succ]
      refine wpAnyH_take (i := 2) (oi := ⟨some 39, _, _, _, _, _⟩) (v := .int .i64 j) rfl (by kernel_rfl) (by kernel_rfl) (by kernel_rfl) (fun _ _ _ h => h) (Or.inl ⟨by rfl, ?_⟩) SW.out ?_
      · intro W' hW
        go_simp
      try simp only [Act.put, List.setIfInBounds_toArray, List.set_cons_zero, List.set_cons_succ]
      refine wpAnyH_take (i := 3) (oi := ⟨some 40, _, _, _, _, _⟩) (v := .pointer (some ⟨b1, q1 + j, none⟩)) rfl (by kernel_rfl) (by kernel_rfl) (by kernel_rfl) (fun _ _ _ h => h) (Or.inl ⟨by rfl, ?_⟩) SW.out ?_
      · intro W' hW
        go_simp
      try simp only [Act.put, List.setIfInBounds_toArray, List.set_cons_zero, List.set_cons_succ]
      refine wpAnyH_take (i := 4) (oi := ⟨some 41, _, _, _, _, _⟩) (v := .int .i64 p.1) rfl (by kernel_rfl) (by kernel_rfl) (by kernel_rfl) (fun _ _ _ h => h) (Or.inl ⟨by rfl, ?_⟩) SW.out ?_
      · intro W' hW
        have c9 := hW.1
        go_simp
      try simp only [Act.put, List.setIfInBounds_toArray, List.set_cons_zero, List.set_cons_succ]
      refine wpAnyH_take (i := 5) (oi := ⟨some 42, _, _, _, _, _⟩) (v := .map (some mb)) rfl (by kernel_rfl) (by kernel_rfl) (by kernel_rfl) (fun _ _ _ h => h) (Or.inl ⟨by rfl, ?_⟩) SW.out ?_
      · intro W' hW
        go_simp
      try simp only [Act.put, List.setIfInBounds_toArray, List.set_cons_zero, List.set_cons_succ]
      refine wpAnyH_take (i := 6) (oi := ⟨some 43, _, _, _, _, _⟩) (v := .slice (some ⟨b2, q2, none⟩) k2 c2) rfl (by kernel_rfl) (by kernel_rfl) (by kernel_rfl) (fun _ _ _ h => h) (Or.inl ⟨by rfl, ?_⟩) SW.out ?_
      · intro W' hW
        go_simp
      try simp only [Act.put, List.setIfInBounds_toArray, List.set_cons_zero, List.set_cons_succ]
      refine wpAnyH_take (i := 7) (oi := ⟨some 44, _, _, _, _, _⟩) (v := .int .i64 j) rfl (by kernel_rfl) (by kernel_rfl) (by kernel_rfl) (fun _ _ _ h => h) (Or.inl ⟨by rfl, ?_⟩) SW.out ?_
      · intro W' hW
        go_simp
      try simp only [Act.put, List.setIfInBounds_toArray, List.set_cons_zero, List.set_cons_succ]
      refine wpAnyH_take (i := 8) (oi := ⟨some 45, _, _, _, _, _⟩) (v := .pointer (some ⟨b2, q2 + j, none⟩)) rfl (by kernel_rfl) (by kernel_rfl) (by kernel_rfl) (fun _ _ _ h => h) (Or.inl ⟨by rfl, ?_⟩) SW.out ?_
      · intro W' hW
        go_simp
      try simp only [Act.put, List.setIfInBounds_toArray, List.set_cons_zero, List.set_cons_succ]
      refine wpAnyH_take (i := 9) (oi := ⟨some 46, _, _, _, _, _⟩) (v := .int .i64 p.2) rfl (by kernel_rfl) (by kernel_rfl) (by kernel_rfl) (fun _ _ _ h => h) (Or.inl ⟨by rfl, ?_⟩) SW.out ?_
      · intro W' hW
        have c9 := hW.2
        go_simp
      try simp only [Act.put, List.setIfInBounds_toArray, List.set_cons_zero, List.set_cons_succ]
      obtain ⟨w6, v01, st1, run1, hg1, hz1, hst1⟩ := IntMap.entry MQ.out Tryz.underlying140 Tryz.underlying3 bool_zero p.1 (.bool true)
      have hk1 : KX (fun b => b = mb) wq w6 := KX.of_grown hg1 (fun k e => (Option.some.inj e).symm)
      have KB1 := Lib.hid (KQ.out.trans (hk1.mono fun b _ h => .inl h))
      obtain ⟨w7, run1b, hm1, hgb1, hzb1⟩ := hst1 w6 rfl
      have hkb1 : KX (fun b => b = mb) w6 w7 := KX.of_grown hgb1 (fun k e => (Option.some.inj e).symm)
      have K7 := Lib.hid (KB1.out.trans (hkb1.mono fun b _ h => .inl h))
      have M7 := Lib.hid hm1
      have O7 := Lib.hid (own_kx OQ.out (hk1.trans hkb1) (fun b h e => by have := (OQ.out.lt b h).1; omega))
      have RUN1 := Lib.hid run1
      have RUN1B := Lib.hid run1b
      clear run1 run1b hg1 hz1 hst1 hk1 hm1 hgb1 hzb1 hkb1 OQ MQ
      refine wpAnyH_ready (rs := [10]) (by kernel_rfl) (by simp) ?_
      refine AllReadyH.cons (o := ⟨some 47, _, _, _, _, _⟩) rfl (fun K hK => ?_) AllReadyH.nil
      refine step_entry (.tmp 37) (.tmp 41) rfl rfl rfl RUN1.out ?_
      refine hK.out _ _ (DC.out _ KB1.out) (fun hHeld => ?_)
      clear hK hHeld
      try simp only [Act.put, List.setIfInBounds_toArray, List.set_cons_zero, List.set_cons_succ]
      refine wpAnyH_take (i := 11) (oi := ⟨some 48, _, _, _, _, _⟩) (v := .int .i64 st1) rfl (by kernel_rfl) (by kernel_rfl) (by kernel_rfl) (fun _ _ _ h => h) (Or.inl ⟨by rfl, ?_⟩) (DC.out _ KB1.out) ?_
      · intro W' hW
        go_simp
      try simp only [Act.put, List.setIfInBounds_toArray, List.set_cons_zero, List.set_cons_succ]
      refine wpAnyH_ready (rs := [12]) (by kernel_rfl) (by simp) ?_
      refine AllReadyH.cons (o := ⟨none, _, _, _, _, _⟩) rfl (fun K hK => ?_) AllReadyH.nil
      refine step_store (.tmp 37) (.tmp 48) (.const (.bool true)) rfl rfl rfl rfl RUN1B.out ?_
      refine hK.out _ _ (DC.out _ K7.out) (fun hHeld => ?_)
      clear hK hHeld
      try simp only [Act.put, List.setIfInBounds_toArray, List.set_cons_zero, List.set_cons_succ]
      obtain ⟨w8, v02, st2, run2, hg2, hz2, hst2⟩ := IntMap.entry M7.out Tryz.underlying140 Tryz.underlying3 bool_zero p.2 (.bool true)
      have hk2 : KX (fun b => b = mb) w7 w8 := KX.of_grown hg2 (fun k e => (Option.some.inj e).symm)
      have KB2 := Lib.hid (K7.out.trans (hk2.mono fun b _ h => .inl h))
      obtain ⟨w9, run2b, hm2, hgb2, hzb2⟩ := hst2 w8 rfl
      have hkb2 : KX (fun b => b = mb) w8 w9 := KX.of_grown hgb2 (fun k e => (Option.some.inj e).symm)
      have K9 := Lib.hid (KB2.out.trans (hkb2.mono fun b _ h => .inl h))
      have M9 := Lib.hid hm2
      have O9 := Lib.hid (own_kx O7.out (hk2.trans hkb2) (fun b h e => by have := (O7.out.lt b h).1; omega))
      have RUN2 := Lib.hid run2
      have RUN2B := Lib.hid run2b
      clear run2 run2b hg2 hz2 hst2 hk2 hm2 hgb2 hzb2 hkb2 O7 M7
      refine wpAnyH_ready (rs := [13]) (by kernel_rfl) (by simp) ?_
      refine AllReadyH.cons (o := ⟨some 49, _, _, _, _, _⟩) rfl (fun K hK => ?_) AllReadyH.nil
      refine step_entry (.tmp 42) (.tmp 46) rfl rfl rfl RUN2.out ?_
      refine hK.out _ _ (DC.out _ KB2.out) (fun hHeld => ?_)
      clear hK hHeld
      try simp only [Act.put, List.setIfInBounds_toArray, List.set_cons_zero, List.set_cons_succ]
      refine wpAnyH_take (i := 14) (oi := ⟨some 50, _, _, _, _, _⟩) (v := .int .i64 st2) rfl (by kernel_rfl) (by kernel_rfl) (by kernel_rfl) (fun _ _ _ h => h) (Or.inl ⟨by rfl, ?_⟩) (DC.out _ KB2.out) ?_
      · intro W' hW
        go_simp
      try simp only [Act.put, List.setIfInBounds_toArray, List.set_cons_zero, List.set_cons_succ]
      refine wpAnyH_ready (rs := [15]) (by kernel_rfl) (by simp) ?_
      refine AllReadyH.cons (o := ⟨none, _, _, _, _, _⟩) rfl (fun K hK => ?_) AllReadyH.nil
      refine step_store (.tmp 42) (.tmp 50) (.const (.bool true)) rfl rfl rfl rfl RUN2B.out ?_
      refine hK.out _ _ (DC.out _ K9.out) (fun hHeld => ?_)
      clear hK hHeld
      try simp only [Act.put, List.setIfInBounds_toArray, List.set_cons_zero, List.set_cons_succ]
      refine wpAnyH_done (by kernel_rfl) ?_ _
      have M10 := Lib.hid (show IntMap w9 mb (prF L (j + 1)) from by rw [← pr_step HP.out]; exact M9.out)
      clear SW M9 KB1 KB2 RUN1 RUN2 RUN1B RUN2B
      go_wp2_with fail
      go_roundw
      case rel => exact ⟨j + 1, by go_num, HLT.out, M10.out, O9.out, K9.out⟩
      case measure =>
        have := HLT.out
        show m - ((j + 1 : Nat) : Int).toNat < m - (j : Int).toNat
        omega
    · have hi2 : ¬ (j : Int) < (m : Int) := by omega
      obtain ⟨AP, cP, rfl, -, -, -⟩ := own_reads (S := fun _ => True) O7.out (fun _ _ => trivial)
      obtain rfl : j = m := by have := LJ.out; omega
      have TK := Lib.hid (show (prs L).take j = prs L from List.take_of_length_le (by have := PL.out; omega))
      have O4 := Lib.hid (show wr.ownsRow (w.heap.size) 88 2 (.slice AP ((prs L).take j).length cP) (prs L).length ((prs L).flatMap twoC) from own_base (by have := O7.out; rw [TK.out] at this ⊢; exact this) (by have := MB.out; omega))
      obtain ⟨dl, hdl⟩ : ∃ z, z = ((prs L).take j).length := ⟨_, rfl⟩
      rw [← hdl] at O4
      have M4 := Lib.hid (show IntMap wr mb (prF L (prs L).length) from by rw [PL.out]; exact MM.out)
      have B4 := Lib.hid (show Below w.heap.size w wr from B3.out.trans (KK.out.below B3.out.size (fun b hb h => by have := MB.out; omega)))
      clear O7 MM KK TK R1 R2 B3
      rw [← hdl]
      clear hdl
      generalize wr = w4 at *
      go_wp2_with fail
      go_loopw [9, 54] (fun v9 v54 wr => ∃ j : Nat, v54 = .int .i64 j ∧ j ≤ n ∧ wr.ownsRow (w4.heap.size) 3 1 v9 (rst L j).length ((rst L j).map nI) ∧ Below w4.heap.size w4 wr) (fun _ v54 _ => n - (intOf v54).toNat)
      case atStart => exact ⟨0, rfl, Nat.zero_le _, World.ownsRow_nil _ _ _ _, Below.refl _ _⟩
      case round =>
        obtain ⟨i, rfl, hi, ho9, hb9⟩ := hrel
        have O9 := Lib.hid ho9
        have B9 := Lib.hid hb9
        have LI := Lib.hid hi
        clear ho9 hb9 hi
        by_cases hlt : i < n
        · have hi3 : (i : Int) < (n : Int) := by omega
          have HLT := Lib.hid hlt
          have M9 := Lib.hid (M4.out.below B9.out)
          have PG := Lib.hid (pr_get L i)
          clear hlt
          cases hP : inP L i with
          | true =>
            rw [hP] at PG
            have RS := Lib.hid (show rst L (i + 1) = rst L i from by rw [rst_step, hP]; rfl)
            clear hP
            go_wp2_with (at_lookup; refine look_val rfl _ _ 140 rfl 3 4 Tryz.underlying140 Tryz.underlying3 (.bool false) bool_zero mb _ M9.out rfl i rfl (.bool true) PG.out ?_)
            have O9' := Lib.hid (show wr.ownsRow (w4.heap.size) 3 1 u9 (rst L (i + 1)).length ((rst L (i + 1)).map nI) from by rw [RS.out]; exact O9.out)
            go_roundw
            case rel => exact ⟨i + 1, by go_num, HLT.out, O9'.out, B9.out⟩
            case measure =>
              have := HLT.out
              show n - ((i + 1 : Nat) : Int).toNat < n - (i : Int).toNat
              omega
          | false =>
            rw [hP] at PG
            have RS := Lib.hid (show rst L (i + 1) = rst L i ++ [i] from by rw [rst_step, hP]; rfl)
            clear hP
            obtain ⟨A9, c9, w5, run, ho5, hk5, ow5⟩ := app_int O9.out (by have := rst_len L i; have := HLT.out; have := HN.out; omega) B9.out.size i 85
            have O5 := Lib.hid (show w5.ownsRow (w4.heap.size) 3 1 (.slice A9 ((rst L i).length + 1) c9) (rst L (i + 1)).length ((rst L (i + 1)).map nI) from by rw [RS.out]; exact ho5)
            have B5 := Lib.hid (B9.out.trans (hk5.below B9.out.size (fun b hb e => by have := (O9.out.lt b e).1; omega)))
            obtain ⟨d9, hd9⟩ : ∃ z, z = (rst L i).length + 1 := ⟨_, rfl⟩
            rw [← hd9] at run O5
            clear hd9 ho5 hk5 ow5 RS
            go_upto_region 15 with (at_lookup; refine look_val rfl _ _ 140 rfl 3 4 Tryz.underlying140 Tryz.underlying3 (.bool false) bool_zero mb _ M9.out rfl i rfl (.bool false) PG.out ?_)
            go_wp2_with (at_builtin; refine wpList_app_run rfl _ _ 85 rfl u9 _ _ w5 rfl rfl run ?_)
            go_roundw
            case rel => exact ⟨i + 1, by go_num, HLT.out, O5.out, B5.out⟩
            case measure =>
              have := HLT.out
              show n - ((i + 1 : Nat) : Int).toNat < n - (i : Int).toNat
              omega
        · have hi3 : ¬ (i : Int) < (n : Int) := by omega
          obtain rfl : i = n := by have := LI.out; omega
          have OB := Lib.hid (own_base O9.out B4.out.size)
          go_wp2_with fail
          go_ret2
          exact ⟨_, _, rfl, own_kx O4.out (KX.of_below (X := fun _ => False) B9.out) (fun _ _ h => h), OB.out, B4.out.trans (B9.out.mono B4.out.size)⟩
end Go.Proofs.YtkloaopjlbinpaaGreat
