/- The walk of slices' symMerge over entries, where the right block has one element. Conditions: at most 1000 entries. -/
import Derived.Test.YtilapnejkdgomaaDoorSrtV
set_option linter.unusedVariables false
set_option linter.unusedSimpArgs false
namespace Go.Proofs.YtilapnejkdgomaaDoor
open Go.RowKit


set_option maxRecDepth 100000 in
set_option maxHeartbeats 12800000 in
theorem sym_right (g n c : Nat) (X : List Ent) (u : Ent) (h2X : X.length ≠ 1) (h0X : 0 < X.length) : SymC g n c X [u] := by
  intro a m b P Q w hAX hAY hP hX hY hn h1 hE
  have HE0 := Lib.hid hE
  have HPL := Lib.hid hP
  have HAX := Lib.hid hAX
  have hb : b = m + 1 := by rw [← hY]; rfl
  have HXL := Lib.hid hX
  have hmi : ¬ (m : Int) - (a : Int) = 1 := by omega
  have hmib : ((m : Int) - (a : Int) == 1) = false := beq_eq_false_iff_ne.2 hmi
  have hbi : (b : Int) - (m : Int) = 1 := by omega
  have hbib : ((b : Int) - (m : Int) == 1) = true := beq_iff_eq.2 hbi
  have hmb : (m : Int) ≤ (b : Int) := by omega
  have hbn : (b : Int) ≤ (n : Int) := by omega
  have hnn : (n : Int) ≤ 1000 := by omega
  have ham : (a : Int) < (m : Int) := by omega
  have hmn : (m : Int) < (n : Int) := by omega
  have HMN := Lib.hid (show m < n by omega)
  have HU := Lib.hid (show (P ++ (X ++ (u :: Q)))[m]? = some u by rw [List.getElem?_append_right (by omega), List.getElem?_append_right (by omega), show m - P.length - X.length = 0 by omega]; rfl)
  have HXI := Lib.hid (show ∀ t (ht : t < X.length), (P ++ (X ++ (u :: Q)))[a + t]? = some X[t] from fun t ht => by
    rw [List.getElem?_append_right (by omega), show a + t - P.length = t by omega, List.getElem?_append_left ht, List.getElem?_eq_getElem ht])
  obtain ⟨D, hD⟩ : ∃ D, D = P ++ (X ++ (u :: Q)) := ⟨_, rfl⟩
  have HD := Lib.hid hD
  rw [show P ++ (X ++ ([u] ++ Q)) = D from hD.symm] at HE0
  rw [← hD] at HU HXI
  clear hE hP hAX hAY hX hY hn h1 hb hD h2X h0X
  go_enter Tryd.func72, Tryd.ntmps72
  go_wp2
  go_loopw [14, 15] (fun ii jj wr => ∃ (p q : Nat), p ≤ q ∧ q ≤ X.length ∧ ii = .int .i64 ((a + p : Nat) : Int) ∧ jj = .int .i64 ((a + q : Nat) : Int) ∧ Hid (∀ v, 0 < p → X[p - 1]? = some v → v.loc ≤ u.loc) ∧ Hid (∀ v, X[q]? = some v → u.loc < v.loc) ∧ Hid (ER wr g D) ∧ Hid (Keep (fun k => k = g) w wr)) (fun ii jj _ => (intOf jj).toNat - (intOf ii).toNat)
  case atStart => exact ⟨0, X.length, by omega, Nat.le_refl _, by simp, by rw [HXL.out], Lib.hid (fun v h => absurd h (by omega)), Lib.hid (fun v h => by rw [List.getElem?_eq_none (Nat.le_refl _)] at h; cases h), HE0, Lib.hid Keep.refl⟩
  case round =>
    clear HE0
    obtain ⟨p, q, hpq, hqY, rfl, rfl, HLO, HHI, HE, HK⟩ := hrel
    have HPQ := Lib.hid (And.intro hpq hqY)
    have hqb : a + q ≤ m := by have := HXL.out; omega
    by_cases hlt : p < q
    · skip
      obtain ⟨i, hi⟩ : ∃ i, i = a + p := ⟨_, rfl⟩
      obtain ⟨j, hj⟩ : ∃ j, j = a + q := ⟨_, rfl⟩
      obtain ⟨h, hh⟩ : ∃ h, h = (i + j) / 2 := ⟨_, rfl⟩
      have hmid := mid_eq i j h hh
      have hht : h - a < X.length := by omega
      have HX := Lib.hid (HXI.out (h - a) hht)
      rw [show a + (h - a) = h by omega] at HX
      have HIJ := Lib.hid (show i = a + p ∧ j = a + q ∧ i ≤ h ∧ h < j ∧ p < q by omega)
      have HXG := Lib.hid (show X[h - a]? = some X[h - a] from List.getElem?_eq_getElem hht)
      rw [← hi, ← hj]
      have hij : (i : Int) < (j : Int) := by omega
      have hjn : (j : Int) ≤ (n : Int) := by omega
      have hhn : (h : Int) < (n : Int) := by omega
      have hsum : (i : Int) + (j : Int) ≤ 2000 := by omega
      clear hi hj hh hpq hqY hqb hlt
      generalize X[h - a] = x at *
      clear hht
      by_cases hc : u.loc < x.loc
      · skip
        have hcn := (cmpI_neg u.loc x.loc).2 hc
        have hcd : decide (cmpI u.loc x.loc < 0) = true := decide_eq_true hcn
        have HH2 := Lib.hid (show ∀ v, X[h - a]? = some v → u.loc < v.loc from fun v hv => by
          rw [HXG.out] at hv; injection hv with hv; subst hv; exact hc)
        clear hc
        go_wp2_with fail
        refine wp_region_held_drew (S := fun W => ER W g D) (by kernel_rfl) (HE.out.drew) (fun hHeld => ?_)
        have Ec0 := Lib.hid (HE.out.drew)
        have Kc0 := Lib.hid (HK.out.drew)
        clear hHeld
        generalize wr.drew = vc0 at *
        refine wpAnyH_take (i := 0) (oi := ⟨some 92, _, _, _, _, _⟩) (v := .func (.func 37) #[] #[]) rfl (by kernel_rfl) (by kernel_rfl) (by kernel_rfl) (fun _ _ _ h => h) (Or.inl ⟨by rfl, ?_⟩) Ec0.out ?_
        · intro W' hW
          go_simp
        try simp only [Act.put, List.setIfInBounds_toArray, List.set_cons_zero, List.set_cons_succ]
        refine wpAnyH_take (i := 1) (oi := ⟨some 93, _, _, _, _, _⟩) (v := .slice (some ⟨g, 0, none⟩) n c) rfl (by kernel_rfl) (by kernel_rfl) (by kernel_rfl) (fun _ _ _ h => h) (Or.inl ⟨by rfl, ?_⟩) Ec0.out ?_
        · intro W' hW
          go_simp
        try simp only [Act.put, List.setIfInBounds_toArray, List.set_cons_zero, List.set_cons_succ]
        refine wpAnyH_take (i := 2) (oi := ⟨some 94, _, _, _, _, _⟩) (v := .int .i64 (m : Int)) rfl (by kernel_rfl) (by kernel_rfl) (by kernel_rfl) (fun _ _ _ h => h) (Or.inl ⟨by rfl, ?_⟩) Ec0.out ?_
        · intro W' hW
          go_simp
        try simp only [Act.put, List.setIfInBounds_toArray, List.set_cons_zero, List.set_cons_succ]
        refine wpAnyH_take (i := 3) (oi := ⟨some 95, _, _, _, _, _⟩) (v := .pointer (some ⟨g, m * 6, none⟩)) rfl (by kernel_rfl) (by kernel_rfl) (by kernel_rfl) (fun _ _ _ h => h) (Or.inl ⟨by rfl, ?_⟩) Ec0.out ?_
        · intro W' hW
          go_simp
        try simp only [Act.put, List.setIfInBounds_toArray, List.set_cons_zero, List.set_cons_succ]
        refine wpAnyH_take (i := 4) (oi := ⟨some 96, _, _, _, _, _⟩) (v := entV u) rfl (by kernel_rfl) (by kernel_rfl) (by kernel_rfl) (fun _ _ _ h => h) (yields_e (by rfl) (.tmp 95) rfl g (m) rfl (fun W hW => hW) HU.out) Ec0.out ?_
        try simp only [Act.put, List.setIfInBounds_toArray, List.set_cons_zero, List.set_cons_succ]
        refine wpAnyH_take (i := 5) (oi := ⟨some 97, _, _, _, _, _⟩) (v := .slice (some ⟨g, 0, none⟩) n c) rfl (by kernel_rfl) (by kernel_rfl) (by kernel_rfl) (fun _ _ _ h => h) (Or.inl ⟨by rfl, ?_⟩) Ec0.out ?_
        · intro W' hW
          go_simp
        try simp only [Act.put, List.setIfInBounds_toArray, List.set_cons_zero, List.set_cons_succ]
        refine wpAnyH_take (i := 6) (oi := ⟨some 98, _, _, _, _, _⟩) (v := .int .i64 (h : Int)) rfl (by kernel_rfl) (by kernel_rfl) (by kernel_rfl) (fun _ _ _ h => h) (Or.inl ⟨by rfl, ?_⟩) Ec0.out ?_
        · intro W' hW
          go_simp
        try simp only [Act.put, List.setIfInBounds_toArray, List.set_cons_zero, List.set_cons_succ]
        refine wpAnyH_take (i := 7) (oi := ⟨some 99, _, _, _, _, _⟩) (v := .pointer (some ⟨g, h * 6, none⟩)) rfl (by kernel_rfl) (by kernel_rfl) (by kernel_rfl) (fun _ _ _ h => h) (Or.inl ⟨by rfl, ?_⟩) Ec0.out ?_
        · intro W' hW
          go_simp
        try simp only [Act.put, List.setIfInBounds_toArray, List.set_cons_zero, List.set_cons_succ]
        refine wpAnyH_take (i := 8) (oi := ⟨some 100, _, _, _, _, _⟩) (v := entV x) rfl (by kernel_rfl) (by kernel_rfl) (by kernel_rfl) (fun _ _ _ h => h) (yields_e (by rfl) (.tmp 99) rfl g (h) rfl (fun W hW => hW) HX.out) Ec0.out ?_
        try simp only [Act.put, List.setIfInBounds_toArray, List.set_cons_zero, List.set_cons_succ]
        refine wpAnyH_ready (rs := [9]) (by kernel_rfl) (by simp) ?_
        refine AllReadyH.cons (o := ⟨some 101, _, _, _, _, _⟩) rfl (fun K hK => ?_) (AllReadyH.nil)
        go_simp
        refine (place_any u x vc0).mono ?_
        rintro e vc1 ⟨rfl, hb⟩
        have Ec1 := Lib.hid (Ec0.out.below hb)
        have Kc1 := Lib.hid (Kc0.out.trans (Keep.of_below hb))
        clear hb
        refine hK.out _ _ Ec1.out (fun hHeldq => ?_)
        clear hK hHeldq
        try simp only [Act.put, List.setIfInBounds_toArray, List.set_cons_zero, List.set_cons_succ]
        refine wpAnyH_take (i := 10) (oi := ⟨some 102, _, _, _, _, _⟩) (v := .bool true) rfl (by kernel_rfl) (by kernel_rfl) (by kernel_rfl) (fun _ _ _ h => h) (Or.inl ⟨by rfl, ?_⟩) Ec1.out ?_
        · intro W' hW
          go_simp
        try simp only [Act.put, List.setIfInBounds_toArray, List.set_cons_zero, List.set_cons_succ]
        refine wpAnyH_take (i := 11) (oi := ⟨some 103, _, _, _, _, _⟩) (v := .bool false) rfl (by kernel_rfl) (by kernel_rfl) (by kernel_rfl) (fun _ _ _ h => h) (Or.inl ⟨by rfl, ?_⟩) Ec1.out ?_
        · intro W' hW
          go_simp
        try simp only [Act.put, List.setIfInBounds_toArray, List.set_cons_zero, List.set_cons_succ]
        refine wpAnyH_done (by kernel_rfl) ?_ _
        go_wp2
        go_roundw
        case rel => exact ⟨p, h - a, by have := HIJ.out; omega, by have := HIJ.out; have := HPQ.out; omega, by (show Value.int .i64 _ = _; congr 1; have := HIJ.out; omega), by (show Value.int .i64 _ = _; congr 1; have := HIJ.out; omega), HLO, HH2, Ec1, Kc1⟩
        case measure => have := HIJ.out; show ((h : Int)).toNat - ((i : Int)).toNat < ((j : Int)).toNat - ((i : Int)).toNat; omega
      · skip
        have hcn : ¬ cmpI u.loc x.loc < 0 := fun h => hc ((cmpI_neg u.loc x.loc).1 h)
        have hcp : 0 ≤ cmpI u.loc x.loc := by omega
        have hcd : decide (cmpI u.loc x.loc < 0) = false := decide_eq_false hcn
        have HL2 := Lib.hid (show ∀ v, 0 < h + 1 - a → X[h + 1 - a - 1]? = some v → v.loc ≤ u.loc from fun v _ hv => by
          have := HIJ.out; rw [show h + 1 - a - 1 = h - a by omega, HXG.out] at hv; injection hv with hv; subst hv; omega)
        clear hc
        go_wp2_with fail
        refine wp_region_held_drew (S := fun W => ER W g D) (by kernel_rfl) (HE.out.drew) (fun hHeld => ?_)
        have Ec0 := Lib.hid (HE.out.drew)
        have Kc0 := Lib.hid (HK.out.drew)
        clear hHeld
        generalize wr.drew = vc0 at *
        refine wpAnyH_take (i := 0) (oi := ⟨some 92, _, _, _, _, _⟩) (v := .func (.func 37) #[] #[]) rfl (by kernel_rfl) (by kernel_rfl) (by kernel_rfl) (fun _ _ _ h => h) (Or.inl ⟨by rfl, ?_⟩) Ec0.out ?_
        · intro W' hW
          go_simp
        try simp only [Act.put, List.setIfInBounds_toArray, List.set_cons_zero, List.set_cons_succ]
        refine wpAnyH_take (i := 1) (oi := ⟨some 93, _, _, _, _, _⟩) (v := .slice (some ⟨g, 0, none⟩) n c) rfl (by kernel_rfl) (by kernel_rfl) (by kernel_rfl) (fun _ _ _ h => h) (Or.inl ⟨by rfl, ?_⟩) Ec0.out ?_
        · intro W' hW
          go_simp
        try simp only [Act.put, List.setIfInBounds_toArray, List.set_cons_zero, List.set_cons_succ]
        refine wpAnyH_take (i := 2) (oi := ⟨some 94, _, _, _, _, _⟩) (v := .int .i64 (m : Int)) rfl (by kernel_rfl) (by kernel_rfl) (by kernel_rfl) (fun _ _ _ h => h) (Or.inl ⟨by rfl, ?_⟩) Ec0.out ?_
        · intro W' hW
          go_simp
        try simp only [Act.put, List.setIfInBounds_toArray, List.set_cons_zero, List.set_cons_succ]
        refine wpAnyH_take (i := 3) (oi := ⟨some 95, _, _, _, _, _⟩) (v := .pointer (some ⟨g, m * 6, none⟩)) rfl (by kernel_rfl) (by kernel_rfl) (by kernel_rfl) (fun _ _ _ h => h) (Or.inl ⟨by rfl, ?_⟩) Ec0.out ?_
        · intro W' hW
          go_simp
        try simp only [Act.put, List.setIfInBounds_toArray, List.set_cons_zero, List.set_cons_succ]
        refine wpAnyH_take (i := 4) (oi := ⟨some 96, _, _, _, _, _⟩) (v := entV u) rfl (by kernel_rfl) (by kernel_rfl) (by kernel_rfl) (fun _ _ _ h => h) (yields_e (by rfl) (.tmp 95) rfl g (m) rfl (fun W hW => hW) HU.out) Ec0.out ?_
        try simp only [Act.put, List.setIfInBounds_toArray, List.set_cons_zero, List.set_cons_succ]
        refine wpAnyH_take (i := 5) (oi := ⟨some 97, _, _, _, _, _⟩) (v := .slice (some ⟨g, 0, none⟩) n c) rfl (by kernel_rfl) (by kernel_rfl) (by kernel_rfl) (fun _ _ _ h => h) (Or.inl ⟨by rfl, ?_⟩) Ec0.out ?_
        · intro W' hW
          go_simp
        try simp only [Act.put, List.setIfInBounds_toArray, List.set_cons_zero, List.set_cons_succ]
        refine wpAnyH_take (i := 6) (oi := ⟨some 98, _, _, _, _, _⟩) (v := .int .i64 (h : Int)) rfl (by kernel_rfl) (by kernel_rfl) (by kernel_rfl) (fun _ _ _ h => h) (Or.inl ⟨by rfl, ?_⟩) Ec0.out ?_
        · intro W' hW
          go_simp
        try simp only [Act.put, List.setIfInBounds_toArray, List.set_cons_zero, List.set_cons_succ]
        refine wpAnyH_take (i := 7) (oi := ⟨some 99, _, _, _, _, _⟩) (v := .pointer (some ⟨g, h * 6, none⟩)) rfl (by kernel_rfl) (by kernel_rfl) (by kernel_rfl) (fun _ _ _ h => h) (Or.inl ⟨by rfl, ?_⟩) Ec0.out ?_
        · intro W' hW
          go_simp
        try simp only [Act.put, List.setIfInBounds_toArray, List.set_cons_zero, List.set_cons_succ]
        refine wpAnyH_take (i := 8) (oi := ⟨some 100, _, _, _, _, _⟩) (v := entV x) rfl (by kernel_rfl) (by kernel_rfl) (by kernel_rfl) (fun _ _ _ h => h) (yields_e (by rfl) (.tmp 99) rfl g (h) rfl (fun W hW => hW) HX.out) Ec0.out ?_
        try simp only [Act.put, List.setIfInBounds_toArray, List.set_cons_zero, List.set_cons_succ]
        refine wpAnyH_ready (rs := [9]) (by kernel_rfl) (by simp) ?_
        refine AllReadyH.cons (o := ⟨some 101, _, _, _, _, _⟩) rfl (fun K hK => ?_) (AllReadyH.nil)
        go_simp
        refine (place_any u x vc0).mono ?_
        rintro e vc1 ⟨rfl, hb⟩
        have Ec1 := Lib.hid (Ec0.out.below hb)
        have Kc1 := Lib.hid (Kc0.out.trans (Keep.of_below hb))
        clear hb
        refine hK.out _ _ Ec1.out (fun hHeldq => ?_)
        clear hK hHeldq
        try simp only [Act.put, List.setIfInBounds_toArray, List.set_cons_zero, List.set_cons_succ]
        refine wpAnyH_take (i := 10) (oi := ⟨some 102, _, _, _, _, _⟩) (v := .bool false) rfl (by kernel_rfl) (by kernel_rfl) (by kernel_rfl) (fun _ _ _ h => h) (Or.inl ⟨by rfl, ?_⟩) Ec1.out ?_
        · intro W' hW
          go_simp
        try simp only [Act.put, List.setIfInBounds_toArray, List.set_cons_zero, List.set_cons_succ]
        refine wpAnyH_take (i := 11) (oi := ⟨some 103, _, _, _, _, _⟩) (v := .bool true) rfl (by kernel_rfl) (by kernel_rfl) (by kernel_rfl) (fun _ _ _ h => h) (Or.inl ⟨by rfl, ?_⟩) Ec1.out ?_
        · intro W' hW
          go_simp
        try simp only [Act.put, List.setIfInBounds_toArray, List.set_cons_zero, List.set_cons_succ]
        refine wpAnyH_done (by kernel_rfl) ?_ _
        go_wp2
        go_roundw
        case rel => exact ⟨h + 1 - a, q, by have := HIJ.out; omega, by have := HPQ.out; omega, by (show Value.int .i64 _ = _; congr 1; have := HIJ.out; omega), by (show Value.int .i64 _ = _; congr 1; have := HIJ.out; omega), HL2, HHI, Ec1, Kc1⟩
        case measure => have := HIJ.out; show ((j : Int)).toNat - ((h : Int) + 1).toNat < ((j : Int)).toNat - ((i : Int)).toNat; omega
    · skip
      obtain rfl : p = q := by omega
      have HST := Lib.hid (StS.one_right Ent.loc (u := u) (s := p) HAX.out (fun v hv => by
          by_cases h0 : 0 < p
          · rw [take_last hqY h0] at hv; exact HLO.out v h0 hv
          · rw [show p = 0 by omega, List.take_zero] at hv; cases hv) (fun v hv => by rw [drop_head] at hv; exact HHI.out v hv))
      obtain ⟨i, hi⟩ : ∃ i, i = a + p := ⟨_, rfl⟩
      have HI := Lib.hid (And.intro hi (show a + p ≤ m by omega))
      rw [← hi]
      have hii : ¬ (i : Int) < (i : Int) := by omega
      have HE3 := Lib.hid (show ER wr g (P ++ (X.take X.length ++ u :: (X.drop X.length ++ Q))) from by rw [List.take_length, List.drop_length, List.nil_append, ← HD.out]; exact HE.out)
      have hpn : (i : Int) ≤ 1000 := by omega
      clear hpq hqY hlt HE HLO HHI hqb hi
      go_wp2
      go_loopw [17] (fun kk wr => ∃ t : Nat, p ≤ t ∧ t ≤ X.length ∧ kk = .int .i64 ((a + t : Nat) : Int) ∧ Hid (ER wr g (P ++ (X.take t ++ u :: (X.drop t ++ Q)))) ∧ Hid (Keep (fun k => k = g) w wr)) (fun kk _ => (intOf kk).toNat)
      case atStart => exact ⟨X.length, HPQ.out.2, Nat.le_refl _, by rw [HXL.out], HE3, HK⟩
      case round =>
        clear HE3 HK
        obtain ⟨t1, ht, htX, rfl, HE4, HK4⟩ := hrel
        by_cases hlt : p < t1
        · skip
          obtain ⟨t, rfl⟩ : ∃ t, t1 = t + 1 := ⟨t1 - 1, by omega⟩
          obtain ⟨k, hk⟩ : ∃ k, k = a + (t + 1) := ⟨_, rfl⟩
          have htY : t < X.length := by omega
          have hdY : X.drop t = X[t] :: X.drop (t + 1) := List.drop_eq_getElem_cons htY
          have htY2 : X.take (t + 1) = X.take t ++ [X[t]] := by rw [List.take_succ_eq_append_getElem htY]
          have hs := swap_adj (P ++ X.take t) (X.drop (t + 1) ++ Q) X[t] u k (by rw [List.length_append, List.length_take]; have := HPL.out; omega)
          have hD1 : P ++ (X.take (t + 1) ++ u :: (X.drop (t + 1) ++ Q)) = (P ++ X.take t) ++ X[t] :: u :: (X.drop (t + 1) ++ Q) := by rw [htY2]; simp only [List.append_assoc, List.cons_append, List.nil_append]
          have HS6 := Lib.hid (show ∀ W, ER W g ((P ++ X.take t) ++ u :: X[t] :: (X.drop (t + 1) ++ Q)) → ER W g (P ++ (X.take t ++ u :: (X.drop t ++ Q))) from fun W h => by rw [hdY]; simp only [List.append_assoc, List.cons_append] at h ⊢; exact h)
          rw [hD1] at HE4
          have hkn : (k : Int) < (n : Int) := by have := HXL.out; have := HMN.out; omega
          have hkc : (i : Int) < (k : Int) := by have := HI.out; omega
          have HT := Lib.hid (And.intro hlt htX)
          have HKA := Lib.hid hk
          rw [← hk]
          clear hk hdY htY2 hD1 ht hlt htX
          generalize X[t] = v at *
          clear htY
          generalize (P ++ X.take t) ++ v :: u :: (X.drop (t + 1) ++ Q) = L at *
          obtain ⟨s1, s2, s3, s4, s5⟩ := hs
          have HS1 := Lib.hid s1
          have HS2 := Lib.hid s2
          have HS3 := Lib.hid s3
          have HS4 := Lib.hid s4
          have HS5 := Lib.hid s5
          clear s1 s2 s3 s4 s5
          have hk1 : (1 : Int) ≤ (k : Int) := by have := HKA.out; omega
          have w1 : IntKind.i64.wrap ((k : Int) - 1) = (k : Int) - 1 := by simp [IntKind.wrap, IntKind.bits, IntKind.signed]; omega
          have t1 : ((k : Int) - 1).toNat = k - 1 := by omega
          have b2 : (0 : Int) ≤ (k : Int) - 1 := by omega
          have b3 : (k : Int) - 1 < (n : Int) := by omega
          have b4 : ¬ (k : Int) < 1 := by omega
          go_wp2_with fail
          refine wp_region_held_drew (S := fun _ => True) (by kernel_rfl) trivial (fun hHeld => ?_)
          have E0 := Lib.hid (HE4.out.drew)
          have K0 := Lib.hid (HK4.out.drew)
          clear hHeld
          generalize wr.drew = v0 at *
          refine wpAnyH_take (i := 0) (oi := ⟨some 113, _, _, _, _, _⟩) (v := .slice (some ⟨g, 0, none⟩) n c) rfl (by kernel_rfl) (by kernel_rfl) (by kernel_rfl) (fun _ _ _ h => h) (Or.inl ⟨by rfl, ?_⟩) trivial ?_
          · intro W' hW
            go_simp
          try simp only [Act.put, List.setIfInBounds_toArray, List.set_cons_zero, List.set_cons_succ]
          refine wpAnyH_take (i := 1) (oi := ⟨some 114, _, _, _, _, _⟩) (v := .int .i64 (k : Int)) rfl (by kernel_rfl) (by kernel_rfl) (by kernel_rfl) (fun _ _ _ h => h) (Or.inl ⟨by rfl, ?_⟩) trivial ?_
          · intro W' hW
            go_simp
          try simp only [Act.put, List.setIfInBounds_toArray, List.set_cons_zero, List.set_cons_succ]
          refine wpAnyH_take (i := 2) (oi := ⟨some 115, _, _, _, _, _⟩) (v := .slice (some ⟨g, 0, none⟩) n c) rfl (by kernel_rfl) (by kernel_rfl) (by kernel_rfl) (fun _ _ _ h => h) (Or.inl ⟨by rfl, ?_⟩) trivial ?_
          · intro W' hW
            go_simp
          try simp only [Act.put, List.setIfInBounds_toArray, List.set_cons_zero, List.set_cons_succ]
          refine wpAnyH_take (i := 3) (oi := ⟨some 116, _, _, _, _, _⟩) (v := .int .i64 (k : Int)) rfl (by kernel_rfl) (by kernel_rfl) (by kernel_rfl) (fun _ _ _ h => h) (Or.inl ⟨by rfl, ?_⟩) trivial ?_
          · intro W' hW
            go_simp
          try simp only [Act.put, List.setIfInBounds_toArray, List.set_cons_zero, List.set_cons_succ]
          refine wpAnyH_take (i := 4) (oi := ⟨some 117, _, _, _, _, _⟩) (v := .int .i64 ((k : Int) - 1)) rfl (by kernel_rfl) (by kernel_rfl) (by kernel_rfl) (fun _ _ _ h => h) (Or.inl ⟨by rfl, ?_⟩) trivial ?_
          · intro W' hW
            go_simp
          try simp only [Act.put, List.setIfInBounds_toArray, List.set_cons_zero, List.set_cons_succ]
          refine wpAnyH_take (i := 5) (oi := ⟨some 118, _, _, _, _, _⟩) (v := .slice (some ⟨g, 0, none⟩) n c) rfl (by kernel_rfl) (by kernel_rfl) (by kernel_rfl) (fun _ _ _ h => h) (Or.inl ⟨by rfl, ?_⟩) trivial ?_
          · intro W' hW
            go_simp
          try simp only [Act.put, List.setIfInBounds_toArray, List.set_cons_zero, List.set_cons_succ]
          refine wpAnyH_take (i := 6) (oi := ⟨some 119, _, _, _, _, _⟩) (v := .int .i64 (k : Int)) rfl (by kernel_rfl) (by kernel_rfl) (by kernel_rfl) (fun _ _ _ h => h) (Or.inl ⟨by rfl, ?_⟩) trivial ?_
          · intro W' hW
            go_simp
          try simp only [Act.put, List.setIfInBounds_toArray, List.set_cons_zero, List.set_cons_succ]
          refine wpAnyH_take (i := 7) (oi := ⟨some 120, _, _, _, _, _⟩) (v := .int .i64 ((k : Int) - 1)) rfl (by kernel_rfl) (by kernel_rfl) (by kernel_rfl) (fun _ _ _ h => h) (Or.inl ⟨by rfl, ?_⟩) trivial ?_
          · intro W' hW
            go_simp
          try simp only [Act.put, List.setIfInBounds_toArray, List.set_cons_zero, List.set_cons_succ]
          refine wpAnyH_take (i := 8) (oi := ⟨some 121, _, _, _, _, _⟩) (v := .pointer (some ⟨g, (k - 1) * 6, none⟩)) rfl (by kernel_rfl) (by kernel_rfl) (by kernel_rfl) (fun _ _ _ h => h) (Or.inl ⟨by rfl, ?_⟩) trivial ?_
          · intro W' hW
            go_simp
          try simp only [Act.put, List.setIfInBounds_toArray, List.set_cons_zero, List.set_cons_succ]
          refine wpAnyH_take (i := 10) (oi := ⟨some 123, _, _, _, _, _⟩) (v := .slice (some ⟨g, 0, none⟩) n c) rfl (by kernel_rfl) (by kernel_rfl) (by kernel_rfl) (fun _ _ _ h => h) (Or.inl ⟨by rfl, ?_⟩) trivial ?_
          · intro W' hW
            go_simp
          try simp only [Act.put, List.setIfInBounds_toArray, List.set_cons_zero, List.set_cons_succ]
          refine wpAnyH_take (i := 11) (oi := ⟨some 124, _, _, _, _, _⟩) (v := .int .i64 (k : Int)) rfl (by kernel_rfl) (by kernel_rfl) (by kernel_rfl) (fun _ _ _ h => h) (Or.inl ⟨by rfl, ?_⟩) trivial ?_
          · intro W' hW
            go_simp
          try simp only [Act.put, List.setIfInBounds_toArray, List.set_cons_zero, List.set_cons_succ]
          refine wpAnyH_take (i := 12) (oi := ⟨some 125, _, _, _, _, _⟩) (v := .pointer (some ⟨g, k * 6, none⟩)) rfl (by kernel_rfl) (by kernel_rfl) (by kernel_rfl) (fun _ _ _ h => h) (Or.inl ⟨by rfl, ?_⟩) trivial ?_
          · intro W' hW
            go_simp
          try simp only [Act.put, List.setIfInBounds_toArray, List.set_cons_zero, List.set_cons_succ]
          refine wpAnyH_ready (rs := [9, 13]) (by kernel_rfl) (by simp) ?_
          refine AllReadyH.cons (o := ⟨some 122, _, _, _, _, _⟩) rfl (fun K hK => ?_) (AllReadyH.cons (o := ⟨some 126, _, _, _, _, _⟩) rfl (fun K hK => ?_) (AllReadyH.nil))
          · skip
            refine Eq.mpr (if_pos (by kernel_rfl)) ?_
            refine wp_get_e (.tmp 121) rfl g (k - 1) rfl E0.out HS2.out ?_
            refine hK.out _ _ trivial (fun hHeldq => ?_)
            clear hK hHeldq
            try simp only [Act.put, List.setIfInBounds_toArray, List.set_cons_zero, List.set_cons_succ]
            refine wpAnyH_ready (rs := [13]) (by kernel_rfl) (by simp) ?_
            refine AllReadyH.cons (o := ⟨some 126, _, _, _, _, _⟩) rfl (fun K hK => ?_) (AllReadyH.nil)
            refine Eq.mpr (if_pos (by kernel_rfl)) ?_
            refine wp_get_e (.tmp 125) rfl g (k) rfl E0.out HS1.out ?_
            refine hK.out _ _ trivial (fun hHeldq => ?_)
            clear hK hHeldq
            try simp only [Act.put, List.setIfInBounds_toArray, List.set_cons_zero, List.set_cons_succ]
            refine wpAnyH_take (i := 14) (oi := ⟨some 127, _, _, _, _, _⟩) (v := .pointer (some ⟨g, k * 6, none⟩)) rfl (by kernel_rfl) (by kernel_rfl) (by kernel_rfl) (fun _ _ _ h => h) (Or.inl ⟨by rfl, ?_⟩) trivial ?_
            · intro W' hW
              go_simp
            try simp only [Act.put, List.setIfInBounds_toArray, List.set_cons_zero, List.set_cons_succ]
            refine wpAnyH_ready (rs := [15]) (by kernel_rfl) (by simp) ?_
            refine AllReadyH.cons (o := ⟨none, _, _, _, _, _⟩) rfl (fun K hK => ?_) (AllReadyH.nil)
            refine Eq.mpr (if_pos (by kernel_rfl)) ?_
            refine wp_put_e (.tmp 127) (.tmp 122) rfl g (k) rfl v rfl E0.out HS3.out ?_
            intro v1 he hk
            have E1 := Lib.hid he
            have K1 := Lib.hid (K0.out.trans hk)
            clear he hk
            refine hK.out _ _ trivial (fun hHeldq => ?_)
            clear hK hHeldq
            try simp only [Act.put, List.setIfInBounds_toArray, List.set_cons_zero, List.set_cons_succ]
            refine wpAnyH_take (i := 16) (oi := ⟨some 128, _, _, _, _, _⟩) (v := .pointer (some ⟨g, (k - 1) * 6, none⟩)) rfl (by kernel_rfl) (by kernel_rfl) (by kernel_rfl) (fun _ _ _ h => h) (Or.inl ⟨by rfl, ?_⟩) trivial ?_
            · intro W' hW
              go_simp
            try simp only [Act.put, List.setIfInBounds_toArray, List.set_cons_zero, List.set_cons_succ]
            refine wpAnyH_ready (rs := [17]) (by kernel_rfl) (by simp) ?_
            refine AllReadyH.cons (o := ⟨none, _, _, _, _, _⟩) rfl (fun K hK => ?_) (AllReadyH.nil)
            refine Eq.mpr (if_pos (by kernel_rfl)) ?_
            refine wp_put_e (.tmp 128) (.tmp 126) rfl g (k - 1) rfl u rfl E1.out HS4.out ?_
            intro v2 he hk
            have E2 := Lib.hid he
            have K2 := Lib.hid (K1.out.trans hk)
            clear he hk
            refine hK.out _ _ trivial (fun hHeldq => ?_)
            clear hK hHeldq
            try simp only [Act.put, List.setIfInBounds_toArray, List.set_cons_zero, List.set_cons_succ]
            refine wpAnyH_done (by kernel_rfl) ?_ _
            have EF := Lib.hid (show ER v2 g (P ++ (X.take t ++ u :: (X.drop t ++ Q))) from HS6.out _ (HS5.out ▸ E2.out))
            go_wp2
            go_roundw
            case rel => exact ⟨t, by have := HT.out; omega, by have := HT.out; have := HPQ.out; omega, by (have := HKA.out; show Value.int .i64 _ = _; congr 1; omega), EF, K2⟩
            case measure => have := HT.out; have := HKA.out; show ((k : Int) - 1).toNat < ((k : Int)).toNat; omega
          · skip
            refine Eq.mpr (if_pos (by kernel_rfl)) ?_
            refine wp_get_e (.tmp 125) rfl g (k) rfl E0.out HS1.out ?_
            refine hK.out _ _ trivial (fun hHeldq => ?_)
            clear hK hHeldq
            try simp only [Act.put, List.setIfInBounds_toArray, List.set_cons_zero, List.set_cons_succ]
            refine wpAnyH_ready (rs := [9]) (by kernel_rfl) (by simp) ?_
            refine AllReadyH.cons (o := ⟨some 122, _, _, _, _, _⟩) rfl (fun K hK => ?_) (AllReadyH.nil)
            refine Eq.mpr (if_pos (by kernel_rfl)) ?_
            refine wp_get_e (.tmp 121) rfl g (k - 1) rfl E0.out HS2.out ?_
            refine hK.out _ _ trivial (fun hHeldq => ?_)
            clear hK hHeldq
            try simp only [Act.put, List.setIfInBounds_toArray, List.set_cons_zero, List.set_cons_succ]
            refine wpAnyH_take (i := 14) (oi := ⟨some 127, _, _, _, _, _⟩) (v := .pointer (some ⟨g, k * 6, none⟩)) rfl (by kernel_rfl) (by kernel_rfl) (by kernel_rfl) (fun _ _ _ h => h) (Or.inl ⟨by rfl, ?_⟩) trivial ?_
            · intro W' hW
              go_simp
            try simp only [Act.put, List.setIfInBounds_toArray, List.set_cons_zero, List.set_cons_succ]
            refine wpAnyH_ready (rs := [15]) (by kernel_rfl) (by simp) ?_
            refine AllReadyH.cons (o := ⟨none, _, _, _, _, _⟩) rfl (fun K hK => ?_) (AllReadyH.nil)
            refine Eq.mpr (if_pos (by kernel_rfl)) ?_
            refine wp_put_e (.tmp 127) (.tmp 122) rfl g (k) rfl v rfl E0.out HS3.out ?_
            intro v1 he hk
            have E1 := Lib.hid he
            have K1 := Lib.hid (K0.out.trans hk)
            clear he hk
            refine hK.out _ _ trivial (fun hHeldq => ?_)
            clear hK hHeldq
            try simp only [Act.put, List.setIfInBounds_toArray, List.set_cons_zero, List.set_cons_succ]
            refine wpAnyH_take (i := 16) (oi := ⟨some 128, _, _, _, _, _⟩) (v := .pointer (some ⟨g, (k - 1) * 6, none⟩)) rfl (by kernel_rfl) (by kernel_rfl) (by kernel_rfl) (fun _ _ _ h => h) (Or.inl ⟨by rfl, ?_⟩) trivial ?_
            · intro W' hW
              go_simp
            try simp only [Act.put, List.setIfInBounds_toArray, List.set_cons_zero, List.set_cons_succ]
            refine wpAnyH_ready (rs := [17]) (by kernel_rfl) (by simp) ?_
            refine AllReadyH.cons (o := ⟨none, _, _, _, _, _⟩) rfl (fun K hK => ?_) (AllReadyH.nil)
            refine Eq.mpr (if_pos (by kernel_rfl)) ?_
            refine wp_put_e (.tmp 128) (.tmp 126) rfl g (k - 1) rfl u rfl E1.out HS4.out ?_
            intro v2 he hk
            have E2 := Lib.hid he
            have K2 := Lib.hid (K1.out.trans hk)
            clear he hk
            refine hK.out _ _ trivial (fun hHeldq => ?_)
            clear hK hHeldq
            try simp only [Act.put, List.setIfInBounds_toArray, List.set_cons_zero, List.set_cons_succ]
            refine wpAnyH_done (by kernel_rfl) ?_ _
            have EF := Lib.hid (show ER v2 g (P ++ (X.take t ++ u :: (X.drop t ++ Q))) from HS6.out _ (HS5.out ▸ E2.out))
            go_wp2
            go_roundw
            case rel => exact ⟨t, by have := HT.out; omega, by have := HT.out; have := HPQ.out; omega, by (have := HKA.out; show Value.int .i64 _ = _; congr 1; omega), EF, K2⟩
            case measure => have := HT.out; have := HKA.out; show ((k : Int) - 1).toNat < ((k : Int)).toNat; omega
        · skip
          obtain rfl : t1 = p := by omega
          obtain ⟨k, hk⟩ : ∃ k, k = a + t1 := ⟨_, rfl⟩
          rw [← hk]
          have hkc : ¬ (i : Int) < (k : Int) := by have := HI.out; omega
          have EF := Lib.hid (show ER wr g (P ++ ((X.take t1 ++ u :: X.drop t1) ++ Q)) from by have h := HE4.out; simpa using h)
          clear HE4 ht hlt hk htX
          go_wp2
          refine bodyPost_ret (results_none rfl _ _ _) rfl ⟨rfl, X.take t1 ++ u :: X.drop t1, HST.out, EF.out, HK4.out⟩

end Go.Proofs.YtilapnejkdgomaaDoor
