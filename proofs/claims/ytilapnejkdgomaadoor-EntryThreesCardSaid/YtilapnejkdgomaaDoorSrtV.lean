/- The walk of slices' symMerge over entries, where one of the blocks has one element. Conditions: at most 1000 entries. -/
import Derived.Test.YtilapnejkdgomaaDoorSrtU
set_option linter.unusedVariables false
set_option linter.unusedSimpArgs false
namespace Go.Proofs.YtilapnejkdgomaaDoor
open Go.RowKit

/-- What symMerge does with the sorted blocks X and Y. -/
def SymC (g n c : Nat) (X Y : List Ent) : Prop := ∀ (a m b : Nat) (P Q : List Ent) (w : World), Asc Ent.loc X → Asc Ent.loc Y → P.length = a → a + X.length = m → m + Y.length = b → b + Q.length = n → n ≤ 1000 → ER w g (P ++ (X ++ (Y ++ Q))) →
    Calls Tryd.prog 72 #[.slice (some ⟨g, 0, none⟩) n c, .int .i64 a, .int .i64 m, .int .i64 b, .func (.func 37) #[] #[]] w fun e w' => e = .returned (.tuple #[]) ∧ ∃ R, StS Ent.loc (X ++ Y) R ∧ ER w' g (P ++ (R ++ Q)) ∧ Keep (fun k => k = g) w w'
theorem mid_eq (i j h : Nat) (hh : h = (i + j) / 2) : ((i : Int) + (j : Int)) / 2 = (h : Int) := by omega
theorem asc_get {Y : List Ent} (h : Asc Ent.loc Y) {s t : Nat} (hst : s ≤ t) {u v : Ent} (hu : Y[s]? = some u) (hv : Y[t]? = some v) : u.loc ≤ v.loc := asc_at Ent.loc h hst hu hv
theorem take_last {Y : List Ent} {p : Nat} (hp : p ≤ Y.length) (h0 : 0 < p) : (Y.take p).getLast? = Y[p - 1]? := by
  rw [List.getLast?_eq_getElem?, List.length_take, Nat.min_eq_left hp, List.getElem?_take_of_lt (by omega)]
theorem drop_head {Y : List Ent} {p : Nat} : (Y.drop p).head? = Y[p]? := by rw [List.head?_drop]

set_option maxRecDepth 100000 in
set_option maxHeartbeats 12800000 in
theorem sym_left (g n c : Nat) (u : Ent) (Y : List Ent) : SymC g n c [u] Y := by
  intro a m b P Q w hAX hAY hP hX hY hn h1 hE
  have HE0 := Lib.hid hE
  have HPL := Lib.hid hP
  have HAY := Lib.hid hAY
  have hm : m = a + 1 := by rw [← hX]; rfl
  have HM := Lib.hid hm
  have HYL := Lib.hid hY
  have HNL := Lib.hid hn
  have hmi : (m : Int) - (a : Int) = 1 := by omega
  have hmb : (m : Int) ≤ (b : Int) := by omega
  have hbn : (b : Int) ≤ (n : Int) := by omega
  have hnn : (n : Int) ≤ 1000 := by omega
  have ham : (a : Int) < (m : Int) := by omega
  have han : (a : Int) < (n : Int) := by omega
  have hmib : ((m : Int) - (a : Int) == 1) = true := beq_iff_eq.2 hmi
  have HU := Lib.hid (show (P ++ (u :: (Y ++ Q)))[a]? = some u by rw [List.getElem?_append_right (by omega), hP, Nat.sub_self]; rfl)
  have HYI := Lib.hid (show ∀ t (ht : t < Y.length), (P ++ (u :: (Y ++ Q)))[m + t]? = some Y[t] from fun t ht => by
    rw [List.getElem?_append_right (by omega), show m + t - P.length = t + 1 by omega, List.getElem?_cons_succ, List.getElem?_append_left ht, List.getElem?_eq_getElem ht])
  obtain ⟨D, hD⟩ : ∃ D, D = P ++ (u :: (Y ++ Q)) := ⟨_, rfl⟩
  have HD := Lib.hid hD
  rw [show P ++ ([u] ++ (Y ++ Q)) = D from hD.symm] at HE0
  rw [← hD] at HU HYI
  clear hE hP hAX hAY hX hY hn h1 hm hD
  go_enter Tryd.func72, Tryd.ntmps72
  go_wp2
  go_loopw [10, 11] (fun ii jj wr => ∃ (p q : Nat), p ≤ q ∧ q ≤ Y.length ∧ ii = .int .i64 ((m + p : Nat) : Int) ∧ jj = .int .i64 ((m + q : Nat) : Int) ∧ Hid (∀ v, 0 < p → Y[p - 1]? = some v → v.loc < u.loc) ∧ Hid (∀ v, Y[q]? = some v → u.loc ≤ v.loc) ∧ Hid (ER wr g D) ∧ Hid (Keep (fun k => k = g) w wr)) (fun ii jj _ => (intOf jj).toNat - (intOf ii).toNat)
  case atStart => exact ⟨0, Y.length, by omega, Nat.le_refl _, by simp, by rw [HYL.out], Lib.hid (fun v h => absurd h (by omega)), Lib.hid (fun v h => by rw [List.getElem?_eq_none (Nat.le_refl _)] at h; cases h), HE0, Lib.hid Keep.refl⟩
  case round =>
    clear HE0
    obtain ⟨p, q, hpq, hqY, rfl, rfl, HLO, HHI, HE, HK⟩ := hrel
    have HPQ := Lib.hid (And.intro hpq hqY)
    have hqb : m + q ≤ b := by have := HYL.out; omega
    by_cases hlt : p < q
    · skip
      obtain ⟨i, hi⟩ : ∃ i, i = m + p := ⟨_, rfl⟩
      obtain ⟨j, hj⟩ : ∃ j, j = m + q := ⟨_, rfl⟩
      obtain ⟨h, hh⟩ : ∃ h, h = (i + j) / 2 := ⟨_, rfl⟩
      have hmid := mid_eq i j h hh
      have hht : h - m < Y.length := by omega
      have HX := Lib.hid (HYI.out (h - m) hht)
      rw [show m + (h - m) = h by omega] at HX
      have HIJ := Lib.hid (show i = m + p ∧ j = m + q ∧ i ≤ h ∧ h < j ∧ p < q by omega)
      have HXG := Lib.hid (show Y[h - m]? = some Y[h - m] from List.getElem?_eq_getElem hht)
      rw [← hi, ← hj]
      have hij : (i : Int) < (j : Int) := by omega
      have hjn : (j : Int) ≤ (n : Int) := by omega
      have hhn : (h : Int) < (n : Int) := by omega
      have hsum : (i : Int) + (j : Int) ≤ 2000 := by omega
      clear hi hj hh hpq hqY hqb hlt
      generalize Y[h - m] = x at *
      clear hht
      by_cases hc : x.loc < u.loc
      · skip
        have hcn := (cmpI_neg x.loc u.loc).2 hc
        have hcd : decide (cmpI x.loc u.loc < 0) = true := decide_eq_true hcn
        have HL2 := Lib.hid (show ∀ v, 0 < h + 1 - m → Y[h + 1 - m - 1]? = some v → v.loc < u.loc from fun v _ hv => by
          have := HIJ.out; rw [show h + 1 - m - 1 = h - m by omega, HXG.out] at hv; injection hv with hv; subst hv; exact hc)
        clear hc
        go_wp2_with fail
        refine wp_region_held_drew (S := fun W => ER W g D) (by kernel_rfl) (HE.out.drew) (fun hHeld => ?_)
        have Ec0 := Lib.hid (HE.out.drew)
        have Kc0 := Lib.hid (HK.out.drew)
        clear hHeld
        generalize wr.drew = vc0 at *
        refine wpAnyH_take (i := 0) (oi := ⟨some 40, _, _, _, _, _⟩) (v := .func (.func 37) #[] #[]) rfl (by kernel_rfl) (by kernel_rfl) (by kernel_rfl) (fun _ _ _ h => h) (Or.inl ⟨by rfl, ?_⟩) Ec0.out ?_
        · intro W' hW
          go_simp
        try simp only [Act.put, List.setIfInBounds_toArray, List.set_cons_zero, List.set_cons_succ]
        refine wpAnyH_take (i := 1) (oi := ⟨some 41, _, _, _, _, _⟩) (v := .slice (some ⟨g, 0, none⟩) n c) rfl (by kernel_rfl) (by kernel_rfl) (by kernel_rfl) (fun _ _ _ h => h) (Or.inl ⟨by rfl, ?_⟩) Ec0.out ?_
        · intro W' hW
          go_simp
        try simp only [Act.put, List.setIfInBounds_toArray, List.set_cons_zero, List.set_cons_succ]
        refine wpAnyH_take (i := 2) (oi := ⟨some 42, _, _, _, _, _⟩) (v := .int .i64 (h : Int)) rfl (by kernel_rfl) (by kernel_rfl) (by kernel_rfl) (fun _ _ _ h => h) (Or.inl ⟨by rfl, ?_⟩) Ec0.out ?_
        · intro W' hW
          go_simp
        try simp only [Act.put, List.setIfInBounds_toArray, List.set_cons_zero, List.set_cons_succ]
        refine wpAnyH_take (i := 3) (oi := ⟨some 43, _, _, _, _, _⟩) (v := .pointer (some ⟨g, h * 6, none⟩)) rfl (by kernel_rfl) (by kernel_rfl) (by kernel_rfl) (fun _ _ _ h => h) (Or.inl ⟨by rfl, ?_⟩) Ec0.out ?_
        · intro W' hW
          go_simp
        try simp only [Act.put, List.setIfInBounds_toArray, List.set_cons_zero, List.set_cons_succ]
        refine wpAnyH_take (i := 4) (oi := ⟨some 44, _, _, _, _, _⟩) (v := entV x) rfl (by kernel_rfl) (by kernel_rfl) (by kernel_rfl) (fun _ _ _ h => h) (yields_e (by rfl) (.tmp 43) rfl g (h) rfl (fun W hW => hW) HX.out) Ec0.out ?_
        try simp only [Act.put, List.setIfInBounds_toArray, List.set_cons_zero, List.set_cons_succ]
        refine wpAnyH_take (i := 5) (oi := ⟨some 45, _, _, _, _, _⟩) (v := .slice (some ⟨g, 0, none⟩) n c) rfl (by kernel_rfl) (by kernel_rfl) (by kernel_rfl) (fun _ _ _ h => h) (Or.inl ⟨by rfl, ?_⟩) Ec0.out ?_
        · intro W' hW
          go_simp
        try simp only [Act.put, List.setIfInBounds_toArray, List.set_cons_zero, List.set_cons_succ]
        refine wpAnyH_take (i := 6) (oi := ⟨some 46, _, _, _, _, _⟩) (v := .int .i64 (a : Int)) rfl (by kernel_rfl) (by kernel_rfl) (by kernel_rfl) (fun _ _ _ h => h) (Or.inl ⟨by rfl, ?_⟩) Ec0.out ?_
        · intro W' hW
          go_simp
        try simp only [Act.put, List.setIfInBounds_toArray, List.set_cons_zero, List.set_cons_succ]
        refine wpAnyH_take (i := 7) (oi := ⟨some 47, _, _, _, _, _⟩) (v := .pointer (some ⟨g, a * 6, none⟩)) rfl (by kernel_rfl) (by kernel_rfl) (by kernel_rfl) (fun _ _ _ h => h) (Or.inl ⟨by rfl, ?_⟩) Ec0.out ?_
        · intro W' hW
          go_simp
        try simp only [Act.put, List.setIfInBounds_toArray, List.set_cons_zero, List.set_cons_succ]
        refine wpAnyH_take (i := 8) (oi := ⟨some 48, _, _, _, _, _⟩) (v := entV u) rfl (by kernel_rfl) (by kernel_rfl) (by kernel_rfl) (fun _ _ _ h => h) (yields_e (by rfl) (.tmp 47) rfl g (a) rfl (fun W hW => hW) HU.out) Ec0.out ?_
        try simp only [Act.put, List.setIfInBounds_toArray, List.set_cons_zero, List.set_cons_succ]
        refine wpAnyH_ready (rs := [9]) (by kernel_rfl) (by simp) ?_
        refine AllReadyH.cons (o := ⟨some 49, _, _, _, _, _⟩) rfl (fun K hK => ?_) (AllReadyH.nil)
        go_simp
        refine (place_any x u vc0).mono ?_
        rintro e vc1 ⟨rfl, hb⟩
        have Ec1 := Lib.hid (Ec0.out.below hb)
        have Kc1 := Lib.hid (Kc0.out.trans (Keep.of_below hb))
        clear hb
        refine hK.out _ _ Ec1.out (fun hHeldq => ?_)
        clear hK hHeldq
        try simp only [Act.put, List.setIfInBounds_toArray, List.set_cons_zero, List.set_cons_succ]
        refine wpAnyH_take (i := 10) (oi := ⟨some 50, _, _, _, _, _⟩) (v := .bool true) rfl (by kernel_rfl) (by kernel_rfl) (by kernel_rfl) (fun _ _ _ h => h) (Or.inl ⟨by rfl, ?_⟩) Ec1.out ?_
        · intro W' hW
          go_simp
        try simp only [Act.put, List.setIfInBounds_toArray, List.set_cons_zero, List.set_cons_succ]
        refine wpAnyH_done (by kernel_rfl) ?_ _
        go_wp2
        go_roundw
        case rel => exact ⟨h + 1 - m, q, by have := HIJ.out; omega, by have := HPQ.out; omega, by (show Value.int .i64 _ = _; congr 1; have := HIJ.out; omega), by (show Value.int .i64 _ = _; congr 1; have := HIJ.out; omega), HL2, HHI, Ec1, Kc1⟩
        case measure => have := HIJ.out; show ((j : Int)).toNat - ((h : Int) + 1).toNat < ((j : Int)).toNat - ((i : Int)).toNat; omega
      · skip
        have hcn : ¬ cmpI x.loc u.loc < 0 := fun h => hc ((cmpI_neg x.loc u.loc).1 h)
        have hcp : 0 ≤ cmpI x.loc u.loc := by omega
        have hcd : decide (cmpI x.loc u.loc < 0) = false := decide_eq_false hcn
        have HH2 := Lib.hid (show ∀ v, Y[h - m]? = some v → u.loc ≤ v.loc from fun v hv => by
          rw [HXG.out] at hv; injection hv with hv; subst hv; omega)
        clear hc
        go_wp2_with fail
        refine wp_region_held_drew (S := fun W => ER W g D) (by kernel_rfl) (HE.out.drew) (fun hHeld => ?_)
        have Ec0 := Lib.hid (HE.out.drew)
        have Kc0 := Lib.hid (HK.out.drew)
        clear hHeld
        generalize wr.drew = vc0 at *
        refine wpAnyH_take (i := 0) (oi := ⟨some 40, _, _, _, _, _⟩) (v := .func (.func 37) #[] #[]) rfl (by kernel_rfl) (by kernel_rfl) (by kernel_rfl) (fun _ _ _ h => h) (Or.inl ⟨by rfl, ?_⟩) Ec0.out ?_
        · intro W' hW
          go_simp
        try simp only [Act.put, List.setIfInBounds_toArray, List.set_cons_zero, List.set_cons_succ]
        refine wpAnyH_take (i := 1) (oi := ⟨some 41, _, _, _, _, _⟩) (v := .slice (some ⟨g, 0, none⟩) n c) rfl (by kernel_rfl) (by kernel_rfl) (by kernel_rfl) (fun _ _ _ h => h) (Or.inl ⟨by rfl, ?_⟩) Ec0.out ?_
        · intro W' hW
          go_simp
        try simp only [Act.put, List.setIfInBounds_toArray, List.set_cons_zero, List.set_cons_succ]
        refine wpAnyH_take (i := 2) (oi := ⟨some 42, _, _, _, _, _⟩) (v := .int .i64 (h : Int)) rfl (by kernel_rfl) (by kernel_rfl) (by kernel_rfl) (fun _ _ _ h => h) (Or.inl ⟨by rfl, ?_⟩) Ec0.out ?_
        · intro W' hW
          go_simp
        try simp only [Act.put, List.setIfInBounds_toArray, List.set_cons_zero, List.set_cons_succ]
        refine wpAnyH_take (i := 3) (oi := ⟨some 43, _, _, _, _, _⟩) (v := .pointer (some ⟨g, h * 6, none⟩)) rfl (by kernel_rfl) (by kernel_rfl) (by kernel_rfl) (fun _ _ _ h => h) (Or.inl ⟨by rfl, ?_⟩) Ec0.out ?_
        · intro W' hW
          go_simp
        try simp only [Act.put, List.setIfInBounds_toArray, List.set_cons_zero, List.set_cons_succ]
        refine wpAnyH_take (i := 4) (oi := ⟨some 44, _, _, _, _, _⟩) (v := entV x) rfl (by kernel_rfl) (by kernel_rfl) (by kernel_rfl) (fun _ _ _ h => h) (yields_e (by rfl) (.tmp 43) rfl g (h) rfl (fun W hW => hW) HX.out) Ec0.out ?_
        try simp only [Act.put, List.setIfInBounds_toArray, List.set_cons_zero, List.set_cons_succ]
        refine wpAnyH_take (i := 5) (oi := ⟨some 45, _, _, _, _, _⟩) (v := .slice (some ⟨g, 0, none⟩) n c) rfl (by kernel_rfl) (by kernel_rfl) (by kernel_rfl) (fun _ _ _ h => h) (Or.inl ⟨by rfl, ?_⟩) Ec0.out ?_
        · intro W' hW
          go_simp
        try simp only [Act.put, List.setIfInBounds_toArray, List.set_cons_zero, List.set_cons_succ]
        refine wpAnyH_take (i := 6) (oi := ⟨some 46, _, _, _, _, _⟩) (v := .int .i64 (a : Int)) rfl (by kernel_rfl) (by kernel_rfl) (by kernel_rfl) (fun _ _ _ h => h) (Or.inl ⟨by rfl, ?_⟩) Ec0.out ?_
        · intro W' hW
          go_simp
        try simp only [Act.put, List.setIfInBounds_toArray, List.set_cons_zero, List.set_cons_succ]
        refine wpAnyH_take (i := 7) (oi := ⟨some 47, _, _, _, _, _⟩) (v := .pointer (some ⟨g, a * 6, none⟩)) rfl (by kernel_rfl) (by kernel_rfl) (by kernel_rfl) (fun _ _ _ h => h) (Or.inl ⟨by rfl, ?_⟩) Ec0.out ?_
        · intro W' hW
          go_simp
        try simp only [Act.put, List.setIfInBounds_toArray, List.set_cons_zero, List.set_cons_succ]
        refine wpAnyH_take (i := 8) (oi := ⟨some 48, _, _, _, _, _⟩) (v := entV u) rfl (by kernel_rfl) (by kernel_rfl) (by kernel_rfl) (fun _ _ _ h => h) (yields_e (by rfl) (.tmp 47) rfl g (a) rfl (fun W hW => hW) HU.out) Ec0.out ?_
        try simp only [Act.put, List.setIfInBounds_toArray, List.set_cons_zero, List.set_cons_succ]
        refine wpAnyH_ready (rs := [9]) (by kernel_rfl) (by simp) ?_
        refine AllReadyH.cons (o := ⟨some 49, _, _, _, _, _⟩) rfl (fun K hK => ?_) (AllReadyH.nil)
        go_simp
        refine (place_any x u vc0).mono ?_
        rintro e vc1 ⟨rfl, hb⟩
        have Ec1 := Lib.hid (Ec0.out.below hb)
        have Kc1 := Lib.hid (Kc0.out.trans (Keep.of_below hb))
        clear hb
        refine hK.out _ _ Ec1.out (fun hHeldq => ?_)
        clear hK hHeldq
        try simp only [Act.put, List.setIfInBounds_toArray, List.set_cons_zero, List.set_cons_succ]
        refine wpAnyH_take (i := 10) (oi := ⟨some 50, _, _, _, _, _⟩) (v := .bool false) rfl (by kernel_rfl) (by kernel_rfl) (by kernel_rfl) (fun _ _ _ h => h) (Or.inl ⟨by rfl, ?_⟩) Ec1.out ?_
        · intro W' hW
          go_simp
        try simp only [Act.put, List.setIfInBounds_toArray, List.set_cons_zero, List.set_cons_succ]
        refine wpAnyH_done (by kernel_rfl) ?_ _
        go_wp2
        go_roundw
        case rel => exact ⟨p, h - m, by have := HIJ.out; omega, by have := HIJ.out; have := HPQ.out; omega, by (show Value.int .i64 _ = _; congr 1; have := HIJ.out; omega), by (show Value.int .i64 _ = _; congr 1; have := HIJ.out; omega), HLO, HH2, Ec1, Kc1⟩
        case measure => have := HIJ.out; show ((h : Int)).toNat - ((i : Int)).toNat < ((j : Int)).toNat - ((i : Int)).toNat; omega
    · skip
      obtain rfl : p = q := by omega
      have HST := Lib.hid (StS.one_left Ent.loc (u := u) (e := p) HAY.out (fun v hv => by
          by_cases h0 : 0 < p
          · rw [take_last hqY h0] at hv; exact HLO.out v h0 hv
          · rw [show p = 0 by omega, List.take_zero] at hv; cases hv) (fun v hv => by rw [drop_head] at hv; exact HHI.out v hv))
      obtain ⟨i, hi⟩ : ∃ i, i = m + p := ⟨_, rfl⟩
      have HI := Lib.hid (And.intro hi (show m + p ≤ b by omega))
      rw [← hi]
      have hii : ¬ (i : Int) < (i : Int) := by omega
      have HE3 := Lib.hid (show ER wr g (P ++ (Y.take 0 ++ u :: (Y.drop 0 ++ Q))) from by rw [List.take_zero, List.drop_zero, List.nil_append, ← HD.out]; exact HE.out)
      have hpn : (i : Int) ≤ 1000 := by omega
      have hp0 : (1 : Int) ≤ (i : Int) := by omega
      clear hpq hqY hlt HE HLO HHI hqb hi
      go_wp2
      go_loopw [13] (fun kk wr => ∃ t : Nat, t ≤ p ∧ kk = .int .i64 ((a + t : Nat) : Int) ∧ Hid (ER wr g (P ++ (Y.take t ++ u :: (Y.drop t ++ Q)))) ∧ Hid (Keep (fun k => k = g) w wr)) (fun kk _ => i - (intOf kk).toNat)
      case atStart => exact ⟨0, by omega, by simp, HE3, HK⟩
      case round =>
        clear HE3 HK
        obtain ⟨t, ht, rfl, HE4, HK4⟩ := hrel
        by_cases hlt : t < p
        · skip
          obtain ⟨k, hk⟩ : ∃ k, k = a + t := ⟨_, rfl⟩
          have htY : t < Y.length := by have := HPQ.out; omega
          have hdY : Y.drop t = Y[t] :: Y.drop (t + 1) := List.drop_eq_getElem_cons htY
          have htY2 : Y.take (t + 1) = Y.take t ++ [Y[t]] := by rw [List.take_succ_eq_append_getElem htY]
          have hs := swap_adj' (P ++ Y.take t) (Y.drop (t + 1) ++ Q) u Y[t] k (by rw [List.length_append, List.length_take]; have := HPL.out; omega)
          have hD1 : P ++ (Y.take t ++ u :: (Y.drop t ++ Q)) = (P ++ Y.take t) ++ u :: Y[t] :: (Y.drop (t + 1) ++ Q) := by rw [hdY]; simp only [List.append_assoc, List.cons_append]
          have HS6 := Lib.hid (show ∀ W, ER W g ((P ++ Y.take t) ++ Y[t] :: u :: (Y.drop (t + 1) ++ Q)) → ER W g (P ++ (Y.take (t + 1) ++ u :: (Y.drop (t + 1) ++ Q))) from fun W h => by rw [htY2]; simp only [List.append_assoc, List.cons_append, List.nil_append] at h ⊢; exact h)
          rw [hD1] at HE4
          have hkn : (k : Int) + 1 < (n : Int) := by have := HYL.out; have := HNL.out; have := HM.out; omega
          have hkc : (k : Int) < (i : Int) - 1 := by have := HM.out; have := HI.out; omega
          have HT := Lib.hid hlt
          have HKA := Lib.hid (show k = a + t ∧ m = a + 1 from ⟨hk, HM.out⟩)
          rw [← hk]
          clear hk hdY htY2 hD1 ht hlt
          generalize Y[t] = v at *
          clear htY
          generalize (P ++ Y.take t) ++ u :: v :: (Y.drop (t + 1) ++ Q) = L at *
          obtain ⟨s1, s2, s3, s4, s5⟩ := hs
          have HS1 := Lib.hid s1
          have HS2 := Lib.hid s2
          have HS3 := Lib.hid s3
          have HS4 := Lib.hid s4
          have HS5 := Lib.hid s5
          clear s1 s2 s3 s4 s5
          have w1 : IntKind.i64.wrap ((k : Int) + 1) = (k : Int) + 1 := by simp [IntKind.wrap, IntKind.bits, IntKind.signed]; omega
          have t1 : ((k : Int) + 1).toNat = k + 1 := by omega
          have b1 : (k : Int) < (n : Int) := by omega
          have b2 : (0 : Int) ≤ (k : Int) + 1 := by omega
          go_wp2_with fail
          refine wp_region_held_drew (S := fun _ => True) (by kernel_rfl) trivial (fun hHeld => ?_)
          have E0 := Lib.hid (HE4.out.drew)
          have K0 := Lib.hid (HK4.out.drew)
          clear hHeld
          generalize wr.drew = v0 at *
          refine wpAnyH_take (i := 0) (oi := ⟨some 61, _, _, _, _, _⟩) (v := .slice (some ⟨g, 0, none⟩) n c) rfl (by kernel_rfl) (by kernel_rfl) (by kernel_rfl) (fun _ _ _ h => h) (Or.inl ⟨by rfl, ?_⟩) trivial ?_
          · intro W' hW
            go_simp
          try simp only [Act.put, List.setIfInBounds_toArray, List.set_cons_zero, List.set_cons_succ]
          refine wpAnyH_take (i := 1) (oi := ⟨some 62, _, _, _, _, _⟩) (v := .int .i64 (k : Int)) rfl (by kernel_rfl) (by kernel_rfl) (by kernel_rfl) (fun _ _ _ h => h) (Or.inl ⟨by rfl, ?_⟩) trivial ?_
          · intro W' hW
            go_simp
          try simp only [Act.put, List.setIfInBounds_toArray, List.set_cons_zero, List.set_cons_succ]
          refine wpAnyH_take (i := 2) (oi := ⟨some 63, _, _, _, _, _⟩) (v := .slice (some ⟨g, 0, none⟩) n c) rfl (by kernel_rfl) (by kernel_rfl) (by kernel_rfl) (fun _ _ _ h => h) (Or.inl ⟨by rfl, ?_⟩) trivial ?_
          · intro W' hW
            go_simp
          try simp only [Act.put, List.setIfInBounds_toArray, List.set_cons_zero, List.set_cons_succ]
          refine wpAnyH_take (i := 3) (oi := ⟨some 64, _, _, _, _, _⟩) (v := .int .i64 (k : Int)) rfl (by kernel_rfl) (by kernel_rfl) (by kernel_rfl) (fun _ _ _ h => h) (Or.inl ⟨by rfl, ?_⟩) trivial ?_
          · intro W' hW
            go_simp
          try simp only [Act.put, List.setIfInBounds_toArray, List.set_cons_zero, List.set_cons_succ]
          refine wpAnyH_take (i := 4) (oi := ⟨some 65, _, _, _, _, _⟩) (v := .int .i64 ((k : Int) + 1)) rfl (by kernel_rfl) (by kernel_rfl) (by kernel_rfl) (fun _ _ _ h => h) (Or.inl ⟨by rfl, ?_⟩) trivial ?_
          · intro W' hW
            go_simp
          try simp only [Act.put, List.setIfInBounds_toArray, List.set_cons_zero, List.set_cons_succ]
          refine wpAnyH_take (i := 5) (oi := ⟨some 66, _, _, _, _, _⟩) (v := .slice (some ⟨g, 0, none⟩) n c) rfl (by kernel_rfl) (by kernel_rfl) (by kernel_rfl) (fun _ _ _ h => h) (Or.inl ⟨by rfl, ?_⟩) trivial ?_
          · intro W' hW
            go_simp
          try simp only [Act.put, List.setIfInBounds_toArray, List.set_cons_zero, List.set_cons_succ]
          refine wpAnyH_take (i := 6) (oi := ⟨some 67, _, _, _, _, _⟩) (v := .int .i64 (k : Int)) rfl (by kernel_rfl) (by kernel_rfl) (by kernel_rfl) (fun _ _ _ h => h) (Or.inl ⟨by rfl, ?_⟩) trivial ?_
          · intro W' hW
            go_simp
          try simp only [Act.put, List.setIfInBounds_toArray, List.set_cons_zero, List.set_cons_succ]
          refine wpAnyH_take (i := 7) (oi := ⟨some 68, _, _, _, _, _⟩) (v := .int .i64 ((k : Int) + 1)) rfl (by kernel_rfl) (by kernel_rfl) (by kernel_rfl) (fun _ _ _ h => h) (Or.inl ⟨by rfl, ?_⟩) trivial ?_
          · intro W' hW
            go_simp
          try simp only [Act.put, List.setIfInBounds_toArray, List.set_cons_zero, List.set_cons_succ]
          refine wpAnyH_take (i := 8) (oi := ⟨some 69, _, _, _, _, _⟩) (v := .pointer (some ⟨g, (k + 1) * 6, none⟩)) rfl (by kernel_rfl) (by kernel_rfl) (by kernel_rfl) (fun _ _ _ h => h) (Or.inl ⟨by rfl, ?_⟩) trivial ?_
          · intro W' hW
            go_simp
          try simp only [Act.put, List.setIfInBounds_toArray, List.set_cons_zero, List.set_cons_succ]
          refine wpAnyH_take (i := 10) (oi := ⟨some 71, _, _, _, _, _⟩) (v := .slice (some ⟨g, 0, none⟩) n c) rfl (by kernel_rfl) (by kernel_rfl) (by kernel_rfl) (fun _ _ _ h => h) (Or.inl ⟨by rfl, ?_⟩) trivial ?_
          · intro W' hW
            go_simp
          try simp only [Act.put, List.setIfInBounds_toArray, List.set_cons_zero, List.set_cons_succ]
          refine wpAnyH_take (i := 11) (oi := ⟨some 72, _, _, _, _, _⟩) (v := .int .i64 (k : Int)) rfl (by kernel_rfl) (by kernel_rfl) (by kernel_rfl) (fun _ _ _ h => h) (Or.inl ⟨by rfl, ?_⟩) trivial ?_
          · intro W' hW
            go_simp
          try simp only [Act.put, List.setIfInBounds_toArray, List.set_cons_zero, List.set_cons_succ]
          refine wpAnyH_take (i := 12) (oi := ⟨some 73, _, _, _, _, _⟩) (v := .pointer (some ⟨g, k * 6, none⟩)) rfl (by kernel_rfl) (by kernel_rfl) (by kernel_rfl) (fun _ _ _ h => h) (Or.inl ⟨by rfl, ?_⟩) trivial ?_
          · intro W' hW
            go_simp
          try simp only [Act.put, List.setIfInBounds_toArray, List.set_cons_zero, List.set_cons_succ]
          refine wpAnyH_ready (rs := [9, 13]) (by kernel_rfl) (by simp) ?_
          refine AllReadyH.cons (o := ⟨some 70, _, _, _, _, _⟩) rfl (fun K hK => ?_) (AllReadyH.cons (o := ⟨some 74, _, _, _, _, _⟩) rfl (fun K hK => ?_) (AllReadyH.nil))
          · skip
            refine Eq.mpr (if_pos (by kernel_rfl)) ?_
            refine wp_get_e (.tmp 69) rfl g (k + 1) rfl E0.out HS2.out ?_
            refine hK.out _ _ trivial (fun hHeldq => ?_)
            clear hK hHeldq
            try simp only [Act.put, List.setIfInBounds_toArray, List.set_cons_zero, List.set_cons_succ]
            refine wpAnyH_ready (rs := [13]) (by kernel_rfl) (by simp) ?_
            refine AllReadyH.cons (o := ⟨some 74, _, _, _, _, _⟩) rfl (fun K hK => ?_) (AllReadyH.nil)
            refine Eq.mpr (if_pos (by kernel_rfl)) ?_
            refine wp_get_e (.tmp 73) rfl g (k) rfl E0.out HS1.out ?_
            refine hK.out _ _ trivial (fun hHeldq => ?_)
            clear hK hHeldq
            try simp only [Act.put, List.setIfInBounds_toArray, List.set_cons_zero, List.set_cons_succ]
            refine wpAnyH_take (i := 14) (oi := ⟨some 75, _, _, _, _, _⟩) (v := .pointer (some ⟨g, k * 6, none⟩)) rfl (by kernel_rfl) (by kernel_rfl) (by kernel_rfl) (fun _ _ _ h => h) (Or.inl ⟨by rfl, ?_⟩) trivial ?_
            · intro W' hW
              go_simp
            try simp only [Act.put, List.setIfInBounds_toArray, List.set_cons_zero, List.set_cons_succ]
            refine wpAnyH_ready (rs := [15]) (by kernel_rfl) (by simp) ?_
            refine AllReadyH.cons (o := ⟨none, _, _, _, _, _⟩) rfl (fun K hK => ?_) (AllReadyH.nil)
            refine Eq.mpr (if_pos (by kernel_rfl)) ?_
            refine wp_put_e (.tmp 75) (.tmp 70) rfl g (k) rfl v rfl E0.out HS3.out ?_
            intro v1 he hk
            have E1 := Lib.hid he
            have K1 := Lib.hid (K0.out.trans hk)
            clear he hk
            refine hK.out _ _ trivial (fun hHeldq => ?_)
            clear hK hHeldq
            try simp only [Act.put, List.setIfInBounds_toArray, List.set_cons_zero, List.set_cons_succ]
            refine wpAnyH_take (i := 16) (oi := ⟨some 76, _, _, _, _, _⟩) (v := .pointer (some ⟨g, (k + 1) * 6, none⟩)) rfl (by kernel_rfl) (by kernel_rfl) (by kernel_rfl) (fun _ _ _ h => h) (Or.inl ⟨by rfl, ?_⟩) trivial ?_
            · intro W' hW
              go_simp
            try simp only [Act.put, List.setIfInBounds_toArray, List.set_cons_zero, List.set_cons_succ]
            refine wpAnyH_ready (rs := [17]) (by kernel_rfl) (by simp) ?_
            refine AllReadyH.cons (o := ⟨none, _, _, _, _, _⟩) rfl (fun K hK => ?_) (AllReadyH.nil)
            refine Eq.mpr (if_pos (by kernel_rfl)) ?_
            refine wp_put_e (.tmp 76) (.tmp 74) rfl g (k + 1) rfl u rfl E1.out HS4.out ?_
            intro v2 he hk
            have E2 := Lib.hid he
            have K2 := Lib.hid (K1.out.trans hk)
            clear he hk
            refine hK.out _ _ trivial (fun hHeldq => ?_)
            clear hK hHeldq
            try simp only [Act.put, List.setIfInBounds_toArray, List.set_cons_zero, List.set_cons_succ]
            refine wpAnyH_done (by kernel_rfl) ?_ _
            have EF := Lib.hid (show ER v2 g (P ++ (Y.take (t + 1) ++ u :: (Y.drop (t + 1) ++ Q))) from HS6.out _ (HS5.out ▸ E2.out))
            go_wp2
            go_roundw
            case rel => exact ⟨t + 1, by have := HT.out; omega, by (have := HKA.out; show Value.int .i64 _ = _; congr 1; omega), EF, K2⟩
            case measure => have := HT.out; have := HKA.out; have := HI.out; show i - ((k : Int) + 1).toNat < i - ((k : Int)).toNat; omega
          · skip
            refine Eq.mpr (if_pos (by kernel_rfl)) ?_
            refine wp_get_e (.tmp 73) rfl g (k) rfl E0.out HS1.out ?_
            refine hK.out _ _ trivial (fun hHeldq => ?_)
            clear hK hHeldq
            try simp only [Act.put, List.setIfInBounds_toArray, List.set_cons_zero, List.set_cons_succ]
            refine wpAnyH_ready (rs := [9]) (by kernel_rfl) (by simp) ?_
            refine AllReadyH.cons (o := ⟨some 70, _, _, _, _, _⟩) rfl (fun K hK => ?_) (AllReadyH.nil)
            refine Eq.mpr (if_pos (by kernel_rfl)) ?_
            refine wp_get_e (.tmp 69) rfl g (k + 1) rfl E0.out HS2.out ?_
            refine hK.out _ _ trivial (fun hHeldq => ?_)
            clear hK hHeldq
            try simp only [Act.put, List.setIfInBounds_toArray, List.set_cons_zero, List.set_cons_succ]
            refine wpAnyH_take (i := 14) (oi := ⟨some 75, _, _, _, _, _⟩) (v := .pointer (some ⟨g, k * 6, none⟩)) rfl (by kernel_rfl) (by kernel_rfl) (by kernel_rfl) (fun _ _ _ h => h) (Or.inl ⟨by rfl, ?_⟩) trivial ?_
            · intro W' hW
              go_simp
            try simp only [Act.put, List.setIfInBounds_toArray, List.set_cons_zero, List.set_cons_succ]
            refine wpAnyH_ready (rs := [15]) (by kernel_rfl) (by simp) ?_
            refine AllReadyH.cons (o := ⟨none, _, _, _, _, _⟩) rfl (fun K hK => ?_) (AllReadyH.nil)
            refine Eq.mpr (if_pos (by kernel_rfl)) ?_
            refine wp_put_e (.tmp 75) (.tmp 70) rfl g (k) rfl v rfl E0.out HS3.out ?_
            intro v1 he hk
            have E1 := Lib.hid he
            have K1 := Lib.hid (K0.out.trans hk)
            clear he hk
            refine hK.out _ _ trivial (fun hHeldq => ?_)
            clear hK hHeldq
            try simp only [Act.put, List.setIfInBounds_toArray, List.set_cons_zero, List.set_cons_succ]
            refine wpAnyH_take (i := 16) (oi := ⟨some 76, _, _, _, _, _⟩) (v := .pointer (some ⟨g, (k + 1) * 6, none⟩)) rfl (by kernel_rfl) (by kernel_rfl) (by kernel_rfl) (fun _ _ _ h => h) (Or.inl ⟨by rfl, ?_⟩) trivial ?_
            · intro W' hW
              go_simp
            try simp only [Act.put, List.setIfInBounds_toArray, List.set_cons_zero, List.set_cons_succ]
            refine wpAnyH_ready (rs := [17]) (by kernel_rfl) (by simp) ?_
            refine AllReadyH.cons (o := ⟨none, _, _, _, _, _⟩) rfl (fun K hK => ?_) (AllReadyH.nil)
            refine Eq.mpr (if_pos (by kernel_rfl)) ?_
            refine wp_put_e (.tmp 76) (.tmp 74) rfl g (k + 1) rfl u rfl E1.out HS4.out ?_
            intro v2 he hk
            have E2 := Lib.hid he
            have K2 := Lib.hid (K1.out.trans hk)
            clear he hk
            refine hK.out _ _ trivial (fun hHeldq => ?_)
            clear hK hHeldq
            try simp only [Act.put, List.setIfInBounds_toArray, List.set_cons_zero, List.set_cons_succ]
            refine wpAnyH_done (by kernel_rfl) ?_ _
            have EF := Lib.hid (show ER v2 g (P ++ (Y.take (t + 1) ++ u :: (Y.drop (t + 1) ++ Q))) from HS6.out _ (HS5.out ▸ E2.out))
            go_wp2
            go_roundw
            case rel => exact ⟨t + 1, by have := HT.out; omega, by (have := HKA.out; show Value.int .i64 _ = _; congr 1; omega), EF, K2⟩
            case measure => have := HT.out; have := HKA.out; have := HI.out; show i - ((k : Int) + 1).toNat < i - ((k : Int)).toNat; omega
        · skip
          obtain rfl : t = p := by omega
          obtain ⟨k, hk⟩ : ∃ k, k = a + t := ⟨_, rfl⟩
          rw [← hk]
          have hkc : ¬ (k : Int) < (i : Int) - 1 := by have := HM.out; have := HI.out; omega
          have EF := Lib.hid (show ER wr g (P ++ ((Y.take t ++ u :: Y.drop t) ++ Q)) from by have h := HE4.out; simpa using h)
          clear HE4 ht hlt hk
          go_wp2
          refine bodyPost_ret (results_none rfl _ _ _) rfl ⟨rfl, Y.take t ++ u :: Y.drop t, HST.out, EF.out, HK4.out⟩

end Go.Proofs.YtilapnejkdgomaaDoor
