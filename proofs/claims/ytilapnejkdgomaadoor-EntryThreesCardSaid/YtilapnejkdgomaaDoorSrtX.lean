/- The walk of slices' symMerge over entries: two sorted blocks are merged. Conditions: at most 1000 entries. -/
import Derived.Test.YtilapnejkdgomaaDoorSrtW
set_option linter.unusedVariables false
set_option linter.unusedSimpArgs false
namespace Go.Proofs.YtilapnejkdgomaaDoor
open Go.RowKit

theorem insS_length (x : Ent) : ∀ l : List Ent, (insS Ent.loc x l).length = l.length + 1
  | [] => rfl
  | y :: t => by
    unfold insS
    split
    · rfl
    · rw [List.length_cons, insS_length x t, List.length_cons]
theorem srt_length (l : List Ent) : (srt Ent.loc l).length = l.length := by
  have h : ∀ (l acc : List Ent), (l.foldl (fun acc x => insS Ent.loc x acc) acc).length = acc.length + l.length := by
    intro l
    induction l with
    | nil => intro acc; rfl
    | cons x t ih => intro acc; rw [List.foldl_cons, ih, insS_length, List.length_cons]; omega
  have := h l []
  rw [List.length_nil, Nat.zero_add] at this
  exact this
theorem StS.length {l r : List Ent} (h : StS Ent.loc l r) : r.length = l.length := by rw [h.eq, srt_length]
theorem no_rot {P X Y Q : List Ent} {s e : Nat} (h : X.drop s = [] ∨ Y.take e = []) : P ++ (X ++ (Y ++ Q)) = P ++ (X.take s ++ (Y.take e ++ (X.drop s ++ (Y.drop e ++ Q)))) := by
  have hx := List.take_append_drop s X
  have hy := List.take_append_drop e Y
  rcases h with h | h
  · rw [h, List.append_nil] at hx
    rw [h, List.nil_append, hx, ← List.append_assoc (Y.take e), hy]
  · rw [h, List.nil_append] at hy
    rw [h, List.nil_append, hy, ← List.append_assoc (X.take s), hx]
theorem full_rot {P X Y Q : List Ent} (s e : Nat) : P ++ (X ++ (Y ++ Q)) = (P ++ X.take s) ++ (X.drop s ++ (Y.take e ++ (Y.drop e ++ Q))) := by
  conv => lhs; rw [← List.take_append_drop s X, ← List.take_append_drop e Y]
  simp only [List.append_assoc]

set_option maxRecDepth 100000 in
set_option maxHeartbeats 12800000 in
theorem sym_gt (g n c : Nat) (X Y : List Ent) (h2X : X.length ≠ 1) (h0X : 0 < X.length) (h2Y : Y.length ≠ 1) (h0Y : 0 < Y.length) (hI : ∀ X' Y' : List Ent, 0 < X'.length → 0 < Y'.length → X'.length + Y'.length < X.length + Y.length → SymC g n c X' Y')
    (a m b : Nat) (P Q : List Ent) (w : World) (hAX : Asc Ent.loc X) (hAY : Asc Ent.loc Y) (hP : P.length = a) (hX : a + X.length = m) (hY : m + Y.length = b) (hn : b + Q.length = n) (h1 : n ≤ 1000) (hE : ER w g (P ++ (X ++ (Y ++ Q)))) (mid : Nat) (hmid0 : mid = (a + b) / 2) (hgt : mid < m) :
    Calls Tryd.prog 72 #[.slice (some ⟨g, 0, none⟩) n c, .int .i64 a, .int .i64 m, .int .i64 b, .func (.func 37) #[] #[]] w fun e w' => e = .returned (.tuple #[]) ∧ ∃ R, StS Ent.loc (X ++ Y) R ∧ ER w' g (P ++ (R ++ Q)) ∧ Keep (fun k => k = g) w w' := by
  have HE0 := Lib.hid hE
  have HAX := Lib.hid hAX
  have HAY := Lib.hid hAY
  have hIH := Lib.hid hI
  have hmid := mid_eq a b mid hmid0
  obtain ⟨np, hnp⟩ : ∃ np, np = mid + m := ⟨_, rfl⟩
  obtain ⟨pp, hpp⟩ : ∃ pp, pp = np - 1 := ⟨_, rfl⟩
  obtain ⟨M, hM⟩ : ∃ M, M = mid - a := ⟨_, rfl⟩
  obtain ⟨L0, hL0⟩ : ∃ L0, L0 = np - b - a := ⟨_, rfl⟩
  obtain ⟨H0, hH0⟩ : ∃ H0, H0 = M := ⟨_, rfl⟩
  have HBASE := Lib.hid (show P.length = a ∧ a + X.length = m ∧ m + Y.length = b ∧ b + Q.length = n ∧ n ≤ 1000 ∧ a + M = mid ∧ np = mid + m ∧ pp + 1 = np ∧ mid < b ∧ 0 < X.length ∧ 0 < Y.length ∧ 0 < M ∧ 2 * M ≤ X.length + Y.length ∧ X.length + Y.length ≤ 2 * M + 1 by omega)
  have HLH := Lib.hid (show L0 ≤ H0 ∧ H0 ≤ X.length ∧ H0 ≤ M ∧ M ≤ Y.length + L0 ∧ (L0 = 0 ∨ M = Y.length + L0) ∧ (H0 = X.length ∨ H0 = M) by omega)
  have hmi : ¬ (m : Int) - (a : Int) = 1 := by omega
  have hmib : ((m : Int) - (a : Int) == 1) = false := beq_eq_false_iff_ne.2 hmi
  have hbi : ¬ (b : Int) - (m : Int) = 1 := by omega
  have hbib : ((b : Int) - (m : Int) == 1) = false := beq_eq_false_iff_ne.2 hbi
  have hmb : (m : Int) < (b : Int) := by omega
  have hbn : (b : Int) ≤ (n : Int) := by omega
  have hnn : (n : Int) ≤ 1000 := by omega
  have ham : (a : Int) < (m : Int) := by omega
  have hsum : (a : Int) + (b : Int) ≤ 2000 := by omega
  have hmgt : (mid : Int) < (m : Int) := by omega
  have hmbi : (mid : Int) < (b : Int) := by omega
  have hnpi : (mid : Int) + (m : Int) = (np : Int) := by omega
  have hppi : (np : Int) - 1 = (pp : Int) := by omega
  have hnpb : (np : Int) ≤ 2000 := by omega
  have hst0 : (np : Int) - (b : Int) = ((a + L0 : Nat) : Int) := by omega
  have HST0 := Lib.hid hst0
  have HR0 := Lib.hid (show (mid : Int) = ((a + H0 : Nat) : Int) by omega)
  have HXI := Lib.hid (show ∀ t (ht : t < X.length), (P ++ (X ++ (Y ++ Q)))[a + t]? = some X[t] from fun t ht => by
    rw [List.getElem?_append_right (by omega), show a + t - P.length = t by omega, List.getElem?_append_left ht, List.getElem?_eq_getElem ht])
  have HYI := Lib.hid (show ∀ t (ht : t < Y.length), (P ++ (X ++ (Y ++ Q)))[m + t]? = some Y[t] from fun t ht => by
    rw [List.getElem?_append_right (by omega), List.getElem?_append_right (by omega), show m + t - P.length - X.length = t by omega, List.getElem?_append_left ht, List.getElem?_eq_getElem ht])
  obtain ⟨D, hD⟩ : ∃ D, D = P ++ (X ++ (Y ++ Q)) := ⟨_, rfl⟩
  have HD := Lib.hid hD
  rw [← hD] at HE0 HXI HYI
  clear hE hP hAX hAY hX hY hn h1 hD h2X h0X h2Y h0Y hI hmid0 hgt hnp hpp hM hL0 hH0 hst0
  go_enter Tryd.func72, Tryd.ntmps72
  go_wp2
  go_loopw [20, 21] (fun ii jj wr => ∃ (s r : Nat), L0 ≤ s ∧ s ≤ r ∧ r ≤ H0 ∧ ii = .int .i64 ((a + s : Nat) : Int) ∧ jj = .int .i64 ((a + r : Nat) : Int) ∧ Hid (∀ u v, L0 < s → X[s - 1]? = some u → Y[M - s]? = some v → u.loc ≤ v.loc) ∧ Hid (∀ u v, r < H0 → X[r]? = some u → Y[M - 1 - r]? = some v → v.loc < u.loc) ∧ Hid (ER wr g D) ∧ Hid (Keep (fun k => k = g) w wr)) (fun ii jj _ => (intOf jj).toNat - (intOf ii).toNat)
  case atStart => exact ⟨L0, H0, Nat.le_refl _, HLH.out.1, Nat.le_refl _, by rw [← HST0.out], by rw [← HR0.out], Lib.hid (fun u v h => absurd h (by omega)), Lib.hid (fun u v h => absurd h (by omega)), HE0, Lib.hid Keep.refl⟩
  case round =>
    clear HE0
    obtain ⟨s, r, hLs, hsr, hrH, rfl, rfl, HLO, HHI, HE, HK⟩ := hrel
    have HSR := Lib.hid (show L0 ≤ s ∧ s ≤ r ∧ r ≤ H0 from ⟨hLs, hsr, hrH⟩)
    have hbs := HBASE.out
    have hlh := HLH.out
    by_cases hlt : s < r
    · skip
      obtain ⟨i, hi⟩ : ∃ i, i = a + s := ⟨_, rfl⟩
      obtain ⟨j, hj⟩ : ∃ j, j = a + r := ⟨_, rfl⟩
      obtain ⟨ci, hci⟩ : ∃ ci, ci = (i + j) / 2 := ⟨_, rfl⟩
      have hcm := mid_eq i j ci hci
      have hcX : ci - a < X.length := by omega
      have hcY : M - 1 - (ci - a) < Y.length := by omega
      have HX := Lib.hid (HXI.out (ci - a) hcX)
      rw [show a + (ci - a) = ci by omega] at HX
      have HY := Lib.hid (HYI.out (M - 1 - (ci - a)) hcY)
      rw [show m + (M - 1 - (ci - a)) = pp - ci by omega] at HY
      have HIJ := Lib.hid (show i = a + s ∧ j = a + r ∧ i ≤ ci ∧ ci < j ∧ s < r ∧ r ≤ M by omega)
      have HXG := Lib.hid (show X[ci - a]? = some X[ci - a] from List.getElem?_eq_getElem hcX)
      have HYG := Lib.hid (show Y[M - 1 - (ci - a)]? = some Y[M - 1 - (ci - a)] from List.getElem?_eq_getElem hcY)
      rw [← hi, ← hj]
      have hij : (i : Int) < (j : Int) := by omega
      have hcn2 : (ci : Int) < (n : Int) := by omega
      have hpc : (pp : Int) - (ci : Int) < (n : Int) := by omega
      have hpc0 : (0 : Int) ≤ (pp : Int) - (ci : Int) := by omega
      have hpc1 : ¬ (pp : Int) < (ci : Int) := by omega
      have hpc2 : (ci : Int) ≤ (pp : Int) := by omega
      have hw1 : IntKind.i64.wrap ((pp : Int) - (ci : Int)) = (pp : Int) - (ci : Int) := by simp [IntKind.wrap, IntKind.bits, IntKind.signed]; omega
      have ht1 : ((pp : Int) - (ci : Int)).toNat = pp - ci := by omega
      have hsum2 : (i : Int) + (j : Int) ≤ 2000 := by omega
      clear hi hj hci hLs hsr hrH hlt hbs hlh
      generalize X[ci - a] = x at *
      generalize Y[M - 1 - (ci - a)] = y at *
      clear hcX hcY
      by_cases hc : y.loc < x.loc
      · skip
        have hcn := (cmpI_neg y.loc x.loc).2 hc
        have hcd : decide (cmpI y.loc x.loc < 0) = true := decide_eq_true hcn
        have HH2 := Lib.hid (show ∀ u v, ci - a < H0 → X[ci - a]? = some u → Y[M - 1 - (ci - a)]? = some v → v.loc < u.loc from fun u v _ hu hv => by
          rw [HXG.out] at hu; rw [HYG.out] at hv; injection hu with hu; injection hv with hv; subst hu hv; exact hc)
        clear hc
        go_wp2_with fail
        refine wp_region_held_drew (S := fun W => ER W g D) (by kernel_rfl) (HE.out.drew) (fun hHeld => ?_)
        have Ec0 := Lib.hid (HE.out.drew)
        have Kc0 := Lib.hid (HK.out.drew)
        clear hHeld
        generalize wr.drew = vc0 at *
        refine wpAnyH_take (i := 0) (oi := ⟨some 158, _, _, _, _, _⟩) (v := .func (.func 37) #[] #[]) rfl (by kernel_rfl) (by kernel_rfl) (by kernel_rfl) (fun _ _ _ h => h) (Or.inl ⟨by rfl, ?_⟩) Ec0.out ?_
        · intro W' hW
          go_simp
        try simp only [Act.put, List.setIfInBounds_toArray, List.set_cons_zero, List.set_cons_succ]
        refine wpAnyH_take (i := 1) (oi := ⟨some 159, _, _, _, _, _⟩) (v := .slice (some ⟨g, 0, none⟩) n c) rfl (by kernel_rfl) (by kernel_rfl) (by kernel_rfl) (fun _ _ _ h => h) (Or.inl ⟨by rfl, ?_⟩) Ec0.out ?_
        · intro W' hW
          go_simp
        try simp only [Act.put, List.setIfInBounds_toArray, List.set_cons_zero, List.set_cons_succ]
        refine wpAnyH_take (i := 2) (oi := ⟨some 160, _, _, _, _, _⟩) (v := .int .i64 (pp : Int)) rfl (by kernel_rfl) (by kernel_rfl) (by kernel_rfl) (fun _ _ _ h => h) (Or.inl ⟨by rfl, ?_⟩) Ec0.out ?_
        · intro W' hW
          go_simp
        try simp only [Act.put, List.setIfInBounds_toArray, List.set_cons_zero, List.set_cons_succ]
        refine wpAnyH_take (i := 3) (oi := ⟨some 161, _, _, _, _, _⟩) (v := .int .i64 (ci : Int)) rfl (by kernel_rfl) (by kernel_rfl) (by kernel_rfl) (fun _ _ _ h => h) (Or.inl ⟨by rfl, ?_⟩) Ec0.out ?_
        · intro W' hW
          go_simp
        try simp only [Act.put, List.setIfInBounds_toArray, List.set_cons_zero, List.set_cons_succ]
        refine wpAnyH_take (i := 4) (oi := ⟨some 162, _, _, _, _, _⟩) (v := .int .i64 ((pp : Int) - (ci : Int))) rfl (by kernel_rfl) (by kernel_rfl) (by kernel_rfl) (fun _ _ _ h => h) (Or.inl ⟨by rfl, ?_⟩) Ec0.out ?_
        · intro W' hW
          go_simp
        try simp only [Act.put, List.setIfInBounds_toArray, List.set_cons_zero, List.set_cons_succ]
        refine wpAnyH_take (i := 5) (oi := ⟨some 163, _, _, _, _, _⟩) (v := .pointer (some ⟨g, (pp - ci) * 6, none⟩)) rfl (by kernel_rfl) (by kernel_rfl) (by kernel_rfl) (fun _ _ _ h => h) (Or.inl ⟨by rfl, ?_⟩) Ec0.out ?_
        · intro W' hW
          go_simp
        try simp only [Act.put, List.setIfInBounds_toArray, List.set_cons_zero, List.set_cons_succ]
        refine wpAnyH_take (i := 6) (oi := ⟨some 164, _, _, _, _, _⟩) (v := entV y) rfl (by kernel_rfl) (by kernel_rfl) (by kernel_rfl) (fun _ _ _ h => h) (yields_e (by rfl) (.tmp 163) rfl g (pp - ci) rfl (fun W hW => hW) HY.out) Ec0.out ?_
        try simp only [Act.put, List.setIfInBounds_toArray, List.set_cons_zero, List.set_cons_succ]
        refine wpAnyH_take (i := 7) (oi := ⟨some 165, _, _, _, _, _⟩) (v := .slice (some ⟨g, 0, none⟩) n c) rfl (by kernel_rfl) (by kernel_rfl) (by kernel_rfl) (fun _ _ _ h => h) (Or.inl ⟨by rfl, ?_⟩) Ec0.out ?_
        · intro W' hW
          go_simp
        try simp only [Act.put, List.setIfInBounds_toArray, List.set_cons_zero, List.set_cons_succ]
        refine wpAnyH_take (i := 8) (oi := ⟨some 166, _, _, _, _, _⟩) (v := .int .i64 (ci : Int)) rfl (by kernel_rfl) (by kernel_rfl) (by kernel_rfl) (fun _ _ _ h => h) (Or.inl ⟨by rfl, ?_⟩) Ec0.out ?_
        · intro W' hW
          go_simp
        try simp only [Act.put, List.setIfInBounds_toArray, List.set_cons_zero, List.set_cons_succ]
        refine wpAnyH_take (i := 9) (oi := ⟨some 167, _, _, _, _, _⟩) (v := .pointer (some ⟨g, ci * 6, none⟩)) rfl (by kernel_rfl) (by kernel_rfl) (by kernel_rfl) (fun _ _ _ h => h) (Or.inl ⟨by rfl, ?_⟩) Ec0.out ?_
        · intro W' hW
          go_simp
        try simp only [Act.put, List.setIfInBounds_toArray, List.set_cons_zero, List.set_cons_succ]
        refine wpAnyH_take (i := 10) (oi := ⟨some 168, _, _, _, _, _⟩) (v := entV x) rfl (by kernel_rfl) (by kernel_rfl) (by kernel_rfl) (fun _ _ _ h => h) (yields_e (by rfl) (.tmp 167) rfl g (ci) rfl (fun W hW => hW) HX.out) Ec0.out ?_
        try simp only [Act.put, List.setIfInBounds_toArray, List.set_cons_zero, List.set_cons_succ]
        refine wpAnyH_ready (rs := [11]) (by kernel_rfl) (by simp) ?_
        refine AllReadyH.cons (o := ⟨some 169, _, _, _, _, _⟩) rfl (fun K hK => ?_) (AllReadyH.nil)
        go_simp
        refine (place_any y x vc0).mono ?_
        rintro e vc1 ⟨rfl, hb⟩
        have Ec1 := Lib.hid (Ec0.out.below hb)
        have Kc1 := Lib.hid (Kc0.out.trans (Keep.of_below hb))
        clear hb
        refine hK.out _ _ Ec1.out (fun hHeldq => ?_)
        clear hK hHeldq
        try simp only [Act.put, List.setIfInBounds_toArray, List.set_cons_zero, List.set_cons_succ]
        refine wpAnyH_take (i := 12) (oi := ⟨some 170, _, _, _, _, _⟩) (v := .bool true) rfl (by kernel_rfl) (by kernel_rfl) (by kernel_rfl) (fun _ _ _ h => h) (Or.inl ⟨by rfl, ?_⟩) Ec1.out ?_
        · intro W' hW
          go_simp
        try simp only [Act.put, List.setIfInBounds_toArray, List.set_cons_zero, List.set_cons_succ]
        refine wpAnyH_take (i := 13) (oi := ⟨some 171, _, _, _, _, _⟩) (v := .bool false) rfl (by kernel_rfl) (by kernel_rfl) (by kernel_rfl) (fun _ _ _ h => h) (Or.inl ⟨by rfl, ?_⟩) Ec1.out ?_
        · intro W' hW
          go_simp
        try simp only [Act.put, List.setIfInBounds_toArray, List.set_cons_zero, List.set_cons_succ]
        refine wpAnyH_done (by kernel_rfl) ?_ _
        go_wp2
        go_roundw
        case rel => exact ⟨s, ci - a, HSR.out.1, by have := HIJ.out; omega, by have := HIJ.out; have := HSR.out; omega, by (show Value.int .i64 _ = _; congr 1; have := HIJ.out; omega), by (show Value.int .i64 _ = _; congr 1; have := HIJ.out; omega), HLO, HH2, Ec1, Kc1⟩
        case measure => have := HIJ.out; show ((ci : Int)).toNat - ((i : Int)).toNat < ((j : Int)).toNat - ((i : Int)).toNat; omega
      · skip
        have hcn : ¬ cmpI y.loc x.loc < 0 := fun h => hc ((cmpI_neg y.loc x.loc).1 h)
        have hcp : 0 ≤ cmpI y.loc x.loc := by omega
        have hcd : decide (cmpI y.loc x.loc < 0) = false := decide_eq_false hcn
        have HL2 := Lib.hid (show ∀ u v, L0 < ci + 1 - a → X[ci + 1 - a - 1]? = some u → Y[M - (ci + 1 - a)]? = some v → u.loc ≤ v.loc from fun u v _ hu hv => by
          have := HIJ.out; rw [show ci + 1 - a - 1 = ci - a by omega, HXG.out] at hu; rw [show M - (ci + 1 - a) = M - 1 - (ci - a) by omega, HYG.out] at hv; injection hu with hu; injection hv with hv; subst hu hv; omega)
        clear hc
        go_wp2_with fail
        refine wp_region_held_drew (S := fun W => ER W g D) (by kernel_rfl) (HE.out.drew) (fun hHeld => ?_)
        have Ec0 := Lib.hid (HE.out.drew)
        have Kc0 := Lib.hid (HK.out.drew)
        clear hHeld
        generalize wr.drew = vc0 at *
        refine wpAnyH_take (i := 0) (oi := ⟨some 158, _, _, _, _, _⟩) (v := .func (.func 37) #[] #[]) rfl (by kernel_rfl) (by kernel_rfl) (by kernel_rfl) (fun _ _ _ h => h) (Or.inl ⟨by rfl, ?_⟩) Ec0.out ?_
        · intro W' hW
          go_simp
        try simp only [Act.put, List.setIfInBounds_toArray, List.set_cons_zero, List.set_cons_succ]
        refine wpAnyH_take (i := 1) (oi := ⟨some 159, _, _, _, _, _⟩) (v := .slice (some ⟨g, 0, none⟩) n c) rfl (by kernel_rfl) (by kernel_rfl) (by kernel_rfl) (fun _ _ _ h => h) (Or.inl ⟨by rfl, ?_⟩) Ec0.out ?_
        · intro W' hW
          go_simp
        try simp only [Act.put, List.setIfInBounds_toArray, List.set_cons_zero, List.set_cons_succ]
        refine wpAnyH_take (i := 2) (oi := ⟨some 160, _, _, _, _, _⟩) (v := .int .i64 (pp : Int)) rfl (by kernel_rfl) (by kernel_rfl) (by kernel_rfl) (fun _ _ _ h => h) (Or.inl ⟨by rfl, ?_⟩) Ec0.out ?_
        · intro W' hW
          go_simp
        try simp only [Act.put, List.setIfInBounds_toArray, List.set_cons_zero, List.set_cons_succ]
        refine wpAnyH_take (i := 3) (oi := ⟨some 161, _, _, _, _, _⟩) (v := .int .i64 (ci : Int)) rfl (by kernel_rfl) (by kernel_rfl) (by kernel_rfl) (fun _ _ _ h => h) (Or.inl ⟨by rfl, ?_⟩) Ec0.out ?_
        · intro W' hW
          go_simp
        try simp only [Act.put, List.setIfInBounds_toArray, List.set_cons_zero, List.set_cons_succ]
        refine wpAnyH_take (i := 4) (oi := ⟨some 162, _, _, _, _, _⟩) (v := .int .i64 ((pp : Int) - (ci : Int))) rfl (by kernel_rfl) (by kernel_rfl) (by kernel_rfl) (fun _ _ _ h => h) (Or.inl ⟨by rfl, ?_⟩) Ec0.out ?_
        · intro W' hW
          go_simp
        try simp only [Act.put, List.setIfInBounds_toArray, List.set_cons_zero, List.set_cons_succ]
        refine wpAnyH_take (i := 5) (oi := ⟨some 163, _, _, _, _, _⟩) (v := .pointer (some ⟨g, (pp - ci) * 6, none⟩)) rfl (by kernel_rfl) (by kernel_rfl) (by kernel_rfl) (fun _ _ _ h => h) (Or.inl ⟨by rfl, ?_⟩) Ec0.out ?_
        · intro W' hW
          go_simp
        try simp only [Act.put, List.setIfInBounds_toArray, List.set_cons_zero, List.set_cons_succ]
        refine wpAnyH_take (i := 6) (oi := ⟨some 164, _, _, _, _, _⟩) (v := entV y) rfl (by kernel_rfl) (by kernel_rfl) (by kernel_rfl) (fun _ _ _ h => h) (yields_e (by rfl) (.tmp 163) rfl g (pp - ci) rfl (fun W hW => hW) HY.out) Ec0.out ?_
        try simp only [Act.put, List.setIfInBounds_toArray, List.set_cons_zero, List.set_cons_succ]
        refine wpAnyH_take (i := 7) (oi := ⟨some 165, _, _, _, _, _⟩) (v := .slice (some ⟨g, 0, none⟩) n c) rfl (by kernel_rfl) (by kernel_rfl) (by kernel_rfl) (fun _ _ _ h => h) (Or.inl ⟨by rfl, ?_⟩) Ec0.out ?_
        · intro W' hW
          go_simp
        try simp only [Act.put, List.setIfInBounds_toArray, List.set_cons_zero, List.set_cons_succ]
        refine wpAnyH_take (i := 8) (oi := ⟨some 166, _, _, _, _, _⟩) (v := .int .i64 (ci : Int)) rfl (by kernel_rfl) (by kernel_rfl) (by kernel_rfl) (fun _ _ _ h => h) (Or.inl ⟨by rfl, ?_⟩) Ec0.out ?_
        · intro W' hW
          go_simp
        try simp only [Act.put, List.setIfInBounds_toArray, List.set_cons_zero, List.set_cons_succ]
        refine wpAnyH_take (i := 9) (oi := ⟨some 167, _, _, _, _, _⟩) (v := .pointer (some ⟨g, ci * 6, none⟩)) rfl (by kernel_rfl) (by kernel_rfl) (by kernel_rfl) (fun _ _ _ h => h) (Or.inl ⟨by rfl, ?_⟩) Ec0.out ?_
        · intro W' hW
          go_simp
        try simp only [Act.put, List.setIfInBounds_toArray, List.set_cons_zero, List.set_cons_succ]
        refine wpAnyH_take (i := 10) (oi := ⟨some 168, _, _, _, _, _⟩) (v := entV x) rfl (by kernel_rfl) (by kernel_rfl) (by kernel_rfl) (fun _ _ _ h => h) (yields_e (by rfl) (.tmp 167) rfl g (ci) rfl (fun W hW => hW) HX.out) Ec0.out ?_
        try simp only [Act.put, List.setIfInBounds_toArray, List.set_cons_zero, List.set_cons_succ]
        refine wpAnyH_ready (rs := [11]) (by kernel_rfl) (by simp) ?_
        refine AllReadyH.cons (o := ⟨some 169, _, _, _, _, _⟩) rfl (fun K hK => ?_) (AllReadyH.nil)
        go_simp
        refine (place_any y x vc0).mono ?_
        rintro e vc1 ⟨rfl, hb⟩
        have Ec1 := Lib.hid (Ec0.out.below hb)
        have Kc1 := Lib.hid (Kc0.out.trans (Keep.of_below hb))
        clear hb
        refine hK.out _ _ Ec1.out (fun hHeldq => ?_)
        clear hK hHeldq
        try simp only [Act.put, List.setIfInBounds_toArray, List.set_cons_zero, List.set_cons_succ]
        refine wpAnyH_take (i := 12) (oi := ⟨some 170, _, _, _, _, _⟩) (v := .bool false) rfl (by kernel_rfl) (by kernel_rfl) (by kernel_rfl) (fun _ _ _ h => h) (Or.inl ⟨by rfl, ?_⟩) Ec1.out ?_
        · intro W' hW
          go_simp
        try simp only [Act.put, List.setIfInBounds_toArray, List.set_cons_zero, List.set_cons_succ]
        refine wpAnyH_take (i := 13) (oi := ⟨some 171, _, _, _, _, _⟩) (v := .bool true) rfl (by kernel_rfl) (by kernel_rfl) (by kernel_rfl) (fun _ _ _ h => h) (Or.inl ⟨by rfl, ?_⟩) Ec1.out ?_
        · intro W' hW
          go_simp
        try simp only [Act.put, List.setIfInBounds_toArray, List.set_cons_zero, List.set_cons_succ]
        refine wpAnyH_done (by kernel_rfl) ?_ _
        go_wp2
        go_roundw
        case rel => exact ⟨ci + 1 - a, r, by have := HIJ.out; have := HSR.out; omega, by have := HIJ.out; omega, HSR.out.2.2, by (show Value.int .i64 _ = _; congr 1; have := HIJ.out; omega), by (show Value.int .i64 _ = _; congr 1; have := HIJ.out; omega), HL2, HHI, Ec1, Kc1⟩
        case measure => have := HIJ.out; show ((j : Int)).toNat - ((ci : Int) + 1).toNat < ((j : Int)).toNat - ((i : Int)).toNat; omega
    · skip
      obtain rfl : s = r := by omega
      obtain ⟨e, he⟩ : ∃ e, e = M - s := ⟨_, rfl⟩
      obtain ⟨st, hst⟩ : ∃ st, st = a + s := ⟨_, rfl⟩
      obtain ⟨en, hen⟩ : ∃ en, en = m + e := ⟨_, rfl⟩
      have HHA := Lib.hid (show ∀ u v, (X.take s).getLast? = some u → (Y.drop e).head? = some v → u.loc ≤ v.loc from fun u v hu hv => by
        rw [drop_head, he] at hv
        by_cases h0 : L0 < s
        · rw [take_last (by omega) (by omega)] at hu; exact HLO.out u v h0 hu hv
        · rcases hlh.2.2.2.2.1 with h | h
          · rw [show s = 0 by omega, List.take_zero] at hu; cases hu
          · rw [List.getElem?_eq_none (by omega)] at hv; cases hv)
      have HHB := Lib.hid (show ∀ u v, (X.drop s).head? = some u → (Y.take e).getLast? = some v → v.loc < u.loc from fun u v hu hv => by
        rw [drop_head] at hu
        by_cases h0 : s < H0
        · rw [take_last (by omega) (by omega), show e - 1 = M - 1 - s by omega] at hv; exact HHI.out u v h0 hu hv
        · rcases hlh.2.2.2.2.2 with h | h
          · rw [List.getElem?_eq_none (by omega)] at hu; cases hu
          · rw [show e = 0 by omega, List.take_zero] at hv; cases hv)
      have EE := Lib.hid (show ER wr g (P ++ (X ++ (Y ++ Q))) from HD.out ▸ HE.out)
      have HALL := Lib.hid (show P.length = a ∧ a + s = st ∧ s ≤ X.length ∧ a + X.length = m ∧ m + e = en ∧ e ≤ Y.length ∧ m + Y.length = b ∧ b + Q.length = n ∧ n ≤ 1000 ∧ a + s + e = mid ∧ 0 < X.length ∧ 0 < Y.length by omega)
      rw [← hst]
      have hend : (np : Int) - (st : Int) = (en : Int) := by omega
      have hii : ¬ (st : Int) < (st : Int) := by omega
      have hsX : s ≤ X.length := by omega
      have heY : e ≤ Y.length := by omega
      have hse : a + s + e = mid := by omega
      have hstn : (st : Int) ≤ 1000 := by omega
      have henn : (en : Int) ≤ 1000 := by omega
      have hb2 := HBASE.out
      clear hLs hsr hrH hlt hlh hbs HE HLO HHI he HXI HYI HD
      by_cases c1 : s = 0
      · skip
        by_cases c2 : e = 0
        · skip
          exfalso
          have hb3 := HBASE.out
          have ha3 := HALL.out
          clear hst hen
          omega
        · by_cases c3 : e = Y.length
          · skip
            have HSC := Lib.hid (show s = 0 by omega)
            have HEC := Lib.hid (show e = Y.length by omega)
            have q1 : (st : Int) < (m : Int) := by omega
            have q1d : decide ((st : Int) < (m : Int)) = true := decide_eq_true q1
            have q2 : (m : Int) < (en : Int) := by omega
            have q2d : decide ((m : Int) < (en : Int)) = true := decide_eq_true q2
            have q3 : ¬ (a : Int) < (st : Int) := by omega
            have q3d : decide ((a : Int) < (st : Int)) = false := decide_eq_false q3
            have q4 : (st : Int) < (mid : Int) := by omega
            have q4d : decide ((st : Int) < (mid : Int)) = true := decide_eq_true q4
            have q5 : (mid : Int) < (en : Int) := by omega
            have q5d : decide ((mid : Int) < (en : Int)) = true := decide_eq_true q5
            have q6 : ¬ (en : Int) < (b : Int) := by omega
            have q6d : decide ((en : Int) < (b : Int)) = false := decide_eq_false q6
            have LX1 := Lib.hid (show (X.take s).length = s by rw [List.length_take]; omega)
            have LX2 := Lib.hid (show (X.drop s).length = X.length - s by rw [List.length_drop])
            have LY1 := Lib.hid (show (Y.take e).length = e by rw [List.length_take]; omega)
            have LY2 := Lib.hid (show (Y.drop e).length = Y.length - e by rw [List.length_drop])
            have hw2 : IntKind.i64.wrap ((np : Int) - (st : Int)) = (en : Int) := by rw [hend]; simp [IntKind.wrap, IntKind.bits, IntKind.signed]; omega
            clear hst hen hse hsX heY hb2 hend
            try clear c1
            try clear c2
            try clear c3
            try clear c4
            have ER1 := Lib.hid (show ER wr g ((P ++ X.take s) ++ (X.drop s ++ (Y.take e ++ (Y.drop e ++ Q)))) from full_rot s e ▸ EE.out)
            have HRC := Lib.hid (rot_any g n c st m en (P ++ X.take s) (X.drop s) (Y.take e) (Y.drop e ++ Q) (.func (.func 37) #[] #[]) wr ER1.out (by rw [List.length_append, LX1.out]; have := HALL.out; omega) (by rw [LX2.out]; have := HALL.out; omega) (by rw [LY1.out]; have := HALL.out; omega) (by rw [List.length_append, LY2.out]; have := HALL.out; omega) (by have := HALL.out; omega) (by rw [LX2.out]; have := HALL.out; have := HSC.out; omega) (by rw [LY1.out]; have := HEC.out; have := HALL.out; omega))
            go_wp2_with fail
            refine HRC.out.mono ?_
            rintro e1 w1 ⟨rfl, he, hk⟩
            have E1 := Lib.hid (show ER w1 g (P ++ (X.take s ++ (Y.take e ++ (X.drop s ++ (Y.drop e ++ Q))))) from by rw [List.append_assoc] at he; exact he)
            have K1 := Lib.hid (HK.out.trans hk)
            clear he hk HRC ER1
            obtain ⟨R1, hR1⟩ : ∃ R1, R1 = X.take s ++ Y.take e := ⟨_, rfl⟩
            have SR1 := Lib.hid (show StS Ent.loc (X.take s ++ Y.take e) R1 by rw [hR1]; exact StS.of_asc Ent.loc (by rw [show X.take s = [] from List.eq_nil_of_length_eq_zero (by rw [LX1.out]; exact HSC.out), List.nil_append]; exact (asc_cut Ent.loc HAY.out e).1))
            have E2 := Lib.hid (show ER w1 g (P ++ (R1 ++ (X.drop s ++ (Y.drop e ++ Q)))) from by rw [hR1, List.append_assoc (X.take s)]; exact E1.out)
            have K2 := Lib.hid K1.out
            clear hR1
            have LR1 := Lib.hid (show R1.length = s + e by rw [SR1.out.length, List.length_append, LX1.out, LY1.out])
            obtain ⟨R2, hR2⟩ : ∃ R2, R2 = X.drop s ++ Y.drop e := ⟨_, rfl⟩
            have SR2 := Lib.hid (show StS Ent.loc (X.drop s ++ Y.drop e) R2 by rw [hR2]; exact StS.of_asc Ent.loc (by rw [show Y.drop e = [] from List.eq_nil_of_length_eq_zero (by rw [LY2.out]; have := HEC.out; omega), List.append_nil]; exact (asc_cut Ent.loc HAX.out s).2))
            have E3 := Lib.hid (show ER w1 g (P ++ ((R1 ++ R2) ++ Q)) from by rw [hR2]; have h := E2.out; simpa only [List.append_assoc] using h)
            have K3 := Lib.hid K2.out
            clear hR2
            have SF := Lib.hid (StS.halves Ent.loc HAX.out HAY.out HHA.out HHB.out SR1.out SR2.out)
            clear E1 E2 EE
            go_wp2
            go_end0
            exact ⟨rfl, R1 ++ R2, SF.out, E3.out, K3.out⟩
          · skip
            have HSC := Lib.hid (show s = 0 by omega)
            have HEC := Lib.hid (show 0 < e ∧ e < Y.length by omega)
            have q1 : (st : Int) < (m : Int) := by omega
            have q1d : decide ((st : Int) < (m : Int)) = true := decide_eq_true q1
            have q2 : (m : Int) < (en : Int) := by omega
            have q2d : decide ((m : Int) < (en : Int)) = true := decide_eq_true q2
            have q3 : ¬ (a : Int) < (st : Int) := by omega
            have q3d : decide ((a : Int) < (st : Int)) = false := decide_eq_false q3
            have q4 : (st : Int) < (mid : Int) := by omega
            have q4d : decide ((st : Int) < (mid : Int)) = true := decide_eq_true q4
            have q5 : (mid : Int) < (en : Int) := by omega
            have q5d : decide ((mid : Int) < (en : Int)) = true := decide_eq_true q5
            have q6 : (en : Int) < (b : Int) := by omega
            have q6d : decide ((en : Int) < (b : Int)) = true := decide_eq_true q6
            have LX1 := Lib.hid (show (X.take s).length = s by rw [List.length_take]; omega)
            have LX2 := Lib.hid (show (X.drop s).length = X.length - s by rw [List.length_drop])
            have LY1 := Lib.hid (show (Y.take e).length = e by rw [List.length_take]; omega)
            have LY2 := Lib.hid (show (Y.drop e).length = Y.length - e by rw [List.length_drop])
            have hw2 : IntKind.i64.wrap ((np : Int) - (st : Int)) = (en : Int) := by rw [hend]; simp [IntKind.wrap, IntKind.bits, IntKind.signed]; omega
            clear hst hen hse hsX heY hb2 hend
            try clear c1
            try clear c2
            try clear c3
            try clear c4
            have ER1 := Lib.hid (show ER wr g ((P ++ X.take s) ++ (X.drop s ++ (Y.take e ++ (Y.drop e ++ Q)))) from full_rot s e ▸ EE.out)
            have HRC := Lib.hid (rot_any g n c st m en (P ++ X.take s) (X.drop s) (Y.take e) (Y.drop e ++ Q) (.func (.func 37) #[] #[]) wr ER1.out (by rw [List.length_append, LX1.out]; have := HALL.out; omega) (by rw [LX2.out]; have := HALL.out; omega) (by rw [LY1.out]; have := HALL.out; omega) (by rw [List.length_append, LY2.out]; have := HALL.out; omega) (by have := HALL.out; omega) (by rw [LX2.out]; have := HALL.out; have := HSC.out; omega) (by rw [LY1.out]; have := HEC.out; have := HALL.out; omega))
            go_wp2_with fail
            refine HRC.out.mono ?_
            rintro e1 w1 ⟨rfl, he, hk⟩
            have E1 := Lib.hid (show ER w1 g (P ++ (X.take s ++ (Y.take e ++ (X.drop s ++ (Y.drop e ++ Q))))) from by rw [List.append_assoc] at he; exact he)
            have K1 := Lib.hid (HK.out.trans hk)
            clear he hk HRC ER1
            obtain ⟨R1, hR1⟩ : ∃ R1, R1 = X.take s ++ Y.take e := ⟨_, rfl⟩
            have SR1 := Lib.hid (show StS Ent.loc (X.take s ++ Y.take e) R1 by rw [hR1]; exact StS.of_asc Ent.loc (by rw [show X.take s = [] from List.eq_nil_of_length_eq_zero (by rw [LX1.out]; exact HSC.out), List.nil_append]; exact (asc_cut Ent.loc HAY.out e).1))
            have E2 := Lib.hid (show ER w1 g (P ++ (R1 ++ (X.drop s ++ (Y.drop e ++ Q)))) from by rw [hR1, List.append_assoc (X.take s)]; exact E1.out)
            have K2 := Lib.hid K1.out
            clear hR1
            have LR1 := Lib.hid (show R1.length = s + e by rw [SR1.out.length, List.length_append, LX1.out, LY1.out])
            have HRC2 := Lib.hid (hIH.out (X.drop s) (Y.drop e) (by rw [LX2.out]; have := HSC.out; have := HALL.out; omega) (by rw [LY2.out]; have := HEC.out; have := HALL.out; omega) (by rw [LX2.out, LY2.out]; have := HALL.out; have := HSC.out; have := HEC.out; omega) mid en b (P ++ R1) Q w1 (asc_cut Ent.loc HAX.out s).2 (asc_cut Ent.loc HAY.out e).2 (by rw [List.length_append, LR1.out]; have := HALL.out; omega) (by rw [LX2.out]; have := HALL.out; omega) (by rw [LY2.out]; have := HALL.out; omega) (by have := HALL.out; omega) (by have := HALL.out; omega) (by rw [List.append_assoc]; exact E2.out))
            go_wp2_with fail
            refine HRC2.out.mono ?_
            rintro e3 w3 ⟨rfl, R2, hs, he, hk⟩
            have SR2 := Lib.hid hs
            have E3 := Lib.hid (show ER w3 g (P ++ ((R1 ++ R2) ++ Q)) from by rw [List.append_assoc]; rw [List.append_assoc] at he; exact he)
            have K3 := Lib.hid (K2.out.trans hk)
            clear hs he hk HRC2
            have SF := Lib.hid (StS.halves Ent.loc HAX.out HAY.out HHA.out HHB.out SR1.out SR2.out)
            clear E1 E2 EE
            go_wp2
            go_end0
            exact ⟨rfl, R1 ++ R2, SF.out, E3.out, K3.out⟩
      · by_cases c4 : s = X.length
        · skip
          by_cases c2 : e = 0
          · skip
            exfalso
            have hb3 := HBASE.out
            have ha3 := HALL.out
            clear hst hen
            omega
          · by_cases c3 : e = Y.length
            · skip
              exfalso
              have hb3 := HBASE.out
              have ha3 := HALL.out
              clear hst hen
              omega
            · skip
              exfalso
              have hb3 := HBASE.out
              have ha3 := HALL.out
              clear hst hen
              omega
        · skip
          by_cases c2 : e = 0
          · skip
            have HSC := Lib.hid (show 0 < s ∧ s < X.length by omega)
            have HEC := Lib.hid (show e = 0 by omega)
            have q1 : (st : Int) < (m : Int) := by omega
            have q1d : decide ((st : Int) < (m : Int)) = true := decide_eq_true q1
            have q2 : ¬ (m : Int) < (en : Int) := by omega
            have q2d : decide ((m : Int) < (en : Int)) = false := decide_eq_false q2
            have q3 : (a : Int) < (st : Int) := by omega
            have q3d : decide ((a : Int) < (st : Int)) = true := decide_eq_true q3
            have q4 : ¬ (st : Int) < (mid : Int) := by omega
            have q4d : decide ((st : Int) < (mid : Int)) = false := decide_eq_false q4
            have q5 : (mid : Int) < (en : Int) := by omega
            have q5d : decide ((mid : Int) < (en : Int)) = true := decide_eq_true q5
            have q6 : (en : Int) < (b : Int) := by omega
            have q6d : decide ((en : Int) < (b : Int)) = true := decide_eq_true q6
            have LX1 := Lib.hid (show (X.take s).length = s by rw [List.length_take]; omega)
            have LX2 := Lib.hid (show (X.drop s).length = X.length - s by rw [List.length_drop])
            have LY1 := Lib.hid (show (Y.take e).length = e by rw [List.length_take]; omega)
            have LY2 := Lib.hid (show (Y.drop e).length = Y.length - e by rw [List.length_drop])
            have hw2 : IntKind.i64.wrap ((np : Int) - (st : Int)) = (en : Int) := by rw [hend]; simp [IntKind.wrap, IntKind.bits, IntKind.signed]; omega
            clear hst hen hse hsX heY hb2 hend
            try clear c1
            try clear c2
            try clear c3
            try clear c4
            have E1 := Lib.hid (show ER wr g (P ++ (X.take s ++ (Y.take e ++ (X.drop s ++ (Y.drop e ++ Q))))) from no_rot (Or.inr (List.eq_nil_of_length_eq_zero (by rw [LY1.out]; exact HEC.out))) ▸ EE.out)
            have K1 := Lib.hid HK.out
            obtain ⟨R1, hR1⟩ : ∃ R1, R1 = X.take s ++ Y.take e := ⟨_, rfl⟩
            have SR1 := Lib.hid (show StS Ent.loc (X.take s ++ Y.take e) R1 by rw [hR1]; exact StS.of_asc Ent.loc (by rw [show Y.take e = [] from List.eq_nil_of_length_eq_zero (by rw [LY1.out]; exact HEC.out), List.append_nil]; exact (asc_cut Ent.loc HAX.out s).1))
            have E2 := Lib.hid (show ER wr g (P ++ (R1 ++ (X.drop s ++ (Y.drop e ++ Q)))) from by rw [hR1, List.append_assoc (X.take s)]; exact E1.out)
            have K2 := Lib.hid K1.out
            clear hR1
            have LR1 := Lib.hid (show R1.length = s + e by rw [SR1.out.length, List.length_append, LX1.out, LY1.out])
            have HRC2 := Lib.hid (hIH.out (X.drop s) (Y.drop e) (by rw [LX2.out]; have := HSC.out; have := HALL.out; omega) (by rw [LY2.out]; have := HEC.out; have := HALL.out; omega) (by rw [LX2.out, LY2.out]; have := HALL.out; have := HSC.out; have := HEC.out; omega) mid en b (P ++ R1) Q wr (asc_cut Ent.loc HAX.out s).2 (asc_cut Ent.loc HAY.out e).2 (by rw [List.length_append, LR1.out]; have := HALL.out; omega) (by rw [LX2.out]; have := HALL.out; omega) (by rw [LY2.out]; have := HALL.out; omega) (by have := HALL.out; omega) (by have := HALL.out; omega) (by rw [List.append_assoc]; exact E2.out))
            go_wp2_with fail
            refine HRC2.out.mono ?_
            rintro e3 w3 ⟨rfl, R2, hs, he, hk⟩
            have SR2 := Lib.hid hs
            have E3 := Lib.hid (show ER w3 g (P ++ ((R1 ++ R2) ++ Q)) from by rw [List.append_assoc]; rw [List.append_assoc] at he; exact he)
            have K3 := Lib.hid (K2.out.trans hk)
            clear hs he hk HRC2
            have SF := Lib.hid (StS.halves Ent.loc HAX.out HAY.out HHA.out HHB.out SR1.out SR2.out)
            clear E1 E2 EE
            go_wp2
            go_end0
            exact ⟨rfl, R1 ++ R2, SF.out, E3.out, K3.out⟩
          · by_cases c3 : e = Y.length
            · skip
              have HSC := Lib.hid (show 0 < s ∧ s < X.length by omega)
              have HEC := Lib.hid (show e = Y.length by omega)
              have q1 : (st : Int) < (m : Int) := by omega
              have q1d : decide ((st : Int) < (m : Int)) = true := decide_eq_true q1
              have q2 : (m : Int) < (en : Int) := by omega
              have q2d : decide ((m : Int) < (en : Int)) = true := decide_eq_true q2
              have q3 : (a : Int) < (st : Int) := by omega
              have q3d : decide ((a : Int) < (st : Int)) = true := decide_eq_true q3
              have q4 : (st : Int) < (mid : Int) := by omega
              have q4d : decide ((st : Int) < (mid : Int)) = true := decide_eq_true q4
              have q5 : (mid : Int) < (en : Int) := by omega
              have q5d : decide ((mid : Int) < (en : Int)) = true := decide_eq_true q5
              have q6 : ¬ (en : Int) < (b : Int) := by omega
              have q6d : decide ((en : Int) < (b : Int)) = false := decide_eq_false q6
              have LX1 := Lib.hid (show (X.take s).length = s by rw [List.length_take]; omega)
              have LX2 := Lib.hid (show (X.drop s).length = X.length - s by rw [List.length_drop])
              have LY1 := Lib.hid (show (Y.take e).length = e by rw [List.length_take]; omega)
              have LY2 := Lib.hid (show (Y.drop e).length = Y.length - e by rw [List.length_drop])
              have hw2 : IntKind.i64.wrap ((np : Int) - (st : Int)) = (en : Int) := by rw [hend]; simp [IntKind.wrap, IntKind.bits, IntKind.signed]; omega
              clear hst hen hse hsX heY hb2 hend
              try clear c1
              try clear c2
              try clear c3
              try clear c4
              have ER1 := Lib.hid (show ER wr g ((P ++ X.take s) ++ (X.drop s ++ (Y.take e ++ (Y.drop e ++ Q)))) from full_rot s e ▸ EE.out)
              have HRC := Lib.hid (rot_any g n c st m en (P ++ X.take s) (X.drop s) (Y.take e) (Y.drop e ++ Q) (.func (.func 37) #[] #[]) wr ER1.out (by rw [List.length_append, LX1.out]; have := HALL.out; omega) (by rw [LX2.out]; have := HALL.out; omega) (by rw [LY1.out]; have := HALL.out; omega) (by rw [List.length_append, LY2.out]; have := HALL.out; omega) (by have := HALL.out; omega) (by rw [LX2.out]; have := HALL.out; have := HSC.out; omega) (by rw [LY1.out]; have := HEC.out; have := HALL.out; omega))
              go_wp2_with fail
              refine HRC.out.mono ?_
              rintro e1 w1 ⟨rfl, he, hk⟩
              have E1 := Lib.hid (show ER w1 g (P ++ (X.take s ++ (Y.take e ++ (X.drop s ++ (Y.drop e ++ Q))))) from by rw [List.append_assoc] at he; exact he)
              have K1 := Lib.hid (HK.out.trans hk)
              clear he hk HRC ER1
              have HLC := Lib.hid (hIH.out (X.take s) (Y.take e) (by rw [LX1.out]; have := HSC.out; have := HALL.out; omega) (by rw [LY1.out]; have := HEC.out; have := HALL.out; omega) (by rw [LX1.out, LY1.out]; have := HALL.out; omega) a st mid P (X.drop s ++ (Y.drop e ++ Q)) w1 (asc_cut Ent.loc HAX.out s).1 (asc_cut Ent.loc HAY.out e).1 (by have := HALL.out; omega) (by rw [LX1.out]; have := HALL.out; omega) (by rw [LY1.out]; have := HALL.out; omega) (by rw [List.length_append, List.length_append, LX2.out, LY2.out]; have := HALL.out; omega) (by have := HALL.out; omega) E1.out)
              go_wp2_with fail
              refine HLC.out.mono ?_
              rintro e2 w2 ⟨rfl, R1, hs, he, hk⟩
              have SR1 := Lib.hid hs
              have E2 := Lib.hid he
              have K2 := Lib.hid (K1.out.trans hk)
              clear hs he hk HLC
              have LR1 := Lib.hid (show R1.length = s + e by rw [SR1.out.length, List.length_append, LX1.out, LY1.out])
              obtain ⟨R2, hR2⟩ : ∃ R2, R2 = X.drop s ++ Y.drop e := ⟨_, rfl⟩
              have SR2 := Lib.hid (show StS Ent.loc (X.drop s ++ Y.drop e) R2 by rw [hR2]; exact StS.of_asc Ent.loc (by rw [show Y.drop e = [] from List.eq_nil_of_length_eq_zero (by rw [LY2.out]; have := HEC.out; omega), List.append_nil]; exact (asc_cut Ent.loc HAX.out s).2))
              have E3 := Lib.hid (show ER w2 g (P ++ ((R1 ++ R2) ++ Q)) from by rw [hR2]; have h := E2.out; simpa only [List.append_assoc] using h)
              have K3 := Lib.hid K2.out
              clear hR2
              have SF := Lib.hid (StS.halves Ent.loc HAX.out HAY.out HHA.out HHB.out SR1.out SR2.out)
              clear E1 E2 EE
              go_wp2
              go_end0
              exact ⟨rfl, R1 ++ R2, SF.out, E3.out, K3.out⟩
            · skip
              have HSC := Lib.hid (show 0 < s ∧ s < X.length by omega)
              have HEC := Lib.hid (show 0 < e ∧ e < Y.length by omega)
              have q1 : (st : Int) < (m : Int) := by omega
              have q1d : decide ((st : Int) < (m : Int)) = true := decide_eq_true q1
              have q2 : (m : Int) < (en : Int) := by omega
              have q2d : decide ((m : Int) < (en : Int)) = true := decide_eq_true q2
              have q3 : (a : Int) < (st : Int) := by omega
              have q3d : decide ((a : Int) < (st : Int)) = true := decide_eq_true q3
              have q4 : (st : Int) < (mid : Int) := by omega
              have q4d : decide ((st : Int) < (mid : Int)) = true := decide_eq_true q4
              have q5 : (mid : Int) < (en : Int) := by omega
              have q5d : decide ((mid : Int) < (en : Int)) = true := decide_eq_true q5
              have q6 : (en : Int) < (b : Int) := by omega
              have q6d : decide ((en : Int) < (b : Int)) = true := decide_eq_true q6
              have LX1 := Lib.hid (show (X.take s).length = s by rw [List.length_take]; omega)
              have LX2 := Lib.hid (show (X.drop s).length = X.length - s by rw [List.length_drop])
              have LY1 := Lib.hid (show (Y.take e).length = e by rw [List.length_take]; omega)
              have LY2 := Lib.hid (show (Y.drop e).length = Y.length - e by rw [List.length_drop])
              have hw2 : IntKind.i64.wrap ((np : Int) - (st : Int)) = (en : Int) := by rw [hend]; simp [IntKind.wrap, IntKind.bits, IntKind.signed]; omega
              clear hst hen hse hsX heY hb2 hend
              try clear c1
              try clear c2
              try clear c3
              try clear c4
              have ER1 := Lib.hid (show ER wr g ((P ++ X.take s) ++ (X.drop s ++ (Y.take e ++ (Y.drop e ++ Q)))) from full_rot s e ▸ EE.out)
              have HRC := Lib.hid (rot_any g n c st m en (P ++ X.take s) (X.drop s) (Y.take e) (Y.drop e ++ Q) (.func (.func 37) #[] #[]) wr ER1.out (by rw [List.length_append, LX1.out]; have := HALL.out; omega) (by rw [LX2.out]; have := HALL.out; omega) (by rw [LY1.out]; have := HALL.out; omega) (by rw [List.length_append, LY2.out]; have := HALL.out; omega) (by have := HALL.out; omega) (by rw [LX2.out]; have := HALL.out; have := HSC.out; omega) (by rw [LY1.out]; have := HEC.out; have := HALL.out; omega))
              go_wp2_with fail
              refine HRC.out.mono ?_
              rintro e1 w1 ⟨rfl, he, hk⟩
              have E1 := Lib.hid (show ER w1 g (P ++ (X.take s ++ (Y.take e ++ (X.drop s ++ (Y.drop e ++ Q))))) from by rw [List.append_assoc] at he; exact he)
              have K1 := Lib.hid (HK.out.trans hk)
              clear he hk HRC ER1
              have HLC := Lib.hid (hIH.out (X.take s) (Y.take e) (by rw [LX1.out]; have := HSC.out; have := HALL.out; omega) (by rw [LY1.out]; have := HEC.out; have := HALL.out; omega) (by rw [LX1.out, LY1.out]; have := HALL.out; omega) a st mid P (X.drop s ++ (Y.drop e ++ Q)) w1 (asc_cut Ent.loc HAX.out s).1 (asc_cut Ent.loc HAY.out e).1 (by have := HALL.out; omega) (by rw [LX1.out]; have := HALL.out; omega) (by rw [LY1.out]; have := HALL.out; omega) (by rw [List.length_append, List.length_append, LX2.out, LY2.out]; have := HALL.out; omega) (by have := HALL.out; omega) E1.out)
              go_wp2_with fail
              refine HLC.out.mono ?_
              rintro e2 w2 ⟨rfl, R1, hs, he, hk⟩
              have SR1 := Lib.hid hs
              have E2 := Lib.hid he
              have K2 := Lib.hid (K1.out.trans hk)
              clear hs he hk HLC
              have LR1 := Lib.hid (show R1.length = s + e by rw [SR1.out.length, List.length_append, LX1.out, LY1.out])
              have HRC2 := Lib.hid (hIH.out (X.drop s) (Y.drop e) (by rw [LX2.out]; have := HSC.out; have := HALL.out; omega) (by rw [LY2.out]; have := HEC.out; have := HALL.out; omega) (by rw [LX2.out, LY2.out]; have := HALL.out; have := HSC.out; have := HEC.out; omega) mid en b (P ++ R1) Q w2 (asc_cut Ent.loc HAX.out s).2 (asc_cut Ent.loc HAY.out e).2 (by rw [List.length_append, LR1.out]; have := HALL.out; omega) (by rw [LX2.out]; have := HALL.out; omega) (by rw [LY2.out]; have := HALL.out; omega) (by have := HALL.out; omega) (by have := HALL.out; omega) (by rw [List.append_assoc]; exact E2.out))
              go_wp2_with fail
              refine HRC2.out.mono ?_
              rintro e3 w3 ⟨rfl, R2, hs, he, hk⟩
              have SR2 := Lib.hid hs
              have E3 := Lib.hid (show ER w3 g (P ++ ((R1 ++ R2) ++ Q)) from by rw [List.append_assoc]; rw [List.append_assoc] at he; exact he)
              have K3 := Lib.hid (K2.out.trans hk)
              clear hs he hk HRC2
              have SF := Lib.hid (StS.halves Ent.loc HAX.out HAY.out HHA.out HHB.out SR1.out SR2.out)
              clear E1 E2 EE
              go_wp2
              go_end0
              exact ⟨rfl, R1 ++ R2, SF.out, E3.out, K3.out⟩

set_option maxRecDepth 100000 in
set_option maxHeartbeats 12800000 in
theorem sym_le (g n c : Nat) (X Y : List Ent) (h2X : X.length ≠ 1) (h0X : 0 < X.length) (h2Y : Y.length ≠ 1) (h0Y : 0 < Y.length) (hI : ∀ X' Y' : List Ent, 0 < X'.length → 0 < Y'.length → X'.length + Y'.length < X.length + Y.length → SymC g n c X' Y')
    (a m b : Nat) (P Q : List Ent) (w : World) (hAX : Asc Ent.loc X) (hAY : Asc Ent.loc Y) (hP : P.length = a) (hX : a + X.length = m) (hY : m + Y.length = b) (hn : b + Q.length = n) (h1 : n ≤ 1000) (hE : ER w g (P ++ (X ++ (Y ++ Q)))) (mid : Nat) (hmid0 : mid = (a + b) / 2) (hgt : m ≤ mid) :
    Calls Tryd.prog 72 #[.slice (some ⟨g, 0, none⟩) n c, .int .i64 a, .int .i64 m, .int .i64 b, .func (.func 37) #[] #[]] w fun e w' => e = .returned (.tuple #[]) ∧ ∃ R, StS Ent.loc (X ++ Y) R ∧ ER w' g (P ++ (R ++ Q)) ∧ Keep (fun k => k = g) w w' := by
  have HE0 := Lib.hid hE
  have HAX := Lib.hid hAX
  have HAY := Lib.hid hAY
  have hIH := Lib.hid hI
  have hmid := mid_eq a b mid hmid0
  obtain ⟨np, hnp⟩ : ∃ np, np = mid + m := ⟨_, rfl⟩
  obtain ⟨pp, hpp⟩ : ∃ pp, pp = np - 1 := ⟨_, rfl⟩
  obtain ⟨M, hM⟩ : ∃ M, M = mid - a := ⟨_, rfl⟩
  obtain ⟨L0, hL0⟩ : ∃ L0, L0 = 0 := ⟨_, rfl⟩
  obtain ⟨H0, hH0⟩ : ∃ H0, H0 = X.length := ⟨_, rfl⟩
  have HBASE := Lib.hid (show P.length = a ∧ a + X.length = m ∧ m + Y.length = b ∧ b + Q.length = n ∧ n ≤ 1000 ∧ a + M = mid ∧ np = mid + m ∧ pp + 1 = np ∧ mid < b ∧ 0 < X.length ∧ 0 < Y.length ∧ 0 < M ∧ 2 * M ≤ X.length + Y.length ∧ X.length + Y.length ≤ 2 * M + 1 by omega)
  have HLH := Lib.hid (show L0 ≤ H0 ∧ H0 ≤ X.length ∧ H0 ≤ M ∧ M ≤ Y.length + L0 ∧ (L0 = 0 ∨ M = Y.length + L0) ∧ (H0 = X.length ∨ H0 = M) by omega)
  have hmi : ¬ (m : Int) - (a : Int) = 1 := by omega
  have hmib : ((m : Int) - (a : Int) == 1) = false := beq_eq_false_iff_ne.2 hmi
  have hbi : ¬ (b : Int) - (m : Int) = 1 := by omega
  have hbib : ((b : Int) - (m : Int) == 1) = false := beq_eq_false_iff_ne.2 hbi
  have hmb : (m : Int) < (b : Int) := by omega
  have hbn : (b : Int) ≤ (n : Int) := by omega
  have hnn : (n : Int) ≤ 1000 := by omega
  have ham : (a : Int) < (m : Int) := by omega
  have hsum : (a : Int) + (b : Int) ≤ 2000 := by omega
  have hmgt : ¬ (mid : Int) < (m : Int) := by omega
  have hmbi : (mid : Int) < (b : Int) := by omega
  have hnpi : (mid : Int) + (m : Int) = (np : Int) := by omega
  have hppi : (np : Int) - 1 = (pp : Int) := by omega
  have hnpb : (np : Int) ≤ 2000 := by omega
  have hst0 : (a : Int) = ((a + L0 : Nat) : Int) := by omega
  have HST0 := Lib.hid hst0
  have HR0 := Lib.hid (show (m : Int) = ((a + H0 : Nat) : Int) by omega)
  have HXI := Lib.hid (show ∀ t (ht : t < X.length), (P ++ (X ++ (Y ++ Q)))[a + t]? = some X[t] from fun t ht => by
    rw [List.getElem?_append_right (by omega), show a + t - P.length = t by omega, List.getElem?_append_left ht, List.getElem?_eq_getElem ht])
  have HYI := Lib.hid (show ∀ t (ht : t < Y.length), (P ++ (X ++ (Y ++ Q)))[m + t]? = some Y[t] from fun t ht => by
    rw [List.getElem?_append_right (by omega), List.getElem?_append_right (by omega), show m + t - P.length - X.length = t by omega, List.getElem?_append_left ht, List.getElem?_eq_getElem ht])
  obtain ⟨D, hD⟩ : ∃ D, D = P ++ (X ++ (Y ++ Q)) := ⟨_, rfl⟩
  have HD := Lib.hid hD
  rw [← hD] at HE0 HXI HYI
  clear hE hP hAX hAY hX hY hn h1 hD h2X h0X h2Y h0Y hI hmid0 hgt hnp hpp hM hL0 hH0 hst0
  go_enter Tryd.func72, Tryd.ntmps72
  go_wp2
  go_loopw [20, 21] (fun ii jj wr => ∃ (s r : Nat), L0 ≤ s ∧ s ≤ r ∧ r ≤ H0 ∧ ii = .int .i64 ((a + s : Nat) : Int) ∧ jj = .int .i64 ((a + r : Nat) : Int) ∧ Hid (∀ u v, L0 < s → X[s - 1]? = some u → Y[M - s]? = some v → u.loc ≤ v.loc) ∧ Hid (∀ u v, r < H0 → X[r]? = some u → Y[M - 1 - r]? = some v → v.loc < u.loc) ∧ Hid (ER wr g D) ∧ Hid (Keep (fun k => k = g) w wr)) (fun ii jj _ => (intOf jj).toNat - (intOf ii).toNat)
  case atStart => exact ⟨L0, H0, Nat.le_refl _, HLH.out.1, Nat.le_refl _, by rw [← HST0.out], by rw [← HR0.out], Lib.hid (fun u v h => absurd h (by omega)), Lib.hid (fun u v h => absurd h (by omega)), HE0, Lib.hid Keep.refl⟩
  case round =>
    clear HE0
    obtain ⟨s, r, hLs, hsr, hrH, rfl, rfl, HLO, HHI, HE, HK⟩ := hrel
    have HSR := Lib.hid (show L0 ≤ s ∧ s ≤ r ∧ r ≤ H0 from ⟨hLs, hsr, hrH⟩)
    have hbs := HBASE.out
    have hlh := HLH.out
    by_cases hlt : s < r
    · skip
      obtain ⟨i, hi⟩ : ∃ i, i = a + s := ⟨_, rfl⟩
      obtain ⟨j, hj⟩ : ∃ j, j = a + r := ⟨_, rfl⟩
      obtain ⟨ci, hci⟩ : ∃ ci, ci = (i + j) / 2 := ⟨_, rfl⟩
      have hcm := mid_eq i j ci hci
      have hcX : ci - a < X.length := by omega
      have hcY : M - 1 - (ci - a) < Y.length := by omega
      have HX := Lib.hid (HXI.out (ci - a) hcX)
      rw [show a + (ci - a) = ci by omega] at HX
      have HY := Lib.hid (HYI.out (M - 1 - (ci - a)) hcY)
      rw [show m + (M - 1 - (ci - a)) = pp - ci by omega] at HY
      have HIJ := Lib.hid (show i = a + s ∧ j = a + r ∧ i ≤ ci ∧ ci < j ∧ s < r ∧ r ≤ M by omega)
      have HXG := Lib.hid (show X[ci - a]? = some X[ci - a] from List.getElem?_eq_getElem hcX)
      have HYG := Lib.hid (show Y[M - 1 - (ci - a)]? = some Y[M - 1 - (ci - a)] from List.getElem?_eq_getElem hcY)
      rw [← hi, ← hj]
      have hij : (i : Int) < (j : Int) := by omega
      have hcn2 : (ci : Int) < (n : Int) := by omega
      have hpc : (pp : Int) - (ci : Int) < (n : Int) := by omega
      have hpc0 : (0 : Int) ≤ (pp : Int) - (ci : Int) := by omega
      have hpc1 : ¬ (pp : Int) < (ci : Int) := by omega
      have hpc2 : (ci : Int) ≤ (pp : Int) := by omega
      have hw1 : IntKind.i64.wrap ((pp : Int) - (ci : Int)) = (pp : Int) - (ci : Int) := by simp [IntKind.wrap, IntKind.bits, IntKind.signed]; omega
      have ht1 : ((pp : Int) - (ci : Int)).toNat = pp - ci := by omega
      have hsum2 : (i : Int) + (j : Int) ≤ 2000 := by omega
      clear hi hj hci hLs hsr hrH hlt hbs hlh
      generalize X[ci - a] = x at *
      generalize Y[M - 1 - (ci - a)] = y at *
      clear hcX hcY
      by_cases hc : y.loc < x.loc
      · skip
        have hcn := (cmpI_neg y.loc x.loc).2 hc
        have hcd : decide (cmpI y.loc x.loc < 0) = true := decide_eq_true hcn
        have HH2 := Lib.hid (show ∀ u v, ci - a < H0 → X[ci - a]? = some u → Y[M - 1 - (ci - a)]? = some v → v.loc < u.loc from fun u v _ hu hv => by
          rw [HXG.out] at hu; rw [HYG.out] at hv; injection hu with hu; injection hv with hv; subst hu hv; exact hc)
        clear hc
        go_wp2_with fail
        refine wp_region_held_drew (S := fun W => ER W g D) (by kernel_rfl) (HE.out.drew) (fun hHeld => ?_)
        have Ec0 := Lib.hid (HE.out.drew)
        have Kc0 := Lib.hid (HK.out.drew)
        clear hHeld
        generalize wr.drew = vc0 at *
        refine wpAnyH_take (i := 0) (oi := ⟨some 158, _, _, _, _, _⟩) (v := .func (.func 37) #[] #[]) rfl (by kernel_rfl) (by kernel_rfl) (by kernel_rfl) (fun _ _ _ h => h) (Or.inl ⟨by rfl, ?_⟩) Ec0.out ?_
        · intro W' hW
          go_simp
        try simp only [Act.put, List.setIfInBounds_toArray, List.set_cons_zero, List.set_cons_succ]
        refine wpAnyH_take (i := 1) (oi := ⟨some 159, _, _, _, _, _⟩) (v := .slice (some ⟨g, 0, none⟩) n c) rfl (by kernel_rfl) (by kernel_rfl) (by kernel_rfl) (fun _ _ _ h => h) (Or.inl ⟨by rfl, ?_⟩) Ec0.out ?_
        · intro W' hW
          go_simp
        try simp only [Act.put, List.setIfInBounds_toArray, List.set_cons_zero, List.set_cons_succ]
        refine wpAnyH_take (i := 2) (oi := ⟨some 160, _, _, _, _, _⟩) (v := .int .i64 (pp : Int)) rfl (by kernel_rfl) (by kernel_rfl) (by kernel_rfl) (fun _ _ _ h => h) (Or.inl ⟨by rfl, ?_⟩) Ec0.out ?_
        · intro W' hW
          go_simp
        try simp only [Act.put, List.setIfInBounds_toArray, List.set_cons_zero, List.set_cons_succ]
        refine wpAnyH_take (i := 3) (oi := ⟨some 161, _, _, _, _, _⟩) (v := .int .i64 (ci : Int)) rfl (by kernel_rfl) (by kernel_rfl) (by kernel_rfl) (fun _ _ _ h => h) (Or.inl ⟨by rfl, ?_⟩) Ec0.out ?_
        · intro W' hW
          go_simp
        try simp only [Act.put, List.setIfInBounds_toArray, List.set_cons_zero, List.set_cons_succ]
        refine wpAnyH_take (i := 4) (oi := ⟨some 162, _, _, _, _, _⟩) (v := .int .i64 ((pp : Int) - (ci : Int))) rfl (by kernel_rfl) (by kernel_rfl) (by kernel_rfl) (fun _ _ _ h => h) (Or.inl ⟨by rfl, ?_⟩) Ec0.out ?_
        · intro W' hW
          go_simp
        try simp only [Act.put, List.setIfInBounds_toArray, List.set_cons_zero, List.set_cons_succ]
        refine wpAnyH_take (i := 5) (oi := ⟨some 163, _, _, _, _, _⟩) (v := .pointer (some ⟨g, (pp - ci) * 6, none⟩)) rfl (by kernel_rfl) (by kernel_rfl) (by kernel_rfl) (fun _ _ _ h => h) (Or.inl ⟨by rfl, ?_⟩) Ec0.out ?_
        · intro W' hW
          go_simp
        try simp only [Act.put, List.setIfInBounds_toArray, List.set_cons_zero, List.set_cons_succ]
        refine wpAnyH_take (i := 6) (oi := ⟨some 164, _, _, _, _, _⟩) (v := entV y) rfl (by kernel_rfl) (by kernel_rfl) (by kernel_rfl) (fun _ _ _ h => h) (yields_e (by rfl) (.tmp 163) rfl g (pp - ci) rfl (fun W hW => hW) HY.out) Ec0.out ?_
        try simp only [Act.put, List.setIfInBounds_toArray, List.set_cons_zero, List.set_cons_succ]
        refine wpAnyH_take (i := 7) (oi := ⟨some 165, _, _, _, _, _⟩) (v := .slice (some ⟨g, 0, none⟩) n c) rfl (by kernel_rfl) (by kernel_rfl) (by kernel_rfl) (fun _ _ _ h => h) (Or.inl ⟨by rfl, ?_⟩) Ec0.out ?_
        · intro W' hW
          go_simp
        try simp only [Act.put, List.setIfInBounds_toArray, List.set_cons_zero, List.set_cons_succ]
        refine wpAnyH_take (i := 8) (oi := ⟨some 166, _, _, _, _, _⟩) (v := .int .i64 (ci : Int)) rfl (by kernel_rfl) (by kernel_rfl) (by kernel_rfl) (fun _ _ _ h => h) (Or.inl ⟨by rfl, ?_⟩) Ec0.out ?_
        · intro W' hW
          go_simp
        try simp only [Act.put, List.setIfInBounds_toArray, List.set_cons_zero, List.set_cons_succ]
        refine wpAnyH_take (i := 9) (oi := ⟨some 167, _, _, _, _, _⟩) (v := .pointer (some ⟨g, ci * 6, none⟩)) rfl (by kernel_rfl) (by kernel_rfl) (by kernel_rfl) (fun _ _ _ h => h) (Or.inl ⟨by rfl, ?_⟩) Ec0.out ?_
        · intro W' hW
          go_simp
        try simp only [Act.put, List.setIfInBounds_toArray, List.set_cons_zero, List.set_cons_succ]
        refine wpAnyH_take (i := 10) (oi := ⟨some 168, _, _, _, _, _⟩) (v := entV x) rfl (by kernel_rfl) (by kernel_rfl) (by kernel_rfl) (fun _ _ _ h => h) (yields_e (by rfl) (.tmp 167) rfl g (ci) rfl (fun W hW => hW) HX.out) Ec0.out ?_
        try simp only [Act.put, List.setIfInBounds_toArray, List.set_cons_zero, List.set_cons_succ]
        refine wpAnyH_ready (rs := [11]) (by kernel_rfl) (by simp) ?_
        refine AllReadyH.cons (o := ⟨some 169, _, _, _, _, _⟩) rfl (fun K hK => ?_) (AllReadyH.nil)
        go_simp
        refine (place_any y x vc0).mono ?_
        rintro e vc1 ⟨rfl, hb⟩
        have Ec1 := Lib.hid (Ec0.out.below hb)
        have Kc1 := Lib.hid (Kc0.out.trans (Keep.of_below hb))
        clear hb
        refine hK.out _ _ Ec1.out (fun hHeldq => ?_)
        clear hK hHeldq
        try simp only [Act.put, List.setIfInBounds_toArray, List.set_cons_zero, List.set_cons_succ]
        refine wpAnyH_take (i := 12) (oi := ⟨some 170, _, _, _, _, _⟩) (v := .bool true) rfl (by kernel_rfl) (by kernel_rfl) (by kernel_rfl) (fun _ _ _ h => h) (Or.inl ⟨by rfl, ?_⟩) Ec1.out ?_
        · intro W' hW
          go_simp
        try simp only [Act.put, List.setIfInBounds_toArray, List.set_cons_zero, List.set_cons_succ]
        refine wpAnyH_take (i := 13) (oi := ⟨some 171, _, _, _, _, _⟩) (v := .bool false) rfl (by kernel_rfl) (by kernel_rfl) (by kernel_rfl) (fun _ _ _ h => h) (Or.inl ⟨by rfl, ?_⟩) Ec1.out ?_
        · intro W' hW
          go_simp
        try simp only [Act.put, List.setIfInBounds_toArray, List.set_cons_zero, List.set_cons_succ]
        refine wpAnyH_done (by kernel_rfl) ?_ _
        go_wp2
        go_roundw
        case rel => exact ⟨s, ci - a, HSR.out.1, by have := HIJ.out; omega, by have := HIJ.out; have := HSR.out; omega, by (show Value.int .i64 _ = _; congr 1; have := HIJ.out; omega), by (show Value.int .i64 _ = _; congr 1; have := HIJ.out; omega), HLO, HH2, Ec1, Kc1⟩
        case measure => have := HIJ.out; show ((ci : Int)).toNat - ((i : Int)).toNat < ((j : Int)).toNat - ((i : Int)).toNat; omega
      · skip
        have hcn : ¬ cmpI y.loc x.loc < 0 := fun h => hc ((cmpI_neg y.loc x.loc).1 h)
        have hcp : 0 ≤ cmpI y.loc x.loc := by omega
        have hcd : decide (cmpI y.loc x.loc < 0) = false := decide_eq_false hcn
        have HL2 := Lib.hid (show ∀ u v, L0 < ci + 1 - a → X[ci + 1 - a - 1]? = some u → Y[M - (ci + 1 - a)]? = some v → u.loc ≤ v.loc from fun u v _ hu hv => by
          have := HIJ.out; rw [show ci + 1 - a - 1 = ci - a by omega, HXG.out] at hu; rw [show M - (ci + 1 - a) = M - 1 - (ci - a) by omega, HYG.out] at hv; injection hu with hu; injection hv with hv; subst hu hv; omega)
        clear hc
        go_wp2_with fail
        refine wp_region_held_drew (S := fun W => ER W g D) (by kernel_rfl) (HE.out.drew) (fun hHeld => ?_)
        have Ec0 := Lib.hid (HE.out.drew)
        have Kc0 := Lib.hid (HK.out.drew)
        clear hHeld
        generalize wr.drew = vc0 at *
        refine wpAnyH_take (i := 0) (oi := ⟨some 158, _, _, _, _, _⟩) (v := .func (.func 37) #[] #[]) rfl (by kernel_rfl) (by kernel_rfl) (by kernel_rfl) (fun _ _ _ h => h) (Or.inl ⟨by rfl, ?_⟩) Ec0.out ?_
        · intro W' hW
          go_simp
        try simp only [Act.put, List.setIfInBounds_toArray, List.set_cons_zero, List.set_cons_succ]
        refine wpAnyH_take (i := 1) (oi := ⟨some 159, _, _, _, _, _⟩) (v := .slice (some ⟨g, 0, none⟩) n c) rfl (by kernel_rfl) (by kernel_rfl) (by kernel_rfl) (fun _ _ _ h => h) (Or.inl ⟨by rfl, ?_⟩) Ec0.out ?_
        · intro W' hW
          go_simp
        try simp only [Act.put, List.setIfInBounds_toArray, List.set_cons_zero, List.set_cons_succ]
        refine wpAnyH_take (i := 2) (oi := ⟨some 160, _, _, _, _, _⟩) (v := .int .i64 (pp : Int)) rfl (by kernel_rfl) (by kernel_rfl) (by kernel_rfl) (fun _ _ _ h => h) (Or.inl ⟨by rfl, ?_⟩) Ec0.out ?_
        · intro W' hW
          go_simp
        try simp only [Act.put, List.setIfInBounds_toArray, List.set_cons_zero, List.set_cons_succ]
        refine wpAnyH_take (i := 3) (oi := ⟨some 161, _, _, _, _, _⟩) (v := .int .i64 (ci : Int)) rfl (by kernel_rfl) (by kernel_rfl) (by kernel_rfl) (fun _ _ _ h => h) (Or.inl ⟨by rfl, ?_⟩) Ec0.out ?_
        · intro W' hW
          go_simp
        try simp only [Act.put, List.setIfInBounds_toArray, List.set_cons_zero, List.set_cons_succ]
        refine wpAnyH_take (i := 4) (oi := ⟨some 162, _, _, _, _, _⟩) (v := .int .i64 ((pp : Int) - (ci : Int))) rfl (by kernel_rfl) (by kernel_rfl) (by kernel_rfl) (fun _ _ _ h => h) (Or.inl ⟨by rfl, ?_⟩) Ec0.out ?_
        · intro W' hW
          go_simp
        try simp only [Act.put, List.setIfInBounds_toArray, List.set_cons_zero, List.set_cons_succ]
        refine wpAnyH_take (i := 5) (oi := ⟨some 163, _, _, _, _, _⟩) (v := .pointer (some ⟨g, (pp - ci) * 6, none⟩)) rfl (by kernel_rfl) (by kernel_rfl) (by kernel_rfl) (fun _ _ _ h => h) (Or.inl ⟨by rfl, ?_⟩) Ec0.out ?_
        · intro W' hW
          go_simp
        try simp only [Act.put, List.setIfInBounds_toArray, List.set_cons_zero, List.set_cons_succ]
        refine wpAnyH_take (i := 6) (oi := ⟨some 164, _, _, _, _, _⟩) (v := entV y) rfl (by kernel_rfl) (by kernel_rfl) (by kernel_rfl) (fun _ _ _ h => h) (yields_e (by rfl) (.tmp 163) rfl g (pp - ci) rfl (fun W hW => hW) HY.out) Ec0.out ?_
        try simp only [Act.put, List.setIfInBounds_toArray, List.set_cons_zero, List.set_cons_succ]
        refine wpAnyH_take (i := 7) (oi := ⟨some 165, _, _, _, _, _⟩) (v := .slice (some ⟨g, 0, none⟩) n c) rfl (by kernel_rfl) (by kernel_rfl) (by kernel_rfl) (fun _ _ _ h => h) (Or.inl ⟨by rfl, ?_⟩) Ec0.out ?_
        · intro W' hW
          go_simp
        try simp only [Act.put, List.setIfInBounds_toArray, List.set_cons_zero, List.set_cons_succ]
        refine wpAnyH_take (i := 8) (oi := ⟨some 166, _, _, _, _, _⟩) (v := .int .i64 (ci : Int)) rfl (by kernel_rfl) (by kernel_rfl) (by kernel_rfl) (fun _ _ _ h => h) (Or.inl ⟨by rfl, ?_⟩) Ec0.out ?_
        · intro W' hW
          go_simp
        try simp only [Act.put, List.setIfInBounds_toArray, List.set_cons_zero, List.set_cons_succ]
        refine wpAnyH_take (i := 9) (oi := ⟨some 167, _, _, _, _, _⟩) (v := .pointer (some ⟨g, ci * 6, none⟩)) rfl (by kernel_rfl) (by kernel_rfl) (by kernel_rfl) (fun _ _ _ h => h) (Or.inl ⟨by rfl, ?_⟩) Ec0.out ?_
        · intro W' hW
          go_simp
        try simp only [Act.put, List.setIfInBounds_toArray, List.set_cons_zero, List.set_cons_succ]
        refine wpAnyH_take (i := 10) (oi := ⟨some 168, _, _, _, _, _⟩) (v := entV x) rfl (by kernel_rfl) (by kernel_rfl) (by kernel_rfl) (fun _ _ _ h => h) (yields_e (by rfl) (.tmp 167) rfl g (ci) rfl (fun W hW => hW) HX.out) Ec0.out ?_
        try simp only [Act.put, List.setIfInBounds_toArray, List.set_cons_zero, List.set_cons_succ]
        refine wpAnyH_ready (rs := [11]) (by kernel_rfl) (by simp) ?_
        refine AllReadyH.cons (o := ⟨some 169, _, _, _, _, _⟩) rfl (fun K hK => ?_) (AllReadyH.nil)
        go_simp
        refine (place_any y x vc0).mono ?_
        rintro e vc1 ⟨rfl, hb⟩
        have Ec1 := Lib.hid (Ec0.out.below hb)
        have Kc1 := Lib.hid (Kc0.out.trans (Keep.of_below hb))
        clear hb
        refine hK.out _ _ Ec1.out (fun hHeldq => ?_)
        clear hK hHeldq
        try simp only [Act.put, List.setIfInBounds_toArray, List.set_cons_zero, List.set_cons_succ]
        refine wpAnyH_take (i := 12) (oi := ⟨some 170, _, _, _, _, _⟩) (v := .bool false) rfl (by kernel_rfl) (by kernel_rfl) (by kernel_rfl) (fun _ _ _ h => h) (Or.inl ⟨by rfl, ?_⟩) Ec1.out ?_
        · intro W' hW
          go_simp
        try simp only [Act.put, List.setIfInBounds_toArray, List.set_cons_zero, List.set_cons_succ]
        refine wpAnyH_take (i := 13) (oi := ⟨some 171, _, _, _, _, _⟩) (v := .bool true) rfl (by kernel_rfl) (by kernel_rfl) (by kernel_rfl) (fun _ _ _ h => h) (Or.inl ⟨by rfl, ?_⟩) Ec1.out ?_
        · intro W' hW
          go_simp
        try simp only [Act.put, List.setIfInBounds_toArray, List.set_cons_zero, List.set_cons_succ]
        refine wpAnyH_done (by kernel_rfl) ?_ _
        go_wp2
        go_roundw
        case rel => exact ⟨ci + 1 - a, r, by have := HIJ.out; have := HSR.out; omega, by have := HIJ.out; omega, HSR.out.2.2, by (show Value.int .i64 _ = _; congr 1; have := HIJ.out; omega), by (show Value.int .i64 _ = _; congr 1; have := HIJ.out; omega), HL2, HHI, Ec1, Kc1⟩
        case measure => have := HIJ.out; show ((j : Int)).toNat - ((ci : Int) + 1).toNat < ((j : Int)).toNat - ((i : Int)).toNat; omega
    · skip
      obtain rfl : s = r := by omega
      obtain ⟨e, he⟩ : ∃ e, e = M - s := ⟨_, rfl⟩
      obtain ⟨st, hst⟩ : ∃ st, st = a + s := ⟨_, rfl⟩
      obtain ⟨en, hen⟩ : ∃ en, en = m + e := ⟨_, rfl⟩
      have HHA := Lib.hid (show ∀ u v, (X.take s).getLast? = some u → (Y.drop e).head? = some v → u.loc ≤ v.loc from fun u v hu hv => by
        rw [drop_head, he] at hv
        by_cases h0 : L0 < s
        · rw [take_last (by omega) (by omega)] at hu; exact HLO.out u v h0 hu hv
        · rcases hlh.2.2.2.2.1 with h | h
          · rw [show s = 0 by omega, List.take_zero] at hu; cases hu
          · rw [List.getElem?_eq_none (by omega)] at hv; cases hv)
      have HHB := Lib.hid (show ∀ u v, (X.drop s).head? = some u → (Y.take e).getLast? = some v → v.loc < u.loc from fun u v hu hv => by
        rw [drop_head] at hu
        by_cases h0 : s < H0
        · rw [take_last (by omega) (by omega), show e - 1 = M - 1 - s by omega] at hv; exact HHI.out u v h0 hu hv
        · rcases hlh.2.2.2.2.2 with h | h
          · rw [List.getElem?_eq_none (by omega)] at hu; cases hu
          · rw [show e = 0 by omega, List.take_zero] at hv; cases hv)
      have EE := Lib.hid (show ER wr g (P ++ (X ++ (Y ++ Q))) from HD.out ▸ HE.out)
      have HALL := Lib.hid (show P.length = a ∧ a + s = st ∧ s ≤ X.length ∧ a + X.length = m ∧ m + e = en ∧ e ≤ Y.length ∧ m + Y.length = b ∧ b + Q.length = n ∧ n ≤ 1000 ∧ a + s + e = mid ∧ 0 < X.length ∧ 0 < Y.length by omega)
      rw [← hst]
      have hend : (np : Int) - (st : Int) = (en : Int) := by omega
      have hii : ¬ (st : Int) < (st : Int) := by omega
      have hsX : s ≤ X.length := by omega
      have heY : e ≤ Y.length := by omega
      have hse : a + s + e = mid := by omega
      have hstn : (st : Int) ≤ 1000 := by omega
      have henn : (en : Int) ≤ 1000 := by omega
      have hb2 := HBASE.out
      clear hLs hsr hrH hlt hlh hbs HE HLO HHI he HXI HYI HD
      by_cases c1 : s = 0
      · skip
        by_cases c2 : e = 0
        · skip
          exfalso
          have hb3 := HBASE.out
          have ha3 := HALL.out
          clear hst hen
          omega
        · by_cases c3 : e = Y.length
          · skip
            have HSC := Lib.hid (show s = 0 by omega)
            have HEC := Lib.hid (show e = Y.length by omega)
            have q1 : (st : Int) < (m : Int) := by omega
            have q1d : decide ((st : Int) < (m : Int)) = true := decide_eq_true q1
            have q2 : (m : Int) < (en : Int) := by omega
            have q2d : decide ((m : Int) < (en : Int)) = true := decide_eq_true q2
            have q3 : ¬ (a : Int) < (st : Int) := by omega
            have q3d : decide ((a : Int) < (st : Int)) = false := decide_eq_false q3
            have q4 : (st : Int) < (mid : Int) := by omega
            have q4d : decide ((st : Int) < (mid : Int)) = true := decide_eq_true q4
            have q5 : (mid : Int) < (en : Int) := by omega
            have q5d : decide ((mid : Int) < (en : Int)) = true := decide_eq_true q5
            have q6 : ¬ (en : Int) < (b : Int) := by omega
            have q6d : decide ((en : Int) < (b : Int)) = false := decide_eq_false q6
            have LX1 := Lib.hid (show (X.take s).length = s by rw [List.length_take]; omega)
            have LX2 := Lib.hid (show (X.drop s).length = X.length - s by rw [List.length_drop])
            have LY1 := Lib.hid (show (Y.take e).length = e by rw [List.length_take]; omega)
            have LY2 := Lib.hid (show (Y.drop e).length = Y.length - e by rw [List.length_drop])
            have hw2 : IntKind.i64.wrap ((np : Int) - (st : Int)) = (en : Int) := by rw [hend]; simp [IntKind.wrap, IntKind.bits, IntKind.signed]; omega
            clear hst hen hse hsX heY hb2 hend
            try clear c1
            try clear c2
            try clear c3
            try clear c4
            have ER1 := Lib.hid (show ER wr g ((P ++ X.take s) ++ (X.drop s ++ (Y.take e ++ (Y.drop e ++ Q)))) from full_rot s e ▸ EE.out)
            have HRC := Lib.hid (rot_any g n c st m en (P ++ X.take s) (X.drop s) (Y.take e) (Y.drop e ++ Q) (.func (.func 37) #[] #[]) wr ER1.out (by rw [List.length_append, LX1.out]; have := HALL.out; omega) (by rw [LX2.out]; have := HALL.out; omega) (by rw [LY1.out]; have := HALL.out; omega) (by rw [List.length_append, LY2.out]; have := HALL.out; omega) (by have := HALL.out; omega) (by rw [LX2.out]; have := HALL.out; have := HSC.out; omega) (by rw [LY1.out]; have := HEC.out; have := HALL.out; omega))
            go_wp2_with fail
            refine HRC.out.mono ?_
            rintro e1 w1 ⟨rfl, he, hk⟩
            have E1 := Lib.hid (show ER w1 g (P ++ (X.take s ++ (Y.take e ++ (X.drop s ++ (Y.drop e ++ Q))))) from by rw [List.append_assoc] at he; exact he)
            have K1 := Lib.hid (HK.out.trans hk)
            clear he hk HRC ER1
            obtain ⟨R1, hR1⟩ : ∃ R1, R1 = X.take s ++ Y.take e := ⟨_, rfl⟩
            have SR1 := Lib.hid (show StS Ent.loc (X.take s ++ Y.take e) R1 by rw [hR1]; exact StS.of_asc Ent.loc (by rw [show X.take s = [] from List.eq_nil_of_length_eq_zero (by rw [LX1.out]; exact HSC.out), List.nil_append]; exact (asc_cut Ent.loc HAY.out e).1))
            have E2 := Lib.hid (show ER w1 g (P ++ (R1 ++ (X.drop s ++ (Y.drop e ++ Q)))) from by rw [hR1, List.append_assoc (X.take s)]; exact E1.out)
            have K2 := Lib.hid K1.out
            clear hR1
            have LR1 := Lib.hid (show R1.length = s + e by rw [SR1.out.length, List.length_append, LX1.out, LY1.out])
            obtain ⟨R2, hR2⟩ : ∃ R2, R2 = X.drop s ++ Y.drop e := ⟨_, rfl⟩
            have SR2 := Lib.hid (show StS Ent.loc (X.drop s ++ Y.drop e) R2 by rw [hR2]; exact StS.of_asc Ent.loc (by rw [show Y.drop e = [] from List.eq_nil_of_length_eq_zero (by rw [LY2.out]; have := HEC.out; omega), List.append_nil]; exact (asc_cut Ent.loc HAX.out s).2))
            have E3 := Lib.hid (show ER w1 g (P ++ ((R1 ++ R2) ++ Q)) from by rw [hR2]; have h := E2.out; simpa only [List.append_assoc] using h)
            have K3 := Lib.hid K2.out
            clear hR2
            have SF := Lib.hid (StS.halves Ent.loc HAX.out HAY.out HHA.out HHB.out SR1.out SR2.out)
            clear E1 E2 EE
            go_wp2
            go_end0
            exact ⟨rfl, R1 ++ R2, SF.out, E3.out, K3.out⟩
          · skip
            have HSC := Lib.hid (show s = 0 by omega)
            have HEC := Lib.hid (show 0 < e ∧ e < Y.length by omega)
            have q1 : (st : Int) < (m : Int) := by omega
            have q1d : decide ((st : Int) < (m : Int)) = true := decide_eq_true q1
            have q2 : (m : Int) < (en : Int) := by omega
            have q2d : decide ((m : Int) < (en : Int)) = true := decide_eq_true q2
            have q3 : ¬ (a : Int) < (st : Int) := by omega
            have q3d : decide ((a : Int) < (st : Int)) = false := decide_eq_false q3
            have q4 : (st : Int) < (mid : Int) := by omega
            have q4d : decide ((st : Int) < (mid : Int)) = true := decide_eq_true q4
            have q5 : (mid : Int) < (en : Int) := by omega
            have q5d : decide ((mid : Int) < (en : Int)) = true := decide_eq_true q5
            have q6 : (en : Int) < (b : Int) := by omega
            have q6d : decide ((en : Int) < (b : Int)) = true := decide_eq_true q6
            have LX1 := Lib.hid (show (X.take s).length = s by rw [List.length_take]; omega)
            have LX2 := Lib.hid (show (X.drop s).length = X.length - s by rw [List.length_drop])
            have LY1 := Lib.hid (show (Y.take e).length = e by rw [List.length_take]; omega)
            have LY2 := Lib.hid (show (Y.drop e).length = Y.length - e by rw [List.length_drop])
            have hw2 : IntKind.i64.wrap ((np : Int) - (st : Int)) = (en : Int) := by rw [hend]; simp [IntKind.wrap, IntKind.bits, IntKind.signed]; omega
            clear hst hen hse hsX heY hb2 hend
            try clear c1
            try clear c2
            try clear c3
            try clear c4
            have ER1 := Lib.hid (show ER wr g ((P ++ X.take s) ++ (X.drop s ++ (Y.take e ++ (Y.drop e ++ Q)))) from full_rot s e ▸ EE.out)
            have HRC := Lib.hid (rot_any g n c st m en (P ++ X.take s) (X.drop s) (Y.take e) (Y.drop e ++ Q) (.func (.func 37) #[] #[]) wr ER1.out (by rw [List.length_append, LX1.out]; have := HALL.out; omega) (by rw [LX2.out]; have := HALL.out; omega) (by rw [LY1.out]; have := HALL.out; omega) (by rw [List.length_append, LY2.out]; have := HALL.out; omega) (by have := HALL.out; omega) (by rw [LX2.out]; have := HALL.out; have := HSC.out; omega) (by rw [LY1.out]; have := HEC.out; have := HALL.out; omega))
            go_wp2_with fail
            refine HRC.out.mono ?_
            rintro e1 w1 ⟨rfl, he, hk⟩
            have E1 := Lib.hid (show ER w1 g (P ++ (X.take s ++ (Y.take e ++ (X.drop s ++ (Y.drop e ++ Q))))) from by rw [List.append_assoc] at he; exact he)
            have K1 := Lib.hid (HK.out.trans hk)
            clear he hk HRC ER1
            obtain ⟨R1, hR1⟩ : ∃ R1, R1 = X.take s ++ Y.take e := ⟨_, rfl⟩
            have SR1 := Lib.hid (show StS Ent.loc (X.take s ++ Y.take e) R1 by rw [hR1]; exact StS.of_asc Ent.loc (by rw [show X.take s = [] from List.eq_nil_of_length_eq_zero (by rw [LX1.out]; exact HSC.out), List.nil_append]; exact (asc_cut Ent.loc HAY.out e).1))
            have E2 := Lib.hid (show ER w1 g (P ++ (R1 ++ (X.drop s ++ (Y.drop e ++ Q)))) from by rw [hR1, List.append_assoc (X.take s)]; exact E1.out)
            have K2 := Lib.hid K1.out
            clear hR1
            have LR1 := Lib.hid (show R1.length = s + e by rw [SR1.out.length, List.length_append, LX1.out, LY1.out])
            have HRC2 := Lib.hid (hIH.out (X.drop s) (Y.drop e) (by rw [LX2.out]; have := HSC.out; have := HALL.out; omega) (by rw [LY2.out]; have := HEC.out; have := HALL.out; omega) (by rw [LX2.out, LY2.out]; have := HALL.out; have := HSC.out; have := HEC.out; omega) mid en b (P ++ R1) Q w1 (asc_cut Ent.loc HAX.out s).2 (asc_cut Ent.loc HAY.out e).2 (by rw [List.length_append, LR1.out]; have := HALL.out; omega) (by rw [LX2.out]; have := HALL.out; omega) (by rw [LY2.out]; have := HALL.out; omega) (by have := HALL.out; omega) (by have := HALL.out; omega) (by rw [List.append_assoc]; exact E2.out))
            go_wp2_with fail
            refine HRC2.out.mono ?_
            rintro e3 w3 ⟨rfl, R2, hs, he, hk⟩
            have SR2 := Lib.hid hs
            have E3 := Lib.hid (show ER w3 g (P ++ ((R1 ++ R2) ++ Q)) from by rw [List.append_assoc]; rw [List.append_assoc] at he; exact he)
            have K3 := Lib.hid (K2.out.trans hk)
            clear hs he hk HRC2
            have SF := Lib.hid (StS.halves Ent.loc HAX.out HAY.out HHA.out HHB.out SR1.out SR2.out)
            clear E1 E2 EE
            go_wp2
            go_end0
            exact ⟨rfl, R1 ++ R2, SF.out, E3.out, K3.out⟩
      · by_cases c4 : s = X.length
        · skip
          by_cases c2 : e = 0
          · skip
            have HSC := Lib.hid (show s = X.length by omega)
            have HEC := Lib.hid (show e = 0 by omega)
            have q1 : ¬ (st : Int) < (m : Int) := by omega
            have q1d : decide ((st : Int) < (m : Int)) = false := decide_eq_false q1
            have q2 : ¬ (m : Int) < (en : Int) := by omega
            have q2d : decide ((m : Int) < (en : Int)) = false := decide_eq_false q2
            have q3 : (a : Int) < (st : Int) := by omega
            have q3d : decide ((a : Int) < (st : Int)) = true := decide_eq_true q3
            have q4 : ¬ (st : Int) < (mid : Int) := by omega
            have q4d : decide ((st : Int) < (mid : Int)) = false := decide_eq_false q4
            have q5 : ¬ (mid : Int) < (en : Int) := by omega
            have q5d : decide ((mid : Int) < (en : Int)) = false := decide_eq_false q5
            have q6 : (en : Int) < (b : Int) := by omega
            have q6d : decide ((en : Int) < (b : Int)) = true := decide_eq_true q6
            have LX1 := Lib.hid (show (X.take s).length = s by rw [List.length_take]; omega)
            have LX2 := Lib.hid (show (X.drop s).length = X.length - s by rw [List.length_drop])
            have LY1 := Lib.hid (show (Y.take e).length = e by rw [List.length_take]; omega)
            have LY2 := Lib.hid (show (Y.drop e).length = Y.length - e by rw [List.length_drop])
            have hw2 : IntKind.i64.wrap ((np : Int) - (st : Int)) = (en : Int) := by rw [hend]; simp [IntKind.wrap, IntKind.bits, IntKind.signed]; omega
            clear hst hen hse hsX heY hb2 hend
            try clear c1
            try clear c2
            try clear c3
            try clear c4
            have E1 := Lib.hid (show ER wr g (P ++ (X.take s ++ (Y.take e ++ (X.drop s ++ (Y.drop e ++ Q))))) from no_rot (Or.inl (List.eq_nil_of_length_eq_zero (by rw [LX2.out]; have := HSC.out; omega))) ▸ EE.out)
            have K1 := Lib.hid HK.out
            obtain ⟨R1, hR1⟩ : ∃ R1, R1 = X.take s ++ Y.take e := ⟨_, rfl⟩
            have SR1 := Lib.hid (show StS Ent.loc (X.take s ++ Y.take e) R1 by rw [hR1]; exact StS.of_asc Ent.loc (by rw [show Y.take e = [] from List.eq_nil_of_length_eq_zero (by rw [LY1.out]; exact HEC.out), List.append_nil]; exact (asc_cut Ent.loc HAX.out s).1))
            have E2 := Lib.hid (show ER wr g (P ++ (R1 ++ (X.drop s ++ (Y.drop e ++ Q)))) from by rw [hR1, List.append_assoc (X.take s)]; exact E1.out)
            have K2 := Lib.hid K1.out
            clear hR1
            have LR1 := Lib.hid (show R1.length = s + e by rw [SR1.out.length, List.length_append, LX1.out, LY1.out])
            obtain ⟨R2, hR2⟩ : ∃ R2, R2 = X.drop s ++ Y.drop e := ⟨_, rfl⟩
            have SR2 := Lib.hid (show StS Ent.loc (X.drop s ++ Y.drop e) R2 by rw [hR2]; exact StS.of_asc Ent.loc (by rw [show X.drop s = [] from List.eq_nil_of_length_eq_zero (by rw [LX2.out]; have := HSC.out; omega), List.nil_append]; exact (asc_cut Ent.loc HAY.out e).2))
            have E3 := Lib.hid (show ER wr g (P ++ ((R1 ++ R2) ++ Q)) from by rw [hR2]; have h := E2.out; simpa only [List.append_assoc] using h)
            have K3 := Lib.hid K2.out
            clear hR2
            have SF := Lib.hid (StS.halves Ent.loc HAX.out HAY.out HHA.out HHB.out SR1.out SR2.out)
            clear E1 E2 EE
            go_wp2
            go_end0
            exact ⟨rfl, R1 ++ R2, SF.out, E3.out, K3.out⟩
          · by_cases c3 : e = Y.length
            · skip
              exfalso
              have hb3 := HBASE.out
              have ha3 := HALL.out
              clear hst hen
              omega
            · skip
              have HSC := Lib.hid (show s = X.length by omega)
              have HEC := Lib.hid (show 0 < e ∧ e < Y.length by omega)
              have q1 : ¬ (st : Int) < (m : Int) := by omega
              have q1d : decide ((st : Int) < (m : Int)) = false := decide_eq_false q1
              have q2 : (m : Int) < (en : Int) := by omega
              have q2d : decide ((m : Int) < (en : Int)) = true := decide_eq_true q2
              have q3 : (a : Int) < (st : Int) := by omega
              have q3d : decide ((a : Int) < (st : Int)) = true := decide_eq_true q3
              have q4 : (st : Int) < (mid : Int) := by omega
              have q4d : decide ((st : Int) < (mid : Int)) = true := decide_eq_true q4
              have q5 : ¬ (mid : Int) < (en : Int) := by omega
              have q5d : decide ((mid : Int) < (en : Int)) = false := decide_eq_false q5
              have q6 : (en : Int) < (b : Int) := by omega
              have q6d : decide ((en : Int) < (b : Int)) = true := decide_eq_true q6
              have LX1 := Lib.hid (show (X.take s).length = s by rw [List.length_take]; omega)
              have LX2 := Lib.hid (show (X.drop s).length = X.length - s by rw [List.length_drop])
              have LY1 := Lib.hid (show (Y.take e).length = e by rw [List.length_take]; omega)
              have LY2 := Lib.hid (show (Y.drop e).length = Y.length - e by rw [List.length_drop])
              have hw2 : IntKind.i64.wrap ((np : Int) - (st : Int)) = (en : Int) := by rw [hend]; simp [IntKind.wrap, IntKind.bits, IntKind.signed]; omega
              clear hst hen hse hsX heY hb2 hend
              try clear c1
              try clear c2
              try clear c3
              try clear c4
              have E1 := Lib.hid (show ER wr g (P ++ (X.take s ++ (Y.take e ++ (X.drop s ++ (Y.drop e ++ Q))))) from no_rot (Or.inl (List.eq_nil_of_length_eq_zero (by rw [LX2.out]; have := HSC.out; omega))) ▸ EE.out)
              have K1 := Lib.hid HK.out
              have HLC := Lib.hid (hIH.out (X.take s) (Y.take e) (by rw [LX1.out]; have := HSC.out; have := HALL.out; omega) (by rw [LY1.out]; have := HEC.out; have := HALL.out; omega) (by rw [LX1.out, LY1.out]; have := HALL.out; omega) a st mid P (X.drop s ++ (Y.drop e ++ Q)) wr (asc_cut Ent.loc HAX.out s).1 (asc_cut Ent.loc HAY.out e).1 (by have := HALL.out; omega) (by rw [LX1.out]; have := HALL.out; omega) (by rw [LY1.out]; have := HALL.out; omega) (by rw [List.length_append, List.length_append, LX2.out, LY2.out]; have := HALL.out; omega) (by have := HALL.out; omega) E1.out)
              go_wp2_with fail
              refine HLC.out.mono ?_
              rintro e2 w2 ⟨rfl, R1, hs, he, hk⟩
              have SR1 := Lib.hid hs
              have E2 := Lib.hid he
              have K2 := Lib.hid (K1.out.trans hk)
              clear hs he hk HLC
              have LR1 := Lib.hid (show R1.length = s + e by rw [SR1.out.length, List.length_append, LX1.out, LY1.out])
              obtain ⟨R2, hR2⟩ : ∃ R2, R2 = X.drop s ++ Y.drop e := ⟨_, rfl⟩
              have SR2 := Lib.hid (show StS Ent.loc (X.drop s ++ Y.drop e) R2 by rw [hR2]; exact StS.of_asc Ent.loc (by rw [show X.drop s = [] from List.eq_nil_of_length_eq_zero (by rw [LX2.out]; have := HSC.out; omega), List.nil_append]; exact (asc_cut Ent.loc HAY.out e).2))
              have E3 := Lib.hid (show ER w2 g (P ++ ((R1 ++ R2) ++ Q)) from by rw [hR2]; have h := E2.out; simpa only [List.append_assoc] using h)
              have K3 := Lib.hid K2.out
              clear hR2
              have SF := Lib.hid (StS.halves Ent.loc HAX.out HAY.out HHA.out HHB.out SR1.out SR2.out)
              clear E1 E2 EE
              go_wp2
              go_end0
              exact ⟨rfl, R1 ++ R2, SF.out, E3.out, K3.out⟩
        · skip
          by_cases c2 : e = 0
          · skip
            exfalso
            have hb3 := HBASE.out
            have ha3 := HALL.out
            clear hst hen
            omega
          · by_cases c3 : e = Y.length
            · skip
              exfalso
              have hb3 := HBASE.out
              have ha3 := HALL.out
              clear hst hen
              omega
            · skip
              have HSC := Lib.hid (show 0 < s ∧ s < X.length by omega)
              have HEC := Lib.hid (show 0 < e ∧ e < Y.length by omega)
              have q1 : (st : Int) < (m : Int) := by omega
              have q1d : decide ((st : Int) < (m : Int)) = true := decide_eq_true q1
              have q2 : (m : Int) < (en : Int) := by omega
              have q2d : decide ((m : Int) < (en : Int)) = true := decide_eq_true q2
              have q3 : (a : Int) < (st : Int) := by omega
              have q3d : decide ((a : Int) < (st : Int)) = true := decide_eq_true q3
              have q4 : (st : Int) < (mid : Int) := by omega
              have q4d : decide ((st : Int) < (mid : Int)) = true := decide_eq_true q4
              have q5 : (mid : Int) < (en : Int) := by omega
              have q5d : decide ((mid : Int) < (en : Int)) = true := decide_eq_true q5
              have q6 : (en : Int) < (b : Int) := by omega
              have q6d : decide ((en : Int) < (b : Int)) = true := decide_eq_true q6
              have LX1 := Lib.hid (show (X.take s).length = s by rw [List.length_take]; omega)
              have LX2 := Lib.hid (show (X.drop s).length = X.length - s by rw [List.length_drop])
              have LY1 := Lib.hid (show (Y.take e).length = e by rw [List.length_take]; omega)
              have LY2 := Lib.hid (show (Y.drop e).length = Y.length - e by rw [List.length_drop])
              have hw2 : IntKind.i64.wrap ((np : Int) - (st : Int)) = (en : Int) := by rw [hend]; simp [IntKind.wrap, IntKind.bits, IntKind.signed]; omega
              clear hst hen hse hsX heY hb2 hend
              try clear c1
              try clear c2
              try clear c3
              try clear c4
              have ER1 := Lib.hid (show ER wr g ((P ++ X.take s) ++ (X.drop s ++ (Y.take e ++ (Y.drop e ++ Q)))) from full_rot s e ▸ EE.out)
              have HRC := Lib.hid (rot_any g n c st m en (P ++ X.take s) (X.drop s) (Y.take e) (Y.drop e ++ Q) (.func (.func 37) #[] #[]) wr ER1.out (by rw [List.length_append, LX1.out]; have := HALL.out; omega) (by rw [LX2.out]; have := HALL.out; omega) (by rw [LY1.out]; have := HALL.out; omega) (by rw [List.length_append, LY2.out]; have := HALL.out; omega) (by have := HALL.out; omega) (by rw [LX2.out]; have := HALL.out; have := HSC.out; omega) (by rw [LY1.out]; have := HEC.out; have := HALL.out; omega))
              go_wp2_with fail
              refine HRC.out.mono ?_
              rintro e1 w1 ⟨rfl, he, hk⟩
              have E1 := Lib.hid (show ER w1 g (P ++ (X.take s ++ (Y.take e ++ (X.drop s ++ (Y.drop e ++ Q))))) from by rw [List.append_assoc] at he; exact he)
              have K1 := Lib.hid (HK.out.trans hk)
              clear he hk HRC ER1
              have HLC := Lib.hid (hIH.out (X.take s) (Y.take e) (by rw [LX1.out]; have := HSC.out; have := HALL.out; omega) (by rw [LY1.out]; have := HEC.out; have := HALL.out; omega) (by rw [LX1.out, LY1.out]; have := HALL.out; omega) a st mid P (X.drop s ++ (Y.drop e ++ Q)) w1 (asc_cut Ent.loc HAX.out s).1 (asc_cut Ent.loc HAY.out e).1 (by have := HALL.out; omega) (by rw [LX1.out]; have := HALL.out; omega) (by rw [LY1.out]; have := HALL.out; omega) (by rw [List.length_append, List.length_append, LX2.out, LY2.out]; have := HALL.out; omega) (by have := HALL.out; omega) E1.out)
              go_wp2_with fail
              refine HLC.out.mono ?_
              rintro e2 w2 ⟨rfl, R1, hs, he, hk⟩
              have SR1 := Lib.hid hs
              have E2 := Lib.hid he
              have K2 := Lib.hid (K1.out.trans hk)
              clear hs he hk HLC
              have LR1 := Lib.hid (show R1.length = s + e by rw [SR1.out.length, List.length_append, LX1.out, LY1.out])
              have HRC2 := Lib.hid (hIH.out (X.drop s) (Y.drop e) (by rw [LX2.out]; have := HSC.out; have := HALL.out; omega) (by rw [LY2.out]; have := HEC.out; have := HALL.out; omega) (by rw [LX2.out, LY2.out]; have := HALL.out; have := HSC.out; have := HEC.out; omega) mid en b (P ++ R1) Q w2 (asc_cut Ent.loc HAX.out s).2 (asc_cut Ent.loc HAY.out e).2 (by rw [List.length_append, LR1.out]; have := HALL.out; omega) (by rw [LX2.out]; have := HALL.out; omega) (by rw [LY2.out]; have := HALL.out; omega) (by have := HALL.out; omega) (by have := HALL.out; omega) (by rw [List.append_assoc]; exact E2.out))
              go_wp2_with fail
              refine HRC2.out.mono ?_
              rintro e3 w3 ⟨rfl, R2, hs, he, hk⟩
              have SR2 := Lib.hid hs
              have E3 := Lib.hid (show ER w3 g (P ++ ((R1 ++ R2) ++ Q)) from by rw [List.append_assoc]; rw [List.append_assoc] at he; exact he)
              have K3 := Lib.hid (K2.out.trans hk)
              clear hs he hk HRC2
              have SF := Lib.hid (StS.halves Ent.loc HAX.out HAY.out HHA.out HHB.out SR1.out SR2.out)
              clear E1 E2 EE
              go_wp2
              go_end0
              exact ⟨rfl, R1 ++ R2, SF.out, E3.out, K3.out⟩

/-- Two sorted blocks are merged. -/
theorem sym_any (g n c : Nat) : ∀ (k : Nat) (X Y : List Ent), X.length + Y.length = k → 0 < X.length → 0 < Y.length → SymC g n c X Y := by
  intro k
  induction k using Nat.strongRecOn with
  | _ k ih =>
    intro X Y hk hX0 hY0
    by_cases h1 : X.length = 1
    · obtain ⟨u, rfl⟩ := List.length_eq_one_iff.1 h1
      exact sym_left g n c u Y
    · by_cases h2 : Y.length = 1
      · obtain ⟨u, rfl⟩ := List.length_eq_one_iff.1 h2
        exact sym_right g n c X u h1 hX0
      · intro a m b P Q w hAX hAY hP hX hY hn hn1 hE
        by_cases hgt : (a + b) / 2 < m
        · exact sym_gt g n c X Y h1 hX0 h2 hY0 (fun X' Y' hx hy hl => ih _ (by omega) X' Y' rfl hx hy) a m b P Q w hAX hAY hP hX hY hn hn1 hE _ rfl hgt
        · exact sym_le g n c X Y h1 hX0 h2 hY0 (fun X' Y' hx hy hl => ih _ (by omega) X' Y' rfl hx hy) a m b P Q w hAX hAY hP hX hY hn hn1 hE _ rfl (by omega)
end Go.Proofs.YtilapnejkdgomaaDoor
