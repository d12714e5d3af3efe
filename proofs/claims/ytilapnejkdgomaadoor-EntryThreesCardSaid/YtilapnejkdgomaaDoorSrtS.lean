/- Laws on an entry's load and store in a row; the walks of entry.byPlace, of slices' swapRange and rotate. Conditions: at most 1000 entries. -/
import Derived.Test.YtilapnejkdgomaaDoorSrtR
import Derived.Deep.RegionHeld3
set_option linter.unusedVariables false
set_option linter.unusedSimpArgs false
namespace Go.Proofs.YtilapnejkdgomaaDoor
open Go.RowKit

theorem Tryd.sizeE : (Tryd.prog.info? 46).map (·.size) = some 6 := by kernel_rfl
theorem ent_one (e : Ent) : (entC e).toArray.all (·.oneCell') = true := by
  obtain ⟨a, b, c, d, f, g⟩ := e
  simp [entC, Value.oneCell']
section
variable {op : Oper} {a : Act} {w : World} {K : Act → World → Prop} {Q : Exit → Act → World → Prop} {L : List Ent}
theorem wp_get_e (x : Operand) (ho : op.op = .load 46 x) (g i : Nat) (hx : a.eval x = .pointer (some ⟨g, i * 6, none⟩)) (hE : ER w g L) {e : Ent} (hi : L[i]? = some e)
    (h : K (a.put op.dst (entV e)) w) : op.wp Tryd.prog a w K Q := by
  obtain ⟨hil, rfl⟩ := List.getElem?_eq_some_iff.1 hi
  exact wp_load_mid _ x ho g (i * 6) hx (entC L[i]) _ (hE.get i hil) Tryd.underlying46 rfl Tryd.sizeE h
theorem wp_put_e (x y : Operand) (ho : op.op = .store 46 x y) (g i : Nat) (hx : a.eval x = .pointer (some ⟨g, i * 6, none⟩)) (e : Ent) (hy : a.eval y = entV e) (hE : ER w g L) (hi : i < L.length)
    (k : ∀ w', ER w' g (L.set i e) → Keep (fun k => k = g) w w' → K (a.put op.dst undef) w') : op.wp Tryd.prog a w K Q :=
  wp_store_mid _ x y ho g (i * 6) (entC e).toArray hx hy (hE.there i hi) Tryd.sizeE (ent_one e) (k _ (hE.set i hi e) (Keep.setCells (S := fun k => k = g) Keep.refl rfl _ _))
end
/-- Which of two keys is the smaller. -/
def cmpI (a b : Int) : Int := if a < b then -1 else if b < a then 1 else 0
theorem cmpI_neg (a b : Int) : (cmpI a b < 0) ↔ a < b := by unfold cmpI; split <;> (try split) <;> omega
theorem cmpI_zero (a b : Int) : (cmpI a b = 0) ↔ a = b := by unfold cmpI; split <;> (try split) <;> omega

theorem meas_up (n k : Nat) (h : k < n) : n - (intOf (.int .i64 ((k : Int) + 1))).toNat < n - (intOf (.int .i64 (k : Int))).toNat := by
  show n - ((k : Int) + 1).toNat < n - ((k : Int)).toNat
  omega
/-- Two elements change places. -/
theorem swap_lists (p m q : List Ent) (u v : Ent) :
    (p ++ u :: (m ++ v :: q))[p.length]? = some u ∧ (p ++ u :: (m ++ v :: q))[p.length + 1 + m.length]? = some v ∧ p.length < (p ++ u :: (m ++ v :: q)).length ∧ p.length + 1 + m.length < ((p ++ u :: (m ++ v :: q)).set p.length v).length ∧
    ((p ++ u :: (m ++ v :: q)).set p.length v).set (p.length + 1 + m.length) u = p ++ v :: (m ++ u :: q) := by
  refine ⟨?_, ?_, by simp, by simp; omega, ?_⟩
  · rw [List.getElem?_append_right (Nat.le_refl _), Nat.sub_self]; rfl
  · rw [List.getElem?_append_right (by omega), show p.length + 1 + m.length - p.length = m.length + 1 by omega, List.getElem?_cons_succ, List.getElem?_append_right (Nat.le_refl _), Nat.sub_self]; rfl
  · rw [List.set_append_right _ _ (Nat.le_refl _), Nat.sub_self, List.set_cons_zero, List.set_append_right _ _ (by omega), show p.length + 1 + m.length - p.length = m.length + 1 by omega, List.set_cons_succ, List.set_append_right _ _ (Nat.le_refl _), Nat.sub_self, List.set_cons_zero]

set_option maxRecDepth 100000 in
theorem nan_any (a : Int) (w : World) : Calls Tryd.prog 69 #[.int .i64 a] w fun e w' => e = .returned (.bool false) ∧ w' = w := by
  go_enter Tryd.func69, Tryd.ntmps69
  go_wp2
  go_ret
  exact ⟨by simp, rfl⟩
set_option maxRecDepth 100000 in
theorem cmp_any (a b : Int) (w : World) : Calls Tryd.prog 57 #[.int .i64 a, .int .i64 b] w fun e w' => e = .returned (.int .i64 (cmpI a b)) ∧ w' = w := by
  by_cases h1 : a < b
  · have hc : cmpI a b = -1 := if_pos h1
    rw [hc]
    clear hc
    go_enter Tryd.func57, Tryd.ntmps57
    go_wp2_with fail
    refine (nan_any a w).mono ?_
    rintro e w1 ⟨rfl, hx⟩
    subst w1
    go_wp2_with fail
    refine (nan_any b w).mono ?_
    rintro e w1 ⟨rfl, hx⟩
    subst w1
    go_wp2
    go_ret
    exact ⟨rfl, rfl⟩
  · by_cases h2 : b < a
    · have hc : cmpI a b = 1 := by unfold cmpI; rw [if_neg h1, if_pos h2]
      rw [hc]
      clear hc
      go_enter Tryd.func57, Tryd.ntmps57
      go_wp2_with fail
      refine (nan_any a w).mono ?_
      rintro e w1 ⟨rfl, hx⟩
      subst w1
      go_wp2_with fail
      refine (nan_any b w).mono ?_
      rintro e w1 ⟨rfl, hx⟩
      subst w1
      go_wp2
      go_ret
      exact ⟨rfl, rfl⟩
    · have hc : cmpI a b = 0 := by unfold cmpI; rw [if_neg h1, if_neg h2]
      rw [hc]
      clear hc
      go_enter Tryd.func57, Tryd.ntmps57
      go_wp2_with fail
      refine (nan_any a w).mono ?_
      rintro e w1 ⟨rfl, hx⟩
      subst w1
      go_wp2_with fail
      refine (nan_any b w).mono ?_
      rintro e w1 ⟨rfl, hx⟩
      subst w1
      go_wp2
      go_ret
      exact ⟨rfl, rfl⟩
set_option maxRecDepth 100000 in
set_option maxHeartbeats 1600000 in
theorem place_any (x y : Ent) (w : World) : Calls Tryd.prog 37 #[entV x, entV y] w fun e w' => e = .returned (.int .i64 (cmpI x.loc y.loc)) ∧ Below w.heap.size w w' := by
  have hx := (EBox.new (w := w) (e := x)).alloc (entO y)
  have hy := EBox.new (w := w.alloc (entO x)) (e := y)
  rw [show (w.alloc (entO x)).heap.size = w.heap.size + 1 by simp] at hy
  have f0 := hx.all.1
  have g0 := hy.all.1
  have HB := Lib.hid (show Below w.heap.size w ((w.alloc (entO x)).alloc (entO y)) from ((Below.refl _ _).alloc (Nat.le_refl _) _).alloc (by simp) _)
  have HC := Lib.hid (cmp_any x.loc y.loc)
  clear hx hy
  obtain ⟨a0, a1, a2, a3, a4, a5⟩ := x
  obtain ⟨b0, b1, b2, b3, b4, b5⟩ := y
  unfold entV
  unfold entO at f0 g0 HB
  dsimp only at f0 g0 HC HB ⊢
  go_enter Tryd.func37, Tryd.ntmps37
  go_wp2_with fail
  refine (HC.out _).mono ?_
  rintro e w1 ⟨rfl, hx⟩
  subst w1
  go_wp2
  go_ret
  exact ⟨rfl, HB.out⟩

set_option maxRecDepth 100000 in
set_option maxHeartbeats 12800000 in
theorem swr_any (g n c a b k : Nat) (P A M B Q : List Ent) (f : Value) (w : World) (hE : ER w g (P ++ (A ++ (M ++ (B ++ Q))))) (hP : P.length = a) (hA : A.length = k) (hM : a + k + M.length = b) (hB : B.length = k) (hn : b + k + Q.length = n) (h1 : n ≤ 1000) :
    Calls Tryd.prog 84 #[.slice (some ⟨g, 0, none⟩) n c, .int .i64 a, .int .i64 b, .int .i64 k, f] w fun e w' => e = .returned (.tuple #[]) ∧ ER w' g (P ++ (B ++ (M ++ (A ++ Q)))) ∧ Keep (fun k => k = g) w w' := by
  have HE0 := Lib.hid hE
  have hk2 : (k : Int) ≤ 1000 := by omega
  clear hE
  go_enter Tryd.func84, Tryd.ntmps84
  go_wp2
  go_loopw [10] (fun ii wr => ∃ i : Nat, i ≤ k ∧ ii = .int .i64 i ∧ Hid (ER wr g (P ++ ((B.take i ++ A.drop i) ++ (M ++ ((A.take i ++ B.drop i) ++ Q))))) ∧ Hid (Keep (fun k => k = g) w wr)) (fun ii _ => k - (intOf ii).toNat)
  case atStart => exact ⟨0, by omega, rfl, by simpa using HE0, Lib.hid Keep.refl⟩
  case round =>
    clear HE0
    obtain ⟨i, hi2, rfl, HE, HK⟩ := hrel
    by_cases hik : i < k
    · skip
      have hii : (i : Int) < (k : Int) := by omega
      have HIK := Lib.hid hik
      have hA2 : A = A.take i ++ A[i] :: A.drop (i + 1) := by rw [← List.drop_eq_getElem_cons (by omega : i < A.length), List.take_append_drop]
      have hB2 : B = B.take i ++ B[i] :: B.drop (i + 1) := by rw [← List.drop_eq_getElem_cons (by omega : i < B.length), List.take_append_drop]
      have hdA : A.drop i = A[i] :: A.drop (i + 1) := List.drop_eq_getElem_cons (by omega)
      have hdB : B.drop i = B[i] :: B.drop (i + 1) := List.drop_eq_getElem_cons (by omega)
      have htA : A.take (i + 1) = A.take i ++ [A[i]] := by rw [List.take_succ_eq_append_getElem (by omega)]
      have htB : B.take (i + 1) = B.take i ++ [B[i]] := by rw [List.take_succ_eq_append_getElem (by omega)]
      have l1 : (A.take i).length = i := by rw [List.length_take]; omega
      have l2 : (B.take i).length = i := by rw [List.length_take]; omega
      have l3 : (A.drop (i + 1)).length = k - i - 1 := by rw [List.length_drop]; omega
      have l4 : (B.drop (i + 1)).length = k - i - 1 := by rw [List.length_drop]; omega
      generalize A[i] = u at *
      generalize B[i] = v at *
      have e1 : P ++ ((B.take i ++ A.drop i) ++ (M ++ ((A.take i ++ B.drop i) ++ Q))) = (P ++ B.take i) ++ u :: ((A.drop (i + 1) ++ (M ++ A.take i)) ++ v :: (B.drop (i + 1) ++ Q)) := by rw [hdA, hdB]; simp
      have e2 : P ++ ((B.take (i + 1) ++ A.drop (i + 1)) ++ (M ++ ((A.take (i + 1) ++ B.drop (i + 1)) ++ Q))) = (P ++ B.take i) ++ v :: ((A.drop (i + 1) ++ (M ++ A.take i)) ++ u :: (B.drop (i + 1) ++ Q)) := by rw [htA, htB]; simp
      have lp : (P ++ B.take i).length = a + i := by rw [List.length_append, l2]; omega
      have lm : (A.drop (i + 1) ++ (M ++ A.take i)).length = (k - i - 1) + (M.length + i) := by rw [List.length_append, List.length_append, l1, l3]
      have lq : (P ++ B.take i).length + 1 + (A.drop (i + 1) ++ (M ++ A.take i)).length = b + i := by omega
      rw [e1] at HE
      have hs := swap_lists (P ++ B.take i) (A.drop (i + 1) ++ (M ++ A.take i)) (B.drop (i + 1) ++ Q) u v
      rw [lq, lp] at hs
      rw [← e2] at hs
      generalize (P ++ B.take i) ++ u :: ((A.drop (i + 1) ++ (M ++ A.take i)) ++ v :: (B.drop (i + 1) ++ Q)) = L at *
      obtain ⟨hu, hv, hxl, hyl, hnx⟩ := hs
      have HU := Lib.hid hu
      have HV := Lib.hid hv
      have HXL := Lib.hid hxl
      have HYL := Lib.hid hyl
      have HNX := Lib.hid hnx
      have hnl : a + i < n ∧ b + i < n := by omega
      clear hA2 hB2 hdA hdB htA htB l1 l2 l3 l4 e1 e2 lp lm lq hu hv hxl hyl hnx
      have w1 : IntKind.i64.wrap ((a : Int) + (i : Int)) = ((a : Int) + (i : Int)) := by simp [IntKind.wrap, IntKind.bits, IntKind.signed]; omega
      have w2 : IntKind.i64.wrap ((b : Int) + (i : Int)) = ((b : Int) + (i : Int)) := by simp [IntKind.wrap, IntKind.bits, IntKind.signed]; omega
      have t1 : ((a : Int) + (i : Int)).toNat = a + i := by omega
      have t2 : ((b : Int) + (i : Int)).toNat = b + i := by omega
      have b1 : ((a : Int) + (i : Int)) < (n : Int) := by omega
      have b2 : ((b : Int) + (i : Int)) < (n : Int) := by omega
      have b3 : (0 : Int) ≤ ((a : Int) + (i : Int)) := by omega
      have b4 : (0 : Int) ≤ ((b : Int) + (i : Int)) := by omega
      clear hik hnl hi2
      go_wp2_with fail
      refine wp_region_held_drew (S := fun _ => True) (by kernel_rfl) trivial (fun hHeld => ?_)
      have E0 := Lib.hid (HE.out.drew)
      have K0 := Lib.hid (HK.out.drew)
      clear hHeld
      generalize wr.drew = v0 at *
      refine wpAnyH_take (i := 0) (oi := ⟨some 16, _, _, _, _, _⟩) (v := .slice (some ⟨g, 0, none⟩) n c) rfl (by kernel_rfl) (by kernel_rfl) (by kernel_rfl) (fun _ _ _ h => h) (Or.inl ⟨by rfl, ?_⟩) trivial ?_
      · intro W' hW
        go_simp
      try simp only [Act.put, List.setIfInBounds_toArray, List.set_cons_zero, List.set_cons_succ]
      refine wpAnyH_take (i := 1) (oi := ⟨some 17, _, _, _, _, _⟩) (v := .int .i64 (a : Int)) rfl (by kernel_rfl) (by kernel_rfl) (by kernel_rfl) (fun _ _ _ h => h) (Or.inl ⟨by rfl, ?_⟩) trivial ?_
      · intro W' hW
        go_simp
      try simp only [Act.put, List.setIfInBounds_toArray, List.set_cons_zero, List.set_cons_succ]
      refine wpAnyH_take (i := 2) (oi := ⟨some 18, _, _, _, _, _⟩) (v := .int .i64 (i : Int)) rfl (by kernel_rfl) (by kernel_rfl) (by kernel_rfl) (fun _ _ _ h => h) (Or.inl ⟨by rfl, ?_⟩) trivial ?_
      · intro W' hW
        go_simp
      try simp only [Act.put, List.setIfInBounds_toArray, List.set_cons_zero, List.set_cons_succ]
      refine wpAnyH_take (i := 3) (oi := ⟨some 19, _, _, _, _, _⟩) (v := .int .i64 ((a : Int) + (i : Int))) rfl (by kernel_rfl) (by kernel_rfl) (by kernel_rfl) (fun _ _ _ h => h) (Or.inl ⟨by rfl, ?_⟩) trivial ?_
      · intro W' hW
        go_simp
      try simp only [Act.put, List.setIfInBounds_toArray, List.set_cons_zero, List.set_cons_succ]
      refine wpAnyH_take (i := 4) (oi := ⟨some 20, _, _, _, _, _⟩) (v := .slice (some ⟨g, 0, none⟩) n c) rfl (by kernel_rfl) (by kernel_rfl) (by kernel_rfl) (fun _ _ _ h => h) (Or.inl ⟨by rfl, ?_⟩) trivial ?_
      · intro W' hW
        go_simp
      try simp only [Act.put, List.setIfInBounds_toArray, List.set_cons_zero, List.set_cons_succ]
      refine wpAnyH_take (i := 5) (oi := ⟨some 21, _, _, _, _, _⟩) (v := .int .i64 (b : Int)) rfl (by kernel_rfl) (by kernel_rfl) (by kernel_rfl) (fun _ _ _ h => h) (Or.inl ⟨by rfl, ?_⟩) trivial ?_
      · intro W' hW
        go_simp
      try simp only [Act.put, List.setIfInBounds_toArray, List.set_cons_zero, List.set_cons_succ]
      refine wpAnyH_take (i := 6) (oi := ⟨some 22, _, _, _, _, _⟩) (v := .int .i64 (i : Int)) rfl (by kernel_rfl) (by kernel_rfl) (by kernel_rfl) (fun _ _ _ h => h) (Or.inl ⟨by rfl, ?_⟩) trivial ?_
      · intro W' hW
        go_simp
      try simp only [Act.put, List.setIfInBounds_toArray, List.set_cons_zero, List.set_cons_succ]
      refine wpAnyH_take (i := 7) (oi := ⟨some 23, _, _, _, _, _⟩) (v := .int .i64 ((b : Int) + (i : Int))) rfl (by kernel_rfl) (by kernel_rfl) (by kernel_rfl) (fun _ _ _ h => h) (Or.inl ⟨by rfl, ?_⟩) trivial ?_
      · intro W' hW
        go_simp
      try simp only [Act.put, List.setIfInBounds_toArray, List.set_cons_zero, List.set_cons_succ]
      refine wpAnyH_take (i := 8) (oi := ⟨some 24, _, _, _, _, _⟩) (v := .slice (some ⟨g, 0, none⟩) n c) rfl (by kernel_rfl) (by kernel_rfl) (by kernel_rfl) (fun _ _ _ h => h) (Or.inl ⟨by rfl, ?_⟩) trivial ?_
      · intro W' hW
        go_simp
      try simp only [Act.put, List.setIfInBounds_toArray, List.set_cons_zero, List.set_cons_succ]
      refine wpAnyH_take (i := 9) (oi := ⟨some 25, _, _, _, _, _⟩) (v := .int .i64 (b : Int)) rfl (by kernel_rfl) (by kernel_rfl) (by kernel_rfl) (fun _ _ _ h => h) (Or.inl ⟨by rfl, ?_⟩) trivial ?_
      · intro W' hW
        go_simp
      try simp only [Act.put, List.setIfInBounds_toArray, List.set_cons_zero, List.set_cons_succ]
      refine wpAnyH_take (i := 10) (oi := ⟨some 26, _, _, _, _, _⟩) (v := .int .i64 (i : Int)) rfl (by kernel_rfl) (by kernel_rfl) (by kernel_rfl) (fun _ _ _ h => h) (Or.inl ⟨by rfl, ?_⟩) trivial ?_
      · intro W' hW
        go_simp
      try simp only [Act.put, List.setIfInBounds_toArray, List.set_cons_zero, List.set_cons_succ]
      refine wpAnyH_take (i := 11) (oi := ⟨some 27, _, _, _, _, _⟩) (v := .int .i64 ((b : Int) + (i : Int))) rfl (by kernel_rfl) (by kernel_rfl) (by kernel_rfl) (fun _ _ _ h => h) (Or.inl ⟨by rfl, ?_⟩) trivial ?_
      · intro W' hW
        go_simp
      try simp only [Act.put, List.setIfInBounds_toArray, List.set_cons_zero, List.set_cons_succ]
      refine wpAnyH_take (i := 12) (oi := ⟨some 28, _, _, _, _, _⟩) (v := .pointer (some ⟨g, (b + i) * 6, none⟩)) rfl (by kernel_rfl) (by kernel_rfl) (by kernel_rfl) (fun _ _ _ h => h) (Or.inl ⟨by rfl, ?_⟩) trivial ?_
      · intro W' hW
        go_simp
      try simp only [Act.put, List.setIfInBounds_toArray, List.set_cons_zero, List.set_cons_succ]
      refine wpAnyH_take (i := 14) (oi := ⟨some 30, _, _, _, _, _⟩) (v := .slice (some ⟨g, 0, none⟩) n c) rfl (by kernel_rfl) (by kernel_rfl) (by kernel_rfl) (fun _ _ _ h => h) (Or.inl ⟨by rfl, ?_⟩) trivial ?_
      · intro W' hW
        go_simp
      try simp only [Act.put, List.setIfInBounds_toArray, List.set_cons_zero, List.set_cons_succ]
      refine wpAnyH_take (i := 15) (oi := ⟨some 31, _, _, _, _, _⟩) (v := .int .i64 (a : Int)) rfl (by kernel_rfl) (by kernel_rfl) (by kernel_rfl) (fun _ _ _ h => h) (Or.inl ⟨by rfl, ?_⟩) trivial ?_
      · intro W' hW
        go_simp
      try simp only [Act.put, List.setIfInBounds_toArray, List.set_cons_zero, List.set_cons_succ]
      refine wpAnyH_take (i := 16) (oi := ⟨some 32, _, _, _, _, _⟩) (v := .int .i64 (i : Int)) rfl (by kernel_rfl) (by kernel_rfl) (by kernel_rfl) (fun _ _ _ h => h) (Or.inl ⟨by rfl, ?_⟩) trivial ?_
      · intro W' hW
        go_simp
      try simp only [Act.put, List.setIfInBounds_toArray, List.set_cons_zero, List.set_cons_succ]
      refine wpAnyH_take (i := 17) (oi := ⟨some 33, _, _, _, _, _⟩) (v := .int .i64 ((a : Int) + (i : Int))) rfl (by kernel_rfl) (by kernel_rfl) (by kernel_rfl) (fun _ _ _ h => h) (Or.inl ⟨by rfl, ?_⟩) trivial ?_
      · intro W' hW
        go_simp
      try simp only [Act.put, List.setIfInBounds_toArray, List.set_cons_zero, List.set_cons_succ]
      refine wpAnyH_take (i := 18) (oi := ⟨some 34, _, _, _, _, _⟩) (v := .pointer (some ⟨g, (a + i) * 6, none⟩)) rfl (by kernel_rfl) (by kernel_rfl) (by kernel_rfl) (fun _ _ _ h => h) (Or.inl ⟨by rfl, ?_⟩) trivial ?_
      · intro W' hW
        go_simp
      try simp only [Act.put, List.setIfInBounds_toArray, List.set_cons_zero, List.set_cons_succ]
      refine wpAnyH_ready (rs := [13, 19]) (by kernel_rfl) (by simp) ?_
      refine AllReadyH.cons (o := ⟨some 29, _, _, _, _, _⟩) rfl (fun K hK => ?_) (AllReadyH.cons (o := ⟨some 35, _, _, _, _, _⟩) rfl (fun K hK => ?_) (AllReadyH.nil))
      · skip
        refine Eq.mpr (if_pos (by kernel_rfl)) ?_
        refine wp_get_e (.tmp 28) rfl g (b + i) rfl E0.out HV.out ?_
        refine hK.out _ _ trivial (fun hHeldq => ?_)
        clear hK hHeldq
        try simp only [Act.put, List.setIfInBounds_toArray, List.set_cons_zero, List.set_cons_succ]
        refine wpAnyH_ready (rs := [19]) (by kernel_rfl) (by simp) ?_
        refine AllReadyH.cons (o := ⟨some 35, _, _, _, _, _⟩) rfl (fun K hK => ?_) (AllReadyH.nil)
        refine Eq.mpr (if_pos (by kernel_rfl)) ?_
        refine wp_get_e (.tmp 34) rfl g (a + i) rfl E0.out HU.out ?_
        refine hK.out _ _ trivial (fun hHeldq => ?_)
        clear hK hHeldq
        try simp only [Act.put, List.setIfInBounds_toArray, List.set_cons_zero, List.set_cons_succ]
        refine wpAnyH_take (i := 20) (oi := ⟨some 36, _, _, _, _, _⟩) (v := .pointer (some ⟨g, (a + i) * 6, none⟩)) rfl (by kernel_rfl) (by kernel_rfl) (by kernel_rfl) (fun _ _ _ h => h) (Or.inl ⟨by rfl, ?_⟩) trivial ?_
        · intro W' hW
          go_simp
        try simp only [Act.put, List.setIfInBounds_toArray, List.set_cons_zero, List.set_cons_succ]
        refine wpAnyH_ready (rs := [21]) (by kernel_rfl) (by simp) ?_
        refine AllReadyH.cons (o := ⟨none, _, _, _, _, _⟩) rfl (fun K hK => ?_) (AllReadyH.nil)
        refine Eq.mpr (if_pos (by kernel_rfl)) ?_
        refine wp_put_e (.tmp 36) (.tmp 29) rfl g (a + i) rfl v rfl E0.out HXL.out ?_
        intro v1 he hk
        have E1 := Lib.hid he
        have K1 := Lib.hid (K0.out.trans hk)
        clear he hk
        refine hK.out _ _ trivial (fun hHeldq => ?_)
        clear hK hHeldq
        try simp only [Act.put, List.setIfInBounds_toArray, List.set_cons_zero, List.set_cons_succ]
        refine wpAnyH_take (i := 22) (oi := ⟨some 37, _, _, _, _, _⟩) (v := .pointer (some ⟨g, (b + i) * 6, none⟩)) rfl (by kernel_rfl) (by kernel_rfl) (by kernel_rfl) (fun _ _ _ h => h) (Or.inl ⟨by rfl, ?_⟩) trivial ?_
        · intro W' hW
          go_simp
        try simp only [Act.put, List.setIfInBounds_toArray, List.set_cons_zero, List.set_cons_succ]
        refine wpAnyH_ready (rs := [23]) (by kernel_rfl) (by simp) ?_
        refine AllReadyH.cons (o := ⟨none, _, _, _, _, _⟩) rfl (fun K hK => ?_) (AllReadyH.nil)
        refine Eq.mpr (if_pos (by kernel_rfl)) ?_
        refine wp_put_e (.tmp 37) (.tmp 35) rfl g (b + i) rfl u rfl E1.out HYL.out ?_
        intro v2 he hk
        have E2 := Lib.hid he
        have K2 := Lib.hid (K1.out.trans hk)
        clear he hk
        refine hK.out _ _ trivial (fun hHeldq => ?_)
        clear hK hHeldq
        try simp only [Act.put, List.setIfInBounds_toArray, List.set_cons_zero, List.set_cons_succ]
        refine wpAnyH_done (by kernel_rfl) ?_ _
        have EF := Lib.hid (show ER v2 g _ from HNX.out ▸ E2.out)
        clear E2 E1 E0
        go_wp2
        go_roundw
        case rel => exact ⟨i + 1, HIK.out, by go_num, EF, K2⟩
        case measure => exact meas_up _ _ HIK.out
      · skip
        refine Eq.mpr (if_pos (by kernel_rfl)) ?_
        refine wp_get_e (.tmp 34) rfl g (a + i) rfl E0.out HU.out ?_
        refine hK.out _ _ trivial (fun hHeldq => ?_)
        clear hK hHeldq
        try simp only [Act.put, List.setIfInBounds_toArray, List.set_cons_zero, List.set_cons_succ]
        refine wpAnyH_ready (rs := [13]) (by kernel_rfl) (by simp) ?_
        refine AllReadyH.cons (o := ⟨some 29, _, _, _, _, _⟩) rfl (fun K hK => ?_) (AllReadyH.nil)
        refine Eq.mpr (if_pos (by kernel_rfl)) ?_
        refine wp_get_e (.tmp 28) rfl g (b + i) rfl E0.out HV.out ?_
        refine hK.out _ _ trivial (fun hHeldq => ?_)
        clear hK hHeldq
        try simp only [Act.put, List.setIfInBounds_toArray, List.set_cons_zero, List.set_cons_succ]
        refine wpAnyH_take (i := 20) (oi := ⟨some 36, _, _, _, _, _⟩) (v := .pointer (some ⟨g, (a + i) * 6, none⟩)) rfl (by kernel_rfl) (by kernel_rfl) (by kernel_rfl) (fun _ _ _ h => h) (Or.inl ⟨by rfl, ?_⟩) trivial ?_
        · intro W' hW
          go_simp
        try simp only [Act.put, List.setIfInBounds_toArray, List.set_cons_zero, List.set_cons_succ]
        refine wpAnyH_ready (rs := [21]) (by kernel_rfl) (by simp) ?_
        refine AllReadyH.cons (o := ⟨none, _, _, _, _, _⟩) rfl (fun K hK => ?_) (AllReadyH.nil)
        refine Eq.mpr (if_pos (by kernel_rfl)) ?_
        refine wp_put_e (.tmp 36) (.tmp 29) rfl g (a + i) rfl v rfl E0.out HXL.out ?_
        intro v1 he hk
        have E1 := Lib.hid he
        have K1 := Lib.hid (K0.out.trans hk)
        clear he hk
        refine hK.out _ _ trivial (fun hHeldq => ?_)
        clear hK hHeldq
        try simp only [Act.put, List.setIfInBounds_toArray, List.set_cons_zero, List.set_cons_succ]
        refine wpAnyH_take (i := 22) (oi := ⟨some 37, _, _, _, _, _⟩) (v := .pointer (some ⟨g, (b + i) * 6, none⟩)) rfl (by kernel_rfl) (by kernel_rfl) (by kernel_rfl) (fun _ _ _ h => h) (Or.inl ⟨by rfl, ?_⟩) trivial ?_
        · intro W' hW
          go_simp
        try simp only [Act.put, List.setIfInBounds_toArray, List.set_cons_zero, List.set_cons_succ]
        refine wpAnyH_ready (rs := [23]) (by kernel_rfl) (by simp) ?_
        refine AllReadyH.cons (o := ⟨none, _, _, _, _, _⟩) rfl (fun K hK => ?_) (AllReadyH.nil)
        refine Eq.mpr (if_pos (by kernel_rfl)) ?_
        refine wp_put_e (.tmp 37) (.tmp 35) rfl g (b + i) rfl u rfl E1.out HYL.out ?_
        intro v2 he hk
        have E2 := Lib.hid he
        have K2 := Lib.hid (K1.out.trans hk)
        clear he hk
        refine hK.out _ _ trivial (fun hHeldq => ?_)
        clear hK hHeldq
        try simp only [Act.put, List.setIfInBounds_toArray, List.set_cons_zero, List.set_cons_succ]
        refine wpAnyH_done (by kernel_rfl) ?_ _
        have EF := Lib.hid (show ER v2 g _ from HNX.out ▸ E2.out)
        clear E2 E1 E0
        go_wp2
        go_roundw
        case rel => exact ⟨i + 1, HIK.out, by go_num, EF, K2⟩
        case measure => exact meas_up _ _ HIK.out
    · skip
      obtain rfl : i = k := by omega
      have hii : ¬ (i : Int) < (i : Int) := by omega
      have EF := Lib.hid (show ER wr g (P ++ (B ++ (M ++ (A ++ Q)))) from by
        have h := HE.out
        rw [List.take_of_length_le (by omega), List.take_of_length_le (by omega), List.drop_of_length_le (by omega), List.drop_of_length_le (by omega)] at h
        simpa using h)
      clear HE
      go_wp2
      go_end0
      exact ⟨rfl, EF.out, HK.out⟩

end Go.Proofs.YtilapnejkdgomaaDoor
