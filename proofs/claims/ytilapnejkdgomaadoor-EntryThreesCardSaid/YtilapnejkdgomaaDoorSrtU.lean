/- The walk of slices' insertion sort over entries, by entry.byPlace. Conditions: at most 1000 entries. -/
import Derived.Test.YtilapnejkdgomaaDoorSrtT
import Derived.Deep.QuietTactic
import Derived.BigQuiet
set_option linter.unusedVariables false
set_option linter.unusedSimpArgs false
namespace Go.Proofs.YtilapnejkdgomaaDoor
open Go.RowKit

theorem yields_e {ops : Array Oper} {S : World → Prop} {op : Oper} {a : Act} {L : List Ent} (hw : Region.wanted op (yielded ops a.tmps) = true) (x : Operand) (ho : op.op = .load 46 x) (g i : Nat) (hx : a.eval x = .pointer (some ⟨g, i * 6, none⟩))
    (hS : ∀ W, S W → ER W g L) {e : Ent} (hi : L[i]? = some e) : YieldsIf Tryd.prog ops S op (entV e) a := by
  obtain ⟨hil, rfl⟩ := List.getElem?_eq_some_iff.1 hi
  exact yieldsIf_load_mid hw _ x ho g (i * 6) hx (entC L[i]) _ (fun w h => (hS w h).get i hil) Tryd.underlying46 rfl Tryd.sizeE
/-- Two neighbours change places. -/
theorem swap_adj (p q : List Ent) (y x : Ent) (j : Nat) (hj : j = p.length + 1) :
    (p ++ y :: x :: q)[j]? = some x ∧ (p ++ y :: x :: q)[j - 1]? = some y ∧ j < (p ++ y :: x :: q).length ∧ j - 1 < ((p ++ y :: x :: q).set j y).length ∧
    ((p ++ y :: x :: q).set j y).set (j - 1) x = p ++ x :: y :: q := by
  subst hj
  rw [Nat.add_sub_cancel]
  refine ⟨?_, ?_, by simp, by simp, ?_⟩
  · rw [List.getElem?_append_right (by omega), Nat.add_sub_cancel_left]; rfl
  · rw [List.getElem?_append_right (Nat.le_refl _), Nat.sub_self]; rfl
  · rw [List.set_append_right _ _ (by omega), Nat.add_sub_cancel_left, List.set_cons_succ, List.set_cons_zero, List.set_append_right _ _ (Nat.le_refl _), Nat.sub_self, List.set_cons_zero]
/-- Two neighbours change places, the lower one written first. -/
theorem swap_adj' (p q : List Ent) (y x : Ent) (j : Nat) (hj : j = p.length) :
    (p ++ y :: x :: q)[j]? = some y ∧ (p ++ y :: x :: q)[j + 1]? = some x ∧ j < (p ++ y :: x :: q).length ∧ j + 1 < ((p ++ y :: x :: q).set j x).length ∧
    ((p ++ y :: x :: q).set j x).set (j + 1) y = p ++ x :: y :: q := by
  subst hj
  refine ⟨?_, ?_, by simp, by simp, ?_⟩
  · rw [List.getElem?_append_right (Nat.le_refl _), Nat.sub_self]; rfl
  · rw [List.getElem?_append_right (by omega), Nat.add_sub_cancel_left]; rfl
  · rw [List.set_append_right _ _ (Nat.le_refl _), Nat.sub_self, List.set_cons_zero, List.set_append_right _ _ (by omega), Nat.add_sub_cancel_left, List.set_cons_succ, List.set_cons_zero]
/-- The insertion's end: x stands behind all that are not greater. -/
theorem ins_done {S1 S2 : List Ent} {x : Ent} (hs : Asc Ent.loc (S1 ++ S2)) (h1 : ∀ y, S1.getLast? = some y → y.loc ≤ x.loc) (h2 : ∀ y ∈ S2, x.loc < y.loc) : S1 ++ x :: S2 = insS Ent.loc x (S1 ++ S2) := by
  rw [insS_app]
  · intro y hy
    cases hl : S1.getLast? with
    | none => rw [List.getLast?_eq_none_iff.1 hl] at hy; cases hy
    | some z => have := asc_last Ent.loc (asc_left Ent.loc hs) hl y hy; have := h1 z hl; omega
  · intro y hy; exact h2 y (List.mem_of_mem_head? hy)
theorem ins_sts {X S : List Ent} {s : Nat} (hs : s < X.length) (h : StS Ent.loc (X.take s) S) : StS Ent.loc (X.take (s + 1)) (insS Ent.loc X[s] S) := by
  refine ⟨insS_asc Ent.loc _ h.1, fun k => ?_⟩
  rw [insS_fk Ent.loc _ k h.1, fk_app, h.2, List.take_succ_eq_append_getElem hs, fk_app]

set_option maxRecDepth 100000 in
set_option maxHeartbeats 12800000 in
theorem insR_any (g n c a b : Nat) (P X Q : List Ent) (w : World) (hE : ER w g (P ++ (X ++ Q))) (hP : P.length = a) (hX : a + X.length = b) (hn : b + Q.length = n) (h1 : n ≤ 1000) :
    Calls Tryd.prog 71 #[.slice (some ⟨g, 0, none⟩) n c, .int .i64 a, .int .i64 b, .func (.func 37) #[] #[]] w fun e w' => e = .returned (.tuple #[]) ∧ ∃ S, StS Ent.loc X S ∧ ER w' g (P ++ (S ++ Q)) ∧ Keep (fun k => k = g) w w' := by
  have HE0 := Lib.hid hE
  have HPL := Lib.hid hP
  have HXL := Lib.hid hX
  have HNL := Lib.hid hn
  have han : (a : Int) ≤ (b : Int) := by omega
  have hbn : (b : Int) ≤ (n : Int) := by omega
  have hnn : (n : Int) ≤ 1000 := by omega
  by_cases hX0 : X.length = 0
  · have hx : X = [] := List.eq_nil_of_length_eq_zero hX0
    subst hx
    have hab : ¬ (a : Int) + 1 < (b : Int) := by omega
    clear hE hP hX hn h1
    go_enter Tryd.func71, Tryd.ntmps71
    go_wp2
    refine wp_loop_rounds 1 ?_
    rw [rounds_succ]
    go_wp2
    go_end0
    exact ⟨rfl, [], StS.of_asc _ List.Pairwise.nil, HE0.out, Keep.refl⟩
  · have HX0 := Lib.hid (show 0 < X.length by omega)
    have hab : (a : Int) + 1 ≤ (b : Int) := by omega
    clear hE hP hX hn h1 hX0
    go_enter Tryd.func71, Tryd.ntmps71
    go_wp2
    go_loopw [8] (fun ii wr => ∃ (s : Nat) (S : List Ent), 1 ≤ s ∧ s ≤ X.length ∧ ii = .int .i64 ((a : Int) + (s : Int)) ∧ Hid (S.length = s) ∧ Hid (StS Ent.loc (X.take s) S) ∧ Hid (ER wr g (P ++ (S ++ (X.drop s ++ Q)))) ∧ Hid (Keep (fun k => k = g) w wr)) (fun ii _ => b - (intOf ii).toNat)
    case atStart =>
      refine ⟨1, X.take 1, Nat.le_refl _, HX0.out, rfl, Lib.hid (by rw [List.length_take]; have := HX0.out; omega), Lib.hid (StS.of_asc _ ?_), Lib.hid (by rw [← List.append_assoc (X.take 1), List.take_append_drop]; exact HE0.out), Lib.hid Keep.refl⟩
      cases X with
      | nil => exact List.Pairwise.nil
      | cons z t => exact List.pairwise_singleton ..
    case round =>
      clear HE0
      obtain ⟨s, S, hs1, hs2, rfl, HSL, HST, HE, HK⟩ := hrel
      have hs2i : (a : Int) + (s : Int) ≤ (b : Int) := by have := HXL.out; omega
      by_cases hlt : s < X.length
      · skip
        have hlti : (a : Int) + (s : Int) < (b : Int) := by have := HXL.out; omega
        have HLT := Lib.hid hlt
        have hdX : X.drop s = X[s] :: X.drop (s + 1) := List.drop_eq_getElem_cons hlt
        have HST2 := Lib.hid (ins_sts hlt HST.out)
        have HE1 := Lib.hid (show ER wr g (P ++ (S ++ (X[s] :: ([] ++ (X.drop (s + 1) ++ Q))))) from by have h := HE.out; rwa [hdX] at h)
        have HRL := Lib.hid (show b + Q.length = n ∧ a + X.length = b ∧ s < X.length from ⟨HNL.out, HXL.out, hlt⟩)
        have hR : (X.drop (s + 1) ++ Q).length = n - (a + s + 1) := by rw [List.length_append, List.length_drop]; have := HNL.out; have := HXL.out; omega
        have HR := Lib.hid hR
        have HRE := Lib.hid (show ∀ S', P ++ (S' ++ (X.drop (s + 1) ++ Q)) = P ++ (S' ++ (X.drop (s + 1) ++ Q)) from fun _ => rfl)
        have HS1 := Lib.hid hs1
        clear hdX HE hs2 hR hs1
        generalize X[s] = x at *
        clear hlt
        obtain ⟨R, hRR⟩ : ∃ R, R = X.drop (s + 1) ++ Q := ⟨_, rfl⟩
        rw [← hRR] at HE1 HR
        have HRR := Lib.hid hRR
        clear hRR HRE
        go_wp2
        go_loopw [9] (fun jj wr => ∃ (j : Nat) (S1 S2 : List Ent), jj = .int .i64 j ∧ Hid (a + S1.length = j) ∧ Hid (S = S1 ++ S2) ∧ Hid (∀ y ∈ S2, x.loc < y.loc) ∧ Hid (ER wr g (P ++ (S1 ++ (x :: (S2 ++ R))))) ∧ Hid (Keep (fun k => k = g) w wr)) (fun jj _ => (intOf jj).toNat)
        case atStart => exact ⟨a + s, S, [], by congr 1 <;> omega, Lib.hid (by rw [HSL.out]), Lib.hid (List.append_nil _).symm, Lib.hid (fun y hy => by cases hy), HE1, HK⟩
        case round =>
          clear HE1 HK
          obtain ⟨j, S1, S2, rfl, HJ, HSP, HG, HE2, HK2⟩ := hrel
          have hjb : (j : Int) ≤ 1000 := by have := HJ.out; have h := congrArg List.length HSP.out; rw [List.length_append, HSL.out] at h; have := HRL.out; omega
          have haj : (a : Int) ≤ (j : Int) := by have := HJ.out; omega
          by_cases h0 : S1 = []
          · skip
            subst h0
            have hja : j = a := by have := HJ.out; simpa using this.symm
            have hjd : decide ((a : Int) < (j : Int)) = false := decide_eq_false (by omega)
            have hjn : ¬ (a : Int) < (j : Int) := by omega
            have hja2 : j ≤ a := by omega
            have HF := Lib.hid (show insS Ent.loc x S = x :: S2 from by have h := ins_done (S1 := []) (S2 := S2) (x := x) (by rw [← HSP.out]; exact HST.out.1) (fun y hy => by cases hy) HG.out; rw [HSP.out]; exact h.symm)
            have HXF := Lib.hid (show ∀ W, ER W g (P ++ ([] ++ (x :: (S2 ++ R)))) → ER W g (P ++ (insS Ent.loc x S ++ (X.drop (s + 1) ++ Q))) from fun W h => by rw [HF.out, ← HRR.out]; exact h)
            have LF := Lib.hid (show (insS Ent.loc x S).length = s + 1 from by rw [HF.out, List.length_cons]; have h := congrArg List.length HSP.out; rw [HSL.out] at h; simpa using h.symm)
            clear hja HF
            go_wp2_with fail
            refine wp_region_held_drew (S := fun W => ER W g (P ++ ([] ++ (x :: (S2 ++ R))))) (by kernel_rfl) (HE2.out.drew) (fun hHeld => ?_)
            have Ek0 := Lib.hid (HE2.out.drew)
            have Kk0 := Lib.hid (HK2.out.drew)
            clear hHeld
            generalize wr.drew = vk0 at *
            refine wpAnyH_take (i := 0) (oi := ⟨some 18, _, _, _, _, _⟩) (v := .int .i64 (j : Int)) rfl (by kernel_rfl) (by kernel_rfl) (by kernel_rfl) (fun _ _ _ h => h) (Or.inl ⟨by rfl, ?_⟩) Ek0.out ?_
            · intro W' hW
              go_simp
            try simp only [Act.put, List.setIfInBounds_toArray, List.set_cons_zero, List.set_cons_succ]
            refine wpAnyH_take (i := 1) (oi := ⟨some 19, _, _, _, _, _⟩) (v := .int .i64 (a : Int)) rfl (by kernel_rfl) (by kernel_rfl) (by kernel_rfl) (fun _ _ _ h => h) (Or.inl ⟨by rfl, ?_⟩) Ek0.out ?_
            · intro W' hW
              go_simp
            try simp only [Act.put, List.setIfInBounds_toArray, List.set_cons_zero, List.set_cons_succ]
            refine wpAnyH_take (i := 2) (oi := ⟨some 20, _, _, _, _, _⟩) (v := .bool false) rfl (by kernel_rfl) (by kernel_rfl) (by kernel_rfl) (fun _ _ _ h => h) (Or.inl ⟨by rfl, ?_⟩) Ek0.out ?_
            · intro W' hW
              go_simp
            try simp only [Act.put, List.setIfInBounds_toArray, List.set_cons_zero, List.set_cons_succ]
            refine wpAnyH_take (i := 3) (oi := ⟨some 21, _, _, _, _, _⟩) (v := .bool false) rfl (by kernel_rfl) (by kernel_rfl) (by kernel_rfl) (fun _ _ _ h => h) (Or.inl ⟨by rfl, ?_⟩) Ek0.out ?_
            · intro W' hW
              go_simp
            try simp only [Act.put, List.setIfInBounds_toArray, List.set_cons_zero, List.set_cons_succ]
            refine wpAnyH_take (i := 4) (oi := ⟨some 22, _, _, _, _, _⟩) (v := undef) rfl (by kernel_rfl) (by kernel_rfl) (by kernel_rfl) (fun _ _ _ h => h) (Or.inr ⟨by rfl, rfl⟩) Ek0.out ?_
            try simp only [Act.put, List.setIfInBounds_toArray, List.set_cons_zero, List.set_cons_succ]
            refine wpAnyH_take (i := 5) (oi := ⟨some 23, _, _, _, _, _⟩) (v := undef) rfl (by kernel_rfl) (by kernel_rfl) (by kernel_rfl) (fun _ _ _ h => h) (Or.inr ⟨by rfl, rfl⟩) Ek0.out ?_
            try simp only [Act.put, List.setIfInBounds_toArray, List.set_cons_zero, List.set_cons_succ]
            refine wpAnyH_take (i := 6) (oi := ⟨some 24, _, _, _, _, _⟩) (v := undef) rfl (by kernel_rfl) (by kernel_rfl) (by kernel_rfl) (fun _ _ _ h => h) (Or.inr ⟨by rfl, rfl⟩) Ek0.out ?_
            try simp only [Act.put, List.setIfInBounds_toArray, List.set_cons_zero, List.set_cons_succ]
            refine wpAnyH_take (i := 7) (oi := ⟨some 25, _, _, _, _, _⟩) (v := undef) rfl (by kernel_rfl) (by kernel_rfl) (by kernel_rfl) (fun _ _ _ h => h) (Or.inr ⟨by rfl, rfl⟩) Ek0.out ?_
            try simp only [Act.put, List.setIfInBounds_toArray, List.set_cons_zero, List.set_cons_succ]
            refine wpAnyH_take (i := 8) (oi := ⟨some 26, _, _, _, _, _⟩) (v := undef) rfl (by kernel_rfl) (by kernel_rfl) (by kernel_rfl) (fun _ _ _ h => h) (Or.inr ⟨by rfl, rfl⟩) Ek0.out ?_
            try simp only [Act.put, List.setIfInBounds_toArray, List.set_cons_zero, List.set_cons_succ]
            refine wpAnyH_take (i := 9) (oi := ⟨some 27, _, _, _, _, _⟩) (v := undef) rfl (by kernel_rfl) (by kernel_rfl) (by kernel_rfl) (fun _ _ _ h => h) (Or.inr ⟨by rfl, rfl⟩) Ek0.out ?_
            try simp only [Act.put, List.setIfInBounds_toArray, List.set_cons_zero, List.set_cons_succ]
            refine wpAnyH_take (i := 10) (oi := ⟨some 28, _, _, _, _, _⟩) (v := undef) rfl (by kernel_rfl) (by kernel_rfl) (by kernel_rfl) (fun _ _ _ h => h) (Or.inr ⟨by rfl, rfl⟩) Ek0.out ?_
            try simp only [Act.put, List.setIfInBounds_toArray, List.set_cons_zero, List.set_cons_succ]
            refine wpAnyH_take (i := 11) (oi := ⟨some 29, _, _, _, _, _⟩) (v := undef) rfl (by kernel_rfl) (by kernel_rfl) (by kernel_rfl) (fun _ _ _ h => h) (Or.inr ⟨by rfl, rfl⟩) Ek0.out ?_
            try simp only [Act.put, List.setIfInBounds_toArray, List.set_cons_zero, List.set_cons_succ]
            refine wpAnyH_take (i := 12) (oi := ⟨some 30, _, _, _, _, _⟩) (v := undef) rfl (by kernel_rfl) (by kernel_rfl) (by kernel_rfl) (fun _ _ _ h => h) (Or.inr ⟨by rfl, rfl⟩) Ek0.out ?_
            try simp only [Act.put, List.setIfInBounds_toArray, List.set_cons_zero, List.set_cons_succ]
            refine wpAnyH_take (i := 13) (oi := ⟨some 31, _, _, _, _, _⟩) (v := undef) rfl (by kernel_rfl) (by kernel_rfl) (by kernel_rfl) (fun _ _ _ h => h) (Or.inr ⟨by rfl, rfl⟩) Ek0.out ?_
            try simp only [Act.put, List.setIfInBounds_toArray, List.set_cons_zero, List.set_cons_succ]
            refine wpAnyH_take (i := 14) (oi := ⟨some 32, _, _, _, _, _⟩) (v := undef) rfl (by kernel_rfl) (by kernel_rfl) (by kernel_rfl) (fun _ _ _ h => h) (Or.inr ⟨by rfl, rfl⟩) Ek0.out ?_
            try simp only [Act.put, List.setIfInBounds_toArray, List.set_cons_zero, List.set_cons_succ]
            refine wpAnyH_take (i := 15) (oi := ⟨some 33, _, _, _, _, _⟩) (v := undef) rfl (by kernel_rfl) (by kernel_rfl) (by kernel_rfl) (fun _ _ _ h => h) (Or.inr ⟨by rfl, rfl⟩) Ek0.out ?_
            try simp only [Act.put, List.setIfInBounds_toArray, List.set_cons_zero, List.set_cons_succ]
            refine wpAnyH_take (i := 16) (oi := ⟨some 34, _, _, _, _, _⟩) (v := .bool false) rfl (by kernel_rfl) (by kernel_rfl) (by kernel_rfl) (fun _ _ _ h => h) (Or.inl ⟨by rfl, ?_⟩) Ek0.out ?_
            · intro W' hW
              go_simp
            try simp only [Act.put, List.setIfInBounds_toArray, List.set_cons_zero, List.set_cons_succ]
            refine wpAnyH_done (by kernel_rfl) ?_ _
            have EF2 := Lib.hid (show ER vk0 g (P ++ (insS Ent.loc x S ++ (X.drop (s + 1) ++ Q))) from HXF.out _ Ek0.out)
            go_wp2
            go_roundw
            case rel => exact ⟨s + 1, insS Ent.loc x S, by omega, HLT.out, by first | rfl | (show Value.int .i64 _ = _; congr 1; omega), LF, HST2, EF2, Kk0⟩
            case measure => have := HRL.out; show b - ((a : Int) + (s : Int) + 1).toNat < b - ((a : Int) + (s : Int)).toNat; omega
          · skip
            obtain ⟨S1', y, hy⟩ : ∃ S1' y, S1 = S1' ++ [y] := ⟨S1.dropLast, S1.getLast h0, (List.dropLast_concat_getLast h0).symm⟩
            subst hy
            have hjl : j = (P ++ S1').length + 1 := by have h := HJ.out; have := HPL.out; rw [List.length_append] at h ⊢; simp at h; omega
            have hj0 : a < j := by have h := HJ.out; simp at h; omega
            have hjd : decide ((a : Int) < (j : Int)) = true := decide_eq_true (by omega)
            have hjn : (a : Int) < (j : Int) := by omega
            have HJ0 := Lib.hid hj0
            have HJI := Lib.hid (show (j : Int) - 1 = ((j - 1 : Nat) : Int) by omega)
            have HJ3 := Lib.hid (show Hid (a + S1'.length = j - 1) from Lib.hid (by have h := HJ.out; simp at h; omega))
            have HSP2 := Lib.hid (show S = S1' ++ (y :: S2) from by rw [HSP.out]; simp)
            have hD : P ++ ((S1' ++ [y]) ++ (x :: (S2 ++ R))) = (P ++ S1') ++ y :: x :: (S2 ++ R) := by simp
            have HDF := Lib.hid (show (P ++ S1') ++ x :: y :: (S2 ++ R) = P ++ (S1' ++ (x :: ((y :: S2) ++ R))) from by simp)
            rw [hD] at HE2
            have hs := swap_adj (P ++ S1') (S2 ++ R) y x j hjl
            have hjn2 : j < n := by have h1 := HR.out; have h2 := congrArg List.length HSP.out; have h3 := HJ.out; have := HRL.out; rw [HSL.out, List.length_append] at h2; omega
            obtain ⟨D, hDD⟩ : ∃ D, D = (P ++ S1') ++ y :: x :: (S2 ++ R) := ⟨_, rfl⟩
            rw [← hDD] at hs HE2
            have HDD := Lib.hid hDD
            clear hDD
            obtain ⟨hx, hy, hjl2, hjm, hnx⟩ := hs
            have HX := Lib.hid hx
            have HY := Lib.hid hy
            have HJL := Lib.hid hjl2
            have HJM := Lib.hid hjm
            have HNX := Lib.hid hnx
            have w1 : IntKind.i64.wrap ((j : Int) - 1) = (j : Int) - 1 := by simp [IntKind.wrap, IntKind.bits, IntKind.signed]; omega
            have t1 : ((j : Int) - 1).toNat = j - 1 := by omega
            have b1 : (j : Int) < (n : Int) := by omega
            have b2 : (0 : Int) ≤ (j : Int) - 1 := by omega
            have b4 : ¬ (j : Int) < 1 := by omega
            have b5 : (1 : Int) ≤ (j : Int) := by omega
            have b3 : (j : Int) - 1 < (n : Int) := by omega
            clear hx hy hjl2 hjm hnx hjl hj0 hD h0 hjn2
            by_cases hc : x.loc < y.loc
            · skip
              have hcn := (cmpI_neg x.loc y.loc).2 hc
              have hcd : decide (cmpI x.loc y.loc < 0) = true := decide_eq_true hcn
              have HG2 := Lib.hid (show ∀ z ∈ y :: S2, x.loc < z.loc from fun z hz => by rcases List.mem_cons.1 hz with rfl | hz; exact hc; exact HG.out z hz)
              clear hc
              go_wp2_with fail
              refine wp_region_held_drew (S := fun W => ER W g D) (by kernel_rfl) (HE2.out.drew) (fun hHeld => ?_)
              have Ec0 := Lib.hid (HE2.out.drew)
              have Kc0 := Lib.hid (HK2.out.drew)
              clear hHeld
              generalize wr.drew = vc0 at *
              refine wpAnyH_take (i := 0) (oi := ⟨some 18, _, _, _, _, _⟩) (v := .int .i64 (j : Int)) rfl (by kernel_rfl) (by kernel_rfl) (by kernel_rfl) (fun _ _ _ h => h) (Or.inl ⟨by rfl, ?_⟩) Ec0.out ?_
              · intro W' hW
                go_simp
              try simp only [Act.put, List.setIfInBounds_toArray, List.set_cons_zero, List.set_cons_succ]
              refine wpAnyH_take (i := 1) (oi := ⟨some 19, _, _, _, _, _⟩) (v := .int .i64 (a : Int)) rfl (by kernel_rfl) (by kernel_rfl) (by kernel_rfl) (fun _ _ _ h => h) (Or.inl ⟨by rfl, ?_⟩) Ec0.out ?_
              · intro W' hW
                go_simp
              try simp only [Act.put, List.setIfInBounds_toArray, List.set_cons_zero, List.set_cons_succ]
              refine wpAnyH_take (i := 2) (oi := ⟨some 20, _, _, _, _, _⟩) (v := .bool true) rfl (by kernel_rfl) (by kernel_rfl) (by kernel_rfl) (fun _ _ _ h => h) (Or.inl ⟨by rfl, ?_⟩) Ec0.out ?_
              · intro W' hW
                go_simp
              try simp only [Act.put, List.setIfInBounds_toArray, List.set_cons_zero, List.set_cons_succ]
              refine wpAnyH_take (i := 3) (oi := ⟨some 21, _, _, _, _, _⟩) (v := .bool true) rfl (by kernel_rfl) (by kernel_rfl) (by kernel_rfl) (fun _ _ _ h => h) (Or.inl ⟨by rfl, ?_⟩) Ec0.out ?_
              · intro W' hW
                go_simp
              try simp only [Act.put, List.setIfInBounds_toArray, List.set_cons_zero, List.set_cons_succ]
              refine wpAnyH_take (i := 4) (oi := ⟨some 22, _, _, _, _, _⟩) (v := .func (.func 37) #[] #[]) rfl (by kernel_rfl) (by kernel_rfl) (by kernel_rfl) (fun _ _ _ h => h) (Or.inl ⟨by rfl, ?_⟩) Ec0.out ?_
              · intro W' hW
                go_simp
              try simp only [Act.put, List.setIfInBounds_toArray, List.set_cons_zero, List.set_cons_succ]
              refine wpAnyH_take (i := 5) (oi := ⟨some 23, _, _, _, _, _⟩) (v := .slice (some ⟨g, 0, none⟩) n c) rfl (by kernel_rfl) (by kernel_rfl) (by kernel_rfl) (fun _ _ _ h => h) (Or.inl ⟨by rfl, ?_⟩) Ec0.out ?_
              · intro W' hW
                go_simp
              try simp only [Act.put, List.setIfInBounds_toArray, List.set_cons_zero, List.set_cons_succ]
              refine wpAnyH_take (i := 6) (oi := ⟨some 24, _, _, _, _, _⟩) (v := .int .i64 (j : Int)) rfl (by kernel_rfl) (by kernel_rfl) (by kernel_rfl) (fun _ _ _ h => h) (Or.inl ⟨by rfl, ?_⟩) Ec0.out ?_
              · intro W' hW
                go_simp
              try simp only [Act.put, List.setIfInBounds_toArray, List.set_cons_zero, List.set_cons_succ]
              refine wpAnyH_take (i := 7) (oi := ⟨some 25, _, _, _, _, _⟩) (v := .pointer (some ⟨g, j * 6, none⟩)) rfl (by kernel_rfl) (by kernel_rfl) (by kernel_rfl) (fun _ _ _ h => h) (Or.inl ⟨by rfl, ?_⟩) Ec0.out ?_
              · intro W' hW
                go_simp
              try simp only [Act.put, List.setIfInBounds_toArray, List.set_cons_zero, List.set_cons_succ]
              refine wpAnyH_take (i := 8) (oi := ⟨some 26, _, _, _, _, _⟩) (v := entV x) rfl (by kernel_rfl) (by kernel_rfl) (by kernel_rfl) (fun _ _ _ h => h) (yields_e (by rfl) (.tmp 25) rfl g (j) rfl (fun W hW => hW) HX.out) Ec0.out ?_
              try simp only [Act.put, List.setIfInBounds_toArray, List.set_cons_zero, List.set_cons_succ]
              refine wpAnyH_take (i := 9) (oi := ⟨some 27, _, _, _, _, _⟩) (v := .slice (some ⟨g, 0, none⟩) n c) rfl (by kernel_rfl) (by kernel_rfl) (by kernel_rfl) (fun _ _ _ h => h) (Or.inl ⟨by rfl, ?_⟩) Ec0.out ?_
              · intro W' hW
                go_simp
              try simp only [Act.put, List.setIfInBounds_toArray, List.set_cons_zero, List.set_cons_succ]
              refine wpAnyH_take (i := 10) (oi := ⟨some 28, _, _, _, _, _⟩) (v := .int .i64 (j : Int)) rfl (by kernel_rfl) (by kernel_rfl) (by kernel_rfl) (fun _ _ _ h => h) (Or.inl ⟨by rfl, ?_⟩) Ec0.out ?_
              · intro W' hW
                go_simp
              try simp only [Act.put, List.setIfInBounds_toArray, List.set_cons_zero, List.set_cons_succ]
              refine wpAnyH_take (i := 11) (oi := ⟨some 29, _, _, _, _, _⟩) (v := .int .i64 ((j : Int) - 1)) rfl (by kernel_rfl) (by kernel_rfl) (by kernel_rfl) (fun _ _ _ h => h) (Or.inl ⟨by rfl, ?_⟩) Ec0.out ?_
              · intro W' hW
                go_simp
              try simp only [Act.put, List.setIfInBounds_toArray, List.set_cons_zero, List.set_cons_succ]
              refine wpAnyH_take (i := 12) (oi := ⟨some 30, _, _, _, _, _⟩) (v := .pointer (some ⟨g, (j - 1) * 6, none⟩)) rfl (by kernel_rfl) (by kernel_rfl) (by kernel_rfl) (fun _ _ _ h => h) (Or.inl ⟨by rfl, ?_⟩) Ec0.out ?_
              · intro W' hW
                go_simp
              try simp only [Act.put, List.setIfInBounds_toArray, List.set_cons_zero, List.set_cons_succ]
              refine wpAnyH_take (i := 13) (oi := ⟨some 31, _, _, _, _, _⟩) (v := entV y) rfl (by kernel_rfl) (by kernel_rfl) (by kernel_rfl) (fun _ _ _ h => h) (yields_e (by rfl) (.tmp 30) rfl g (j - 1) rfl (fun W hW => hW) HY.out) Ec0.out ?_
              try simp only [Act.put, List.setIfInBounds_toArray, List.set_cons_zero, List.set_cons_succ]
              refine wpAnyH_ready (rs := [14]) (by kernel_rfl) (by simp) ?_
              refine AllReadyH.cons (o := ⟨some 32, _, _, _, _, _⟩) rfl (fun K hK => ?_) (AllReadyH.nil)
              go_simp
              refine (place_any x y vc0).mono ?_
              rintro e vc1 ⟨rfl, hb⟩
              have Ec1 := Lib.hid (Ec0.out.below hb)
              have Kc1 := Lib.hid (Kc0.out.trans (Keep.of_below hb))
              clear hb
              refine hK.out _ _ Ec1.out (fun hHeldq => ?_)
              clear hK hHeldq
              try simp only [Act.put, List.setIfInBounds_toArray, List.set_cons_zero, List.set_cons_succ]
              refine wpAnyH_take (i := 15) (oi := ⟨some 33, _, _, _, _, _⟩) (v := .bool true) rfl (by kernel_rfl) (by kernel_rfl) (by kernel_rfl) (fun _ _ _ h => h) (Or.inl ⟨by rfl, ?_⟩) Ec1.out ?_
              · intro W' hW
                go_simp
              try simp only [Act.put, List.setIfInBounds_toArray, List.set_cons_zero, List.set_cons_succ]
              refine wpAnyH_take (i := 16) (oi := ⟨some 34, _, _, _, _, _⟩) (v := .bool true) rfl (by kernel_rfl) (by kernel_rfl) (by kernel_rfl) (fun _ _ _ h => h) (Or.inl ⟨by rfl, ?_⟩) Ec1.out ?_
              · intro W' hW
                go_simp
              try simp only [Act.put, List.setIfInBounds_toArray, List.set_cons_zero, List.set_cons_succ]
              refine wpAnyH_done (by kernel_rfl) ?_ _
              go_wp2_with fail
              refine wp_region_held_drew (S := fun _ => True) (by kernel_rfl) trivial (fun hHeld => ?_)
              have E0 := Lib.hid (Ec1.out.drew)
              have K0 := Lib.hid (Kc1.out.drew)
              clear hHeld
              generalize vc1.drew = v0 at *
              refine wpAnyH_take (i := 0) (oi := ⟨some 37, _, _, _, _, _⟩) (v := .slice (some ⟨g, 0, none⟩) n c) rfl (by kernel_rfl) (by kernel_rfl) (by kernel_rfl) (fun _ _ _ h => h) (Or.inl ⟨by rfl, ?_⟩) trivial ?_
              · intro W' hW
                go_simp
              try simp only [Act.put, List.setIfInBounds_toArray, List.set_cons_zero, List.set_cons_succ]
              refine wpAnyH_take (i := 1) (oi := ⟨some 38, _, _, _, _, _⟩) (v := .int .i64 (j : Int)) rfl (by kernel_rfl) (by kernel_rfl) (by kernel_rfl) (fun _ _ _ h => h) (Or.inl ⟨by rfl, ?_⟩) trivial ?_
              · intro W' hW
                go_simp
              try simp only [Act.put, List.setIfInBounds_toArray, List.set_cons_zero, List.set_cons_succ]
              refine wpAnyH_take (i := 2) (oi := ⟨some 39, _, _, _, _, _⟩) (v := .slice (some ⟨g, 0, none⟩) n c) rfl (by kernel_rfl) (by kernel_rfl) (by kernel_rfl) (fun _ _ _ h => h) (Or.inl ⟨by rfl, ?_⟩) trivial ?_
              · intro W' hW
                go_simp
              try simp only [Act.put, List.setIfInBounds_toArray, List.set_cons_zero, List.set_cons_succ]
              refine wpAnyH_take (i := 3) (oi := ⟨some 40, _, _, _, _, _⟩) (v := .int .i64 (j : Int)) rfl (by kernel_rfl) (by kernel_rfl) (by kernel_rfl) (fun _ _ _ h => h) (Or.inl ⟨by rfl, ?_⟩) trivial ?_
              · intro W' hW
                go_simp
              try simp only [Act.put, List.setIfInBounds_toArray, List.set_cons_zero, List.set_cons_succ]
              refine wpAnyH_take (i := 4) (oi := ⟨some 41, _, _, _, _, _⟩) (v := .int .i64 ((j : Int) - 1)) rfl (by kernel_rfl) (by kernel_rfl) (by kernel_rfl) (fun _ _ _ h => h) (Or.inl ⟨by rfl, ?_⟩) trivial ?_
              · intro W' hW
                go_simp
              try simp only [Act.put, List.setIfInBounds_toArray, List.set_cons_zero, List.set_cons_succ]
              refine wpAnyH_take (i := 5) (oi := ⟨some 42, _, _, _, _, _⟩) (v := .slice (some ⟨g, 0, none⟩) n c) rfl (by kernel_rfl) (by kernel_rfl) (by kernel_rfl) (fun _ _ _ h => h) (Or.inl ⟨by rfl, ?_⟩) trivial ?_
              · intro W' hW
                go_simp
              try simp only [Act.put, List.setIfInBounds_toArray, List.set_cons_zero, List.set_cons_succ]
              refine wpAnyH_take (i := 6) (oi := ⟨some 43, _, _, _, _, _⟩) (v := .int .i64 (j : Int)) rfl (by kernel_rfl) (by kernel_rfl) (by kernel_rfl) (fun _ _ _ h => h) (Or.inl ⟨by rfl, ?_⟩) trivial ?_
              · intro W' hW
                go_simp
              try simp only [Act.put, List.setIfInBounds_toArray, List.set_cons_zero, List.set_cons_succ]
              refine wpAnyH_take (i := 7) (oi := ⟨some 44, _, _, _, _, _⟩) (v := .int .i64 ((j : Int) - 1)) rfl (by kernel_rfl) (by kernel_rfl) (by kernel_rfl) (fun _ _ _ h => h) (Or.inl ⟨by rfl, ?_⟩) trivial ?_
              · intro W' hW
                go_simp
              try simp only [Act.put, List.setIfInBounds_toArray, List.set_cons_zero, List.set_cons_succ]
              refine wpAnyH_take (i := 8) (oi := ⟨some 45, _, _, _, _, _⟩) (v := .pointer (some ⟨g, (j - 1) * 6, none⟩)) rfl (by kernel_rfl) (by kernel_rfl) (by kernel_rfl) (fun _ _ _ h => h) (Or.inl ⟨by rfl, ?_⟩) trivial ?_
              · intro W' hW
                go_simp
              try simp only [Act.put, List.setIfInBounds_toArray, List.set_cons_zero, List.set_cons_succ]
              refine wpAnyH_take (i := 10) (oi := ⟨some 47, _, _, _, _, _⟩) (v := .slice (some ⟨g, 0, none⟩) n c) rfl (by kernel_rfl) (by kernel_rfl) (by kernel_rfl) (fun _ _ _ h => h) (Or.inl ⟨by rfl, ?_⟩) trivial ?_
              · intro W' hW
                go_simp
              try simp only [Act.put, List.setIfInBounds_toArray, List.set_cons_zero, List.set_cons_succ]
              refine wpAnyH_take (i := 11) (oi := ⟨some 48, _, _, _, _, _⟩) (v := .int .i64 (j : Int)) rfl (by kernel_rfl) (by kernel_rfl) (by kernel_rfl) (fun _ _ _ h => h) (Or.inl ⟨by rfl, ?_⟩) trivial ?_
              · intro W' hW
                go_simp
              try simp only [Act.put, List.setIfInBounds_toArray, List.set_cons_zero, List.set_cons_succ]
              refine wpAnyH_take (i := 12) (oi := ⟨some 49, _, _, _, _, _⟩) (v := .pointer (some ⟨g, j * 6, none⟩)) rfl (by kernel_rfl) (by kernel_rfl) (by kernel_rfl) (fun _ _ _ h => h) (Or.inl ⟨by rfl, ?_⟩) trivial ?_
              · intro W' hW
                go_simp
              try simp only [Act.put, List.setIfInBounds_toArray, List.set_cons_zero, List.set_cons_succ]
              refine wpAnyH_ready (rs := [9, 13]) (by kernel_rfl) (by simp) ?_
              refine AllReadyH.cons (o := ⟨some 46, _, _, _, _, _⟩) rfl (fun K hK => ?_) (AllReadyH.cons (o := ⟨some 50, _, _, _, _, _⟩) rfl (fun K hK => ?_) (AllReadyH.nil))
              · skip
                refine Eq.mpr (if_pos (by kernel_rfl)) ?_
                refine wp_get_e (.tmp 45) rfl g (j - 1) rfl E0.out HY.out ?_
                refine hK.out _ _ trivial (fun hHeldq => ?_)
                clear hK hHeldq
                try simp only [Act.put, List.setIfInBounds_toArray, List.set_cons_zero, List.set_cons_succ]
                refine wpAnyH_ready (rs := [13]) (by kernel_rfl) (by simp) ?_
                refine AllReadyH.cons (o := ⟨some 50, _, _, _, _, _⟩) rfl (fun K hK => ?_) (AllReadyH.nil)
                refine Eq.mpr (if_pos (by kernel_rfl)) ?_
                refine wp_get_e (.tmp 49) rfl g (j) rfl E0.out HX.out ?_
                refine hK.out _ _ trivial (fun hHeldq => ?_)
                clear hK hHeldq
                try simp only [Act.put, List.setIfInBounds_toArray, List.set_cons_zero, List.set_cons_succ]
                refine wpAnyH_take (i := 14) (oi := ⟨some 51, _, _, _, _, _⟩) (v := .pointer (some ⟨g, j * 6, none⟩)) rfl (by kernel_rfl) (by kernel_rfl) (by kernel_rfl) (fun _ _ _ h => h) (Or.inl ⟨by rfl, ?_⟩) trivial ?_
                · intro W' hW
                  go_simp
                try simp only [Act.put, List.setIfInBounds_toArray, List.set_cons_zero, List.set_cons_succ]
                refine wpAnyH_ready (rs := [15]) (by kernel_rfl) (by simp) ?_
                refine AllReadyH.cons (o := ⟨none, _, _, _, _, _⟩) rfl (fun K hK => ?_) (AllReadyH.nil)
                refine Eq.mpr (if_pos (by kernel_rfl)) ?_
                refine wp_put_e (.tmp 51) (.tmp 46) rfl g (j) rfl y rfl E0.out HJL.out ?_
                intro v1 he hk
                have E1 := Lib.hid he
                have K1 := Lib.hid (K0.out.trans hk)
                clear he hk
                refine hK.out _ _ trivial (fun hHeldq => ?_)
                clear hK hHeldq
                try simp only [Act.put, List.setIfInBounds_toArray, List.set_cons_zero, List.set_cons_succ]
                refine wpAnyH_take (i := 16) (oi := ⟨some 52, _, _, _, _, _⟩) (v := .pointer (some ⟨g, (j - 1) * 6, none⟩)) rfl (by kernel_rfl) (by kernel_rfl) (by kernel_rfl) (fun _ _ _ h => h) (Or.inl ⟨by rfl, ?_⟩) trivial ?_
                · intro W' hW
                  go_simp
                try simp only [Act.put, List.setIfInBounds_toArray, List.set_cons_zero, List.set_cons_succ]
                refine wpAnyH_ready (rs := [17]) (by kernel_rfl) (by simp) ?_
                refine AllReadyH.cons (o := ⟨none, _, _, _, _, _⟩) rfl (fun K hK => ?_) (AllReadyH.nil)
                refine Eq.mpr (if_pos (by kernel_rfl)) ?_
                refine wp_put_e (.tmp 52) (.tmp 50) rfl g (j - 1) rfl x rfl E1.out HJM.out ?_
                intro v2 he hk
                have E2 := Lib.hid he
                have K2 := Lib.hid (K1.out.trans hk)
                clear he hk
                refine hK.out _ _ trivial (fun hHeldq => ?_)
                clear hK hHeldq
                try simp only [Act.put, List.setIfInBounds_toArray, List.set_cons_zero, List.set_cons_succ]
                refine wpAnyH_done (by kernel_rfl) ?_ _
                have EF := Lib.hid (show ER v2 g (P ++ (S1' ++ (x :: ((y :: S2) ++ R)))) from by have h := HNX.out ▸ E2.out; rw [HDF.out] at h; exact h)
                go_wp2
                go_roundw
                case rel => exact ⟨j - 1, S1', y :: S2, by rw [← HJI.out], HJ3.out, HSP2, HG2, EF, K2⟩
                case measure => have := HJ0.out; show ((j : Int) - 1).toNat < ((j : Int)).toNat; omega
              · skip
                refine Eq.mpr (if_pos (by kernel_rfl)) ?_
                refine wp_get_e (.tmp 49) rfl g (j) rfl E0.out HX.out ?_
                refine hK.out _ _ trivial (fun hHeldq => ?_)
                clear hK hHeldq
                try simp only [Act.put, List.setIfInBounds_toArray, List.set_cons_zero, List.set_cons_succ]
                refine wpAnyH_ready (rs := [9]) (by kernel_rfl) (by simp) ?_
                refine AllReadyH.cons (o := ⟨some 46, _, _, _, _, _⟩) rfl (fun K hK => ?_) (AllReadyH.nil)
                refine Eq.mpr (if_pos (by kernel_rfl)) ?_
                refine wp_get_e (.tmp 45) rfl g (j - 1) rfl E0.out HY.out ?_
                refine hK.out _ _ trivial (fun hHeldq => ?_)
                clear hK hHeldq
                try simp only [Act.put, List.setIfInBounds_toArray, List.set_cons_zero, List.set_cons_succ]
                refine wpAnyH_take (i := 14) (oi := ⟨some 51, _, _, _, _, _⟩) (v := .pointer (some ⟨g, j * 6, none⟩)) rfl (by kernel_rfl) (by kernel_rfl) (by kernel_rfl) (fun _ _ _ h => h) (Or.inl ⟨by rfl, ?_⟩) trivial ?_
                · intro W' hW
                  go_simp
                try simp only [Act.put, List.setIfInBounds_toArray, List.set_cons_zero, List.set_cons_succ]
                refine wpAnyH_ready (rs := [15]) (by kernel_rfl) (by simp) ?_
                refine AllReadyH.cons (o := ⟨none, _, _, _, _, _⟩) rfl (fun K hK => ?_) (AllReadyH.nil)
                refine Eq.mpr (if_pos (by kernel_rfl)) ?_
                refine wp_put_e (.tmp 51) (.tmp 46) rfl g (j) rfl y rfl E0.out HJL.out ?_
                intro v1 he hk
                have E1 := Lib.hid he
                have K1 := Lib.hid (K0.out.trans hk)
                clear he hk
                refine hK.out _ _ trivial (fun hHeldq => ?_)
                clear hK hHeldq
                try simp only [Act.put, List.setIfInBounds_toArray, List.set_cons_zero, List.set_cons_succ]
                refine wpAnyH_take (i := 16) (oi := ⟨some 52, _, _, _, _, _⟩) (v := .pointer (some ⟨g, (j - 1) * 6, none⟩)) rfl (by kernel_rfl) (by kernel_rfl) (by kernel_rfl) (fun _ _ _ h => h) (Or.inl ⟨by rfl, ?_⟩) trivial ?_
                · intro W' hW
                  go_simp
                try simp only [Act.put, List.setIfInBounds_toArray, List.set_cons_zero, List.set_cons_succ]
                refine wpAnyH_ready (rs := [17]) (by kernel_rfl) (by simp) ?_
                refine AllReadyH.cons (o := ⟨none, _, _, _, _, _⟩) rfl (fun K hK => ?_) (AllReadyH.nil)
                refine Eq.mpr (if_pos (by kernel_rfl)) ?_
                refine wp_put_e (.tmp 52) (.tmp 50) rfl g (j - 1) rfl x rfl E1.out HJM.out ?_
                intro v2 he hk
                have E2 := Lib.hid he
                have K2 := Lib.hid (K1.out.trans hk)
                clear he hk
                refine hK.out _ _ trivial (fun hHeldq => ?_)
                clear hK hHeldq
                try simp only [Act.put, List.setIfInBounds_toArray, List.set_cons_zero, List.set_cons_succ]
                refine wpAnyH_done (by kernel_rfl) ?_ _
                have EF := Lib.hid (show ER v2 g (P ++ (S1' ++ (x :: ((y :: S2) ++ R)))) from by have h := HNX.out ▸ E2.out; rw [HDF.out] at h; exact h)
                go_wp2
                go_roundw
                case rel => exact ⟨j - 1, S1', y :: S2, by rw [← HJI.out], HJ3.out, HSP2, HG2, EF, K2⟩
                case measure => have := HJ0.out; show ((j : Int) - 1).toNat < ((j : Int)).toNat; omega
            · skip
              have hcn : ¬ cmpI x.loc y.loc < 0 := fun h => hc ((cmpI_neg x.loc y.loc).1 h)
              have hcd : decide (cmpI x.loc y.loc < 0) = false := decide_eq_false hcn
              have HF := Lib.hid (show (S1' ++ [y]) ++ x :: S2 = insS Ent.loc x S from by
                have h := ins_done (S1 := S1' ++ [y]) (S2 := S2) (x := x) (by rw [← HSP.out]; exact HST.out.1) (fun z hz => by simp at hz; subst hz; omega) HG.out
                rw [HSP.out]; exact h)
              have HDE := Lib.hid (show ∀ W, ER W g D → ER W g (P ++ (insS Ent.loc x S ++ (X.drop (s + 1) ++ Q))) from fun W h => by
                rw [← HF.out, ← HRR.out]
                have h2 : D = P ++ (S1' ++ [y] ++ x :: S2 ++ R) := by
                  have e := HDD.out
                  rw [e]; simp
                rwa [h2] at h)
              have LF := Lib.hid (show (insS Ent.loc x S).length = s + 1 from by rw [← HF.out, List.length_append, List.length_cons, ← Nat.add_assoc, ← List.length_append, ← HSP.out, HSL.out])
              have hcp : 0 ≤ cmpI x.loc y.loc := by omega
              clear hc
              go_wp2_with fail
              refine wp_region_held_drew (S := fun W => ER W g D) (by kernel_rfl) (HE2.out.drew) (fun hHeld => ?_)
              have Ec0 := Lib.hid (HE2.out.drew)
              have Kc0 := Lib.hid (HK2.out.drew)
              clear hHeld
              generalize wr.drew = vc0 at *
              refine wpAnyH_take (i := 0) (oi := ⟨some 18, _, _, _, _, _⟩) (v := .int .i64 (j : Int)) rfl (by kernel_rfl) (by kernel_rfl) (by kernel_rfl) (fun _ _ _ h => h) (Or.inl ⟨by rfl, ?_⟩) Ec0.out ?_
              · intro W' hW
                go_simp
              try simp only [Act.put, List.setIfInBounds_toArray, List.set_cons_zero, List.set_cons_succ]
              refine wpAnyH_take (i := 1) (oi := ⟨some 19, _, _, _, _, _⟩) (v := .int .i64 (a : Int)) rfl (by kernel_rfl) (by kernel_rfl) (by kernel_rfl) (fun _ _ _ h => h) (Or.inl ⟨by rfl, ?_⟩) Ec0.out ?_
              · intro W' hW
                go_simp
              try simp only [Act.put, List.setIfInBounds_toArray, List.set_cons_zero, List.set_cons_succ]
              refine wpAnyH_take (i := 2) (oi := ⟨some 20, _, _, _, _, _⟩) (v := .bool true) rfl (by kernel_rfl) (by kernel_rfl) (by kernel_rfl) (fun _ _ _ h => h) (Or.inl ⟨by rfl, ?_⟩) Ec0.out ?_
              · intro W' hW
                go_simp
              try simp only [Act.put, List.setIfInBounds_toArray, List.set_cons_zero, List.set_cons_succ]
              refine wpAnyH_take (i := 3) (oi := ⟨some 21, _, _, _, _, _⟩) (v := .bool true) rfl (by kernel_rfl) (by kernel_rfl) (by kernel_rfl) (fun _ _ _ h => h) (Or.inl ⟨by rfl, ?_⟩) Ec0.out ?_
              · intro W' hW
                go_simp
              try simp only [Act.put, List.setIfInBounds_toArray, List.set_cons_zero, List.set_cons_succ]
              refine wpAnyH_take (i := 4) (oi := ⟨some 22, _, _, _, _, _⟩) (v := .func (.func 37) #[] #[]) rfl (by kernel_rfl) (by kernel_rfl) (by kernel_rfl) (fun _ _ _ h => h) (Or.inl ⟨by rfl, ?_⟩) Ec0.out ?_
              · intro W' hW
                go_simp
              try simp only [Act.put, List.setIfInBounds_toArray, List.set_cons_zero, List.set_cons_succ]
              refine wpAnyH_take (i := 5) (oi := ⟨some 23, _, _, _, _, _⟩) (v := .slice (some ⟨g, 0, none⟩) n c) rfl (by kernel_rfl) (by kernel_rfl) (by kernel_rfl) (fun _ _ _ h => h) (Or.inl ⟨by rfl, ?_⟩) Ec0.out ?_
              · intro W' hW
                go_simp
              try simp only [Act.put, List.setIfInBounds_toArray, List.set_cons_zero, List.set_cons_succ]
              refine wpAnyH_take (i := 6) (oi := ⟨some 24, _, _, _, _, _⟩) (v := .int .i64 (j : Int)) rfl (by kernel_rfl) (by kernel_rfl) (by kernel_rfl) (fun _ _ _ h => h) (Or.inl ⟨by rfl, ?_⟩) Ec0.out ?_
              · intro W' hW
                go_simp
              try simp only [Act.put, List.setIfInBounds_toArray, List.set_cons_zero, List.set_cons_succ]
              refine wpAnyH_take (i := 7) (oi := ⟨some 25, _, _, _, _, _⟩) (v := .pointer (some ⟨g, j * 6, none⟩)) rfl (by kernel_rfl) (by kernel_rfl) (by kernel_rfl) (fun _ _ _ h => h) (Or.inl ⟨by rfl, ?_⟩) Ec0.out ?_
              · intro W' hW
                go_simp
              try simp only [Act.put, List.setIfInBounds_toArray, List.set_cons_zero, List.set_cons_succ]
              refine wpAnyH_take (i := 8) (oi := ⟨some 26, _, _, _, _, _⟩) (v := entV x) rfl (by kernel_rfl) (by kernel_rfl) (by kernel_rfl) (fun _ _ _ h => h) (yields_e (by rfl) (.tmp 25) rfl g (j) rfl (fun W hW => hW) HX.out) Ec0.out ?_
              try simp only [Act.put, List.setIfInBounds_toArray, List.set_cons_zero, List.set_cons_succ]
              refine wpAnyH_take (i := 9) (oi := ⟨some 27, _, _, _, _, _⟩) (v := .slice (some ⟨g, 0, none⟩) n c) rfl (by kernel_rfl) (by kernel_rfl) (by kernel_rfl) (fun _ _ _ h => h) (Or.inl ⟨by rfl, ?_⟩) Ec0.out ?_
              · intro W' hW
                go_simp
              try simp only [Act.put, List.setIfInBounds_toArray, List.set_cons_zero, List.set_cons_succ]
              refine wpAnyH_take (i := 10) (oi := ⟨some 28, _, _, _, _, _⟩) (v := .int .i64 (j : Int)) rfl (by kernel_rfl) (by kernel_rfl) (by kernel_rfl) (fun _ _ _ h => h) (Or.inl ⟨by rfl, ?_⟩) Ec0.out ?_
              · intro W' hW
                go_simp
              try simp only [Act.put, List.setIfInBounds_toArray, List.set_cons_zero, List.set_cons_succ]
              refine wpAnyH_take (i := 11) (oi := ⟨some 29, _, _, _, _, _⟩) (v := .int .i64 ((j : Int) - 1)) rfl (by kernel_rfl) (by kernel_rfl) (by kernel_rfl) (fun _ _ _ h => h) (Or.inl ⟨by rfl, ?_⟩) Ec0.out ?_
              · intro W' hW
                go_simp
              try simp only [Act.put, List.setIfInBounds_toArray, List.set_cons_zero, List.set_cons_succ]
              refine wpAnyH_take (i := 12) (oi := ⟨some 30, _, _, _, _, _⟩) (v := .pointer (some ⟨g, (j - 1) * 6, none⟩)) rfl (by kernel_rfl) (by kernel_rfl) (by kernel_rfl) (fun _ _ _ h => h) (Or.inl ⟨by rfl, ?_⟩) Ec0.out ?_
              · intro W' hW
                go_simp
              try simp only [Act.put, List.setIfInBounds_toArray, List.set_cons_zero, List.set_cons_succ]
              refine wpAnyH_take (i := 13) (oi := ⟨some 31, _, _, _, _, _⟩) (v := entV y) rfl (by kernel_rfl) (by kernel_rfl) (by kernel_rfl) (fun _ _ _ h => h) (yields_e (by rfl) (.tmp 30) rfl g (j - 1) rfl (fun W hW => hW) HY.out) Ec0.out ?_
              try simp only [Act.put, List.setIfInBounds_toArray, List.set_cons_zero, List.set_cons_succ]
              refine wpAnyH_ready (rs := [14]) (by kernel_rfl) (by simp) ?_
              refine AllReadyH.cons (o := ⟨some 32, _, _, _, _, _⟩) rfl (fun K hK => ?_) (AllReadyH.nil)
              go_simp
              refine (place_any x y vc0).mono ?_
              rintro e vc1 ⟨rfl, hb⟩
              have Ec1 := Lib.hid (Ec0.out.below hb)
              have Kc1 := Lib.hid (Kc0.out.trans (Keep.of_below hb))
              clear hb
              refine hK.out _ _ Ec1.out (fun hHeldq => ?_)
              clear hK hHeldq
              try simp only [Act.put, List.setIfInBounds_toArray, List.set_cons_zero, List.set_cons_succ]
              refine wpAnyH_take (i := 15) (oi := ⟨some 33, _, _, _, _, _⟩) (v := .bool false) rfl (by kernel_rfl) (by kernel_rfl) (by kernel_rfl) (fun _ _ _ h => h) (Or.inl ⟨by rfl, ?_⟩) Ec1.out ?_
              · intro W' hW
                go_simp
              try simp only [Act.put, List.setIfInBounds_toArray, List.set_cons_zero, List.set_cons_succ]
              refine wpAnyH_take (i := 16) (oi := ⟨some 34, _, _, _, _, _⟩) (v := .bool false) rfl (by kernel_rfl) (by kernel_rfl) (by kernel_rfl) (fun _ _ _ h => h) (Or.inl ⟨by rfl, ?_⟩) Ec1.out ?_
              · intro W' hW
                go_simp
              try simp only [Act.put, List.setIfInBounds_toArray, List.set_cons_zero, List.set_cons_succ]
              refine wpAnyH_done (by kernel_rfl) ?_ _
              have EF := Lib.hid (HDE.out _ Ec1.out)
              go_wp2
              go_roundw
              case rel => exact ⟨s + 1, insS Ent.loc x S, by omega, HLT.out, by first | rfl | (show Value.int .i64 _ = _; congr 1; omega), LF, HST2, EF, Kc1⟩
              case measure => have := HRL.out; show b - ((a : Int) + (s : Int) + 1).toNat < b - ((a : Int) + (s : Int)).toNat; omega
      · skip
        obtain rfl : s = X.length := by omega
        have hlti : ¬ (a : Int) + (X.length : Int) < (b : Int) := by have := HXL.out; omega
        have EF := Lib.hid (show ER wr g (P ++ (S ++ Q)) from by have h := HE.out; rwa [List.drop_length, List.nil_append] at h)
        have SF := Lib.hid (show StS Ent.loc X S from by have h := HST.out; rwa [List.take_length] at h)
        clear HE HST hs2 hlt
        go_wp2
        go_end0
        exact ⟨rfl, S, SF.out, EF.out, HK.out⟩

end Go.Proofs.YtilapnejkdgomaaDoor
