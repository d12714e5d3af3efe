/- What stands behind the tokens that a successful parse took may be put in the place of the end token. No condition. -/
import Derived.Test.YtkakbidllpjopaaGreatDoorPzU
set_option linter.unusedVariables false
set_option linter.unusedSimpArgs false
namespace Go.Proofs.YtkakbidllpjopaaGreatDoor

/-- The end. -/
def eot : List Tk := [(0, [])]
/-- Tokens that go on no expression and no statement. -/
structure Stop (X : List Tk) : Prop where
  op : ∀ lv, opAt lv X = false
  el : isT tElse X = false
  dot : isT [46] X = false
theorem Stop.eot : Stop eot := ⟨fun lv => by unfold Proofs.YtkakbidllpjopaaGreatDoor.eot opAt; rfl, rfl, rfl⟩
theorem isT_c (s : Str) (t : Tk) (L : List Tk) : isT s (t :: L) = ((t.1 == 3 || t.1 == 4) && t.2 == s) := rfl
theorem kindT_c (t : Tk) (L : List Tk) : kindT (t :: L) = t.1 := rfl
theorem textT_c (t : Tk) (L : List Tk) : textT (t :: L) = t.2 := rfl
theorem opAt_c (lv : Nat) (t : Tk) (L : List Tk) : opAt lv (t :: L) = ((t.1 == 3 || t.1 == 4) && (sgnsAt lv).contains t.2) := rfl
theorem isT_e (s : Str) : isT s eot = false := rfl
theorem isT_cons {s : Str} {T : List Tk} (h : isT s (T ++ eot) = true) : ∃ t T0, T = t :: T0 := by
  cases T with
  | nil => cases h
  | cons t T0 => exact ⟨t, T0, rfl⟩
theorem kind_cons {k : Int} {T : List Tk} (h : kindT (T ++ eot) = k) (hk : k ≠ 0) : ∃ t T0, T = t :: T0 := by
  cases T with
  | nil => exact absurd h.symm hk
  | cons t T0 => exact ⟨t, T0, rfl⟩
theorem opAt_cons {lv : Nat} {T : List Tk} (h : opAt lv (T ++ eot) = true) : ∃ t T0, T = t :: T0 := by
  cases T with
  | nil => unfold eot opAt at h; cases h
  | cons t T0 => exact ⟨t, T0, rfl⟩
theorem isT_x {s : Str} {T X : List Tk} (h : isT s (T ++ eot) = true) : isT s (T ++ X) = true := by
  obtain ⟨t, T0, rfl⟩ := isT_cons h
  exact h
theorem isT_n {s : Str} {T X : List Tk} (h : ¬ isT s (T ++ eot) = true) (hx : isT s X = false) : ¬ isT s (T ++ X) = true := by
  cases T with
  | nil => rw [List.nil_append, hx]; simp
  | cons t T0 => exact h
theorem tail_x {T X : List Tk} {s : Str} (h : isT s (T ++ eot) = true) : (T ++ eot).tail = T.tail ++ eot ∧ (T ++ X).tail = T.tail ++ X := by
  obtain ⟨t, T0, rfl⟩ := isT_cons h
  exact ⟨rfl, rfl⟩
theorem pU_e : ∀ (f : Nat) (e : Ex) (r : List Tk), pU f eot ≠ .ok e r
  | 0, e, r, h => by rw [pU] at h; cases h
  | f + 1, e, r, h => by
    rw [pU] at h
    simp [eot, isT, kindT] at h
theorem pB_e : ∀ (f lv : Nat) (e : Ex) (r : List Tk), pB f lv eot ≠ .ok e r
  | 0, lv, e, r, h => by rw [pB] at h; cases h
  | f + 1, lv, e, r, h => by
    rw [pB] at h
    split at h
    · exact pU_e _ _ _ h
    · cases hb : pB f (lv + 1) eot with
      | bad q => rw [hb] at h; cases h
      | ok a q => exact pB_e _ _ _ _ hb
theorem pL_e : ∀ (f : Nat) (acc : List Ex) (l : List Ex) (r : List Tk), pL f acc eot ≠ .ok l r
  | 0, acc, l, r, h => by rw [pL] at h; cases h
  | f + 1, acc, l, r, h => by
    rw [pL] at h
    cases hb : pB f 0 eot with
    | bad q => rw [hb] at h; cases h
    | ok a q => exact pB_e _ _ _ _ hb
/-- An answer, with the end token behind it and with other tokens. -/
def Ext {α : Type} (X : List Tk) (e : α) (r : List Tk) (y : Res α) : Prop := ∃ T', r = T' ++ eot ∧ y = .ok e (T' ++ X)
theorem ext_ex {X : List Tk} (hs : Stop X) (f : Nat) : ∀ g, f ≤ g → (∀ lv T e r, pB f lv (T ++ eot) = .ok e r → Ext X e r (pB g lv (T ++ X))) ∧ (∀ lv a T e r, pC f lv a (T ++ eot) = .ok e r → Ext X e r (pC g lv a (T ++ X))) ∧ (∀ T e r, pU f (T ++ eot) = .ok e r → Ext X e r (pU g (T ++ X))) ∧ (∀ T e r, pH f (T ++ eot) = .ok e r → Ext X e r (pH g (T ++ X))) ∧ (∀ n T e r, pK f n (T ++ eot) = .ok e r → Ext X e r (pK g n (T ++ X))) ∧ (∀ T l r, pA f (T ++ eot) = .ok l r → Ext X l r (pA g (T ++ X))) ∧ (∀ acc T l r, pL f acc (T ++ eot) = .ok l r → Ext X l r (pL g acc (T ++ X))) := by
  induction f with
  | zero =>
    intro g _
    refine ⟨?_, ?_, ?_, ?_, ?_, ?_, ?_⟩
    · intro lv T e r h; rw [pB] at h; cases h
    · intro lv a T e r h; rw [pC] at h; cases h
    · intro T e r h; rw [pU] at h; cases h
    · intro T e r h; rw [pH] at h; cases h
    · intro n T e r h; rw [pK] at h; cases h
    · intro T e r h; rw [pA] at h; cases h
    · intro acc T e r h; rw [pL] at h; cases h
  | succ f ih =>
    intro g hg
    obtain ⟨g, rfl⟩ : ∃ k, g = k + 1 := ⟨g - 1, by omega⟩
    obtain ⟨iB, iC, iU, iH, iK, iA, iL⟩ := ih g (by omega)
    refine ⟨?_, ?_, ?_, ?_, ?_, ?_, ?_⟩
    · intro lv T e r h
      rw [pB] at h ⊢
      split at h
      · rename_i hl
        rw [if_pos hl]
        exact iU _ _ _ h
      · rename_i hl
        rw [if_neg hl]
        cases hb : pB f (lv + 1) (T ++ eot) with
        | bad q => rw [hb] at h; cases h
        | ok a q =>
          obtain ⟨T1, rfl, h1⟩ := iB _ _ _ _ hb
          rw [hb] at h
          rw [h1]
          exact iC _ _ _ _ _ h
    · intro lv a T e r h
      rw [pC] at h ⊢
      split at h
      · rename_i ho
        obtain ⟨t, T0, rfl⟩ := opAt_cons ho
        rw [if_pos (show opAt lv (t :: T0 ++ X) = true from ho)]
        cases hb : pB f (lv + 1) (T0 ++ eot) with
        | bad q => rw [show pB f (lv + 1) (t :: T0 ++ eot).tail = _ from hb] at h; cases h
        | ok b q =>
          obtain ⟨T1, rfl, h1⟩ := iB _ _ _ _ hb
          rw [show pB f (lv + 1) (t :: T0 ++ eot).tail = _ from hb] at h
          rw [show pB g (lv + 1) (t :: T0 ++ X).tail = _ from h1]
          exact iC _ _ _ _ _ h
      · rename_i ho
        have hx : ¬ opAt lv (T ++ X) = true := by
          cases T with
          | nil => rw [List.nil_append, hs.op]; simp
          | cons t T0 => exact ho
        rw [if_neg hx]
        injection h with h1 h2
        subst h1 h2
        exact ⟨T, rfl, rfl⟩
    · intro T e r h
      cases T with
      | nil => exact absurd h (pU_e _ _ _)
      | cons t T0 =>
        rw [pU] at h ⊢
        split at h
        · rename_i hi
          rw [if_pos (show isT tNot (t :: T0 ++ X) = true from hi)]
          cases hb : pU f (T0 ++ eot) with
          | bad q => rw [show pU f (t :: T0 ++ eot).tail = _ from hb] at h; cases h
          | ok b q =>
            obtain ⟨T1, rfl, h1⟩ := iU _ _ _ hb
            rw [show pU f (t :: T0 ++ eot).tail = _ from hb] at h
            rw [show pU g (t :: T0 ++ X).tail = _ from h1]
            injection h with h2 h3
            subst h2 h3
            exact ⟨T1, rfl, rfl⟩
        rename_i hi
        rw [if_neg (show ¬ isT tNot (t :: T0 ++ X) = true from hi)]
        clear hi
        split at h
        · rename_i hi
          rw [if_pos (show isT [45] (t :: T0 ++ X) = true from hi)]
          cases hb : pU f (T0 ++ eot) with
          | bad q => rw [show pU f (t :: T0 ++ eot).tail = _ from hb] at h; cases h
          | ok b q =>
            obtain ⟨T1, rfl, h1⟩ := iU _ _ _ hb
            rw [show pU f (t :: T0 ++ eot).tail = _ from hb] at h
            rw [show pU g (t :: T0 ++ X).tail = _ from h1]
            injection h with h2 h3
            subst h2 h3
            exact ⟨T1, rfl, rfl⟩
        rename_i hi
        rw [if_neg (show ¬ isT [45] (t :: T0 ++ X) = true from hi)]
        clear hi
        split at h
        · rename_i hi
          rw [if_pos (show isT tTrue (t :: T0 ++ X) = true from hi)]
          injection h with h2 h3
          subst h2 h3
          exact ⟨T0, rfl, rfl⟩
        rename_i hi
        rw [if_neg (show ¬ isT tTrue (t :: T0 ++ X) = true from hi)]
        clear hi
        split at h
        · rename_i hi
          rw [if_pos (show isT tFalse (t :: T0 ++ X) = true from hi)]
          injection h with h2 h3
          subst h2 h3
          exact ⟨T0, rfl, rfl⟩
        rename_i hi
        rw [if_neg (show ¬ isT tFalse (t :: T0 ++ X) = true from hi)]
        clear hi
        split at h
        · rename_i hi
          rw [if_pos (show isT [40] (t :: T0 ++ X) = true from hi)]
          cases hb : pB f 0 (T0 ++ eot) with
          | bad q => rw [show pB f 0 (t :: T0 ++ eot).tail = _ from hb] at h; cases h
          | ok b q =>
            obtain ⟨T1, rfl, h1⟩ := iB _ _ _ _ hb
            rw [show pB f 0 (t :: T0 ++ eot).tail = _ from hb] at h
            rw [show pB g 0 (t :: T0 ++ X).tail = _ from h1]
            dsimp only at h ⊢
            split at h
            · rename_i h4
              rw [if_pos (isT_x h4), (tail_x (X := X) h4).2]
              rw [(tail_x (X := X) h4).1] at h
              injection h with h2 h3
              subst h2 h3
              exact ⟨_, rfl, rfl⟩
            · cases h
        rename_i hi
        rw [if_neg (show ¬ isT [40] (t :: T0 ++ X) = true from hi)]
        clear hi
        split at h
        · rename_i hi
          rw [if_pos (show isT tHost (t :: T0 ++ X) = true from hi)]
          exact iH _ _ _ h
        rename_i hi
        rw [if_neg (show ¬ isT tHost (t :: T0 ++ X) = true from hi)]
        clear hi
        split at h
        · rename_i hi
          rw [if_pos (show kindT (t :: T0 ++ X) = 2 from hi)]
          injection h with h2 h3
          subst h2 h3
          exact ⟨T0, rfl, rfl⟩
        rename_i hi
        rw [if_neg (show ¬ kindT (t :: T0 ++ X) = 2 from hi)]
        clear hi
        split at h
        · rename_i hi
          rw [if_pos (show kindT (t :: T0 ++ X) = 1 from hi)]
          split at h
          · rename_i h4
            rw [if_pos (show isT [46] (t :: T0 ++ X).tail = true from isT_x (T := T0) h4)]
            exact iK _ _ _ _ h
          · rename_i h4
            rw [if_neg (show ¬ isT [46] (t :: T0 ++ X).tail = true from isT_n (T := T0) h4 hs.dot)]
            injection h with h2 h3
            subst h2 h3
            exact ⟨T0, rfl, rfl⟩
        · cases h
    · intro T e r h
      rw [pH] at h ⊢
      split at h
      · rename_i hi
        obtain ⟨t, T0, rfl⟩ := isT_cons hi
        rw [if_pos (isT_x hi)]
        split at h
        · rename_i hk
          obtain ⟨u, T1, rfl⟩ := kind_cons (T := T0) hk (by decide)
          rw [if_pos (show kindT (t :: u :: T1 ++ X).tail = 1 from hk)]
          cases hb : pA f (T1 ++ eot) with
          | bad q => rw [show pA f (t :: u :: T1 ++ eot).tail.tail = _ from hb] at h; cases h
          | ok b q =>
            obtain ⟨T2, rfl, h1⟩ := iA _ _ _ hb
            rw [show pA f (t :: u :: T1 ++ eot).tail.tail = _ from hb] at h
            rw [show pA g (t :: u :: T1 ++ X).tail.tail = _ from h1]
            injection h with h2 h3
            subst h2 h3
            exact ⟨T2, rfl, rfl⟩
        · cases h
      · cases h
    · intro n T e r h
      rw [pK] at h ⊢
      split at h
      · rename_i hi
        obtain ⟨t, T0, rfl⟩ := isT_cons hi
        rw [if_pos (isT_x hi)]
        split at h
        · rename_i hk
          obtain ⟨u, T1, rfl⟩ := kind_cons (T := T0) hk (by decide)
          rw [if_pos (show kindT (t :: u :: T1 ++ X).tail = 1 from hk)]
          cases hb : pA f (T1 ++ eot) with
          | bad q => rw [show pA f (t :: u :: T1 ++ eot).tail.tail = _ from hb] at h; cases h
          | ok b q =>
            obtain ⟨T2, rfl, h1⟩ := iA _ _ _ hb
            rw [show pA f (t :: u :: T1 ++ eot).tail.tail = _ from hb] at h
            rw [show pA g (t :: u :: T1 ++ X).tail.tail = _ from h1]
            dsimp only at h ⊢
            split at h
            · rename_i h4
              rw [if_pos (isT_x h4), (tail_x (X := X) h4).2]
              rw [(tail_x (X := X) h4).1] at h
              cases hc : pU f (T2.tail ++ eot) with
              | bad q => rw [hc] at h; cases h
              | ok b q =>
                obtain ⟨T3, rfl, h1⟩ := iU _ _ _ hc
                rw [hc] at h
                rw [h1]
                injection h with h2 h3
                subst h2 h3
                exact ⟨T3, rfl, rfl⟩
            · rename_i h4
              rw [if_neg (isT_n h4 hs.el)]
              injection h with h2 h3
              subst h2 h3
              exact ⟨T2, rfl, rfl⟩
        · cases h
      · cases h
    · intro T l r h
      rw [pA] at h ⊢
      split at h
      · rename_i hi
        obtain ⟨t, T0, rfl⟩ := isT_cons hi
        rw [if_pos (isT_x hi)]
        split at h
        · rename_i h4
          obtain ⟨u, T1, rfl⟩ := isT_cons (T := T0) h4
          rw [if_pos (show isT [41] (t :: u :: T1 ++ X).tail = true from h4)]
          injection h with h2 h3
          subst h2 h3
          exact ⟨T1, rfl, rfl⟩
        · rename_i h4
          cases T0 with
          | nil => exact absurd h (pL_e _ _ _ _)
          | cons u T1 =>
            rw [if_neg (show ¬ isT [41] (t :: u :: T1 ++ X).tail = true from h4)]
            exact iL _ (u :: T1) _ _ h
      · cases h
    · intro acc T l r h
      rw [pL] at h ⊢
      cases hb : pB f 0 (T ++ eot) with
      | bad q => rw [hb] at h; cases h
      | ok b q =>
        obtain ⟨T1, rfl, h1⟩ := iB _ _ _ _ hb
        rw [hb] at h
        rw [h1]
        dsimp only at h ⊢
        split at h
        · rename_i h4
          rw [if_pos (isT_x h4), (tail_x (X := X) h4).2]
          rw [(tail_x (X := X) h4).1] at h
          injection h with h2 h3
          subst h2 h3
          exact ⟨_, rfl, rfl⟩
        · rename_i h4
          split at h
          · rename_i h5
            obtain ⟨u, T2, rfl⟩ := isT_cons h5
            rw [if_neg (show ¬ isT [41] (u :: T2 ++ X) = true from h4), if_pos (isT_x h5)]
            exact iL _ T2 _ _ h
          · cases h
theorem ext_pE {X : List Tk} (hs : Stop X) (hx : 1 ≤ X.length) {T : List Tk} {e : Ex} {r : List Tk} (h : pE (T ++ eot) = .ok e r) : Ext X e r (pE (T ++ X)) :=
  (ext_ex hs _ _ (by simp only [List.length_append]; have : eot.length = 1 := rfl; omega)).1 0 T e r h
/-- Parentheses around an expression. -/
theorem pB_par {f : Nat} {R Y : List Tk} {e : Ex} {t : Tk} (h : pB f 0 R = .ok e (t :: Y)) (ht : isT [41] (t :: Y) = true) (hy : ∀ lv, opAt lv Y = false) : pB (f + 7) 0 ((3, [40]) :: R) = .ok e Y := by
  have hu : pU (f + 1) ((3, [40]) :: R) = .ok e Y := by
    rw [pU, if_neg (show ¬ isT tNot ((3, [40]) :: R) = true by rw [isT_c]; decide), if_neg (show ¬ isT [45] ((3, [40]) :: R) = true by rw [isT_c]; decide), if_neg (show ¬ isT tTrue ((3, [40]) :: R) = true by rw [isT_c]; decide), if_neg (show ¬ isT tFalse ((3, [40]) :: R) = true by rw [isT_c]; decide), if_pos (show isT [40] ((3, [40]) :: R) = true by rw [isT_c]; decide)]
    rw [show pB f 0 (((3, [40]) : Tk) :: R).tail = _ from h]
    dsimp only
    rw [if_pos ht]
    rfl
  have hc : ∀ k lv, pC (k + 1) lv e Y = .ok e Y := fun k lv => by rw [pC, if_neg (by rw [hy]; simp)]
  have h5 : pB (f + 2) 5 ((3, [40]) :: R) = .ok e Y := by rw [pB, if_pos (by omega)]; exact hu
  have h4 : pB (f + 3) 4 ((3, [40]) :: R) = .ok e Y := by rw [pB, if_neg (by omega), h5]; exact hc _ _
  have h3 : pB (f + 4) 3 ((3, [40]) :: R) = .ok e Y := by rw [pB, if_neg (by omega), h4]; exact hc _ _
  have h2 : pB (f + 5) 2 ((3, [40]) :: R) = .ok e Y := by rw [pB, if_neg (by omega), h3]; exact hc _ _
  have h1 : pB (f + 6) 1 ((3, [40]) :: R) = .ok e Y := by rw [pB, if_neg (by omega), h2]; exact hc _ _
  rw [pB, if_neg (by omega), h1]
  exact hc _ _
/-- An expression in two pairs of parentheses. -/
theorem pE_par2 {T : List Tk} {e : Ex} {r : List Tk} (h : pE (T ++ eot) = .ok e r) (hr : r = eot) : pE ((3, [40]) :: (3, [40]) :: T ++ ((3, [41]) :: (3, [41]) :: eot)) = .ok e eot := by
  have hs : Stop ((3, [41]) :: (3, [41]) :: eot) := ⟨fun lv => by
    rw [opAt_c]
    match lv with
    | 0 => rfl
    | 1 => rfl
    | 2 => rfl
    | 3 => rfl
    | 4 => rfl
    | n + 5 => rfl, rfl, rfl⟩
  have hs1 : ∀ lv, opAt lv ((3, [41]) :: eot) = false := fun lv => by
    rw [opAt_c]
    match lv with
    | 0 => rfl
    | 1 => rfl
    | 2 => rfl
    | 3 => rfl
    | 4 => rfl
    | n + 5 => rfl
  obtain ⟨T', e1, e2⟩ := ext_pE hs (by simp) h
  obtain rfl : T' = [] := by
    rw [hr] at e1
    have := congrArg List.length e1
    rw [List.length_append] at this
    exact List.eq_nil_of_length_eq_zero (by omega)
  rw [List.nil_append] at e2
  unfold pE at e2
  have h1 := pB_par e2 rfl hs1
  have h2 := pB_par h1 rfl Stop.eot.op
  have e3 : ((3, [40]) :: (3, [40]) :: (T ++ ((3, [41]) :: (3, [41]) :: eot)) : List Tk) = ((3, [40]) :: (3, [40]) :: T ++ [(3, [41]), (3, [41])]) ++ eot := by simp
  rw [e3] at h2
  have h3 := (ext_ex Stop.eot _ (8 * ((3, [40]) :: (3, [40]) :: T ++ ((3, [41]) :: (3, [41]) :: eot)).length + 7) (by simp only [List.length_append, List.length_cons]; omega)).1 0 _ _ _ h2
  obtain ⟨T2, e4, e5⟩ := h3
  obtain rfl : T2 = [] := by
    have := congrArg List.length e4
    rw [List.length_append] at this
    exact List.eq_nil_of_length_eq_zero (by omega)
  rw [← e3] at e5
  exact e5
end Go.Proofs.YtkakbidllpjopaaGreatDoor
