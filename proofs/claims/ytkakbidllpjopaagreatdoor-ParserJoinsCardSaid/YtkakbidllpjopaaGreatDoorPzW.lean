/- What stands behind the tokens of statements and operations may be put in the place of the end token; two programs' tokens joined. No condition. -/
import Derived.Test.YtkakbidllpjopaaGreatDoorPzV
set_option linter.unusedVariables false
set_option linter.unusedSimpArgs false
namespace Go.Proofs.YtkakbidllpjopaaGreatDoor

theorem ext_pN {X : List Tk} (hs : Stop X) (hx : 1 ≤ X.length) (k : Ex → St) {T : List Tk} {s : St} {r : List Tk} (h : pN k (T ++ eot) = .ok s r) : Ext X s r (pN k (T ++ X)) := by
  unfold pN at h ⊢
  cases hb : pE (T ++ eot) with
  | bad q => rw [hb] at h; cases h
  | ok b q =>
    obtain ⟨T1, rfl, h1⟩ := ext_pE hs hx hb
    rw [hb] at h
    rw [h1]
    dsimp only at h ⊢
    split at h
    · rename_i h4
      rw [if_pos (isT_x h4), (tail_x (X := X) h4).2]
      rw [(tail_x (X := X) h4).1] at h
      injection h with h2 h3
      subst h2 h3
      exact ⟨_, rfl, rfl⟩
    · cases h
theorem pS_e (f : Nat) (s : St) (r : List Tk) : pS f eot ≠ .ok s r := by
  intro h
  cases f with
  | zero => rw [pS] at h; cases h
  | succ f =>
    rw [pS] at h
    simp [eot, isT, kindT] at h
theorem fuel_le {T X : List Tk} (hx : 1 ≤ X.length) : 8 * (T ++ eot).length + 7 ≤ 8 * (T ++ X).length + 7 := by
  simp only [List.length_append]
  have : eot.length = 1 := rfl
  omega
theorem ext_st {X : List Tk} (hs : Stop X) (hx : 1 ≤ X.length) (f : Nat) : ∀ g, f ≤ g → (∀ T s r, pS f (T ++ eot) = .ok s r → Ext X s r (pS g (T ++ X))) ∧ (∀ T s r, pI f (T ++ eot) = .ok s r → Ext X s r (pI g (T ++ X))) ∧ (∀ T l r, pBl f (T ++ eot) = .ok l r → Ext X l r (pBl g (T ++ X))) ∧ (∀ acc T l r, pM f acc (T ++ eot) = .ok l r → Ext X l r (pM g acc (T ++ X))) := by
  induction f with
  | zero =>
    intro g _
    refine ⟨?_, ?_, ?_, ?_⟩
    · intro T s r h; rw [pS] at h; cases h
    · intro T s r h; rw [pI] at h; cases h
    · intro T s r h; rw [pBl] at h; cases h
    · intro acc T s r h; rw [pM] at h; cases h
  | succ f ih =>
    intro g hg
    obtain ⟨g, rfl⟩ : ∃ k, g = k + 1 := ⟨g - 1, by omega⟩
    obtain ⟨iS, iI, iB, iM⟩ := ih g (by omega)
    refine ⟨?_, ?_, ?_, ?_⟩
    · intro T s r h
      cases T with
      | nil => exact absurd h (pS_e _ _ _)
      | cons t T0 =>
        rw [pS] at h ⊢
        split at h
        · rename_i hi
          rw [if_pos (show isT tIf (t :: T0 ++ X) = true from hi)]
          exact iI _ _ _ h
        rename_i hi
        rw [if_neg (show ¬ isT tIf (t :: T0 ++ X) = true from hi)]
        clear hi
        split at h
        · rename_i hi
          rw [if_pos (show isT tRep (t :: T0 ++ X) = true from hi)]
          split at h
          · rename_i hk
            obtain ⟨u, T1, rfl⟩ := kind_cons (T := T0) hk (by decide)
            rw [if_pos (show kindT (t :: u :: T1 ++ X).tail = 2 from hk)]
            cases hb : pBl f (T1 ++ eot) with
            | bad q => rw [show pBl f (t :: u :: T1 ++ eot).tail.tail = _ from hb] at h; cases h
            | ok b q =>
              obtain ⟨T2, rfl, h1⟩ := iB _ _ _ hb
              rw [show pBl f (t :: u :: T1 ++ eot).tail.tail = _ from hb] at h
              rw [show pBl g (t :: u :: T1 ++ X).tail.tail = _ from h1]
              injection h with h2 h3
              subst h2 h3
              exact ⟨T2, rfl, rfl⟩
          · cases h
        rename_i hi
        rw [if_neg (show ¬ isT tRep (t :: T0 ++ X) = true from hi)]
        clear hi
        split at h
        · rename_i hi
          rw [if_pos (show isT tLet (t :: T0 ++ X) = true from hi)]
          split at h
          · rename_i hk
            obtain ⟨u, T1, rfl⟩ := kind_cons (T := T0) hk (by decide)
            rw [if_pos (show kindT (t :: u :: T1 ++ X).tail = 1 from hk)]
            split at h
            · rename_i h4
              obtain ⟨v, T2, rfl⟩ := isT_cons (T := T1) h4
              rw [if_pos (show isT [61] (t :: u :: v :: T2 ++ X).tail.tail = true from h4)]
              exact ext_pN hs hx _ (T := T2) h
            · cases h
          · cases h
        rename_i hi
        rw [if_neg (show ¬ isT tLet (t :: T0 ++ X) = true from hi)]
        clear hi
        split at h
        · rename_i hi
          rw [if_pos (show isT tRet (t :: T0 ++ X) = true from hi)]
          exact ext_pN hs hx _ (T := T0) h
        rename_i hi
        rw [if_neg (show ¬ isT tRet (t :: T0 ++ X) = true from hi)]
        clear hi
        split at h
        · rename_i hi
          rw [if_pos (show isT tAbt (t :: T0 ++ X) = true from hi)]
          split at h
          · rename_i hk
            obtain ⟨u, T1, rfl⟩ := kind_cons (T := T0) hk (by decide)
            rw [if_pos (show kindT (t :: u :: T1 ++ X).tail = 2 from hk)]
            split at h
            · rename_i h4
              obtain ⟨v, T2, rfl⟩ := isT_cons (T := T1) h4
              rw [if_pos (show isT [59] (t :: u :: v :: T2 ++ X).tail.tail = true from h4)]
              injection h with h2 h3
              subst h2 h3
              exact ⟨T2, rfl, rfl⟩
            · cases h
          · cases h
        rename_i hi
        rw [if_neg (show ¬ isT tAbt (t :: T0 ++ X) = true from hi)]
        clear hi
        split at h
        · rename_i hi
          rw [if_pos (show isT tHost (t :: T0 ++ X) = true from hi)]
          cases hb : pH (8 * (t :: T0 ++ eot).length + 7) (T0 ++ eot) with
          | bad q => rw [show pH (8 * (t :: T0 ++ eot).length + 7) (t :: T0 ++ eot).tail = _ from hb] at h; cases h
          | ok b q =>
            obtain ⟨T1, rfl, h1⟩ := (ext_ex hs _ (8 * (t :: T0 ++ X).length + 7) (fuel_le hx)).2.2.2.1 _ _ _ hb
            rw [show pH (8 * (t :: T0 ++ eot).length + 7) (t :: T0 ++ eot).tail = _ from hb] at h
            rw [show pH (8 * (t :: T0 ++ X).length + 7) (t :: T0 ++ X).tail = _ from h1]
            dsimp only at h ⊢
            split at h
            · rename_i h4
              rw [if_pos (isT_x h4), (tail_x (X := X) h4).2]
              rw [(tail_x (X := X) h4).1] at h
              injection h with h2 h3
              subst h2 h3
              exact ⟨_, rfl, rfl⟩
            · cases h
        rename_i hi
        rw [if_neg (show ¬ isT tHost (t :: T0 ++ X) = true from hi)]
        clear hi
        split at h
        · rename_i hi
          rw [if_pos (show kindT (t :: T0 ++ X) = 1 from hi)]
          split at h
          · rename_i h5
            rw [if_pos (show isT [46] (t :: T0 ++ X).tail = true from isT_x (T := T0) h5)]
            cases hb : pK (8 * (t :: T0 ++ eot).length + 7) (textT (t :: T0 ++ eot)) (T0 ++ eot) with
            | bad q => rw [show pK (8 * (t :: T0 ++ eot).length + 7) (textT (t :: T0 ++ eot)) (t :: T0 ++ eot).tail = _ from hb] at h; cases h
            | ok b q =>
              obtain ⟨T1, rfl, h1⟩ := (ext_ex hs _ (8 * (t :: T0 ++ X).length + 7) (fuel_le hx)).2.2.2.2.1 _ _ _ _ hb
              rw [show pK (8 * (t :: T0 ++ eot).length + 7) (textT (t :: T0 ++ eot)) (t :: T0 ++ eot).tail = _ from hb] at h
              rw [show pK (8 * (t :: T0 ++ X).length + 7) (textT (t :: T0 ++ X)) (t :: T0 ++ X).tail = _ from h1]
              dsimp only at h ⊢
              split at h
              · rename_i h4
                rw [if_pos (isT_x h4), (tail_x (X := X) h4).2]
                rw [(tail_x (X := X) h4).1] at h
                injection h with h2 h3
                subst h2 h3
                exact ⟨_, rfl, rfl⟩
              · cases h
          · rename_i h5
            rw [if_neg (show ¬ isT [46] (t :: T0 ++ X).tail = true from isT_n (T := T0) h5 hs.dot)]
            split at h
            · rename_i h4
              obtain ⟨u, T1, rfl⟩ := isT_cons (T := T0) h4
              rw [if_pos (show isT [61] (t :: u :: T1 ++ X).tail = true from h4)]
              exact ext_pN hs hx _ (T := T1) h
            · cases h
        · cases h
    · intro T s r h
      rw [pI] at h ⊢
      cases hb : pE (T ++ eot) with
      | bad q => rw [hb] at h; cases h
      | ok e q =>
        obtain ⟨T1, rfl, h1⟩ := ext_pE hs hx hb
        rw [hb] at h
        rw [h1]
        dsimp only at h ⊢
        cases hc : pBl f (T1 ++ eot) with
        | bad q => rw [hc] at h; cases h
        | ok b q =>
          obtain ⟨T2, rfl, h1⟩ := iB _ _ _ hc
          rw [hc] at h
          rw [h1]
          dsimp only at h ⊢
          split at h
          · rename_i h4
            obtain ⟨u, T3, rfl⟩ := isT_cons (T := T2) h4
            rw [if_pos (show isT tElse (u :: T3 ++ X) = true from h4)]
            split at h
            · rename_i h5
              obtain ⟨v, T4, rfl⟩ := isT_cons (T := T3) h5
              rw [if_pos (show isT tIf (u :: v :: T4 ++ X).tail = true from h5)]
              cases hd : pI f (T4 ++ eot) with
              | bad q => rw [show pI f (u :: v :: T4 ++ eot).tail.tail = _ from hd] at h; cases h
              | ok x q =>
                obtain ⟨T5, rfl, h1⟩ := iI _ _ _ hd
                rw [show pI f (u :: v :: T4 ++ eot).tail.tail = _ from hd] at h
                rw [show pI g (u :: v :: T4 ++ X).tail.tail = _ from h1]
                injection h with h2 h3
                subst h2 h3
                exact ⟨T5, rfl, rfl⟩
            · rename_i h5
              cases hd : pBl f (T3 ++ eot) with
              | bad q => rw [show pBl f (u :: T3 ++ eot).tail = _ from hd] at h; cases h
              | ok x q =>
                have h6 : ¬ isT tIf (u :: T3 ++ X).tail = true := by
                  cases T3 with
                  | nil =>
                    exfalso
                    cases f with
                    | zero => rw [pBl] at hd; cases hd
                    | succ f =>
                      rw [pBl] at hd
                      rw [if_neg (show ¬ isT [123] ([] ++ eot) = true by simp [isT_e])] at hd
                      cases hd
                  | cons v T4 => exact h5
                rw [if_neg h6]
                obtain ⟨T5, rfl, h1⟩ := iB _ _ _ hd
                rw [show pBl f (u :: T3 ++ eot).tail = _ from hd] at h
                rw [show pBl g (u :: T3 ++ X).tail = _ from h1]
                injection h with h2 h3
                subst h2 h3
                exact ⟨T5, rfl, rfl⟩
          · rename_i h4
            rw [if_neg (isT_n h4 hs.el)]
            injection h with h2 h3
            subst h2 h3
            exact ⟨T2, rfl, rfl⟩
    · intro T l r h
      rw [pBl] at h ⊢
      split at h
      · rename_i h4
        obtain ⟨u, T1, rfl⟩ := isT_cons (T := T) h4
        rw [if_pos (show isT [123] (u :: T1 ++ X) = true from h4)]
        exact iM _ T1 _ _ h
      · cases h
    · intro acc T l r h
      rw [pM] at h ⊢
      split at h
      · rename_i h4
        obtain ⟨u, T1, rfl⟩ := isT_cons (T := T) h4
        rw [if_pos (show isT [125] (u :: T1 ++ X) = true from h4)]
        injection h with h2 h3
        subst h2 h3
        exact ⟨T1, rfl, rfl⟩
      · rename_i h4
        cases hb : pS f (T ++ eot) with
        | bad q => rw [hb] at h; cases h
        | ok x q =>
          cases T with
          | nil => exact absurd hb (pS_e _ _ _)
          | cons u T1 =>
            rw [if_neg (show ¬ isT [125] (u :: T1 ++ X) = true from h4)]
            obtain ⟨T2, rfl, h1⟩ := iS _ _ _ hb
            rw [hb] at h
            rw [h1]
            exact iM _ _ _ _ h
theorem ext_pQ {X : List Tk} : ∀ (f g : Nat), f ≤ g → ∀ (acc : List Str) (T : List Tk) (l : List Str) (r : List Tk), pQ f acc (T ++ eot) = .ok l r → Ext X l r (pQ g acc (T ++ X))
  | 0, g, _, acc, T, l, r, h => by rw [pQ] at h; cases h
  | f + 1, g, hg, acc, T, l, r, h => by
    obtain ⟨g, rfl⟩ : ∃ k, g = k + 1 := ⟨g - 1, by omega⟩
    rw [pQ] at h ⊢
    split at h
    · rename_i hk
      obtain ⟨u, T1, rfl⟩ := kind_cons (T := T) hk (by decide)
      rw [if_pos (show kindT (u :: T1 ++ X) = 1 from hk)]
      split at h
      · rename_i h4
        obtain ⟨v, T2, rfl⟩ := isT_cons (T := T1) h4
        rw [if_pos (show isT [41] (u :: v :: T2 ++ X).tail = true from h4)]
        injection h with h2 h3
        subst h2 h3
        exact ⟨T2, rfl, rfl⟩
      · rename_i h4
        split at h
        · rename_i h5
          obtain ⟨v, T2, rfl⟩ := isT_cons (T := T1) h5
          rw [if_neg (show ¬ isT [41] (u :: v :: T2 ++ X).tail = true from h4), if_pos (show isT [44] (u :: v :: T2 ++ X).tail = true from h5)]
          exact ext_pQ f g (by omega) _ T2 _ _ h
        · cases h
    · cases h
theorem pQ_e : ∀ (f : Nat) (acc l : List Str) (r : List Tk), pQ f acc eot ≠ .ok l r
  | 0, acc, l, r, h => by rw [pQ] at h; cases h
  | f + 1, acc, l, r, h => by
    rw [pQ, if_neg (show ¬ kindT eot = 1 by decide)] at h
    cases h
theorem ext_pPs {X : List Tk} (hx : 1 ≤ X.length) {T : List Tk} {l : List Str} {r : List Tk} (h : pPs (T ++ eot) = .ok l r) : Ext X l r (pPs (T ++ X)) := by
  unfold pPs at h ⊢
  split at h
  · rename_i h4
    obtain ⟨u, T1, rfl⟩ := isT_cons (T := T) h4
    rw [if_pos (show isT [40] (u :: T1 ++ X) = true from h4)]
    split at h
    · rename_i h5
      obtain ⟨v, T2, rfl⟩ := isT_cons (T := T1) h5
      rw [if_pos (show isT [41] (u :: v :: T2 ++ X).tail = true from h5)]
      injection h with h2 h3
      subst h2 h3
      exact ⟨T2, rfl, rfl⟩
    · rename_i h5
      cases T1 with
      | nil => exact absurd h (pQ_e _ _ _ _)
      | cons v T2 =>
        rw [if_neg (show ¬ isT [41] (u :: v :: T2 ++ X).tail = true from h5)]
        exact ext_pQ _ _ (by simp only [List.length_append, List.length_cons]; have : eot.length = 1 := rfl; omega) _ (v :: T2) _ _ h
  · cases h
theorem ext_pO {X : List Tk} (hs : Stop X) (hx : 1 ≤ X.length) {T : List Tk} {p : Oper'} {r : List Tk} (h : pO (T ++ eot) = .ok p r) : Ext X p r (pO (T ++ X)) := by
  unfold pO at h ⊢
  split at h
  · rename_i hk
    obtain ⟨u, T1, rfl⟩ := kind_cons (T := T) hk (by decide)
    rw [if_pos (show kindT (u :: T1 ++ X) = 1 from hk)]
    cases hb : pPs (T1 ++ eot) with
    | bad q => rw [show pPs (u :: T1 ++ eot).tail = _ from hb] at h; cases h
    | ok ps q =>
      obtain ⟨T2, rfl, h1⟩ := ext_pPs hx hb
      rw [show pPs (u :: T1 ++ eot).tail = _ from hb] at h
      rw [show pPs (u :: T1 ++ X).tail = _ from h1]
      dsimp only at h ⊢
      cases hc : pBk (T2 ++ eot) with
      | bad q => rw [hc] at h; cases h
      | ok b q =>
        unfold pBk at hc
        obtain ⟨T3, rfl, h1⟩ := (ext_st hs hx _ (4 * (T2 ++ X).length + 4) (by simp only [List.length_append]; have : eot.length = 1 := rfl; omega)).2.2.1 _ _ _ hc
        rw [show pBk (T2 ++ eot) = _ from hc] at h
        rw [show pBk (T2 ++ X) = _ from h1]
        injection h with h2 h3
        subst h2 h3
        exact ⟨T3, rfl, rfl⟩
  · cases h
theorem ext_pD {X : List Tk} {T : List Tk} {p : Decl'} {r : List Tk} (h : pD (T ++ eot) = .ok p r) : Ext X p r (pD (T ++ X)) := by
  unfold pD at h ⊢
  split at h
  · rename_i hk
    obtain ⟨u, T1, rfl⟩ := kind_cons (T := T) hk (by decide)
    rw [if_pos (show kindT (u :: T1 ++ X) = 1 from hk)]
    split at h
    · rename_i hk
      obtain ⟨v, T2, rfl⟩ := kind_cons (T := T1) hk (by decide)
      rw [if_pos (show kindT (u :: v :: T2 ++ X).tail = 1 from hk)]
      split at h
      · rename_i h4
        obtain ⟨z, T3, rfl⟩ := isT_cons (T := T2) h4
        rw [if_pos (show isT [59] (u :: v :: z :: T3 ++ X).tail.tail = true from h4)]
        injection h with h2 h3
        subst h2 h3
        exact ⟨T3, rfl, rfl⟩
      · cases h
    · cases h
  · cases h
theorem pG_fuel : ∀ (f g : Nat) (ds : List Decl') (os : List Oper') (R : List Tk), R.length < f → R.length < g → pG f ds os R = pG g ds os R
  | 0, _, _, _, _, h, _ => absurd h (Nat.not_lt_zero _)
  | _ + 1, 0, _, _, _, _, h => absurd h (Nat.not_lt_zero _)
  | f + 1, g + 1, ds, os, R, h1, h2 => by
    rw [pG, pG]
    split
    · rfl
    split
    · rename_i hi
      have hl := isT_len hi
      cases hb : pD R.tail with
      | bad q => rfl
      | ok d q =>
        have := size_pD hb
        exact pG_fuel f g _ _ _ (by omega) (by omega)
    split
    · rename_i hi
      have hl := isT_len hi
      cases hb : pO R.tail with
      | bad q => rfl
      | ok d q =>
        have := (size_pO hb).2.2
        exact pG_fuel f g _ _ _ (by omega) (by omega)
    · rfl
theorem pG_acc : ∀ (f : Nat) (ds0 : List Decl') (os0 : List Oper') (ds : List Decl') (os : List Oper') (R : List Tk) (p : Prog') (r : List Tk), pG f ds os R = .ok p r → pG f (ds0 ++ ds) (os0 ++ os) R = .ok ⟨ds0 ++ p.stores, os0 ++ p.opers⟩ r
  | 0, _, _, _, _, _, _, _, h => by rw [pG] at h; cases h
  | f + 1, ds0, os0, ds, os, R, p, r, h => by
    rw [pG] at h ⊢
    split at h
    · rename_i hk
      rw [if_pos hk]
      injection h with h2 h3
      subst h2 h3
      rfl
    rename_i hk
    rw [if_neg hk]
    split at h
    · rename_i hi
      rw [if_pos hi]
      cases hb : pD R.tail with
      | bad q => rw [hb] at h; cases h
      | ok d q =>
        rw [hb] at h
        have := pG_acc f ds0 os0 _ _ _ _ _ h
        rw [← List.append_assoc] at this
        exact this
    rename_i hi
    rw [if_neg hi]
    split at h
    · rename_i hi
      rw [if_pos hi]
      cases hb : pO R.tail with
      | bad q => rw [hb] at h; cases h
      | ok d q =>
        rw [hb] at h
        have := pG_acc f ds0 os0 _ _ _ _ _ h
        rw [← List.append_assoc] at this
        exact this
    · cases h
/-- A program's tokens, and others behind them. -/
theorem pG_ext {X : List Tk} (hs : Stop X) (hx : 1 ≤ X.length) : ∀ (f : Nat) (ds : List Decl') (os : List Oper') (T : List Tk) (p : Prog') (r : List Tk), (∀ t ∈ T, t.1 ≠ 0) → pG f ds os (T ++ eot) = .ok p r → ∀ g, (T ++ X).length < g → pG g ds os (T ++ X) = pG (X.length + 1) p.stores p.opers X
  | 0, _, _, _, _, _, _, h, _, _ => by rw [pG] at h; cases h
  | f + 1, ds, os, T, p, r, hT, h, g, hg => by
    rw [pG] at h
    cases T with
    | nil =>
      rw [if_pos (show kindT ([] ++ eot) = 0 from rfl)] at h
      injection h with h2 h3
      subst h2 h3
      exact pG_fuel _ _ _ _ _ hg (Nat.lt_succ_self _)
    | cons t T0 =>
      obtain ⟨g, rfl⟩ : ∃ k, g = k + 1 := ⟨g - 1, by omega⟩
      have h0 : t.1 ≠ 0 := hT t (by simp)
      rw [pG]
      rw [if_neg (show ¬ kindT (t :: T0 ++ eot) = 0 from h0)] at h
      rw [if_neg (show ¬ kindT (t :: T0 ++ X) = 0 from h0)]
      have hl : (T0 ++ X).length < g := by simp only [List.length_append, List.length_cons] at hg ⊢; omega
      split at h
      · rename_i hi
        rw [if_pos (show isT tSto (t :: T0 ++ X) = true from hi)]
        cases hb : pD (T0 ++ eot) with
        | bad q => rw [show pD (t :: T0 ++ eot).tail = _ from hb] at h; cases h
        | ok d q =>
          have hsf := (suf_of (suf_pD (T0 ++ eot))).1 _ _ hb
          obtain ⟨T1, rfl, h1⟩ := ext_pD (X := X) hb
          have hsz := size_pD h1
          rw [show pD (t :: T0 ++ eot).tail = _ from hb] at h
          rw [show pD (t :: T0 ++ X).tail = _ from h1]
          have hsub : ∀ x ∈ T1, x.1 ≠ 0 := fun x hx => hT x (List.mem_cons_of_mem _ ((List.IsSuffix.subset (by
            obtain ⟨z, hz⟩ := hsf
            rw [← List.append_assoc] at hz
            exact ⟨z, List.append_cancel_right hz⟩ : T1 <:+ T0)) hx))
          exact pG_ext hs hx f _ _ T1 p r hsub h g (by omega)
      rename_i hi
      rw [if_neg (show ¬ isT tSto (t :: T0 ++ X) = true from hi)]
      split at h
      · rename_i hi
        rw [if_pos (show isT tOp (t :: T0 ++ X) = true from hi)]
        cases hb : pO (T0 ++ eot) with
        | bad q => rw [show pO (t :: T0 ++ eot).tail = _ from hb] at h; cases h
        | ok d q =>
          have hsf := (suf_of (suf_pO (T0 ++ eot))).1 _ _ hb
          obtain ⟨T1, rfl, h1⟩ := ext_pO hs hx hb
          have hsz := (size_pO h1).2.2
          rw [show pO (t :: T0 ++ eot).tail = _ from hb] at h
          rw [show pO (t :: T0 ++ X).tail = _ from h1]
          have hsub : ∀ x ∈ T1, x.1 ≠ 0 := fun x hx => hT x (List.mem_cons_of_mem _ ((List.IsSuffix.subset (by
            obtain ⟨z, hz⟩ := hsf
            rw [← List.append_assoc] at hz
            exact ⟨z, List.append_cancel_right hz⟩ : T1 <:+ T0)) hx))
          exact pG_ext hs hx f _ _ T1 p r hsub h g (by omega)
      · cases h
theorem stop_prog {T : List Tk} {p : Prog'} {r : List Tk} (h : pP (T ++ eot) = .ok p r) : Stop (T ++ eot) := by
  cases T with
  | nil => exact Stop.eot
  | cons t T0 =>
    unfold pP at h
    rw [pG] at h
    have key : t.1 = 0 ∨ t.2 = tSto ∨ t.2 = tOp := by
      split at h
      · rename_i hk; exact .inl hk
      split at h
      · rename_i hi
        rw [List.cons_append, isT_c] at hi
        simp only [Bool.and_eq_true, beq_iff_eq] at hi
        exact .inr (.inl hi.2)
      split at h
      · rename_i hi
        rw [List.cons_append, isT_c] at hi
        simp only [Bool.and_eq_true, beq_iff_eq] at hi
        exact .inr (.inr hi.2)
      · cases h
    obtain ⟨tk, tx⟩ := t
    dsimp only at key
    refine ⟨fun lv => ?_, ?_, ?_⟩
    · rw [List.cons_append, opAt_c]
      rcases key with rfl | rfl | rfl
      · rfl
      · match lv with
        | 0 => simp [sgnsAt, tSto, tOr, tAnd]
        | 1 => simp [sgnsAt, tSto, tOr, tAnd]
        | 2 => simp [sgnsAt, tSto, tOr, tAnd]
        | 3 => simp [sgnsAt, tSto, tOr, tAnd]
        | 4 => simp [sgnsAt, tSto, tOr, tAnd]
        | n + 5 => simp [sgnsAt]
      · match lv with
        | 0 => simp [sgnsAt, tOp, tOr, tAnd]
        | 1 => simp [sgnsAt, tOp, tOr, tAnd]
        | 2 => simp [sgnsAt, tOp, tOr, tAnd]
        | 3 => simp [sgnsAt, tOp, tOr, tAnd]
        | 4 => simp [sgnsAt, tOp, tOr, tAnd]
        | n + 5 => simp [sgnsAt]
    · rw [List.cons_append, isT_c]
      rcases key with rfl | rfl | rfl
      · rfl
      · simp [tSto, tElse]
      · simp [tOp, tElse]
    · rw [List.cons_append, isT_c]
      rcases key with rfl | rfl | rfl
      · rfl
      · simp [tSto]
      · simp [tOp]
/-- Two programs' tokens joined. -/
theorem pP_join {Ta Tb : List Tk} {p q : Prog'} {r r' : List Tk} (ha : pP (Ta ++ eot) = .ok p r) (hb : pP (Tb ++ eot) = .ok q r') (hT : ∀ t ∈ Ta, t.1 ≠ 0) : pP (Ta ++ (Tb ++ eot)) = .ok ⟨p.stores ++ q.stores, p.opers ++ q.opers⟩ r' := by
  have h1 := pG_ext (stop_prog hb) (by simp only [List.length_append]; have : eot.length = 1 := rfl; omega) _ _ _ _ _ _ hT ha ((Ta ++ (Tb ++ eot)).length + 1) (Nat.lt_succ_self _)
  have h2 := pG_acc _ p.stores p.opers _ _ _ _ _ hb
  rw [List.append_nil, List.append_nil] at h2
  exact h1.trans h2
end Go.Proofs.YtkakbidllpjopaaGreatDoor
