/- The reference's parser as plain laws: it answers as word.Parse does. No condition. -/
import Derived.Test.YtkccaadhjodhlaaDoorWordR
set_option linter.unusedVariables false
set_option linter.unusedSimpArgs false
namespace Go.Proofs.YtkccaadhjodhlaaDoor
open Go.RowKit

def dgB (b : UInt8) : Bool := decide (48 ≤ b.toNat) && decide (b.toNat ≤ 57)
/-- The reference's digits: from n on, k digits read; the number and how many digits there are, if it does not exceed M. -/
def dgL (M : Nat) : Nat → Nat → List UInt8 → Option (Nat × Nat)
  | n, k, [] => some (n, k)
  | n, k, b :: t => if dgB b = true then (if (M - (b.toNat - 48)) / 10 < n then none else dgL M (10 * n + (b.toNat - 48)) (k + 1) t) else some (n, k)
/-- digits(s, at, most): the number and the index behind it; none: (0, -1). -/
def dgA (M : Nat) (l : List UInt8) (a : Nat) : Option (Nat × Nat) := match dgL M 0 0 (l.drop a) with
  | some (n, k) => if k = 0 then none else some (n, a + k)
  | none => none
theorem dgL_le {M : Nat} : ∀ {l : List UInt8} {n k m j : Nat}, n ≤ M → 9 ≤ M → dgL M n k l = some (m, j) → m ≤ M ∧ k ≤ j ∧ j ≤ k + l.length
  | [], n, k, m, j, hn, _, h => by
    injection h with h
    injection h with h1 h2
    subst h1 h2
    simp
    exact hn
  | b :: t, n, k, m, j, hn, h9, h => by
    unfold dgL at h
    split at h
    · next hb =>
      split at h
      · cases h
      · next hc =>
        have hd : b.toNat - 48 ≤ 9 := by unfold dgB at hb; simp at hb; omega
        have := dgL_le (l := t) (n := 10 * n + (b.toNat - 48)) (k := k + 1) (by omega) h9 h
        simp only [List.length_cons]
        omega
    · injection h with h
      injection h with h1 h2
      subst h1 h2
      simp
      exact hn
theorem dgA_le {M : Nat} {l : List UInt8} {a m j : Nat} (h9 : 9 ≤ M) (h : dgA M l a = some (m, j)) : m ≤ M ∧ a < j ∧ j ≤ l.length := by
  unfold dgA at h
  cases hd : dgL M 0 0 (l.drop a) with
  | none => rw [hd] at h; cases h
  | some p =>
    obtain ⟨n, k⟩ := p
    rw [hd] at h
    dsimp only at h
    split at h
    · cases h
    · next hk =>
      injection h with h
      injection h with h1 h2
      subst h1 h2
      have := dgL_le (Nat.zero_le M) h9 hd
      rw [List.length_drop] at this
      omega
theorem dgB_of {b : UInt8} (h : 48 ≤ b.toNat ∧ b.toNat ≤ 57) : dgB b = true := by unfold dgB; simp [h.1, h.2]
/-- Decimal digits are read to their number. -/
theorem dgL_dd (M : Nat) (h9 : 9 ≤ M) (n : Nat) : ∀ (k : Nat) (rest : List UInt8), n ≤ M → dgL M 0 k (Lib.decDigits n ++ rest) = dgL M n (k + (Lib.decDigits n).length) rest := by
  induction n using Nat.strongRecOn with
  | _ n ih =>
    intro k rest hn
    rw [Lib.decDigits]
    split
    · next h =>
      show dgL M 0 k (UInt8.ofNat (48 + n) :: rest) = _
      have e := ofN n h
      unfold dgL
      rw [if_pos (dgB_of (by omega)), e, if_neg (by omega), show 10 * 0 + (48 + n - 48) = n by omega]
      cases rest <;> rfl
    · next h =>
      rw [List.append_assoc, ih (n / 10) (by omega) _ _ (by omega)]
      show dgL M (n / 10) _ (UInt8.ofNat (48 + n % 10) :: rest) = _
      have e := ofN (n % 10) (by omega)
      conv => lhs; unfold dgL
      rw [if_pos (dgB_of (by omega)), e, if_neg (by omega), show 10 * (n / 10) + (48 + n % 10 - 48) = n by omega, List.length_append, List.length_singleton, Nat.add_assoc]
theorem dgL_stop (M n k : Nat) (rest : List UInt8) (h : ∀ b t, rest = b :: t → dgB b = false) : dgL M n k rest = some (n, k) := by
  cases rest with
  | nil => rfl
  | cons b t => unfold dgL; rw [h b t rfl, if_neg Bool.false_ne_true]
theorem dgA_dd (M : Nat) (h9 : 9 ≤ M) (n : Nat) (hn : n ≤ M) (pre rest : List UInt8) (h : ∀ b t, rest = b :: t → dgB b = false) : dgA M (pre ++ (Lib.decDigits n ++ rest)) pre.length = some (n, pre.length + (Lib.decDigits n).length) := by
  unfold dgA
  rw [List.drop_left, dgL_dd M h9 n 0 rest hn, dgL_stop _ _ _ _ h]
  dsimp only
  have : 0 < (Lib.decDigits n).length := List.length_pos_iff.2 (dd_nil n)
  rw [if_neg (by omega), Nat.zero_add]
/-- The reference's Parse. 'at': what stands at an index. -/
def atC (l : List UInt8) (i : Nat) (c : UInt8) : Bool := decide (i < l.length) && (l.getD i 0 == c)
def rpNeg (l : List UInt8) : Bool := atC l 0 45
/-- Behind the value: the version and the index. -/
def rpV (l : List UInt8) (i : Nat) : Option (Nat × Nat) := if atC l i 46 = true then dgA 4294967295 l (i + 1) else some (0, i)
/-- Behind the version: the reference and the index. -/
def rpR (l : List UInt8) (i : Nat) : Option (Int × Nat) :=
  if atC l i 35 = true then
    match dgA 100 l (i + 1) with
    | none => none
    | some (a, k) =>
      if atC l k 58 = true then
        match dgA 16777215 l (k + 1) with
        | none => none
        | some (b, m) => if rErr a b = 0 then some (rVal a b, m) else none
      else none
  else some (0, i)
def rpVal (l : List UInt8) (n : Nat) : Int := if rpNeg l = true then IntKind.i64.wrap (-(IntKind.i64.wrap (n : Int))) else (n : Int)
def rps (l : List UInt8) : Option (Int × Int × Int) :=
  match dgA (if rpNeg l = true then 9223372036854775808 else 9223372036854775807) l (if rpNeg l = true then 1 else 0) with
  | none => none
  | some (n, i) =>
    match rpV l i with
    | none => none
    | some (v, j) =>
      match rpR l j with
      | none => none
      | some (r, m) => if m = l.length ∧ txt (rpVal l n) v r = l then some (rpVal l n, (v : Int), r) else none
theorem wrap64 (x : Int) : -9223372036854775808 ≤ IntKind.i64.wrap x ∧ IntKind.i64.wrap x ≤ 9223372036854775807 := by
  simp [IntKind.wrap, IntKind.bits, IntKind.signed]; omega
theorem rps_back {l : List UInt8} {v n r : Int} (h : rps l = some (v, n, r)) : WOk v n r ∧ txt v n r = l := by
  unfold rps at h
  split at h
  · cases h
  · next m i hd =>
    split at h
    · cases h
    · next ve j hv =>
      split at h
      · cases h
      · next re k hr =>
        split at h
        · next hc =>
          injection h with h
          injection h with h1 h
          injection h with h2 h3
          subst h1 h2 h3
          have hm := dgA_le (by split <;> omega) hd
          have hv2 : ve ≤ 4294967295 := by
            unfold rpV at hv
            split at hv
            · exact (dgA_le (by omega) hv).1
            · injection hv with hv; injection hv with hv _; omega
          refine ⟨⟨?_, ?_, by omega, by omega, ?_, ?_, ?_⟩, hc.2⟩
          · unfold rpVal; split
            · exact (wrap64 _).1
            · omega
          · unfold rpVal; split
            · exact (wrap64 _).2
            · next hn => rw [if_neg hn] at hm; omega
          all_goals
            unfold rpR at hr
            split at hr
            · split at hr
              · cases hr
              · split at hr
                · split at hr
                  · cases hr
                  · split at hr
                    · next he =>
                      injection hr with hr
                      injection hr with hr _
                      subst hr
                      first
                        | exact (rVal_lt _ _).1
                        | exact (rVal_lt _ _).2
                        | (unfold rErr at he
                           split at he
                           · next ho =>
                             obtain ⟨a1, _⟩ := whoA_rVal ho
                             rename_i a _ _ _ _ b _ _
                             unfold kindV
                             rw [a1]
                             unfold wOk at ho
                             split
                             · decide
                             · rw [if_pos (by omega)]; decide
                           · cases he)
                    · cases hr
                · cases hr
            · injection hr with hr
              injection hr with hr _
              subst hr
              first | omega | decide
        · cases h
theorem atC_app (a : List UInt8) (c : UInt8) (t : List UInt8) : atC (a ++ c :: t) a.length c = true := by
  unfold atC
  simp [List.getD_eq_getElem?_getD]
theorem atC_end (l : List UInt8) (c : UInt8) : atC l l.length c = false := by
  unfold atC
  simp
theorem atC_not (a : List UInt8) (c d : UInt8) (t : List UInt8) (h : c ≠ d) : atC (a ++ c :: t) a.length d = false := by
  unfold atC
  simp [List.getD_eq_getElem?_getD, h]
theorem rps_txt {v n r : Int} (h : WOk v n r) : rps (txt v n r) = some (v, n, r) := by
  have hn0 := h.n0
  have hn1 := h.n1
  have hv0 := h.v0
  have hv1 := h.v1
  have d46 : dgB 46 = false := rfl
  have d35 : dgB 35 = false := rfl
  have d58 : dgB 58 = false := rfl
  -- the tail behind the value
  obtain ⟨T2, hT2⟩ : ∃ T, T = if kindV r = 1 then 35 :: (Lib.decDigits (whoA r).toNat ++ 58 :: Lib.decDigits (whoB r).toNat) else ([] : List UInt8) := ⟨_, rfl⟩
  obtain ⟨T1, hT1⟩ : ∃ T, T = (if n ≠ 0 ∨ kindV r = 1 then 46 :: Lib.decDigits n.toNat else ([] : List UInt8)) := ⟨_, rfl⟩
  have ht : txt v n r = Lib.itoa v ++ (T1 ++ T2) := by
    unfold txt
    rw [if_neg h.k, ← hT1, ← hT2, List.append_assoc]
  have h2head : ∀ b t, T2 = b :: t → dgB b = false := by
    intro b t e
    rw [hT2] at e
    split at e
    · injection e with e _; subst e; rfl
    · cases e
  have h1head : ∀ b t, T1 ++ T2 = b :: t → dgB b = false := by
    intro b t e
    rw [hT1] at e
    split at e
    · injection e with e _; subst e; rfl
    · exact h2head b t e
  -- the reference behind
  have hR : ∀ pre : List UInt8, rpR (pre ++ T2) pre.length = some (r, (pre ++ T2).length) := by
    intro pre
    rcases kind_cases h.k with rfl | ⟨hr, hk, hw⟩
    · have e : T2 = [] := by rw [hT2]; rfl
      rw [e, List.append_nil]
      unfold rpR
      rw [atC_end, if_neg Bool.false_ne_true]
    · have e : T2 = 35 :: (Lib.decDigits (whoA r).toNat ++ 58 :: Lib.decDigits (whoB r).toNat) := by rw [hT2, if_pos hk]
      obtain ⟨ho, hv⟩ := who_pos hw
      have ho' := ho
      unfold wOk at ho
      rw [e]
      unfold rpR
      rw [atC_app, if_pos rfl]
      have e1 : pre ++ 35 :: (Lib.decDigits (whoA r).toNat ++ 58 :: Lib.decDigits (whoB r).toNat) = (pre ++ [35]) ++ (Lib.decDigits (whoA r).toNat ++ 58 :: Lib.decDigits (whoB r).toNat) := by simp
      have l1 : (pre ++ [35]).length = pre.length + 1 := by simp <;> omega
      have a1 := dgA_dd 100 (by omega) (whoA r).toNat (by omega) (pre ++ [35]) (58 :: Lib.decDigits (whoB r).toNat) (by intro b t e; injection e with e _; subst e; rfl)
      rw [l1] at a1
      rw [e1, a1]
      dsimp only
      have e2 : (pre ++ [35]) ++ (Lib.decDigits (whoA r).toNat ++ 58 :: Lib.decDigits (whoB r).toNat) = (pre ++ [35] ++ Lib.decDigits (whoA r).toNat) ++ 58 :: Lib.decDigits (whoB r).toNat := by simp
      have l2 : (pre ++ [35] ++ Lib.decDigits (whoA r).toNat).length = pre.length + 1 + (Lib.decDigits (whoA r).toNat).length := by simp <;> omega
      rw [e2, ← l2, atC_app, if_pos rfl]
      have e3 : (pre ++ [35] ++ Lib.decDigits (whoA r).toNat) ++ 58 :: Lib.decDigits (whoB r).toNat = (pre ++ [35] ++ Lib.decDigits (whoA r).toNat ++ [58]) ++ (Lib.decDigits (whoB r).toNat ++ []) := by simp
      have l3 : (pre ++ [35] ++ Lib.decDigits (whoA r).toNat ++ [58]).length = (pre ++ [35] ++ Lib.decDigits (whoA r).toNat).length + 1 := by simp <;> omega
      have a2 := dgA_dd 16777215 (by omega) (whoB r).toNat (by omega) (pre ++ [35] ++ Lib.decDigits (whoA r).toNat ++ [58]) [] (by intro b t e; cases e)
      rw [l3] at a2
      rw [e3, a2]
      dsimp only
      rw [show (((whoA r).toNat : Nat) : Int) = whoA r by omega, show (((whoB r).toNat : Nat) : Int) = whoB r by omega, hv]
      unfold rErr
      rw [if_pos ho', if_pos rfl]
      simp
      omega
  have hV : ∀ pre : List UInt8, rpV (pre ++ (T1 ++ T2)) pre.length = some (n.toNat, (pre ++ T1).length) := by
    intro pre
    by_cases hc : n ≠ 0 ∨ kindV r = 1
    · have e : T1 = 46 :: Lib.decDigits n.toNat := by rw [hT1, if_pos hc]
      rw [e]
      unfold rpV
      rw [List.cons_append, atC_app, if_pos rfl]
      have e1 : pre ++ 46 :: (Lib.decDigits n.toNat ++ T2) = (pre ++ [46]) ++ (Lib.decDigits n.toNat ++ T2) := by simp
      have l1 : (pre ++ [46]).length = pre.length + 1 := by simp <;> omega
      have a1 := dgA_dd 4294967295 (by omega) n.toNat (by omega) (pre ++ [46]) T2 h2head
      rw [l1] at a1
      rw [e1, a1]
      simp
      omega
    · have e : T1 = [] := by rw [hT1, if_neg hc]
      have hn : n = 0 := Decidable.not_not.1 fun x => hc (.inl x)
      have e2 : T2 = [] := by rw [hT2, if_neg fun x => hc (.inr x)]
      rw [e, e2, hn]
      unfold rpV
      rw [List.append_nil, List.append_nil, atC_end, if_neg Bool.false_ne_true]
      rfl
  have hneg : rpNeg (txt v n r) = decide (v < 0) := by
    rw [ht]
    unfold Lib.itoa
    split
    · next hlt =>
      rw [decide_eq_true hlt]
      exact atC_app [] 45 _
    · next hlt =>
      rw [decide_eq_false hlt]
      obtain ⟨b, t, e, hb0, hb1⟩ := dd_head v.toNat
      rw [e]
      exact atC_not [] b 45 _ (by rintro rfl; revert hb0; decide)
  have hfin : ∀ i : Nat, i = (Lib.itoa v).length → ∀ m : Nat, rpVal (txt v n r) m = v → dgA (if rpNeg (txt v n r) = true then 9223372036854775808 else 9223372036854775807) (txt v n r) (if rpNeg (txt v n r) = true then 1 else 0) = some (m, i) → rps (txt v n r) = some (v, n, r) := by
    intro i hi m hm hd
    have hV' := hV (Lib.itoa v)
    have hR' := hR (Lib.itoa v ++ T1)
    rw [← ht] at hV'
    rw [List.append_assoc, ← ht] at hR'
    unfold rps
    rw [hd]
    dsimp only
    rw [hi, hV']
    dsimp only
    rw [hR']
    dsimp only
    rw [hm, show ((n.toNat : Nat) : Int) = n by omega, if_pos ⟨rfl, rfl⟩]
  by_cases hlt : v < 0
  · rw [decide_eq_true hlt] at hneg
    have e : Lib.itoa v = 45 :: Lib.decDigits v.natAbs := by unfold Lib.itoa; rw [if_pos hlt]
    have a1 := dgA_dd 9223372036854775808 (by omega) v.natAbs (by omega) [45] (T1 ++ T2) h1head
    refine hfin _ rfl v.natAbs ?_ ?_
    · unfold rpVal
      rw [hneg, if_pos rfl]
      simp [IntKind.wrap, IntKind.bits, IntKind.signed]; omega
    · rw [hneg, if_pos rfl, if_pos rfl, ht, e, List.cons_append]
      rw [show (45 :: (Lib.decDigits v.natAbs ++ (T1 ++ T2)) : List UInt8) = [45] ++ (Lib.decDigits v.natAbs ++ (T1 ++ T2)) from rfl]
      rw [show ([45] : List UInt8).length = 1 from rfl] at a1
      rw [a1, List.length_cons, Nat.add_comm]
  · rw [decide_eq_false hlt] at hneg
    have e : Lib.itoa v = Lib.decDigits v.toNat := by unfold Lib.itoa; rw [if_neg hlt]
    have a1 := dgA_dd 9223372036854775807 (by omega) v.toNat (by omega) [] (T1 ++ T2) h1head
    refine hfin _ rfl v.toNat ?_ ?_
    · unfold rpVal
      rw [hneg, if_neg Bool.false_ne_true]
      omega
    · rw [hneg, if_neg Bool.false_ne_true, if_neg Bool.false_ne_true, ht, e]
      rw [List.nil_append, List.length_nil, Nat.zero_add] at a1
      exact a1
/-- The two parsers agree. -/
theorem rps_prs (l : List UInt8) : rps l = prs l := by
  cases h : prs l with
  | some q =>
    obtain ⟨v, n, r⟩ := q
    obtain ⟨h1, h2⟩ := prs_back h
    rw [← h2, rps_txt h1]
  | none =>
    cases h2 : rps l with
    | none => rfl
    | some q =>
      obtain ⟨v, n, r⟩ := q
      obtain ⟨h3, h4⟩ := rps_back h2
      exact absurd h4 (prs_none h h3)
end Go.Proofs.YtkccaadhjodhlaaDoor
