/- What word.Parse and its reference answer, as plain laws: the word with that text form, if there is one. No condition. -/
import Derived.Test.YtkccaadhjodhlaaDoorWordX
import Derived.Lib.ParseIntBCases
import Derived.Lib.ParseIntBTie
import Derived.Lib.IndexLaws
import Derived.Test.YtkccaadhjodhlaaDoorWordV
set_option linter.unusedVariables false
set_option linter.unusedSimpArgs false
namespace Go.Proofs.YtkccaadhjodhlaaDoor
open Go.RowKit

/-- A text cut at the first byte c. -/
def cutC (c : UInt8) : List UInt8 → List UInt8 × List UInt8 × Bool
  | [] => ([], [], false)
  | b :: t => if b = c then ([], t, true) else (b :: (cutC c t).1, (cutC c t).2.1, (cutC c t).2.2)
theorem cutC_none {c : UInt8} : ∀ {a : List UInt8}, c ∉ a → cutC c a = (a, [], false)
  | [], _ => rfl
  | b :: t, h => by
    have h1 : ¬ b = c := fun e => h (e ▸ .head _)
    have h2 := cutC_none (c := c) (a := t) fun e => h (.tail _ e)
    simp only [cutC, h1, h2, if_false]
theorem cutC_some {c : UInt8} : ∀ {a : List UInt8} (b : List UInt8), c ∉ a → cutC c (a ++ c :: b) = (a, b, true)
  | [], b, _ => by simp [cutC]
  | x :: t, b, h => by
    have h1 : ¬ x = c := fun e => h (e ▸ .head _)
    have h2 := cutC_some (c := c) (a := t) b fun e => h (.tail _ e)
    simp only [List.cons_append, cutC, h1, h2, if_false]
theorem cutC_len (c : UInt8) : ∀ l : List UInt8, (cutC c l).1.length ≤ l.length ∧ (cutC c l).2.1.length ≤ l.length
  | [] => ⟨Nat.le_refl _, Nat.le_refl _⟩
  | b :: t => by
    have h := cutC_len c t
    unfold cutC
    split
    · simp
    · simp; omega
theorem cutC_of {c : UInt8} : ∀ {l : List UInt8}, (Lib.indexByte l c = -1 ∧ cutC c l = (l, [], false)) ∨ ∃ o : Nat, Lib.indexByte l c = o ∧ o < l.length ∧ cutC c l = (l.take o, l.drop (o + 1), true)
  | [] => .inl ⟨rfl, rfl⟩
  | b :: t => by
    by_cases h : b = c
    · subst h
      exact .inr ⟨0, by simp [Lib.indexByte], by simp, by simp [cutC]⟩
    · rcases cutC_of (c := c) (l := t) with ⟨h1, h2⟩ | ⟨o, h1, h2, h3⟩
      · exact .inl ⟨by simp [Lib.indexByte, h, h1], by simp [cutC, h, h2]⟩
      · refine .inr ⟨o + 1, ?_, by simp; omega, by simp [cutC, h, h3]⟩
        simp [Lib.indexByte, h, h1]
/-- What 'natural' stores, and what it answers. -/
def natU (l : List UInt8) : Nat := match Lib.parseUintB 32 l with
  | .ok u => u
  | .syntax => 0
  | .range => 4294967295
def natB (l : List UInt8) : Bool := match Lib.parseUintB 32 l with
  | .ok _ => true
  | .syntax => false
  | .range => false
theorem natU_lt (l : List UInt8) : natU l < 4294967296 := by
  unfold natU
  split
  · next u h => have := Lib.parseUintB_le h; omega
  · omega
  · omega
/-- The steps of word.Parse. -/
structure Prs where
  r1 : List UInt8
  h : List UInt8
  is1 : Bool
def prW (l : List UInt8) : Int := if (cutC 35 l).2.2 = true then (natU (cutC 58 (cutC 35 l).2.1).1 : Int) else 0
def prS (l : List UInt8) : Int := if (cutC 35 l).2.2 = true ∧ (cutC 58 (cutC 35 l).2.1).2.2 = true then (natU (cutC 58 (cutC 35 l).2.1).2.1 : Int) else 0
def prA (l : List UInt8) : Bool := !(cutC 35 l).2.2 || (natB (cutC 58 (cutC 35 l).2.1).1 && (!(cutC 58 (cutC 35 l).2.1).2.2 || natB (cutC 58 (cutC 35 l).2.1).2.1))
def prV (l : List UInt8) : Int := if (cutC 46 (cutC 35 l).1).2.2 = true then (natU (cutC 46 (cutC 35 l).1).2.1 : Int) else 0
def prB (l : List UInt8) : Bool := !(cutC 46 (cutC 35 l).1).2.2 || natB (cutC 46 (cutC 35 l).1).2.1
def prN (l : List UInt8) : Lib.NumEnd Int := Lib.parseIntB 64 (cutC 46 (cutC 35 l).1).1
/-- The reference that the parsed owner and sequence number have. -/
def prR (l : List UInt8) : Int := if 0 < prW l ∨ 0 < prS l then rVal (prW l) (prS l) else 0
def prE (l : List UInt8) : Int := if 0 < prW l ∨ 0 < prS l then rErr (prW l) (prS l) else 0
/-- What word.Parse answers. -/
def prs (l : List UInt8) : Option (Int × Int × Int) := match prN l with
  | .ok n => if prA l = true ∧ prB l = true ∧ prE l = 0 ∧ txt n (prV l) (prR l) = l then some (n, prV l, prR l) else none
  | .syntax => none
  | .range => none
/-- A word that has a text form. -/
structure WOk (v n r : Int) : Prop where
  v0 : -9223372036854775808 ≤ v
  v1 : v ≤ 9223372036854775807
  n0 : 0 ≤ n
  n1 : n < 4294967296
  r0 : 0 ≤ r
  r1 : r < 4294967296
  k : kindV r ≠ 2
theorem dd_digs (n : Nat) : ∀ b ∈ Lib.decDigits n, 48 ≤ b.toNat ∧ b.toNat ≤ 57 := by
  induction n using Nat.strongRecOn with
  | _ n ih =>
    intro b hb
    have e : ∀ k, k < 10 → (UInt8.ofNat (48 + k)).toNat = 48 + k := fun k hk => by rw [UInt8.toNat_ofNat']; omega
    unfold Lib.decDigits at hb
    split at hb
    · next h =>
      rw [List.mem_singleton.1 hb, e n h]
      omega
    · next h =>
      rcases List.mem_append.1 hb with hb | hb
      · exact ih _ (by omega) b hb
      · rw [List.mem_singleton.1 hb, e _ (by omega)]
        omega
theorem dd_not (n : Nat) (c : UInt8) (h : ¬ (48 ≤ c.toNat ∧ c.toNat ≤ 57)) : c ∉ Lib.decDigits n := fun e => h (dd_digs n c e)
theorem itoa_not (v : Int) (c : UInt8) (h : ¬ (48 ≤ c.toNat ∧ c.toNat ≤ 57)) (h2 : c ≠ 45) : c ∉ Lib.itoa v := by
  unfold Lib.itoa
  split
  · intro e
    rcases List.mem_cons.1 e with e | e
    · exact h2 e
    · exact dd_not _ c h e
  · exact dd_not _ c h
theorem dd_nil (n : Nat) : Lib.decDigits n ≠ [] := by
  unfold Lib.decDigits
  split
  · simp
  · simp
theorem ofN (k : Nat) (h : k < 10) : (UInt8.ofNat (48 + k)).toNat = 48 + k := by rw [UInt8.toNat_ofNat']; omega
theorem pm_cons (M acc : Nat) (c : UInt8) (r : List UInt8) : Lib.parseUintM M acc (c :: r) = if 48 ≤ c.toNat ∧ c.toNat ≤ 57 then (if 1844674407370955162 ≤ acc then .range else if M < acc * 10 + (c.toNat - 48) then .range else Lib.parseUintM M (acc * 10 + (c.toNat - 48)) r) else .syntax := rfl
/-- Decimal digits are parsed to their number. -/
theorem parse_dd (M : Nat) (hM : M < 18446744073709551616) (n : Nat) : ∀ (rest : List UInt8), n ≤ M → Lib.parseUintM M 0 (Lib.decDigits n ++ rest) = Lib.parseUintM M n rest := by
  induction n using Nat.strongRecOn with
  | _ n ih =>
    intro rest hn
    rw [Lib.decDigits]
    split
    · next h =>
      show Lib.parseUintM M 0 (UInt8.ofNat (48 + n) :: rest) = _
      rw [pm_cons, ofN n h, if_pos (by omega), if_neg (by omega), if_neg (by omega), show 0 * 10 + (48 + n - 48) = n by omega]
    · next h =>
      rw [List.append_assoc, ih (n / 10) (by omega) _ (by omega)]
      show Lib.parseUintM M (n / 10) (UInt8.ofNat (48 + n % 10) :: rest) = _
      rw [pm_cons, ofN _ (by omega), if_pos (by omega), if_neg (by omega), if_neg (by omega), show n / 10 * 10 + (48 + n % 10 - 48) = n by omega]
theorem parseB_dd (B n : Nat) (hB : 2 ^ B - 1 < 18446744073709551616) (hn : n ≤ 2 ^ B - 1) : Lib.parseUintB B (Lib.decDigits n) = .ok n := by
  unfold Lib.parseUintB
  rw [if_neg (dd_nil n)]
  have := parse_dd (2 ^ B - 1) hB n [] hn
  rw [List.append_nil] at this
  rw [this]
  rfl
theorem natU_dd (n : Nat) (hn : n < 4294967296) : natU (Lib.decDigits n) = n := by
  unfold natU
  rw [parseB_dd 32 n (by omega) (by omega)]
theorem natB_dd (n : Nat) (hn : n < 4294967296) : natB (Lib.decDigits n) = true := by
  unfold natB
  rw [parseB_dd 32 n (by omega) (by omega)]
theorem dd_head (n : Nat) : ∃ b t, Lib.decDigits n = b :: t ∧ 48 ≤ b.toNat ∧ b.toNat ≤ 57 := by
  cases h : Lib.decDigits n with
  | nil => exact absurd h (dd_nil n)
  | cons b t => exact ⟨b, t, rfl, dd_digs n b (by rw [h]; exact .head _)⟩
theorem parse_itoa (v : Int) (h0 : -9223372036854775808 ≤ v) (h1 : v ≤ 9223372036854775807) : Lib.parseIntB 64 (Lib.itoa v) = .ok v := by
  unfold Lib.itoa
  split
  · next h =>
    have hp := parseB_dd 64 v.natAbs (by omega) (by omega)
    simp only [Lib.parseIntB]
    have h45 : (45 : UInt8).toNat = 45 := rfl
    rw [h45, if_pos (show (45 : Nat) = 43 ∨ (45 : Nat) = 45 from Or.inr rfl), hp]
    dsimp only
    rw [if_neg (show ¬ (¬ (45 : Nat) = 45 ∧ 2 ^ (64 - 1) ≤ v.natAbs) from fun h => h.1 rfl), if_neg (by omega), if_pos rfl]
    congr 1
    omega
  · next h =>
    obtain ⟨b, t, e, hb0, hb1⟩ := dd_head v.toNat
    have hp := parseB_dd 64 v.toNat (by omega) (by omega)
    rw [e] at hp ⊢
    simp only [Lib.parseIntB]
    rw [if_neg (by omega), hp]
    dsimp only
    have hne : ¬ b.toNat = 45 := by omega
    rw [if_neg (by rintro ⟨_, h2⟩; omega), if_neg (by rintro ⟨h2, _⟩; exact hne h2), if_neg hne]
    congr 1
    omega
theorem kind_cases {r : Int} (h : kindV r ≠ 2) : r = 0 ∨ (r ≠ 0 ∧ kindV r = 1 ∧ 0 < whoA r) := by
  unfold kindV at *
  by_cases h0 : r = 0
  · exact .inl h0
  · rw [if_neg h0] at h ⊢
    by_cases h1 : 0 < whoA r
    · exact .inr ⟨h0, by rw [if_pos h1], h1⟩
    · rw [if_neg h1] at h; exact absurd rfl h
theorem who_pos {r : Int} (h : 0 < whoA r) : wOk (whoA r) (whoB r) ∧ rVal (whoA r) (whoB r) = r := by
  by_cases hw : wOk (r / 16777216) (r % 16777216)
  · rw [whoA_ok hw, whoB_ok hw]
    exact ⟨hw, by unfold rVal; rw [if_pos hw]; omega⟩
  · rw [whoA_no hw] at h; omega
/-- The word whose text form is parsed. -/
theorem prs_txt {v n r : Int} (h : WOk v n r) : prs (txt v n r) = some (v, n, r) := by
  have h35 : (35 : UInt8).toNat = 35 := rfl
  have h46 : (46 : UInt8).toNat = 46 := rfl
  have h58 : (58 : UInt8).toNat = 58 := rfl
  have iv := parse_itoa v h.v0 h.v1
  have n46 := itoa_not v 46 (by rw [h46]; omega) (by decide)
  have n35 := itoa_not v 35 (by rw [h35]; omega) (by decide)
  have d35 := dd_not n.toNat 35 (by rw [h35]; omega)
  have un := natU_dd n.toNat (by have := h.n0; have := h.n1; omega)
  have bn := natB_dd n.toNat (by have := h.n0; have := h.n1; omega)
  have hn0 := h.n0
  rcases kind_cases h.k with rfl | ⟨hr, hk, hw⟩
  · have hk0 : kindV 0 = 0 := rfl
    by_cases hn : n = 0
    · subst hn
      have e : txt v 0 0 = Lib.itoa v := by simp [txt, hk0]
      have c1 := cutC_none n35
      have c2 := cutC_none n46
      have e1 : prN (Lib.itoa v) = .ok v := by unfold prN; rw [c1, c2, iv]
      have e2 : prW (Lib.itoa v) = 0 := by unfold prW; rw [c1]; rfl
      have e3 : prS (Lib.itoa v) = 0 := by unfold prS; rw [c1]; rfl
      have e4 : prV (Lib.itoa v) = 0 := by unfold prV; rw [c1, c2]; rfl
      have e5 : prA (Lib.itoa v) = true := by unfold prA; rw [c1]; rfl
      have e6 : prB (Lib.itoa v) = true := by unfold prB; rw [c1, c2]; rfl
      have e7 : prR (Lib.itoa v) = 0 := by unfold prR; rw [e2, e3]; rfl
      have e8 : prE (Lib.itoa v) = 0 := by unfold prE; rw [e2, e3]; rfl
      rw [e]
      unfold prs
      rw [e1, e4, e5, e6, e7, e8]
      dsimp only
      rw [if_pos ⟨rfl, rfl, rfl, e⟩]
    · have e : txt v n 0 = Lib.itoa v ++ 46 :: Lib.decDigits n.toNat := by simp [txt, hk0, hn]
      have hm : (35 : UInt8) ∉ Lib.itoa v ++ 46 :: Lib.decDigits n.toNat := by
        intro e
        rcases List.mem_append.1 e with e | e
        · exact n35 e
        · rcases List.mem_cons.1 e with e | e
          · revert e; decide
          · exact d35 e
      have c1 := cutC_none hm
      have c2 := cutC_some (Lib.decDigits n.toNat) n46
      generalize hL : Lib.itoa v ++ 46 :: Lib.decDigits n.toNat = L at *
      have e1 : prN L = .ok v := by unfold prN; rw [c1, c2, iv]
      have e2 : prW L = 0 := by unfold prW; rw [c1]; rfl
      have e3 : prS L = 0 := by unfold prS; rw [c1]; rfl
      have e4 : prV L = n := by unfold prV; rw [c1, c2]; simp only [if_true]; rw [un]; omega
      have e5 : prA L = true := by unfold prA; rw [c1]; rfl
      have e6 : prB L = true := by unfold prB; rw [c1, c2]; simp only [bn]; rfl
      have e7 : prR L = 0 := by unfold prR; rw [e2, e3]; rfl
      have e8 : prE L = 0 := by unfold prE; rw [e2, e3]; rfl
      rw [e]
      unfold prs
      rw [e1, e4, e5, e6, e7, e8]
      dsimp only
      rw [if_pos ⟨rfl, rfl, rfl, e⟩]
  · obtain ⟨ho, hv⟩ := who_pos hw
    have e : txt v n r = (Lib.itoa v ++ 46 :: Lib.decDigits n.toNat) ++ 35 :: (Lib.decDigits (whoA r).toNat ++ 58 :: Lib.decDigits (whoB r).toNat) := by
      unfold txt
      rw [hk, if_neg (by decide), if_pos (Or.inr rfl), if_pos rfl]
    have hm : (35 : UInt8) ∉ Lib.itoa v ++ 46 :: Lib.decDigits n.toNat := by
      intro e
      rcases List.mem_append.1 e with e | e
      · exact n35 e
      · rcases List.mem_cons.1 e with e | e
        · revert e; decide
        · exact d35 e
    have ho' := ho
    unfold wOk at ho
    have c1 := cutC_some (Lib.decDigits (whoA r).toNat ++ 58 :: Lib.decDigits (whoB r).toNat) hm
    have c2 := cutC_some (Lib.decDigits n.toNat) n46
    have c3 := cutC_some (Lib.decDigits (whoB r).toNat) (dd_not (whoA r).toNat 58 (by rw [h58]; omega))
    have ua := natU_dd (whoA r).toNat (by omega)
    have ba := natB_dd (whoA r).toNat (by omega)
    have ub := natU_dd (whoB r).toNat (by omega)
    have bb := natB_dd (whoB r).toNat (by omega)
    generalize hL : (Lib.itoa v ++ 46 :: Lib.decDigits n.toNat) ++ 35 :: (Lib.decDigits (whoA r).toNat ++ 58 :: Lib.decDigits (whoB r).toNat) = L at *
    have e1 : prN L = .ok v := by unfold prN; rw [c1, c2, iv]
    have e2 : prW L = whoA r := by unfold prW; rw [c1, c3]; simp only [if_true]; rw [ua]; omega
    have e3 : prS L = whoB r := by unfold prS; rw [c1, c3]; simp only [and_self, if_true]; rw [ub]; omega
    have e4 : prV L = n := by unfold prV; rw [c1, c2]; simp only [if_true]; rw [un]; omega
    have e5 : prA L = true := by unfold prA; rw [c1, c3]; simp only [ba, bb]; rfl
    have e6 : prB L = true := by unfold prB; rw [c1, c2]; simp only [bn]; rfl
    have e7 : prR L = r := by unfold prR; rw [e2, e3, if_pos (Or.inl hw), hv]
    have e8 : prE L = 0 := by unfold prE; rw [e2, e3, if_pos (Or.inl hw)]; unfold rErr; rw [if_pos ho']
    rw [e]
    unfold prs
    rw [e1, e4, e5, e6, e7, e8]
    dsimp only
    rw [if_pos ⟨rfl, rfl, rfl, e⟩]
theorem rVal_lt (a b : Int) : 0 ≤ rVal a b ∧ rVal a b < 4294967296 := by
  unfold rVal
  split
  · next h => unfold wOk at h; omega
  · omega
theorem prR_lt (l : List UInt8) : 0 ≤ prR l ∧ prR l < 4294967296 := by
  unfold prR
  split
  · exact rVal_lt _ _
  · omega
theorem prV_lt (l : List UInt8) : 0 ≤ prV l ∧ prV l < 4294967296 := by
  unfold prV
  split
  · have := natU_lt (cutC 46 (cutC 35 l).1).2.1; omega
  · omega
theorem prN_lt {l : List UInt8} {n : Int} (h : prN l = .ok n) : -9223372036854775808 ≤ n ∧ n ≤ 9223372036854775807 := by
  have := Lib.parseIntB_bounds (B := 64) h
  simp at this
  omega
/-- What is parsed has that text form. -/
theorem prs_back {l : List UInt8} {v n r : Int} (h : prs l = some (v, n, r)) : WOk v n r ∧ txt v n r = l := by
  unfold prs at h
  cases hN : prN l with
  | ok m =>
    rw [hN] at h
    dsimp only at h
    split at h
    · next hc =>
      injection h with h
      injection h with h1 h
      injection h with h2 h3
      obtain ⟨_, _, hE, ht⟩ := hc
      subst h1 h2 h3
      refine ⟨⟨(prN_lt hN).1, (prN_lt hN).2, (prV_lt l).1, (prV_lt l).2, (prR_lt l).1, (prR_lt l).2, ?_⟩, ht⟩
      unfold prE at hE
      unfold prR
      split at hE
      · next hp =>
        rw [if_pos hp]
        unfold rErr at hE
        split at hE
        · next ho =>
          obtain ⟨a1, _⟩ := whoA_rVal ho
          have e : rVal (prW l) (prS l) = prW l * 16777216 + prS l := if_pos ho
          unfold wOk at ho
          unfold kindV
          rw [a1, if_neg (by omega), if_pos (by omega)]
          decide
        · cases hE
      · next hp => rw [if_neg hp]; decide
    · cases h
  | «syntax» => rw [hN] at h; cases h
  | range => rw [hN] at h; cases h
/-- There is no more to it. -/
theorem prs_none {l : List UInt8} (h : prs l = none) {v n r : Int} (hw : WOk v n r) : txt v n r ≠ l := by
  intro e
  subst e
  rw [prs_txt hw] at h
  cases h
end Go.Proofs.YtkccaadhjodhlaaDoor
