/- What ParserBlanks asks of the reading: the tokens' texts, each with a gap behind it, are read as the same tokens; an expression in parentheses. No condition. -/
import Derived.Test.YtkakbidllpjopaaGreatDoorPzV
import Derived.Test.YtkakbidllpjopaaGreatDoorW11
set_option linter.unusedVariables false
set_option linter.unusedSimpArgs false
namespace Go.Proofs.YtkakbidllpjopaaGreatDoor.Lx

/-- The four gaps. -/
def gapP : Nat → List UInt8
  | 0 => [32]
  | 1 => [10]
  | 2 => [32, 35, 32, 41, 32, 59, 10]
  | _ => [9]
theorem gapP_cons (n : Nat) : ∃ b t, gapP n = b :: t ∧ partB b = false ∧ b ≠ 61 := by
  match n with
  | 0 => exact ⟨_, _, rfl, rfl, by decide⟩
  | 1 => exact ⟨_, _, rfl, rfl, by decide⟩
  | 2 => exact ⟨_, _, rfl, rfl, by decide⟩
  | n + 3 => exact ⟨_, _, rfl, rfl, by decide⟩
theorem gapP_blank (n : Nat) (y : List UInt8) : blankA false (gapP n ++ y) = (gapP n).length + blankA false y := by
  match n with
  | 0 => show blankA false (32 :: y) = 1 + _; simp [blankA, wsB]; omega
  | 1 => show blankA false (10 :: y) = 1 + _; simp [blankA, wsB]; omega
  | 2 => show blankA false (32 :: 35 :: 32 :: 41 :: 32 :: 59 :: 10 :: y) = 7 + _; simp [blankA, wsB]; omega
  | n + 3 => show blankA false (9 :: y) = 1 + _; simp [blankA, wsB]; omega
theorem gapP_len (n : Nat) : (gapP n).length ≤ 7 := by
  match n with
  | 0 => decide
  | 1 => decide
  | 2 => decide
  | n + 3 => show 1 ≤ 7; decide
theorem psgs_again {x : List UInt8} (hx : x ∈ sgs) {b : UInt8} (hb : b ≠ 61) (y : List UInt8) : word (x ++ b :: y) = [] ∧ (sgs.find? (fun z => z.isPrefixOf (x ++ b :: y))) = some x := by
  have hb' : (61 == b) = false := beq_eq_false_iff_ne.2 (Ne.symm hb)
  simp only [sgs, List.mem_cons, List.not_mem_nil, or_false] at hx
  rcases hx with rfl | rfl | rfl | rfl | rfl | rfl | rfl | rfl | rfl | rfl | rfl | rfl | rfl | rfl | rfl | rfl | rfl | rfl | rfl <;>
    exact ⟨by simp [word, List.takeWhile_cons, partB, partN, letN, digN], by simp [sgs, List.find?_cons, List.isPrefixOf, hb']⟩
theorem pnext_again {l : List UInt8} (h : (nextT l).2.2 = 0) {b : UInt8} (hb : partB b = false) (h61 : b ≠ 61) (y : List UInt8) : nextT ((nextT l).2.1 ++ b :: y) = nextT l := by
  by_cases hn : word l = []
  · rw [znext_sgn hn] at h ⊢
    cases hf : sgs.find? (fun x => x.isPrefixOf l) with
    | none => rw [hf] at h; cases h
    | some x =>
      obtain ⟨h1, h2⟩ := psgs_again (List.mem_of_find?_eq_some hf) h61 y
      dsimp only
      rw [znext_sgn h1, h2]
  · have e : (nextT l).2.1 = word l := by
      unfold nextT at h ⊢
      split
      · rfl
      · split
        · rfl
        · split
          · next h1 h2 h3 => rw [if_neg h1, if_neg h2, if_pos h3] at h; cases h
          · rfl
    rw [e]
    have e2 := zword_again (zword_parts l) hb y
    exact znext_word e2 (by rw [e2]; exact hn)
theorem pscan_toks : ∀ (f k : Nat) (l : List UInt8) (ts : List Tok), scanG f k l = .ok ts → ∀ t ∈ ts, ∃ r, nextT r = (t.kind, t.text, 0) := by
  intro f
  induction f with
  | zero => intro k l ts h t ht; injection h with h; subst h; cases ht
  | succ f ih =>
    intro k l ts h t ht
    rw [zscanG_succ] at h
    split at h
    · injection h with h; subst h; cases ht
    · split at h
      · cases h
      · next he =>
        split at h
        · cases h
        · next us hu =>
          injection h with h
          subst h
          rcases List.mem_cons.1 ht with rfl | ht
          · exact ⟨l, by rw [← Decidable.not_not.1 he]⟩
          · exact ih _ _ us hu t ht
/-- The tokens' texts, each with its gap. -/
def joinP : List (Int × List UInt8) → (Nat → Nat) → List UInt8
  | [], g => gapP (g 0)
  | t :: ts, g => t.2 ++ (gapP (g 0) ++ joinP ts fun i => g (i + 1))
theorem lex_gap (n : Nat) {y : List UInt8} {ts : List (Int × List UInt8)} (h : Lexes y ts) : Lexes (gapP n ++ y) ts := by
  refine lex_skip (n := (gapP n).length) ?_ ?_
  · rw [gapP_blank, List.drop_left]
  · rw [List.drop_left]; exact h
theorem joinP_lex : ∀ (ts : List (Int × List UInt8)) (g : Nat → Nat), (∀ t ∈ ts, ∃ r, nextT r = (t.1, t.2, 0)) → Lexes (joinP ts g) ts
  | [], g, _ => by
    have h := lex_gap (g 0) lex_nil
    rwa [List.append_nil] at h
  | t :: ts, g, h => by
    obtain ⟨r, hr⟩ := h t (by simp)
    obtain ⟨b, u, hg, hb, h61⟩ := gapP_cons (g 0)
    have h0 : (nextT r).2.2 = 0 := by rw [hr]
    obtain ⟨_, hne⟩ := next_text h0
    have hag := pnext_again h0 hb h61 (u ++ joinP ts fun i => g (i + 1))
    rw [hr] at hag hne
    refine lex_tok ?_ hne (lex_gap (g 0) (joinP_lex ts _ fun x hx => h x (by simp [hx])))
    rw [hg]
    exact hag
/-- The joined text as the loop builds it: the first n tokens of L. -/
def catP (L : List Tok) (g : Nat → Nat) : Nat → List UInt8
  | 0 => []
  | n + 1 => catP L g n ++ ((L.getD n ⟨0, [], 0⟩).text ++ gapP (g n))
theorem catP_cons (t : Tok) (L : List Tok) (g : Nat → Nat) (n : Nat) : catP (t :: L) g (n + 1) = t.text ++ (gapP (g 0) ++ catP L (fun i => g (i + 1)) n) := by
  induction n with
  | zero => simp [catP]
  | succ n ih =>
    rw [catP, ih]
    show _ = t.text ++ (gapP (g 0) ++ (catP L (fun i => g (i + 1)) n ++ _))
    simp
theorem catP_join (ts : List Tok) (e : Tok) (he : e.text = []) : ∀ g, catP (ts ++ [e]) g (ts.length + 1) = joinP (ts.map fun t => (t.kind, t.text)) g := by
  induction ts with
  | nil => intro g; simp [catP, joinP, he]
  | cons t ts ih => intro g; rw [List.cons_append, List.length_cons, catP_cons, ih]; rfl
theorem catP_le (L : List Tok) (g : Nat → Nat) (m : Nat) (h : ∀ t ∈ L, t.text.length ≤ m) : ∀ n, (catP L g n).length ≤ n * (m + 7) := by
  intro n
  induction n with
  | zero => exact Nat.zero_le _
  | succ n ih =>
    have hg := gapP_len (g n)
    have ht : (L.getD n ⟨0, [], 0⟩).text.length ≤ m := by
      by_cases hn : n < L.length
      · rw [List.getD_eq_getElem?_getD, List.getElem?_eq_getElem hn]
        exact h _ (List.getElem_mem hn)
      · rw [List.getD_eq_getElem?_getD, List.getElem?_eq_none (by omega)]
        exact Nat.zero_le _
    rw [catP, List.length_append, List.length_append, Nat.succ_mul]
    omega
/-- The tokens' texts are no longer than the text. -/
theorem scan_sum : ∀ (f k : Nat) (l : List UInt8) (ts : List Tok), scanG f k l = .ok ts → (ts.map fun t => t.text.length).sum ≤ l.length
  | 0, k, l, ts, h => by
    rw [scanG] at h
    injection h with h
    subst h
    exact Nat.zero_le _
  | f + 1, k, l, ts, h => by
    rw [zscanG_succ] at h
    split at h
    · injection h with h; subst h; exact Nat.zero_le _
    split at h
    · cases h
    rename_i hn
    have h0 : (nextT l).2.2 = 0 := Classical.not_not.1 hn
    split at h
    · cases h
    rename_i us hu
    injection h with h
    subst h
    have ih := scan_sum f _ _ _ hu
    have hp := (next_text h0).1.length_le
    rw [List.length_drop, List.length_drop] at ih
    rw [List.map_cons, List.sum_cons]
    dsimp only
    omega
theorem catP_sum (L : List Tok) (g : Nat → Nat) : ∀ n, n ≤ L.length → (catP L g n).length ≤ ((L.take n).map fun t => t.text.length).sum + n * 7
  | 0, _ => Nat.zero_le _
  | n + 1, h => by
    have ih := catP_sum L g n (by omega)
    have hg := gapP_len (g n)
    rw [catP, List.length_append, List.length_append, List.getD_eq_getElem?_getD, List.getElem?_eq_getElem (by omega : n < L.length), List.take_succ_eq_append_getElem (by omega : n < L.length), List.map_append, List.sum_append]
    simp only [Option.getD_some, List.map_cons, List.map_nil, List.sum_cons, List.sum_nil]
    omega
end Go.Proofs.YtkakbidllpjopaaGreatDoor.Lx
namespace Go.Proofs.YtkakbidllpjopaaGreatDoor

/-- Texts of the same tokens are parsed to the same program. -/
theorem prP_same {s t : Str} (hs : (Lx.scanL s).2.2 = 0) (ht : (Lx.scanL t).2.2 = 0) (h : (Lx.scanL t).1.map tkq = (Lx.scanL s).1.map tkq) : (prP s).1 = (prP t).1 ∧ (prP s).2.2 = (prP t).2.2 := by
  cases hp : pP ((Lx.scanL s).1.map tkq) with
  | bad r =>
    rw [prP_bad hs hp, prP_bad ht (by rw [h]; exact hp)]
    exact ⟨rfl, rfl⟩
  | ok p r =>
    rw [prP_ok hs hp, prP_ok ht (by rw [h]; exact hp)]
    split <;> exact ⟨rfl, rfl⟩
theorem prE_zero {s : Str} (h : (prE s).2.2 = 0) : (Lx.scanL s).2.2 = 0 ∧ chkP (aloneP (prE s).1) = 0 ∧ ∃ r, pE ((Lx.scanL s).1.map tkq) = .ok (prE s).1 r ∧ kindT r = 0 := by
  by_cases he : (Lx.scanL s).2.2 = 0
  · cases hp : pX ((Lx.scanL s).1.map tkq) with
    | bad r => rw [prE_bad he hp] at h; cases h
    | ok p r =>
      have e := prE_ok he hp
      by_cases hc : chkP (aloneP p) = 0
      · rw [if_pos hc] at e
        rw [e]
        refine ⟨he, hc, ?_⟩
        unfold pX at hp
        cases hb : pE ((Lx.scanL s).1.map tkq) with
        | bad q => rw [hb] at hp; cases hp
        | ok x q =>
          rw [hb] at hp
          dsimp only at hp
          split at hp
          · rename_i hk
            injection hp with h1 h2
            subst h1 h2
            exact ⟨_, rfl, hk⟩
          · cases hp
      · rw [if_neg hc] at e
        rw [e] at h
        exact absurd h hc
  · rw [prE_err he] at h
    exact absurd h he
theorem suf_cancel {T' T : List Tk} {e : Tk} (h : T' ++ [e] <:+ T ++ [e]) : T' <:+ T := by
  obtain ⟨p, hp⟩ := h
  rw [← List.append_assoc] at hp
  exact ⟨p, List.append_cancel_right hp⟩
/-- What is left of a whole expression is the end token alone. -/
theorem rest_eot {R r : List Tk} {T : List Tk} (hr : r <:+ R) (hT : R = T ++ eot) (hk : kindT r = 0) (hne : ∀ t ∈ T, t.1 ≠ 0) (hr0 : ∃ T', r = T' ++ eot) : r = eot := by
  obtain ⟨T', rfl⟩ := hr0
  subst hT
  have hs := suf_cancel hr
  cases T' with
  | nil => rfl
  | cons t T0 => exact absurd hk (hne t (hs.subset (by simp)))
/-- Parentheses around an expression that is parsed. -/
theorem prE_par {s : Str} (h : (prE s).2.2 = 0) (hl : s.length ≤ 60000) : prE ([40, 40] ++ s ++ [10, 41, 41]) = prE s := by
  obtain ⟨hs, hc, r, hp, hk⟩ := prE_zero h
  obtain ⟨ts, h1, h2, h3⟩ := toks_of hs
  have hx : Lx.Lexes ([40, 40] ++ s ++ [10, 41, 41]) ((3, [40]) :: (3, [40]) :: (ts ++ [(3, [41]), (3, [41])])) := by
    have h41 : Lx.Lexes [41, 41] [(3, [41]), (3, [41])] := Lx.lex_sign (by decide) (Lx.lex_sign (by decide) Lx.lex_nil)
    have hj := Lx.lex_join s.length s (Nat.le_refl _) ts [41, 41] _ h1 h41
    have hq := Lx.lex_sign (b := 40) (by decide) (Lx.lex_sign (b := 40) (by decide) hj)
    have e : ([40, 40] ++ s ++ [10, 41, 41] : Str) = 40 :: 40 :: (s ++ 10 :: [41, 41]) := by simp
    rw [e]
    exact hq
  obtain ⟨k1, k2⟩ := scan_of hx (by simp only [List.length_append, List.length_cons, List.length_nil]; omega)
  rw [h2] at hp
  obtain ⟨T', e1, -⟩ := ext_pE Stop.eot (Nat.le_refl _) hp
  have hr := rest_eot ((suf_of (suf_pE _)).1 _ _ hp) rfl hk h3 ⟨T', e1⟩
  have h2p := pE_par2 hp hr
  have hpx : pX ((Lx.scanL ([40, 40] ++ s ++ [10, 41, 41])).1.map tkq) = .ok (prE s).1 eot := by
    refine pX_ok ?_ rfl
    rw [k2]
    have e : ((3, [40]) :: (3, [40]) :: (ts ++ [(3, [41]), (3, [41])]) ++ [(0, [])] : List Tk) = (3, [40]) :: (3, [40]) :: ts ++ ((3, [41]) :: (3, [41]) :: eot) := by simp [eot]
    rw [e]
    exact h2p
  rw [prE_ok k1 hpx, if_pos hc]
  have hz : (prE s).2.1 = 0 := by
    have e := prE_ok hs (pX_ok (R := (Lx.scanL s).1.map tkq) (by rw [h2]; exact hp) hk)
    rw [if_pos hc] at e
    rw [e]
  rw [← h]
  have : prE s = ((prE s).1, (prE s).2.1, (prE s).2.2) := rfl
  rw [this, hz, h]
end Go.Proofs.YtkakbidllpjopaaGreatDoor
