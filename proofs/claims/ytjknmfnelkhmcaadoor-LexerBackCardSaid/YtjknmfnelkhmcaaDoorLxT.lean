/- What LexerBack asks of the lexer's reading: the tokens' texts, each with a gap behind it, are read as the same tokens. No condition. -/
import Derived.Test.YtjknmfnelkhmcaaDoorLxH
set_option linter.unusedVariables false
set_option linter.unusedSimpArgs false
namespace Go.Proofs.YtjknmfnelkhmcaaDoor
open Go.RowKit

/-- The four gaps. -/
def gapL : Nat → List UInt8
  | 0 => [32]
  | 1 => [10]
  | 2 => [35, 97, 32, 98, 10]
  | _ => [9, 13]
theorem gap_cons (n : Nat) : ∃ b t, gapL n = b :: t ∧ partB b = false ∧ b ≠ 61 := by
  match n with
  | 0 => exact ⟨_, _, rfl, rfl, by decide⟩
  | 1 => exact ⟨_, _, rfl, rfl, by decide⟩
  | 2 => exact ⟨_, _, rfl, rfl, by decide⟩
  | n + 3 => exact ⟨_, _, rfl, rfl, by decide⟩
theorem gap_blank (n : Nat) (y : List UInt8) : blankA false (gapL n ++ y) = (gapL n).length + blankA false y := by
  match n with
  | 0 => show blankA false (32 :: y) = 1 + _; simp [blankA, wsB]; omega
  | 1 => show blankA false (10 :: y) = 1 + _; simp [blankA, wsB]; omega
  | 2 => show blankA false (35 :: 97 :: 32 :: 98 :: 10 :: y) = 5 + _; simp [blankA, wsB]; omega
  | n + 3 => show blankA false (9 :: 13 :: y) = 2 + _; simp [blankA, wsB]; omega
theorem word_again {x : List UInt8} (h : ∀ b ∈ x, partB b = true) {b : UInt8} (hb : partB b = false) (y : List UInt8) : word (x ++ b :: y) = x := by
  unfold word
  rw [List.takeWhile_append_of_pos h, List.takeWhile_cons, if_neg (by rw [hb]; exact Bool.false_ne_true), List.append_nil]
theorem word_parts (l : List UInt8) : ∀ b ∈ word l, partB b = true := fun b hb => by
  unfold word at hb
  induction l with
  | nil => cases hb
  | cons a t ih =>
    rw [List.takeWhile_cons] at hb
    split at hb
    · next h =>
      rcases List.mem_cons.1 hb with rfl | hb
      · exact h
      · exact ih hb
    · cases hb
/-- What nextT answers, out of the word alone. -/
theorem next_word {l l' : List UInt8} (h : word l = word l') (hn : word l ≠ []) : nextT l = nextT l' := by
  unfold nextT
  rw [h] at hn ⊢
  by_cases h1 : headDig (word l') = true
  · rw [if_pos h1, if_pos h1]
  · rw [if_neg h1, if_neg h1]
    by_cases h2 : kws.contains (word l') = true
    · rw [if_pos h2, if_pos h2]
    · rw [if_neg h2, if_neg h2]
      by_cases h3 : 24 < (word l').length
      · rw [if_pos h3, if_pos h3]
      · rw [if_neg h3, if_neg h3, if_pos hn, if_pos hn]
theorem next_sgn {l : List UInt8} (hn : word l = []) : nextT l = match sgs.find? (fun x => x.isPrefixOf l) with
    | some x => (3, x, 0)
    | none => (0, [], 5) := by
  unfold nextT
  rw [hn]
  rfl
theorem sgs_again {x : List UInt8} (hx : x ∈ sgs) {b : UInt8} (hb : b ≠ 61) (y : List UInt8) : word (x ++ b :: y) = [] ∧ (sgs.find? (fun z => z.isPrefixOf (x ++ b :: y))) = some x := by
  have hb' : (61 == b) = false := beq_eq_false_iff_ne.2 (Ne.symm hb)
  simp only [sgs, List.mem_cons, List.not_mem_nil, or_false] at hx
  rcases hx with rfl | rfl | rfl | rfl | rfl | rfl | rfl | rfl | rfl | rfl | rfl | rfl | rfl | rfl | rfl | rfl | rfl | rfl | rfl <;>
    exact ⟨by simp [word, List.takeWhile_cons, partB, partN, letN, digN], by simp [sgs, List.find?_cons, List.isPrefixOf, hb']⟩
/-- A token is read again when another byte stands behind it. -/
theorem next_again {l : List UInt8} (h : (nextT l).2.2 = 0) {b : UInt8} (hb : partB b = false) (h61 : b ≠ 61) (y : List UInt8) : nextT ((nextT l).2.1 ++ b :: y) = nextT l := by
  by_cases hn : word l = []
  · rw [next_sgn hn] at h ⊢
    cases hf : sgs.find? (fun x => x.isPrefixOf l) with
    | none => rw [hf] at h; cases h
    | some x =>
      obtain ⟨h1, h2⟩ := sgs_again (List.mem_of_find?_eq_some hf) h61 y
      dsimp only
      rw [next_sgn h1, h2]
  · have e : (nextT l).2.1 = word l := by
      unfold nextT at h ⊢
      split
      · rfl
      · split
        · rfl
        · split
          · next h1 h2 h3 => rw [if_neg h1, if_neg h2, if_pos h3] at h; cases h
          · rfl
    rw [e]
    have e2 := word_again (word_parts l) hb y
    exact next_word e2 (by rw [e2]; exact hn)
/-- Every token of a text is read somewhere. -/
theorem scanG_toks : ∀ (f k : Nat) (l : List UInt8) (ts : List Tok), scanG f k l = .ok ts → ∀ t ∈ ts, ∃ r, nextT r = (t.kind, t.text, 0) := by
  intro f
  induction f with
  | zero => intro k l ts h t ht; injection h with h; subst h; cases ht
  | succ f ih =>
    intro k l ts h t ht
    rw [scanG_succ] at h
    split at h
    · injection h with h; subst h; cases ht
    · split at h
      · cases h
      · next he =>
        split at h
        · cases h
        · next us hu =>
          injection h with h
          subst h
          rcases List.mem_cons.1 ht with rfl | ht
          · exact ⟨l, by rw [← Decidable.not_not.1 he]⟩
          · exact ih _ _ us hu t ht
/-- The tokens' texts, each with its gap; the End token's gap last. -/
def joinT : List Tok → (Nat → Nat) → List UInt8
  | [], g => gapL (g 0)
  | t :: ts, g => t.text ++ (gapL (g 0) ++ joinT ts fun i => g (i + 1))
theorem joinT_scan : ∀ (ts : List Tok), (∀ t ∈ ts, ∃ r, nextT r = (t.kind, t.text, 0)) → ∀ (g : Nat → Nat) (f k : Nat), (joinT ts g).length < f →
    ∃ us, scanG f (k + blankA false (joinT ts g)) ((joinT ts g).drop (blankA false (joinT ts g))) = .ok us ∧ us.map (fun t => (t.kind, t.text)) = ts.map fun t => (t.kind, t.text) := by
  intro ts
  induction ts with
  | nil =>
    intro _ g f k hf
    obtain ⟨f, rfl⟩ : ∃ f', f = f' + 1 := ⟨f - 1, by omega⟩
    have h := gap_blank (g 0) []
    rw [List.append_nil] at h
    have h : blankA false (gapL (g 0)) = (gapL (g 0)).length := h
    refine ⟨[], ?_, rfl⟩
    show scanG _ (k + blankA false (gapL (g 0))) ((gapL (g 0)).drop (blankA false (gapL (g 0)))) = _
    rw [h, List.drop_of_length_le (Nat.le_refl _), scanG_succ, if_pos rfl]
  | cons t ts ih =>
    intro ht g f k hf
    obtain ⟨f, rfl⟩ : ∃ f', f = f' + 1 := ⟨f - 1, by omega⟩
    obtain ⟨r, hr⟩ := ht t (List.mem_cons_self ..)
    obtain ⟨b, gt, hg, hb, h61⟩ := gap_cons (g 0)
    have h0 : (nextT r).2.2 = 0 := by rw [hr]
    obtain ⟨_, hne⟩ := next_text h0
    have hag := next_again h0 hb h61 (gt ++ joinT ts fun i => g (i + 1))
    rw [hr] at hag hne
    dsimp only at hag hne
    have hnx : nextT (joinT (t :: ts) g) = (t.kind, t.text, 0) := by
      show nextT (t.text ++ (gapL (g 0) ++ joinT ts fun i => g (i + 1))) = _
      rw [hg]
      exact hag
    have hb0 : blankA false (joinT (t :: ts) g) = 0 := by
      have h1 : (nextT (joinT (t :: ts) g)).2.2 = 0 := by rw [hnx]
      generalize joinT (t :: ts) g = l at *
      cases l with
      | nil => rfl
      | cons a l =>
        have hw : wsB a = false ∧ a ≠ 35 := by
          by_cases hn : word (a :: l) = []
          · rw [next_sgn hn] at h1
            cases hf : sgs.find? (fun x => x.isPrefixOf (a :: l)) with
            | none => rw [hf] at h1; cases h1
            | some x =>
              have hm := List.mem_of_find?_eq_some hf
              have hp := List.find?_some hf
              simp only [sgs, List.mem_cons, List.not_mem_nil, or_false] at hm
              rcases hm with rfl | rfl | rfl | rfl | rfl | rfl | rfl | rfl | rfl | rfl | rfl | rfl | rfl | rfl | rfl | rfl | rfl | rfl | rfl <;>
                (simp [List.isPrefixOf] at hp; try obtain ⟨rfl, _⟩ := hp) <;> (try subst hp) <;> exact ⟨rfl, by decide⟩
          · have h3 := word_parts (a :: l) a (by
              unfold word at hn ⊢
              rw [List.takeWhile_cons] at hn ⊢
              split at hn
              · next h => rw [if_pos h]; exact List.mem_cons_self ..
              · exact absurd rfl hn)
            constructor
            · cases hws : wsB a with
              | false => rfl
              | true =>
                simp [wsB] at hws
                rcases hws with ((rfl | rfl) | rfl) | rfl <;> cases h3
            · rintro rfl; cases h3
        simp [blankA, hw.1, hw.2]
    have hlen : (joinT (t :: ts) g).length = t.text.length + ((gapL (g 0)).length + (joinT ts fun i => g (i + 1)).length) := by
      show (t.text ++ (gapL (g 0) ++ joinT ts fun i => g (i + 1))).length = _
      rw [List.length_append, List.length_append]
    have htl : 0 < t.text.length := List.length_pos_iff.2 hne
    have hdr : (joinT (t :: ts) g).drop t.text.length = gapL (g 0) ++ joinT ts fun i => g (i + 1) := List.drop_left ..
    obtain ⟨us, hu, hm⟩ := ih (fun t' h' => ht t' (List.mem_cons_of_mem _ h')) (fun i => g (i + 1)) f (k + t.text.length + (gapL (g 0)).length) (by omega)
    refine ⟨⟨t.kind, t.text, k⟩ :: us, ?_, by rw [List.map_cons, List.map_cons, hm]⟩
    rw [hb0, List.drop_zero, scanG_succ, if_neg (by intro e; rw [e] at hlen; simp at hlen; omega), hnx, Nat.add_zero]
    dsimp only
    rw [if_neg (by simp), hdr, gap_blank]
    rw [List.drop_append, List.drop_of_length_le (Nat.le_add_right _ _), List.nil_append, Nat.add_sub_cancel_left, ← Nat.add_assoc, hu]
/-- What Scan answers for the joined text. -/
theorem joinT_scanL {l : List UInt8} {ts : List Tok} (h : scanR l = .ok ts) (g : Nat → Nat) (h6 : (joinT ts g).length ≤ 65536) :
    ∃ us, scanL (joinT ts g) = (us ++ [⟨0, [], (joinT ts g).length⟩], 0, 0) ∧ us.map (fun t => (t.kind, t.text)) = ts.map fun t => (t.kind, t.text) := by
  obtain ⟨us, hu, hm⟩ := joinT_scan ts (scanG_toks _ _ _ _ h) g ((joinT ts g).length + 1) 0 (by omega)
  refine ⟨us, ?_, hm⟩
  rw [Nat.zero_add] at hu
  unfold scanL
  rw [if_neg (by omega), show scanR (joinT ts g) = .ok us from hu]
/-- The joined text as the loop builds it: the first n tokens of L. -/
def catT (L : List Tok) (g : Nat → Nat) : Nat → List UInt8
  | 0 => []
  | n + 1 => catT L g n ++ ((L.getD n ⟨0, [], 0⟩).text ++ gapL (g n))
theorem catT_cons (t : Tok) (L : List Tok) (g : Nat → Nat) (n : Nat) : catT (t :: L) g (n + 1) = t.text ++ (gapL (g 0) ++ catT L (fun i => g (i + 1)) n) := by
  induction n with
  | zero => simp [catT]
  | succ n ih =>
    rw [catT, ih]
    show _ = t.text ++ (gapL (g 0) ++ (catT L (fun i => g (i + 1)) n ++ _))
    simp
theorem catT_join (ts : List Tok) (e : Tok) (he : e.text = []) : ∀ g, catT (ts ++ [e]) g (ts.length + 1) = joinT ts g := by
  induction ts with
  | nil => intro g; simp [catT, joinT, he]
  | cons t ts ih => intro g; rw [List.cons_append, List.length_cons, catT_cons, ih]; rfl
theorem catT_le (L : List Tok) (g : Nat → Nat) (m : Nat) (h : ∀ t ∈ L, t.text.length ≤ m) : ∀ n, (catT L g n).length ≤ n * (m + 5) := by
  intro n
  induction n with
  | zero => exact Nat.zero_le _
  | succ n ih =>
    have hg : (gapL (g n)).length ≤ 5 := by
      generalize g n = k
      match k with
      | 0 => decide
      | 1 => decide
      | 2 => decide
      | k + 3 => show 2 ≤ 5; decide
    have ht : (L.getD n ⟨0, [], 0⟩).text.length ≤ m := by
      by_cases hn : n < L.length
      · rw [List.getD_eq_getElem?_getD, List.getElem?_eq_getElem hn]
        exact h _ (List.getElem_mem hn)
      · rw [List.getD_eq_getElem?_getD, List.getElem?_eq_none (by omega)]
        exact Nat.zero_le _
    rw [catT, List.length_append, List.length_append, Nat.succ_mul]
    omega
end Go.Proofs.YtjknmfnelkhmcaaDoor
