/- Texts joined by a new line are read as their tokens joined. No condition. -/
import Derived.Test.YtkakbidllpjopaaGreatDoorW10
import Derived.Test.YtkakbidllpjopaaGreatDoorW16
set_option linter.unusedVariables false
set_option linter.unusedSimpArgs false
namespace Go.Proofs.YtkakbidllpjopaaGreatDoor.Lx

theorem blank_nl : ∀ (a y : List UInt8) (c : Bool), (blankA c a < a.length → blankA c (a ++ 10 :: y) = blankA c a) ∧ (blankA c a = a.length → blankA c (a ++ 10 :: y) = a.length + 1 + blankA false y)
  | [], y, c => by
    refine ⟨fun h => absurd h (Nat.not_lt_zero _), fun _ => ?_⟩
    cases c <;> simp [blankA, wsB] <;> omega
  | b :: t, y, c => by
    have hf := blank_nl t y false
    have ht := blank_nl t y true
    cases c with
    | false =>
      rw [List.cons_append]
      simp only [blankA, List.length_cons]
      split
      · exact ⟨fun h => by rw [hf.1 (by omega)], fun h => by rw [hf.2 (by omega)]; omega⟩
      · split
        · exact ⟨fun h => by rw [ht.1 (by omega)], fun h => by rw [ht.2 (by omega)]; omega⟩
        · exact ⟨fun _ => rfl, fun h => by omega⟩
    | true =>
      rw [List.cons_append]
      simp only [blankA, List.length_cons]
      split
      · exact ⟨fun h => by rw [hf.1 (by omega)], fun h => by rw [hf.2 (by omega)]; omega⟩
      · exact ⟨fun h => by rw [ht.1 (by omega)], fun h => by rw [ht.2 (by omega)]; omega⟩
theorem word_nl (x y : List UInt8) : word (x ++ 10 :: y) = word x := by
  unfold word
  induction x with
  | nil => rw [List.nil_append, List.takeWhile_cons, if_neg (by decide)]; rfl
  | cons a t ih =>
    rw [List.cons_append, List.takeWhile_cons, List.takeWhile_cons, ih]
theorem sgn_nl {x : List UInt8} (hx : x ≠ []) (y : List UInt8) : ∀ s ∈ sgs, s.isPrefixOf (x ++ 10 :: y) = s.isPrefixOf x := by
  intro s hs
  simp only [sgs, List.mem_cons, List.not_mem_nil, or_false] at hs
  cases x with
  | nil => exact absurd rfl hx
  | cons a t =>
    cases t with
    | nil => rcases hs with rfl | rfl | rfl | rfl | rfl | rfl | rfl | rfl | rfl | rfl | rfl | rfl | rfl | rfl | rfl | rfl | rfl | rfl | rfl <;> simp [List.isPrefixOf]
    | cons b t => rcases hs with rfl | rfl | rfl | rfl | rfl | rfl | rfl | rfl | rfl | rfl | rfl | rfl | rfl | rfl | rfl | rfl | rfl | rfl | rfl <;> simp [List.isPrefixOf]
theorem find_congr {α : Type} {p q : α → Bool} : ∀ (l : List α), (∀ x ∈ l, p x = q x) → l.find? p = l.find? q
  | [], _ => rfl
  | x :: t, h => by
    rw [List.find?_cons, List.find?_cons, h x (by simp), find_congr t fun y hy => h y (by simp [hy])]
theorem next_nl {x : List UInt8} (hx : x ≠ []) (y : List UInt8) : nextT (x ++ 10 :: y) = nextT x := by
  unfold nextT
  rw [word_nl, find_congr sgs (sgn_nl hx y)]
theorem scanG_shift : ∀ (f k k' : Nat) (l : List UInt8) (us : List Tok), scanG f k l = .ok us → ∃ vs, scanG f k' l = .ok vs ∧ vs.map (fun t => (t.kind, t.text)) = us.map fun t => (t.kind, t.text)
  | 0, k, k', l, us, h => by
    rw [scanG] at h ⊢
    exact ⟨us, h, rfl⟩
  | f + 1, k, k', l, us, h => by
    rw [zscanG_succ] at h ⊢
    split at h
    · rename_i hl
      rw [if_pos hl]
      injection h with h
      subst h
      exact ⟨[], rfl, rfl⟩
    rename_i hl
    rw [if_neg hl]
    split at h
    · cases h
    rename_i hn
    rw [if_neg hn]
    split at h
    · cases h
    rename_i ts ht
    injection h with h
    subst h
    obtain ⟨vs, h1, h2⟩ := scanG_shift f _ (k' + (nextT l).2.1.length + blankA false (l.drop (nextT l).2.1.length)) _ _ ht
    rw [h1]
    exact ⟨_, rfl, by rw [List.map_cons, List.map_cons, h2]⟩
theorem lexes_of {f k : Nat} {l : List UInt8} {us : List Tok} (hf : l.length < f) (h : scanG f (k + blankA false l) (l.drop (blankA false l)) = .ok us) : Lexes l (us.map fun t => (t.kind, t.text)) := fun k' f' hf' => by
  obtain ⟨vs, h1, h2⟩ := scanG_shift f _ (k' + blankA false l) _ _ h
  refine ⟨vs, ?_, h2⟩
  rw [← h1]
  exact scanG_fuel f' f _ _ (by rw [List.length_drop]; omega) (by rw [List.length_drop]; omega)
theorem lex_skip {n : Nat} {l : List UInt8} {ts : List (Int × List UInt8)} (hb : blankA false l = n + blankA false (l.drop n)) (h : Lexes (l.drop n) ts) : Lexes l ts := fun k f hf => by
  obtain ⟨us, h1, h2⟩ := h (k + n) f (by rw [List.length_drop]; omega)
  refine ⟨us, ?_, h2⟩
  rw [hb, ← Nat.add_assoc, ← List.drop_drop]
  exact h1
/-- A text, a new line, another text. -/
theorem lex_join : ∀ (n : Nat) (a : List UInt8), a.length ≤ n → ∀ (ts : List (Int × List UInt8)) (r : List UInt8) (rs : List (Int × List UInt8)), Lexes a ts → Lexes r rs → Lexes (a ++ 10 :: r) (ts ++ rs) := by
  intro n
  induction n with
  | zero =>
    intro a ha ts r rs h1 h2
    obtain rfl : a = [] := List.eq_nil_of_length_eq_zero (by omega)
    obtain ⟨us, e1, e2⟩ := h1 0 1 (by simp)
    rw [zscanG_succ, if_pos (show List.drop (blankA false []) ([] : List UInt8) = [] from rfl)] at e1
    injection e1 with e1
    subst e1
    obtain rfl : ts = [] := e2.symm
    exact lex_blank (by decide) h2
  | succ n ih =>
    intro a ha ts r rs h1 h2
    have hle := blank_le a false
    obtain ⟨b1, b2⟩ := blank_nl a r false
    rcases Nat.lt_or_eq_of_le hle with hlt | heq
    · have hb := b1 hlt
      obtain ⟨us, e1, e2⟩ := h1 0 (a.length + 1) (by omega)
      have hne : a.drop (blankA false a) ≠ [] := fun e => by
        have := congrArg List.length e
        rw [List.length_drop, List.length_nil] at this
        omega
      rw [zscanG_succ, if_neg hne] at e1
      split at e1
      · cases e1
      rename_i hn
      have h0 : (nextT (a.drop (blankA false a))).2.2 = 0 := Classical.not_not.1 hn
      split at e1
      · cases e1
      rename_i vs hv
      injection e1 with e1
      subst e1
      obtain ⟨hp, hxn⟩ := next_text h0
      obtain ⟨z, hz⟩ := hp
      have hxl := List.length_pos_iff.2 hxn
      obtain ⟨d, hd⟩ : ∃ d, d = a.drop (blankA false a) := ⟨_, rfl⟩
      rw [← hd] at hz hv hne hn h0 hxn hxl e2
      have hdl : d.length ≤ a.length := by rw [hd, List.length_drop]; omega
      have hdrop : d.drop (nextT d).2.1.length = z := by
        have h := @List.drop_left _ (nextT d).2.1 z
        rw [hz] at h
        exact h
      rw [hdrop] at hv
      have hzl : z.length < d.length := by rw [← hz, List.length_append]; omega
      have hzx := lexes_of (f := a.length) (by omega) hv
      have hj := ih z (by omega) _ r rs hzx h2
      have hnx : nextT ((nextT d).2.1 ++ (z ++ 10 :: r)) = ((nextT d).1, (nextT d).2.1, 0) := by
        rw [← List.append_assoc, hz, next_nl hne]
        rw [← h0]
      have hl := lex_tok hnx hxn hj
      rw [← List.append_assoc, hz] at hl
      have hdr : (a ++ 10 :: r).drop (blankA false a) = d ++ 10 :: r := by rw [List.drop_append_of_le_length hle, hd]
      refine lex_skip (n := blankA false a) ?_ ?_
      · rw [hdr, hb, zblank_zero (l := d ++ 10 :: r) (by rw [next_nl hne]; exact h0)]
        rfl
      · rw [hdr, ← e2]
        exact hl
    · have hb := b2 heq
      obtain ⟨us, e1, e2⟩ := h1 0 (a.length + 1) (by omega)
      rw [heq, List.drop_of_length_le (Nat.le_refl _), zscanG_succ, if_pos rfl] at e1
      injection e1 with e1
      subst e1
      obtain rfl : ts = [] := e2.symm
      refine lex_skip (n := a.length + 1) ?_ ?_
      · rw [hb, List.drop_append, List.drop_of_length_le (Nat.le_succ _), show a.length + 1 - a.length = 1 by omega]
        rfl
      · rw [List.drop_append, List.drop_of_length_le (Nat.le_succ _), show a.length + 1 - a.length = 1 by omega]
        exact h2
end Go.Proofs.YtkakbidllpjopaaGreatDoor.Lx
namespace Go.Proofs.YtkakbidllpjopaaGreatDoor

/-- The tokens of a text that is read. -/
theorem toks_of {s : Str} (h : (Lx.scanL s).2.2 = 0) : ∃ ts : List Tk, Lx.Lexes s ts ∧ (Lx.scanL s).1.map tkq = ts ++ [(0, [])] ∧ ∀ t ∈ ts, t.1 ≠ 0 := by
  have hok := scan_ok h
  unfold Lx.scanL at *
  split at h
  · cases h
  rename_i hl
  rw [if_neg hl] at hok ⊢
  cases hs : Lx.scanR s with
  | error e =>
    rw [hs] at hok
    exact absurd hok.2.1 (fun e => e)
  | ok us =>
    have hg : Lx.scanG (s.length + 1) (0 + Lx.blankA false s) (s.drop (Lx.blankA false s)) = .ok us := by rw [Nat.zero_add]; exact hs
    refine ⟨us.map fun t => (t.kind, t.text), Lx.lexes_of (Nat.lt_succ_self _) hg, by rw [List.map_append]; rfl, fun t ht => ?_⟩
    obtain ⟨x, hx, rfl⟩ := List.mem_map.1 ht
    exact ((scanG_ok _ _ _ _ hg).2 x hx).1
theorem scan_of {s : Str} {ts : List Tk} (h : Lx.Lexes s ts) (hl : s.length ≤ 65536) : (Lx.scanL s).2.2 = 0 ∧ (Lx.scanL s).1.map tkq = ts ++ [(0, [])] := by
  obtain ⟨us, h1, h2⟩ := h 0 (s.length + 1) (by omega)
  rw [Nat.zero_add] at h1
  have e : Lx.scanL s = (us ++ [⟨0, [], s.length⟩], 0, 0) := by
    unfold Lx.scanL Lx.scanR
    rw [if_neg (by omega), h1]
  rw [e, List.map_append]
  refine ⟨rfl, ?_⟩
  rw [← h2]
  rfl
end Go.Proofs.YtkakbidllpjopaaGreatDoor
