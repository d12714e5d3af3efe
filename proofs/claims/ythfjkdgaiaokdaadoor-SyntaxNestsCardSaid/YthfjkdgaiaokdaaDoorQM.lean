/- Rows of structs as flat lists of cells; what SyntaxParts and SyntaxNests ask of the checks and the text form, in plain Lean. No condition. -/
import Derived.Test.YthfjkdgaiaokdaaDoorQA
set_option linter.unusedVariables false
set_option linter.unusedSimpArgs false
namespace Go.Proofs.YthfjkdgaiaokdaaDoor
open Go.RowKit

theorem gather {α : Type} {P : Nat → α → Prop} (n : Nat) (h : ∀ i, i < n → ∃ x, P i x) : ∃ l : List α, l.length = n ∧ ∀ i x, l[i]? = some x → P i x := by
  induction n with
  | zero => exact ⟨[], rfl, fun i x hi => by simp at hi⟩
  | succ n ih =>
    obtain ⟨l, hl, hp⟩ := ih fun i hi => h i (by omega)
    obtain ⟨x, hx⟩ := h n (by omega)
    refine ⟨l ++ [x], by simp [hl], fun i y hi => ?_⟩
    rcases Nat.lt_or_ge i l.length with h1 | h1
    · rw [List.getElem?_append_left h1] at hi; exact hp i y hi
    · have h3 := (List.getElem?_eq_some_iff.1 hi).1
      have h2 : i = l.length := by simp at h3; omega
      subst h2
      obtain rfl : x = y := by simpa using hi
      rwa [hl]
theorem flat_len' {n : Nat} : ∀ (css : List (List Value)), (∀ cs ∈ css, cs.length = n) → css.flatten.length = css.length * n
  | [], _ => by simp
  | c :: t, h => by
    rw [List.flatten_cons, List.length_append, flat_len' t (fun x hx => h x (by simp [hx])), h c (by simp), List.length_cons, Nat.succ_mul]
    omega
theorem flat_inv {n : Nat} : ∀ (css : List (List Value)), (∀ cs ∈ css, cs.length = n) → ∀ (j : Nat) (u : Value), css.flatten[j]? = some u → ∃ i r cs, css[i]? = some cs ∧ cs[r]? = some u ∧ j = i * n + r ∧ r < n
  | [], _, j, u, h => by simp at h
  | c :: t, hl, j, u, h => by
    have hc := hl c (by simp)
    rw [List.flatten_cons] at h
    rcases Nat.lt_or_ge j n with h1 | h1
    · rw [List.getElem?_append_left (by omega)] at h
      exact ⟨0, j, c, rfl, h, by omega, h1⟩
    · rw [List.getElem?_append_right (by omega), hc] at h
      obtain ⟨i, r, cs, e1, e2, e3, e4⟩ := flat_inv t (fun x hx => hl x (by simp [hx])) (j - n) u h
      exact ⟨i + 1, r, cs, by simpa using e1, e2, by rw [Nat.succ_mul]; omega, e4⟩
theorem flat_of {n : Nat} : ∀ (css : List (List Value)), (∀ cs ∈ css, cs.length = n) → ∀ (j : Nat) (cs : List Value), css[j]? = some cs → ∀ (r : Nat) (u : Value), cs[r]? = some u → css.flatten[j * n + r]? = some u
  | [], _, j, cs, h, _, _, _ => by simp at h
  | c :: t, hl, 0, cs, h, r, u, hu => by
    obtain rfl : c = cs := by simpa using h
    rw [List.flatten_cons, List.getElem?_append_left (by have := (List.getElem?_eq_some_iff.1 hu).1; omega)]
    simpa using hu
  | c :: t, hl, j + 1, cs, h, r, u, hu => by
    have hc := hl c (by simp)
    rw [List.flatten_cons, List.getElem?_append_right (by rw [hc, Nat.succ_mul]; omega), hc, show (j + 1) * n + r - n = j * n + r by rw [Nat.succ_mul]; omega]
    exact flat_of t (fun x hx => hl x (by simp [hx])) j cs (by simpa using h) r u hu
/-- A row of structs, cell by cell. -/
theorem RowOf.reads {w : World} {S : Nat → Prop} {size n c : Nat} {A : Option Addr} {R : Nat → List Value → Prop} (h : RowOf w S size A n c R) (hl : ∀ i cs, R i cs → cs.length = size) :
    ∃ css : List (List Value), css.length = n ∧ (∀ i cs, css[i]? = some cs → R i cs) ∧ (∀ cs ∈ css, cs.length = size) ∧ Reads w S size A n css.flatten := by
  by_cases hn : 0 < n
  · obtain ⟨b, q, rfl, hb, hS, hx⟩ := h.2 hn
    obtain ⟨css, h1, h2⟩ := gather n hx
    have h3 : ∀ cs ∈ css, cs.length = size := fun cs hc => by
      obtain ⟨i, hi, rfl⟩ := List.getElem_of_mem hc
      exact hl i _ (h2 i _ (List.getElem?_eq_getElem hi)).1
    refine ⟨css, h1, fun i cs hc => (h2 i cs hc).1, h3, by rw [flat_len' css h3, h1], fun _ => ⟨b, q, rfl, hb, hS, fun j u hu => ?_⟩⟩
    obtain ⟨i, r, cs, e1, e2, rfl, _⟩ := flat_inv css h3 j u hu
    have := (h2 i cs e1).2 r u e2
    rwa [Nat.add_assoc] at this
  · obtain rfl : n = 0 := by omega
    exact ⟨[], rfl, fun i cs hc => absurd hc (by simp), fun cs hc => absurd hc (by simp), ⟨by simp, fun h => absurd h (by omega)⟩⟩
/-- A row of the call's own, as a slice of structs. -/
theorem own_row {w : World} {base : Nat} {e : TypeId} {size n : Nat} {v : Value} {css : List (List Value)} (h : w.ownsRow base e size v n css.flatten) (hn : css.length = n) (hl : ∀ cs ∈ css, cs.length = size) (R : Nat → List Value → Prop) (hR : ∀ i cs, css[i]? = some cs → R i cs) :
    ∃ A c, v = .slice A n c ∧ RowOf w (fun b => base ≤ b) size A n c R := by
  obtain ⟨A, c, rfl, hc, hA, hR2⟩ := own_reads (S := fun b => base ≤ b) h (fun _ h => h)
  refine ⟨A, c, rfl, ⟨hc, hA⟩, fun h0 => ?_⟩
  obtain ⟨b, o, rfl, hb, hS, hcell⟩ := hR2.2 h0
  refine ⟨b, o, rfl, hb, hS, fun i hi => ?_⟩
  obtain ⟨cs, hcs⟩ : ∃ cs, css[i]? = some cs := ⟨_, List.getElem?_eq_getElem (by omega)⟩
  refine ⟨cs, hR i cs hcs, fun r u hu => ?_⟩
  have := hcell _ _ (flat_of css hl i cs hcs r u hu)
  rwa [← Nat.add_assoc] at this
section
variable {α : Type}
/-- Fewer names met: no new error. -/
theorem runC_sub {c : List Str → α → Int} {nm : α → Str} (hc : ∀ (m m' : List Str) (x : α), (∀ s ∈ m', s ∈ m) → c m x = 0 → c m' x = 0) : ∀ {l' l : List α}, l'.Sublist l → ∀ (m m' : List Str), (∀ s ∈ m', s ∈ m) → runC c nm m l = 0 → runC c nm m' l' = 0 := by
  intro l' l h
  induction h with
  | slnil => intro m m' _ _; rw [runC]
  | cons a h ih =>
    intro m m' hm h0
    rw [runC] at h0
    split at h0
    · exact absurd h0 (by assumption)
    · exact ih _ _ (fun s hs => List.mem_append_left _ (hm s hs)) h0
  | cons_cons a h ih =>
    intro m m' hm h0
    rw [runC] at h0 ⊢
    split at h0
    · exact absurd h0 (by assumption)
    · rename_i h1
      have h1 := Classical.not_not.1 h1
      rw [if_neg (by rw [hc m m' a hm h1]; simp)]
      exact ih _ _ (fun s hs => by
        rcases List.mem_append.1 hs with h | h
        · exact List.mem_append_left _ (hm s h)
        · exact List.mem_append_right _ h) h0
theorem flat_sub {f : α → Str} : ∀ {l' l : List α}, l'.Sublist l → (l'.map f).flatten.length ≤ (l.map f).flatten.length := by
  intro l' l h
  induction h with
  | slnil => exact Nat.le_refl _
  | cons a h ih => rw [List.map_cons, List.flatten_cons, List.length_append]; omega
  | cons_cons a h ih => rw [List.map_cons, List.map_cons, List.flatten_cons, List.flatten_cons, List.length_append, List.length_append]; omega
end
theorem fresh_sub (m m' : List Str) (s : Str) (r : Bool) (hm : ∀ s ∈ m', s ∈ m) (h : freshC m s r = 0) : freshC m' s r = 0 := by
  unfold freshC at *
  split at h
  · cases h
  · rename_i h1
    rw [if_neg h1]
    split at h
    · cases h
    · rename_i h2
      rw [if_neg]
      intro h3
      exact h2 (by simpa using hm s (by simpa using h3))
theorem decl_sub (m m' : List Str) (x : Decl') (hm : ∀ s ∈ m', s ∈ m) (h : declC m x = 0) : declC m' x = 0 := fresh_sub m m' _ _ hm h
theorem oper_sub (m m' : List Str) (x : Oper') (hm : ∀ s ∈ m', s ∈ m) (h : operC m x = 0) : operC m' x = 0 := by
  unfold operC at *
  split at h
  · exact absurd h (by assumption)
  · rename_i h1
    rw [if_neg (by rw [fresh_sub m m' _ _ hm (Classical.not_not.1 h1)]; simp)]
    exact h
theorem chkP_zero {p : Prog'} : chkP p = 0 ↔ p.stores.length ≤ 12 ∧ p.opers.length ≤ 32 ∧ runC declC Decl'.name [] p.stores = 0 ∧ runC operC Oper'.name [] p.opers = 0 := by
  unfold chkP
  rw [storesL_run, opersL_run]
  constructor
  · intro h
    split at h
    · cases h
    · split at h
      · exact absurd h (by assumption)
      · rename_i h1 h2
        exact ⟨by omega, by omega, Classical.not_not.1 h2, h⟩
  · rintro ⟨h1, h2, h3, h4⟩
    rw [if_neg (by omega), if_neg (by simp [h3]), h4]
/-- A valid program without some of its parts. -/
theorem chkP_sub {p : Prog'} {ds : List Decl'} {os : List Oper'} (hd : ds.Sublist p.stores) (ho : os.Sublist p.opers) (h : chkP p = 0) : chkP ⟨ds, os⟩ = 0 := by
  obtain ⟨h1, h2, h3, h4⟩ := chkP_zero.1 h
  have := hd.length_le
  have := ho.length_le
  exact chkP_zero.2 ⟨by show ds.length ≤ 12; omega, by show os.length ≤ 32; omega, runC_sub decl_sub hd [] [] (fun _ h => h) h3, runC_sub oper_sub ho [] [] (fun _ h => h) h4⟩
theorem txP_sub {p : Prog'} {ds : List Decl'} {os : List Oper'} (hd : ds.Sublist p.stores) (ho : os.Sublist p.opers) : (txP ⟨ds, os⟩).length ≤ (txP p).length := by
  unfold txP
  rw [List.length_append, List.length_append]
  have := flat_sub (f := storeT) hd
  have := flat_sub (f := operT) ho
  dsimp only
  omega
theorem ops_sub : ∀ {l' l : List Oper'}, l'.Sublist l → opNs l' ≤ opNs l ∧ opXs l' ≤ opXs l := by
  intro l' l h
  induction h with
  | slnil => exact ⟨Nat.le_refl _, Nat.le_refl _⟩
  | cons a h ih => rw [opNs, opXs]; omega
  | cons_cons a h ih => rw [opNs, opXs, opNs, opXs]; omega
/-- The list without its n-th element, as two pieces. -/
theorem erase_pieces {β : Type} (l : List β) (n : Nat) : l.take n ++ l.drop (n + 1) = l.eraseIdx n := by rw [List.eraseIdx_eq_take_drop_succ]
theorem print_of {p : Prog'} (hp : chkP p = 0) : (65536 < (txP p).length ∧ printE p = 7 ∧ printS p = []) ∨ (¬ 65536 < (txP p).length ∧ printE p = 0 ∧ printS p = txP p) := by
  unfold printE printS
  have e : ¬ chkP p ≠ 0 := by simp [hp]
  rw [if_neg e, if_neg e]
  by_cases h : 65536 < (txP p).length
  · rw [if_pos h, if_pos h]; exact .inl ⟨h, rfl, rfl⟩
  · rw [if_neg h, if_neg h]; exact .inr ⟨h, rfl, rfl⟩
theorem print_parts {p q : Prog'} (hp : chkP p = 0) (hq : chkP q = 0) (hl : (txP q).length ≤ (txP p).length) : (printE p = 0 ∧ printE q = 0 ∧ (printS q).length ≤ (printS p).length) ∨ printE p = 7 := by
  rcases print_of hp with ⟨h1, h2, h3⟩ | ⟨h1, h2, h3⟩
  · exact .inr h2
  · rcases print_of hq with ⟨h4, h5, h6⟩ | ⟨h4, h5, h6⟩
    · omega
    · exact .inl ⟨h2, h5, by rw [h6, h3]; exact hl⟩
end Go.Proofs.YthfjkdgaiaokdaaDoor
