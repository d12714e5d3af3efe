/- The merge of two sorted blocks by rotation, as plain laws over lists. No condition. -/
import Derived.Test.YtilapnejkdgomaaDoorSrtP
set_option linter.unusedVariables false
set_option linter.unusedSimpArgs false
namespace Go.Proofs.YtilapnejkdgomaaDoor

section
variable {α : Type} (key : α → Int)
theorem asc_last {a : List α} {x : α} (h : Asc key a) (hx : a.getLast? = some x) : ∀ y ∈ a, key y ≤ key x := by
  intro y hy
  obtain ⟨b, rfl⟩ := List.getLast?_eq_some_iff.1 hx
  rcases List.mem_append.1 hy with hy | hy
  · exact asc_across key h y hy x (.head _)
  · rw [List.mem_singleton.1 hy]; omega
theorem asc_first {a : List α} {x : α} (h : Asc key a) (hx : a.head? = some x) : ∀ y ∈ a, key x ≤ key y := by
  cases a with
  | nil => cases hx
  | cons z t =>
    injection hx with hx
    subst hx
    intro y hy
    rcases List.mem_cons.1 hy with rfl | hy
    · omega
    · exact (List.pairwise_cons.1 h).1 y hy
theorem le_of_ends {a b : List α} (ha : Asc key a) (hb : Asc key b) (h : ∀ x y, a.getLast? = some x → b.head? = some y → key x ≤ key y) : ∀ x ∈ a, ∀ y ∈ b, key x ≤ key y := by
  intro x hx y hy
  cases hl : a.getLast? with
  | none => rw [List.getLast?_eq_none_iff.1 hl] at hx; cases hx
  | some z =>
    cases hh : b.head? with
    | none => rw [List.head?_eq_none_iff.1 hh] at hy; cases hy
    | some u =>
      have h1 := asc_last key ha hl x hx
      have h2 := asc_first key hb hh y hy
      have h3 := h z u hl hh
      omega
theorem lt_of_ends {a b : List α} (ha : Asc key a) (hb : Asc key b) (h : ∀ x y, a.head? = some x → b.getLast? = some y → key y < key x) : ∀ x ∈ a, ∀ y ∈ b, key y < key x := by
  intro x hx y hy
  cases hl : b.getLast? with
  | none => rw [List.getLast?_eq_none_iff.1 hl] at hy; cases hy
  | some z =>
    cases hh : a.head? with
    | none => rw [List.head?_eq_none_iff.1 hh] at hx; cases hx
    | some u =>
      have h1 := asc_last key hb hl y hy
      have h2 := asc_first key ha hh x hx
      have h3 := h u z hh hl
      omega
theorem last_at {p a q : List α} (h : a ≠ []) : (p ++ (a ++ q))[p.length + a.length - 1]? = a.getLast? := by
  have hl : 0 < a.length := List.length_pos_iff.2 h
  rw [List.getElem?_append_right (by omega), List.getElem?_append_left (by omega), List.getLast?_eq_getElem?]
  congr 1
  omega
theorem head_at {p a q : List α} (h : a ≠ []) : (p ++ (a ++ q))[p.length]? = a.head? := by
  rw [List.getElem?_append_right (Nat.le_refl _), Nat.sub_self]
  cases a with
  | nil => exact absurd rfl h
  | cons x t => rfl
theorem at_app {p a q : List α} {i : Nat} (h1 : p.length ≤ i) (h2 : i < p.length + a.length) : (p ++ (a ++ q))[i]? = a[i - p.length]? := by
  rw [List.getElem?_append_right h1, List.getElem?_append_left (by omega)]
/-- A sorted block, cut. -/
theorem asc_cut {a : List α} (h : Asc key a) (n : Nat) : Asc key (a.take n) ∧ Asc key (a.drop n) := by
  have e := List.take_append_drop n a
  rw [← e] at h
  exact ⟨asc_left key h, asc_right key h⟩
/-- Among two places of a sorted block. -/
theorem asc_at {a : List α} (h : Asc key a) {i j : Nat} {x y : α} (hij : i ≤ j) (hx : a[i]? = some x) (hy : a[j]? = some y) : key x ≤ key y := by
  obtain ⟨hi, rfl⟩ := List.getElem?_eq_some_iff.1 hx
  obtain ⟨hj, rfl⟩ := List.getElem?_eq_some_iff.1 hy
  by_cases e : i = j
  · subst e; exact Int.le_refl _
  · exact List.pairwise_iff_getElem.1 h i j hi hj (by omega)
/-- The merge of x and y, each cut, the inner parts exchanged and both halves merged. -/
theorem StS.halves {x y r1 r2 : List α} {s e : Nat} (hx : Asc key x) (hy : Asc key y)
    (hA : ∀ u v, (x.take s).getLast? = some u → (y.drop e).head? = some v → key u ≤ key v) (hB : ∀ u v, (x.drop s).head? = some u → (y.take e).getLast? = some v → key v < key u)
    (h1 : StS key (x.take s ++ y.take e) r1) (h2 : StS key (x.drop s ++ y.drop e) r2) : StS key (x ++ y) (r1 ++ r2) := by
  obtain ⟨a1, a2⟩ := asc_cut key hx s
  obtain ⟨b1, b2⟩ := asc_cut key hy e
  have h := StS.sym key (x1 := x.take s) (x2 := x.drop s) (y1 := y.take e) (y2 := y.drop e) (by rw [List.take_append_drop]; exact hx) (by rw [List.take_append_drop]; exact hy) (le_of_ends key a1 b2 hA) (lt_of_ends key a2 b1 hB) h1 h2
  rwa [List.take_append_drop, List.take_append_drop] at h
/-- One element before a sorted block. -/
theorem StS.one_left {u : α} {y : List α} {e : Nat} (hy : Asc key y) (hA : ∀ v, (y.take e).getLast? = some v → key v < key u) (hB : ∀ v, (y.drop e).head? = some v → key u ≤ key v) :
    StS key (u :: y) (y.take e ++ u :: y.drop e) := by
  obtain ⟨b1, b2⟩ := asc_cut key hy e
  refine StS.halves key (x := [u]) (s := 0) (List.pairwise_singleton ..) hy (fun a b h => by cases h) (fun a b h hb => ?_) (StS.of_asc key b1) (StS.of_asc key ?_)
  · injection h with h
    subst h
    exact hA b hb
  · show Asc key (u :: y.drop e)
    refine List.pairwise_cons.2 ⟨fun z hz => ?_, b2⟩
    cases hh : (y.drop e).head? with
    | none => rw [List.head?_eq_none_iff.1 hh] at hz; cases hz
    | some v => have := hB v hh; have := asc_first key b2 hh z hz; omega
/-- One element behind a sorted block. -/
theorem StS.one_right {u : α} {x : List α} {s : Nat} (hx : Asc key x) (hA : ∀ v, (x.take s).getLast? = some v → key v ≤ key u) (hB : ∀ v, (x.drop s).head? = some v → key u < key v) :
    StS key (x ++ [u]) (x.take s ++ u :: x.drop s) := by
  obtain ⟨a1, a2⟩ := asc_cut key hx s
  have h := StS.halves key (y := [u]) (e := 1) (s := s) (r1 := x.take s ++ [u]) (r2 := x.drop s) hx (List.pairwise_singleton ..) (fun a b _ h => by cases h) (fun a b h hb => ?_) (StS.of_asc key ?_) (by have := StS.of_asc key a2; simpa using this)
  · rwa [List.append_assoc, List.singleton_append] at h
  · injection hb with hb
    subst hb
    exact hB a h
  · refine asc_app key a1 (List.pairwise_singleton ..) fun z hz v hv => ?_
    rw [List.mem_singleton.1 hv]
    cases hh : (x.take s).getLast? with
    | none => rw [List.getLast?_eq_none_iff.1 hh] at hz; cases hz
    | some v => have := hA v hh; have := asc_last key a1 hh z hz; omega
end
end Go.Proofs.YtilapnejkdgomaaDoor
