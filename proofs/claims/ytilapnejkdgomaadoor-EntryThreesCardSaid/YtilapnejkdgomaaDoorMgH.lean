/- One cell of an entry in a row, read and written. No condition. -/
import Derived.Test.YtilapnejkdgomaaDoorMgF
set_option linter.unusedVariables false
set_option linter.unusedSimpArgs false
namespace Go.Proofs.YtilapnejkdgomaaDoor
open Go.RowKit
section
variable {w : World} {g i : Nat} {L : List Ent} {y : Ent}
theorem ER.cellAt (h : ER w g L) (hy : L[i]? = some y) (j : Nat) (v : Value) (hv : (entC y)[j]? = some v) : w.cell? ⟨g, i * 6 + j, none⟩ = some v := by
  obtain ⟨hi, rfl⟩ := List.getElem?_eq_some_iff.1 hy
  exact h.get i hi j v hv
theorem ER.setAt (h : ER w g L) (hy : L[i]? = some y) (j : Nat) (hj : j < 6) (u : Value) (y' : Ent) (he : entC y' = (entC y).set j u) : ER (w.setCell ⟨g, i * 6 + j, none⟩ u) g (L.set i y') := by
  obtain ⟨hi, rfl⟩ := List.getElem?_eq_some_iff.1 hy
  have hth := h.1.2
  have hs : w.setCell ⟨g, i * 6 + j, none⟩ u = w.setCells g (i * 6 + j) [u] := rfl
  rw [hs]
  refine ⟨⟨by rw [setCells_size]; exact h.lt, by rw [List.length_set]; exact World.there_setCells hth _ _ _⟩, fun k hk => ?_⟩
  rw [List.length_set] at hk
  by_cases hki : i = k
  · subst hki
    rw [List.getElem_set_self]
    intro t v hv
    rw [he] at hv
    by_cases htj : j = t
    · subst htj
      rw [List.getElem?_set_self (by rw [entC_len]; exact hj)] at hv
      have := World.rangeAt_setCells_same w g (i * 6 + j) [u] (there_part (n := L.length * 6) hth (by simp; omega)) 0 v hv
      exact this
    · rw [List.getElem?_set_ne htj] at hv
      have ht : t < 6 := by rw [← entC_len L[i]]; exact (List.getElem?_eq_some_iff.1 hv).1
      have := World.rangeAt_setCells_apart (b' := g) (o' := i * 6 + t) (cs := [v]) (w := w) (fun q z hz => by
        obtain rfl : q = 0 := by have := (List.getElem?_eq_some_iff.1 hz).1; simpa using this
        injection hz with hz
        subst hz
        exact h.get i hi t _ hv) g (i * 6 + j) [u] (.inr (by simp; omega)) 0 v rfl
      exact this
  · rw [List.getElem_set_ne hki]
    exact World.rangeAt_setCells_apart (h.get k hk) _ _ _ (.inr (by rw [entC_len]; simp; omega))
end
end Go.Proofs.YtilapnejkdgomaaDoor
