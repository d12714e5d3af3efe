/- What slices.Insert does to a row of entries, in memory. No condition. -/
import Derived.Test.YtilapnejkdgomaaDoorMgA
import Derived.Lib.SliceRun
import Derived.Lib.JoinLaws
import Derived.Lib.AppendZeros
import Derived.Lib.Overlaps
import Derived.Laws.Externs
import Derived.Laws.IdiomCopy
import Derived.Lib.AppendZerosOnto
import Derived.Laws.NewBlocks
import Derived.Shelf.Spec.SlicesInsert
set_option linter.unusedVariables false
set_option linter.unusedSimpArgs false
namespace Go.Proofs.YtilapnejkdgomaaDoor
open Go.RowKit

theorem run_copyS {P : Program} (w : World) (dT sT ty elem : TypeId) (size k b o dLen dCap : Nat) (a : Addr) (sLen sCap : Nat) (cs : List Value)
    (hu : P.underlying dT = some (.slice elem)) (hs : (P.info? elem).map (·.size) = some size) (hk : Nat.min sLen dLen = k) (hn : cs.length = k * size)
    (hsrc : ∀ j v, cs[j]? = some v → w.cell? (a.add j) = some v) (hc : w.there b o cs.length) (h1 : ∀ v ∈ cs, v.oneCell' = true) :
    (Builtin.copy_ #[dT, sT] ty #[.slice (some ⟨b, o, none⟩) dLen dCap, .slice (some a) sLen sCap]).run P w = .ok (goInt k) (w.setCells b o cs) := by
  have hl := run_loadCells_list (P := P) w a cs hsrc
  have hst := run_storeCells_cells (P := P) b o cs 0 w (by simpa using fun j hj => (hc j hj).1) (by simpa using fun j hj => (hc j hj).2) h1
  cases hq : P.info? elem with
  | none => simp [hq] at hs
  | some i =>
    have hi : i.size = size := by simpa [hq] using hs
    simp [Builtin.copy_, run_underlying hu, Builtin.lenOf, Builtin.firstCells, sizeOf, typeInfo, hq, hi, hk, ← hn, hl, hst]
section
variable {w : World} {g : Nat} {L : List Ent} {x : Ent} {i : Nat}
theorem flat_sub {M : List Ent} {o : Nat} (h : w.rangeAt g o (flatE M)) (k : Nat) (hk : k < M.length) : w.rangeAt g (o + k * 6) (entC M[k]) := fun j v hv => by
  have hj : j < 6 := by rw [← entC_len M[k]]; exact (List.getElem?_eq_some_iff.1 hv).1
  have := h (6 * k + j) v (by rw [flatE_get M k hk j hj]; exact hv)
  rwa [show o + k * 6 + j = o + (6 * k + j) by omega]
theorem ER.ins_of (hi : i ≤ L.length) (hlt : g < w.heap.size) (ht : w.there g 0 ((L.length + 1) * 6)) (h1 : ∀ j (hj : j < L.length), j < i → w.rangeAt g (j * 6) (entC L[j])) (h2 : w.rangeAt g (i * 6) (entC x))
    (h3 : w.rangeAt g ((i + 1) * 6) (flatE (L.drop i))) : ER w g (L.take i ++ x :: L.drop i) := by
  have hl : (L.take i ++ x :: L.drop i).length = L.length + 1 := by rw [List.length_append, List.length_cons, List.length_take, List.length_drop]; omega
  have hlt2 : (L.take i).length = i := by rw [List.length_take]; omega
  refine ⟨⟨hlt, by rw [hl]; exact ht⟩, fun j hj => ?_⟩
  rw [hl] at hj
  rcases Nat.lt_trichotomy j i with h | h | h
  · rw [List.getElem_append_left (by omega), List.getElem_take]
    exact h1 j (by omega) h
  · subst h
    rw [List.getElem_append_right (by omega)]
    simp only [hlt2, Nat.sub_self, List.getElem_cons_zero]
    exact h2
  · obtain ⟨k, rfl⟩ : ∃ k, j = i + 1 + k := ⟨j - i - 1, by omega⟩
    rw [List.getElem_append_right (by omega)]
    simp only [hlt2, show i + 1 + k - i = k + 1 by omega, List.getElem_cons_succ]
    have := flat_sub h3 k (by rw [List.length_drop]; omega)
    rwa [show (i + 1) * 6 + k * 6 = (i + 1 + k) * 6 by omega] at this
theorem there_part {a n m k : Nat} (h : w.there a 0 n) (hk : k + m ≤ n) : w.there a k m := fun j hj => by
  have := h (k + j) (by omega)
  rwa [Nat.zero_add] at this
/-- First the rest, then the new one. -/
theorem ER.ins_shift (hi : i ≤ L.length) (hE : ER w g L) (ht : w.there g 0 ((L.length + 1) * 6)) : ER ((w.setCells g ((i + 1) * 6) (flatE (L.drop i))).setCells g (i * 6) (entC x)) g (L.take i ++ x :: L.drop i) := by
  have hf : (flatE (L.drop i)).length = (L.length - i) * 6 := by rw [flatE_length, List.length_drop]
  refine ER.ins_of hi (by rw [setCells_size, setCells_size]; exact hE.lt) (World.there_setCells (World.there_setCells ht _ _ _) _ _ _) (fun j hj hji => ?_) ?_ ?_
  · refine World.rangeAt_setCells_apart (World.rangeAt_setCells_apart (hE.get j hj) _ _ _ (.inr (.inl ?_))) _ _ _ (.inr (.inl ?_)) <;> rw [entC_len] <;> omega
  · exact World.rangeAt_setCells_same _ _ _ _ (there_part (World.there_setCells ht _ _ _) (by rw [entC_len]; omega))
  · exact World.rangeAt_setCells_apart (World.rangeAt_setCells_same _ _ _ _ (there_part ht (by rw [hf]; omega))) _ _ _ (.inr (.inr (by rw [entC_len]; omega)))
/-- First the new one, then the rest. -/
theorem ER.ins_grow (hi : i ≤ L.length) (hlt : g < w.heap.size) (ht : w.there g 0 ((L.length + 1) * 6)) (h1 : ∀ j (hj : j < L.length), j < i → w.rangeAt g (j * 6) (entC L[j])) :
    ER ((w.setCells g (i * 6) (entC x)).setCells g ((i + 1) * 6) (flatE (L.drop i))) g (L.take i ++ x :: L.drop i) := by
  have hf : (flatE (L.drop i)).length = (L.length - i) * 6 := by rw [flatE_length, List.length_drop]
  refine ER.ins_of hi (by rw [setCells_size, setCells_size]; exact hlt) (World.there_setCells (World.there_setCells ht _ _ _) _ _ _) (fun j hj hji => ?_) ?_ ?_
  · refine World.rangeAt_setCells_apart (World.rangeAt_setCells_apart (h1 j hj hji) _ _ _ (.inr (.inl ?_))) _ _ _ (.inr (.inl ?_)) <;> rw [entC_len] <;> omega
  · exact World.rangeAt_setCells_apart (World.rangeAt_setCells_same _ _ _ _ (there_part ht (by rw [entC_len]; omega))) _ _ _ (.inr (.inl (by rw [entC_len]; omega)))
  · exact World.rangeAt_setCells_same _ _ _ _ (there_part (World.there_setCells ht _ _ _) (by rw [hf]; omega))
/-- Out of memory's words: a row of the call's own. -/
theorem OwnE.of_er {base c : Nat} {cur : Array Value} (hg : w.heap[g]? = some (.cells cur 46)) (hb : base ≤ g) (hm : c ≤ maxLen) (hs : cur.size = c * 6) (hl : L.length ≤ c) (h : ER w g L) :
    OwnE w base (.slice (some ⟨g, 0, none⟩) L.length c) L := by
  refine ⟨by rw [flatE_length], .inr ⟨g, c, cur, rfl, hb, hg, hl, hm, hs, ?_⟩⟩
  have hc : ∀ o, w.cell? ⟨g, o, none⟩ = cur[o]? := fun o => by simp [World.cell?, hg]
  refine List.ext_getElem? fun k => ?_
  by_cases hk : k < L.length * 6
  · have hi : k / 6 < L.length := by omega
    have e := flatE_get L (k / 6) hi (k % 6) (by omega)
    rw [show 6 * (k / 6) + k % 6 = k by omega] at e
    have hlt : k % 6 < (entC L[k / 6]).length := by rw [entC_len]; omega
    have hx := h.2 (k / 6) hi (k % 6) _ (List.getElem?_eq_getElem hlt)
    rw [hc, show k / 6 * 6 + k % 6 = k by omega] at hx
    rw [List.getElem?_take_of_lt hk, Array.getElem?_toList, hx, e, List.getElem?_eq_getElem hlt]
  · rw [List.getElem?_eq_none (by rw [List.length_take]; omega), List.getElem?_eq_none (by rw [flatE_length]; omega)]
/-- What a row of the call's own is. -/
theorem OwnE.parts {base n c : Nat} (h : OwnE w base (.slice (some ⟨g, 0, none⟩) n c) L) : ∃ cur : Array Value, w.heap[g]? = some (.cells cur 46) ∧ base ≤ g ∧ L.length = n ∧ n ≤ c ∧ c ≤ maxLen ∧ cur.size = c * 6 := by
  obtain ⟨h1, h2⟩ := h
  rcases h2 with ⟨h2, _⟩ | ⟨g', cap, cur, h2, hb, hg, hnc, hm, hs, ht⟩
  · cases h2
  · injection h2 with h2 h3 h4
    injection h2 with h2
    injection h2 with h2
    subst h2
    subst h4
    exact ⟨cur, hg, hb, h3.symm, by omega, hm, hs⟩
theorem there_row {c : Nat} {cur : Array Value} (hg : w.heap[g]? = some (.cells cur 46)) (hs : cur.size = c * 6) : w.there g 0 (c * 6) := fun j hj => by
  refine ⟨?_, by simp [World.frozen?, hg]⟩
  simp only [World.cell?, hg]
  rw [show (0 : Nat) + j = j by omega]
  simp only [Option.isSome_iff_exists]
  exact ⟨cur[j], by simp [Array.getElem?_eq_getElem (show j < cur.size by omega)]⟩
end
theorem grown_setCells (vs : List Value) : ∀ (w : World) (g o : Nat), w.grownBy (w.setCells g o vs) (some g) := by
  induction vs with
  | nil => intro w g o; exact ⟨rfl, rfl, rfl, Nat.le_refl _, fun _ _ _ => rfl⟩
  | cons v t ih =>
    intro w g o
    have h := ih (w.setCell ⟨g, o, none⟩ v) g (o + 1)
    refine ⟨h.os.trans rfl, h.tape.trans rfl, h.output.trans rfl, Nat.le_trans (by simp [World.setCell]) h.size, fun k hk hne => (h.block k (by simpa [World.setCell] using hk) hne).trans (heap_setCell_other w ⟨g, o, none⟩ k v (fun e => hne (by rw [e])))⟩
theorem Shp.setCells (vs : List Value) : ∀ (w : World) (g o : Nat), Shp w (w.setCells g o vs) := by
  induction vs with
  | nil => intro w g o b cur e fz h; exact ⟨cur, h, rfl⟩
  | cons v t ih => intro w g o; exact (Shp.setCell w _ v).trans (ih _ _ _)
end Go.Proofs.YtilapnejkdgomaaDoor
