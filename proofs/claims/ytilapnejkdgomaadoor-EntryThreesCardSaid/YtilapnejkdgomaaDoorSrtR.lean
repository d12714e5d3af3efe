/- Entries in a row of memory that is written in place. No condition. -/
import Derived.Test.YtilapnejkdgomaaDoorEntC
import Derived.Test.YtilapnejkdgomaaDoorSrtQ
import Derived.Deep.MidRow
set_option linter.unusedVariables false
set_option linter.unusedSimpArgs false
namespace Go.Proofs.YtilapnejkdgomaaDoor
open Go.RowKit

/-- Each row of memory is still one, of the same type and size. -/
def Shp (w w' : World) : Prop := ∀ (b : Nat) (cur : Array Value) (e : TypeId) (fz : Nat × Nat), w.heap[b]? = some (.cells cur e fz) → ∃ cur' : Array Value, w'.heap[b]? = some (.cells cur' e fz) ∧ cur'.size = cur.size
theorem Shp.of_below {w w' : World} (h : Below w.heap.size w w') : Shp w w' := fun b cur e fz hb => by
  have hlt : b < w.heap.size := by
    rcases Nat.lt_or_ge b w.heap.size with h | h
    · exact h
    · rw [Array.getElem?_eq_none h] at hb; cases hb
  exact ⟨cur, (h.block b hlt).trans hb, rfl⟩
theorem Shp.trans {w w' w2 : World} (h : Shp w w') (k : Shp w' w2) : Shp w w2 := fun b cur e fz hb => by
  obtain ⟨c1, h1, e1⟩ := h b cur e fz hb
  obtain ⟨c2, h2, e2⟩ := k b c1 e fz h1
  exact ⟨c2, h2, e2.trans e1⟩
theorem Shp.setCell (w : World) (p : Addr) (v : Value) : Shp w (w.setCell p v) := fun b cur e fz hb => by
  unfold World.setCell
  show ∃ cur', (w.heap.modify p.block _)[b]? = _ ∧ _
  rw [Array.getElem?_modify]
  split
  · rw [hb]
    refine ⟨_, rfl, ?_⟩
    split
    · rfl
    · exact Array.size_setIfInBounds ..
  · exact ⟨cur, hb, rfl⟩
/-- Of what was there, only blocks of S have turned. -/
structure Keep (S : Nat → Prop) (w w' : World) : Prop where
  os : w'.os = w.os
  tape : w'.tape = w.tape
  output : w'.output = w.output
  size : w.heap.size ≤ w'.heap.size
  other : ∀ k, k < w.heap.size → ¬ S k → w'.heap[k]? = w.heap[k]?
  shape : Shp w w'
section
variable {S T : Nat → Prop} {w w' w2 : World} {q b : Nat}
theorem Keep.of_below (h : Below w.heap.size w w') : Keep S w w' := ⟨h.os, h.tape, h.output, h.size, fun k hk _ => h.block k hk, Shp.of_below h⟩
theorem Keep.refl : Keep S w w := Keep.of_below (Below.refl _ _)
theorem Keep.trans (h : Keep S w w') (k : Keep S w' w2) : Keep S w w2 :=
  ⟨k.os.trans h.os, k.tape.trans h.tape, k.output.trans h.output, Nat.le_trans h.size k.size, fun i hi hS => (k.other i (Nat.lt_of_lt_of_le hi h.size) hS).trans (h.other i hi hS), h.shape.trans k.shape⟩
theorem Keep.mono (h : Keep S w w') (hS : ∀ k, S k → T k) : Keep T w w' := ⟨h.os, h.tape, h.output, h.size, fun k hk hT => h.other k hk fun e => hT (hS k e), h.shape⟩
theorem Keep.below {B : Nat} (h : Keep S w w') (hB : B ≤ w.heap.size) (hS : ∀ k, k < B → ¬ S k) : Below B w w' := ⟨h.os, h.tape, h.output, h.size, fun k hk => h.other k (Nat.lt_of_lt_of_le hk hB) (hS k hk)⟩
theorem Keep.drew (h : Keep S w w') : Keep S w w'.drew := h.trans (Keep.of_below (Below.refl _ _).drew)
theorem Keep.setCells (h : Keep S w w') (hq : S q) (vs : List Value) : ∀ (o : Nat), Keep S w (w'.setCells q o vs) := by
  induction vs generalizing w' with
  | nil => intro o; exact h
  | cons v t ih =>
    intro o
    have h1 : Keep S w (w'.setCell ⟨q, o, none⟩ v) :=
      ⟨h.os, h.tape, h.output, by simpa [World.setCell] using h.size, fun k hk hS => (heap_setCell_other w' ⟨q, o, none⟩ k v (fun e => hS (e ▸ hq))).trans (h.other k hk hS), h.shape.trans (Shp.setCell _ _ _)⟩
    exact ih h1 (o + 1)
theorem Keep.heap (h : Keep S w w') (hb : b < w.heap.size) (hS : ¬ S b) : w'.heap[b]? = w.heap[b]? := h.other b hb hS
end
/-- Block g holds the entries L, and may be written. -/
def ER (w : World) (g : Nat) (L : List Ent) : Prop := (g < w.heap.size ∧ w.there g 0 (L.length * 6)) ∧ ∀ i (hi : i < L.length), w.rangeAt g (i * 6) (entC L[i])
section
variable {w w' : World} {g : Nat} {L : List Ent}
theorem entC_len (e : Ent) : (entC e).length = 6 := rfl
theorem entC_arr (e : Ent) : Value.agg (entC e).toArray = entV e := rfl
theorem ER.lt (h : ER w g L) : g < w.heap.size := h.1.1
theorem ER.get (h : ER w g L) (i : Nat) (hi : i < L.length) : w.rangeAt g (i * 6) (entC L[i]) := h.2 i hi
theorem ER.there (h : ER w g L) (i : Nat) (hi : i < L.length) : w.there g (i * 6) 6 := fun j hj => by
  have := h.1.2 (i * 6 + j) (by omega)
  rwa [Nat.zero_add] at this
theorem setCells_size (vs : List Value) : ∀ (w : World) (o : Nat), (w.setCells g o vs).heap.size = w.heap.size := by
  induction vs with
  | nil => intro w o; rfl
  | cons v t ih => intro w o; exact (ih _ _).trans (by simp [World.setCell])
theorem ER.set (h : ER w g L) (i : Nat) (hi : i < L.length) (e : Ent) : ER (w.setCells g (i * 6) (entC e)) g (L.set i e) := by
  refine ⟨⟨by rw [setCells_size]; exact h.1.1, ?_⟩, fun j hj => ?_⟩
  · rw [List.length_set]; exact World.there_setCells h.1.2 _ _ _
  · rw [List.length_set] at hj
    by_cases hij : i = j
    · subst hij
      rw [List.getElem_set_self]
      exact World.rangeAt_setCells_same _ _ _ _ (h.there i hi)
    · rw [List.getElem_set_ne hij]
      refine World.rangeAt_setCells_apart (h.2 j hj) _ _ _ (.inr ?_)
      rw [entC_len, entC_len]
      omega
theorem ER.of_heap (h : ER w g L) (hs : w.heap.size ≤ w'.heap.size) (he : w'.heap[g]? = w.heap[g]?) : ER w' g L := by
  have hc : ∀ o, w'.cell? ⟨g, o, none⟩ = w.cell? ⟨g, o, none⟩ := fun o => World.cell?_of_block he
  have hf : ∀ o, w'.frozen? ⟨g, o, none⟩ = w.frozen? ⟨g, o, none⟩ := fun o => by simp [World.frozen?, he]
  refine ⟨⟨Nat.lt_of_lt_of_le h.1.1 hs, fun j hj => ?_⟩, fun i hi j v hv => ?_⟩
  · rw [hc, hf]; exact h.1.2 j hj
  · rw [hc]; exact h.2 i hi j v hv
theorem ER.keep {S : Nat → Prop} (h : ER w g L) (k : Keep S w w') (hS : ¬ S g) : ER w' g L := h.of_heap k.size (k.other g h.1.1 hS)
theorem ER.below (h : ER w g L) (k : Below w.heap.size w w') : ER w' g L := h.of_heap k.size (k.block g h.1.1)
theorem ER.drew (h : ER w g L) : ER w.drew g L := h.below (Below.refl _ _).drew
theorem ER.drewN (h : ER w g L) (n : Nat) : ER (w.drewN n) g L := h
/-- As cells of a slice. -/
theorem ER.ents {S : Nat → Prop} (h : ER w g L) (hS : S g) : Ents w S (some ⟨g, 0, none⟩) L.length L := by
  refine ⟨rfl, by rw [flatE_length], fun _ => ⟨g, 0, rfl, h.1.1, hS, fun j u hu => ?_⟩⟩
  have hj : j < L.length * 6 := by rw [← flatE_length]; exact (List.getElem?_eq_some_iff.1 hu).1
  have hi : j / 6 < L.length := by omega
  have hg := flatE_get L (j / 6) hi (j % 6) (by omega)
  rw [show 6 * (j / 6) + j % 6 = j by omega] at hg
  have := h.2 (j / 6) hi (j % 6) u (by rw [← hg]; exact hu)
  rw [Nat.zero_add]
  rwa [show j / 6 * 6 + j % 6 = j by omega] at this
/-- A row of the call's own. -/
abbrev OwnE (w : World) (base : Nat) (v : Value) (L : List Ent) : Prop := w.ownsRow base 46 6 v L.length (flatE L)
theorem OwnE.er {base n c : Nat} (h : OwnE w base (.slice (some ⟨g, 0, none⟩) n c) L) : ER w g L := by
  obtain ⟨h1, h2⟩ := h
  rcases h2 with ⟨h2, _⟩ | ⟨g', cap, cur, h2, hb, hg, hnc, hm, hs, ht⟩
  · cases h2
  · injection h2 with h2 h3 h4
    injection h2 with h2
    injection h2 with h2
    subst h2
    have hlt : g < w.heap.size := by
      rcases Nat.lt_or_ge g w.heap.size with h | h
      · exact h
      · rw [Array.getElem?_eq_none h] at hg; cases hg
    have hc : ∀ o, w.cell? ⟨g, o, none⟩ = cur[o]? := fun o => by simp [World.cell?, hg]
    have hsz : L.length * 6 ≤ cur.size := by rw [hs]; exact Nat.mul_le_mul_right 6 hnc
    refine ⟨⟨hlt, fun j hj => ?_⟩, fun i hi j v hv => ?_⟩
    · rw [hc, Array.getElem?_eq_getElem (by omega)]
      refine ⟨rfl, ?_⟩
      simp [World.frozen?, hg]
    · have hj : j < 6 := by rw [← entC_len L[i]]; exact (List.getElem?_eq_some_iff.1 hv).1
      have e := flatE_get L i hi j hj
      rw [← ht, List.getElem?_take_of_lt (by omega), Array.getElem?_toList] at e
      rw [hc, Nat.mul_comm i 6, e]
      exact hv
theorem OwnE.back {w0 : World} {base n c : Nat} {L0 : List Ent} (h0 : OwnE w0 base (.slice (some ⟨g, 0, none⟩) n c) L0) (hs : Shp w0 w) (h : ER w g L) (hl : L.length = L0.length) : OwnE w base (.slice (some ⟨g, 0, none⟩) n c) L := by
  obtain ⟨h1, h2⟩ := h0
  rcases h2 with ⟨h2, _⟩ | ⟨g', cap, cur, h2, hb, hg, hnc, hm, hsz, ht⟩
  · cases h2
  · injection h2 with h2 h3 h4
    injection h2 with h2
    injection h2 with h2
    subst h2
    subst h4
    obtain ⟨cur', hg', he⟩ := hs _ _ _ _ hg
    refine ⟨by rw [flatE_length], .inr ⟨g, c, cur', by rw [h3, hl], hb, hg', by omega, hm, by rw [he, hsz], ?_⟩⟩
    have hc : ∀ o, w.cell? ⟨g, o, none⟩ = cur'[o]? := fun o => by simp [World.cell?, hg']
    refine List.ext_getElem? fun k => ?_
    by_cases hk : k < L.length * 6
    · have hi : k / 6 < L.length := by omega
      have e := flatE_get L (k / 6) hi (k % 6) (by omega)
      rw [show 6 * (k / 6) + k % 6 = k by omega] at e
      have hlt : k % 6 < (entC L[k / 6]).length := by rw [entC_len]; omega
      have hx := h.2 (k / 6) hi (k % 6) _ (List.getElem?_eq_getElem hlt)
      rw [hc, show k / 6 * 6 + k % 6 = k by omega] at hx
      rw [List.getElem?_take_of_lt hk, Array.getElem?_toList, hx, e, List.getElem?_eq_getElem hlt]
    · rw [List.getElem?_eq_none (by rw [List.length_take]; omega), List.getElem?_eq_none (by rw [flatE_length]; omega)]
end
end Go.Proofs.YtilapnejkdgomaaDoor
