/- Maps keyed by strings whose elements are any values: look-up, store, as laws on the operations' runs. -/
import Derived.Test.YthfjkdgaiaokdaaDoorSxB
import Derived.Maps.RangeRun
set_option linter.unusedVariables false
namespace Go.Proofs.YthfjkdgaiaokdaaDoor
open Go.RowKit Go.MapKept

/-- Block b is a map that holds, at the key k, f k. -/
def StrMap (w : World) (b : Nat) (f : ByteArray → Option Value) : Prop :=
  ∃ es clock, w.heap[b]? = some (.map es clock) ∧ Stamped es clock ∧ (∀ x ∈ es.toList, ∃ k, x.key = .string k) ∧ ∀ k v, f k = some v ↔ ∃ e ∈ es.toList, e.key = .string k ∧ e.val = v
theorem StrMap.keep {w w' : World} {b : Nat} {f : ByteArray → Option Value} (h : StrMap w b f) (e : w'.heap[b]? = w.heap[b]?) : StrMap w' b f := by
  obtain ⟨es, cl, hb, r⟩ := h
  exact ⟨es, cl, e.trans hb, r⟩
theorem StrMap.lt {w : World} {b : Nat} {f : ByteArray → Option Value} (h : StrMap w b f) : b < w.heap.size := by
  obtain ⟨es, cl, hb, _⟩ := h
  exact lt_of_block hb
theorem StrMap.below {w w' : World} {b : Nat} {f : ByteArray → Option Value} (h : StrMap w b f) (hb : Below w.heap.size w w') : StrMap w' b f := h.keep (hb.block _ h.lt)
theorem StrMap.made (w : World) : StrMap (w.alloc (.map #[] 0)) w.heap.size fun _ => none :=
  ⟨#[], 0, heap_alloc_new _ _, stamped_empty 0, by simp, by simp⟩

section
variable {P : Program} {w : World} {b : Nat} {f : ByteArray → Option Value} {T K E : TypeId} {z : Value}
/-- The entry at a key, as the model finds it. -/
theorem StrMap.find (h : StrMap w b f) (k : ByteArray) : ∃ es clock, w.heap[b]? = some (.map es clock) ∧ Stamped es clock ∧ (∀ x ∈ es.toList, IsKey .string x.key) ∧
    ((f k = none ∧ Instr.findNow .string (.string k) es.toList 0 = some none ∧ ∀ x ∈ es.toList, x.key ≠ .string k) ∨
      ∃ j e, Instr.findNow .string (.string k) es.toList 0 = some (some (j, e.val)) ∧ es[j]? = some e ∧ e.key = .string k ∧ f k = some e.val) := by
  obtain ⟨es, cl, hb, hs, hk, hf⟩ := h
  have hks : ∀ x ∈ es.toList, IsKey .string x.key := fun x hx => by
    obtain ⟨k, hk⟩ := hk x hx
    rw [hk]; trivial
  refine ⟨es, cl, hb, hs, hks, ?_⟩
  rcases findNow_spec (d := .string) (k := .string k) trivial es.toList 0 hks with ⟨h1, h2⟩ | ⟨j, e, h1, h2, h3⟩
  · left
    refine ⟨?_, h1, h2⟩
    cases hfk : f k with
    | none => rfl
    | some v =>
      obtain ⟨e, he, hek, _⟩ := (hf k v).1 hfk
      exact absurd hek (h2 e he)
  · right
    refine ⟨j, e, by simpa using h1, by simpa using h2, h3, ?_⟩
    exact (hf k e.val).2 ⟨e, List.mem_of_getElem? h2, h3, rfl⟩
theorem StrMap.look (h : StrMap w b f) (hT : P.underlying T = some (.map K E)) (hK : P.underlying K = some .string) (hz : ∀ w, (zeroValue E).run P w = .ok z w) (k : ByteArray) (c : Bool) :
    (Instr.lookup T (.map (some b)) (.string k) c).run P w = .ok (if c then .tuple #[(f k).getD z, .bool (f k).isSome] else (f k).getD z) w := by
  obtain ⟨es, cl, hb, hs, hks, hr⟩ := h.find k
  have hc : ∀ e, (Instr.checkKey e 10000 K (.string k)).run P w = .ok () w := fun e => run_checkKey (d := .string) (k := .string k) hK trivial e 9999
  rcases hr with ⟨h1, h2, _⟩ | ⟨j, e, h1, _, _, h4⟩
  · simp [Instr.lookup, run_underlying hT, MapKept.run_getObj_map hb, hc, run_findKey hK h2, hz, Result.andThen, h1]
  · simp [Instr.lookup, run_underlying hT, MapKept.run_getObj_map hb, hc, run_findKey hK h1, Result.andThen, h4]
/-- f with v at k. -/
def upd (f : ByteArray → Option Value) (k : ByteArray) (v : Value) : ByteArray → Option Value := fun i => if i = k then some v else f i
theorem StrMap.store (h : StrMap w b f) (hT : P.underlying T = some (.map K E)) (hK : P.underlying K = some .string) (k : ByteArray) (v : Value) :
    ∃ w', (Instr.mapUpdate T (.map (some b)) (.string k) v).run P w = .ok () w' ∧ StrMap w' b (upd f k v) ∧ w.grownBy w' (some b) ∧ w'.heap.size = w.heap.size := by
  obtain ⟨es0, cl0, hb0, hs0, hk0, hf0⟩ := h
  obtain ⟨es, cl, hb, hs, hks, hr⟩ := (show StrMap w b f from ⟨es0, cl0, hb0, hs0, hk0, hf0⟩).find k
  have hee : es0 = es := by rw [hb0] at hb; simp at hb; exact hb.1
  subst hee
  have hc : ∀ e, (Instr.checkKey e 10000 K (.string k)).run P w = .ok () w := fun e => run_checkKey (d := .string) (k := .string k) hK trivial e 9999
  have hkeep : ∀ o, w.grownBy { w with heap := w.heap.setIfInBounds b o } (some b) := fun o =>
    ⟨rfl, rfl, rfl, by simp, fun i hi hne => (heap_set hb).2 i (fun e => hne (by rw [e]))⟩
  rcases hr with ⟨h1, h2, h3⟩ | ⟨j, e, h1, h2, h3, h4⟩
  · refine ⟨{ w with heap := w.heap.setIfInBounds b (.map (es0.push { key := .string k, val := v, born := cl }) (cl + 1)) }, by simp [Instr.mapUpdate, run_underlying hT, MapKept.run_getObj_map hb, hc, run_findKey hK h2, run_setObj_map _ hb, Result.andThen], ⟨_, _, (heap_set hb).1, stamped_push hs h3, ?_, ?_⟩, hkeep _, by simp⟩
    · intro x hx
      simp only [Array.toList_push, List.mem_append, List.mem_singleton] at hx
      rcases hx with hx | rfl
      · exact hk0 x hx
      · exact ⟨k, rfl⟩
    · intro i u
      simp only [Array.toList_push, List.mem_append, List.mem_singleton, upd]
      split
      · rename_i hi
        subst hi
        constructor
        · intro hu
          injection hu with hu
          subst hu
          exact ⟨_, .inr rfl, rfl, rfl⟩
        · rintro ⟨x, hx | rfl, hxk, rfl⟩
          · exact absurd hxk (h3 x hx)
          · rfl
      · rename_i hi
        rw [hf0]
        constructor
        · rintro ⟨x, hx, h⟩
          exact ⟨x, .inl hx, h⟩
        · rintro ⟨x, hx | rfl, hxk, h⟩
          · exact ⟨x, hx, hxk, h⟩
          · simp at hxk
            exact absurd hxk.symm hi
  · have hj : es0[j]? = some e := h2
    have hjl : j < es0.size := (Array.getElem?_eq_some_iff.1 h2).1
    have hkey : ∀ e', es0[j]? = some e' → ({ e' with key := .string k, val := v } : MapEntry).key = e'.key := fun e' he' => by rw [hj] at he'; cases he'; exact h3.symm
    refine ⟨{ w with heap := w.heap.setIfInBounds b (.map (es0.modify j fun e => { e with key := .string k, val := v }) cl) }, by simp [Instr.mapUpdate, run_underlying hT, MapKept.run_getObj_map hb, hc, run_findKey hK h1, hj, h3, run_keyThatStays (d := .string) (k := .string k) trivial, run_setObj_map _ hb, Result.andThen],
      ⟨_, _, (heap_set hb).1, stamped_modify hs _ _ (fun _ _ => rfl) (fun e' _ he' => hkey e' he'), ?_, ?_⟩, hkeep _, by simp⟩
    · intro x hx
      have := isKey_modify hks j _ hkey x hx
      cases hxk : x.key <;> rw [hxk] at this <;> simp [IsKey] at this
      try subst this
      exact ⟨_, rfl⟩
    · have hmem : ∀ x : MapEntry, x ∈ (es0.modify j fun e => { e with key := .string k, val := v }).toList ↔ x = { e with key := .string k, val := v } ∨ (x ∈ es0.toList ∧ x.key ≠ .string k) := by
        intro x
        rw [Array.toList_modify]
        have hpw := List.pairwise_iff_getElem.1 ((stamped_iff _ _).1 hs0).2.2
        constructor
        · intro hx
          obtain ⟨i, hi⟩ := List.mem_iff_getElem?.1 hx
          rw [List.getElem?_modify] at hi
          obtain ⟨y, hy, rfl⟩ := Option.map_eq_some_iff.1 hi
          by_cases hji : j = i
          · left
            subst hji
            have : y = e := by
              have h5 : es0.toList[j]? = some e := by simpa using hj
              rw [h5] at hy; injection hy with hy; exact hy.symm
            subst this
            simp
          · right
            simp only [if_neg hji]
            refine ⟨List.mem_of_getElem? hy, fun hyk => ?_⟩
            obtain ⟨hil, hie⟩ := List.getElem?_eq_some_iff.1 hy
            have hjl' : j < es0.toList.length := by simpa using hjl
            have hje : es0.toList[j] = e := by
              have h5 : es0.toList[j]? = some e := by simpa using hj
              exact (List.getElem?_eq_some_iff.1 h5).2
            rcases Nat.lt_or_gt_of_ne hji with hlt | hlt
            · exact hpw j i hjl' hil hlt (by rw [hje, hie, h3]; exact hyk.symm)
            · exact hpw i j hil hjl' hlt (by rw [hje, hie, h3]; exact hyk)
        · rintro (rfl | ⟨hx, hxk⟩)
          · refine List.mem_iff_getElem?.2 ⟨j, ?_⟩
            rw [List.getElem?_modify, show es0.toList[j]? = some e by simpa using hj]
            simp
          · obtain ⟨i, hi⟩ := List.mem_iff_getElem?.1 hx
            refine List.mem_iff_getElem?.2 ⟨i, ?_⟩
            rw [List.getElem?_modify, hi]
            have : j ≠ i := by
              rintro rfl
              have h5 : es0.toList[j]? = some e := by simpa using hj
              rw [h5] at hi; injection hi with hi; subst hi
              exact hxk h3
            simp [this]
      intro i u
      simp only [upd]
      split
      · rename_i hi
        subst hi
        constructor
        · intro hu
          injection hu with hu
          subst hu
          exact ⟨_, (hmem _).2 (.inl rfl), rfl, rfl⟩
        · rintro ⟨x, hx, hxk, rfl⟩
          rcases (hmem x).1 hx with rfl | ⟨_, hx2⟩
          · rfl
          · exact absurd hxk hx2
      · rename_i hi
        rw [hf0]
        constructor
        · rintro ⟨x, hx, hxk, rfl⟩
          exact ⟨x, (hmem x).2 (.inr ⟨hx, by rw [hxk]; simp; exact hi⟩), hxk, rfl⟩
        · rintro ⟨x, hx, hxk, rfl⟩
          rcases (hmem x).1 hx with rfl | ⟨hx1, _⟩
          · simp at hxk
            exact absurd hxk.symm hi
          · exact ⟨x, hx1, hxk, rfl⟩
end

section
variable {P : Program} {w : World} {ops : Array Oper} {rest : List Oper} {o : Oper} {a : Act} {Q : Exit → Act → World → Prop}
theorem wpList_mapUpdate_str (hg : o.guard = none) (m x v : Operand) (t : TypeId) (hop : o.op = Op.mapUpdate t m x v) (k e : TypeId) (ht : P.underlying t = some (.map k e)) (hk : P.underlying k = some .string) (b : Nat) (f : ByteArray → Option Value) (h : StrMap w b f)
    (hm : a.eval m = .map (some b)) (i : ByteArray) (hx : a.eval x = .string i) (u : Value) (hv : a.eval v = u)
    (hK : ∀ w', StrMap w' b (upd f i u) → w.grownBy w' (some b) → w'.heap.size = w.heap.size → wpList P ops Q rest (a.put o.dst undef) w') :
    wpList P ops Q (o :: rest) a w := by
  refine wpList_plain hg fun K' hK' => ?_
  obtain ⟨w', hrun, r1, r2, r3⟩ := h.store ht hk i u
  unfold Oper.wp
  simp [execOp, hop, hm, hx, hv, hrun, Result.andThen]
  exact hK' _ _ (hK w' r1 r2 r3)
theorem wpList_lookup_str (hg : o.guard = none) (m x : Operand) (t : TypeId) (c : Bool) (hop : o.op = Op.lookup t m x c) (k e : TypeId) (ht : P.underlying t = some (.map k e)) (hk : P.underlying k = some .string) (z : Value) (hz : ∀ w, (zeroValue e).run P w = .ok z w)
    (b : Nat) (f : ByteArray → Option Value) (h : StrMap w b f) (hm : a.eval m = .map (some b)) (i : ByteArray) (hx : a.eval x = .string i)
    (hK : wpList P ops Q rest (a.put o.dst (if c then .tuple #[(f i).getD z, .bool (f i).isSome] else (f i).getD z)) w) :
    wpList P ops Q (o :: rest) a w := by
  refine wpList_plain hg fun K' hK' => ?_
  have hrun := h.look ht hk hz i c
  unfold Oper.wp
  simp [execOp, hop, hm, hx, hrun, Result.andThen]
  exact hK' _ _ hK
end
/-- Block b is a map that holds these names. -/
def NMap (w : World) (b : Nat) (met : List Str) : Prop := StrMap w b fun k => if met.contains k.data.toList = true then some (.bool true) else none
theorem NMap.made (w : World) : NMap (w.alloc (.map #[] 0)) w.heap.size [] := by
  have h := StrMap.made w
  unfold NMap
  simpa using h
theorem NMap.keep {w w' : World} {b : Nat} {met : List Str} (h : NMap w b met) (e : w'.heap[b]? = w.heap[b]?) : NMap w' b met := StrMap.keep h e
theorem NMap.lt {w : World} {b : Nat} {met : List Str} (h : NMap w b met) : b < w.heap.size := StrMap.lt h
theorem NMap.upd_ {met : List Str} {s : Str} : upd (fun k => if met.contains k.data.toList = true then some (.bool true) else none) (bs s) (.bool true) = fun k : ByteArray => if (met ++ [s]).contains k.data.toList = true then some (.bool true) else none := by
  funext k
  unfold upd
  by_cases h : k = bs s
  · subst h
    rw [if_pos rfl, if_pos (by simp [bs_list])]
  · have h2 : ¬ k.data.toList = s := fun e => h (by rw [← bs_eta k, e])
    rw [if_neg h]
    show (if met.contains k.data.toList = true then some (Value.bool true) else none) = _
    by_cases hc : met.contains k.data.toList = true
    · rw [if_pos hc, if_pos (by simp at hc ⊢; exact .inl hc)]
    · rw [if_neg hc, if_neg (by simp at hc ⊢; exact ⟨hc, h2⟩)]
theorem grownBy.below {w w' : World} {g B : Nat} (h : w.grownBy w' (some g)) (hB : B ≤ g) (hw : g < w.heap.size) : Below B w w' :=
  ⟨h.os, h.tape, h.output, h.size, fun k hk => h.block k (by omega) (by intro e; injection e with e; omega)⟩
theorem Below.grown_ {w w' : World} (h : Below w.heap.size w w') (g : Option Nat) : w.grownBy w' g := ⟨h.os, h.tape, h.output, h.size, fun k hk _ => h.block k hk⟩
end Go.Proofs.YthfjkdgaiaokdaaDoor
