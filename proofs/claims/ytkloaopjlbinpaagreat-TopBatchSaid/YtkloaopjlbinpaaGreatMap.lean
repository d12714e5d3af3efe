/- Maps keyed by int64 whose elements are any values: look-up, store, a range, as laws on the operations' runs. -/
import Derived.Test.YtkloaopjlbinpaaGreatBase
import Derived.Maps.RangeRun
set_option linter.unusedVariables false
namespace Go.Proofs.YtkloaopjlbinpaaGreat
open Go.RowKit Go.MapKept

/-- Block b is a map that holds, at the key k, f k. -/
def IntMap (w : World) (b : Nat) (f : Int → Option Value) : Prop :=
  ∃ es clock, w.heap[b]? = some (.map es clock) ∧ Stamped es clock ∧ (∀ x ∈ es.toList, ∃ k, x.key = .int .i64 k) ∧ ∀ k v, f k = some v ↔ ∃ e ∈ es.toList, e.key = .int .i64 k ∧ e.val = v
/-- A map's value that holds f: nil, or a block that meets S. -/
def IsMap (w : World) (S : Nat → Prop) (v : Value) (f : Int → Option Value) : Prop :=
  (v = .map none ∧ f = fun _ => none) ∨ ∃ b, v = .map (some b) ∧ S b ∧ b < w.heap.size ∧ IntMap w b f

theorem IntMap.keep {w w' : World} {b : Nat} {f : Int → Option Value} (h : IntMap w b f) (e : w'.heap[b]? = w.heap[b]?) : IntMap w' b f := by
  obtain ⟨es, cl, hb, r⟩ := h
  exact ⟨es, cl, e.trans hb, r⟩
theorem IntMap.lt {w : World} {b : Nat} {f : Int → Option Value} (h : IntMap w b f) : b < w.heap.size := by
  obtain ⟨es, cl, hb, _⟩ := h
  exact lt_of_block hb
theorem IntMap.below {w w' : World} {b : Nat} {f : Int → Option Value} (h : IntMap w b f) (hb : Below w.heap.size w w') : IntMap w' b f := h.keep (hb.block _ h.lt)
theorem IsMap.below {w w' : World} {S : Nat → Prop} {v : Value} {f : Int → Option Value} (h : IsMap w S v f) (hb : Below w.heap.size w w') : IsMap w' S v f := by
  rcases h with h | ⟨b, rfl, hS, hlt, hm⟩
  · exact .inl h
  · exact .inr ⟨b, rfl, hS, Nat.lt_of_lt_of_le hlt hb.size, hm.below hb⟩
theorem IsMap.more {w : World} {S S' : Nat → Prop} {v : Value} {f : Int → Option Value} (h : IsMap w S v f) (hS : ∀ b, b < w.heap.size → S b → S' b) : IsMap w S' v f := by
  rcases h with h | ⟨b, rfl, hb, hlt, hm⟩
  · exact .inl h
  · exact .inr ⟨b, rfl, hS b hlt hb, hlt, hm⟩
theorem IsMap.keep {w w' : World} {S : Nat → Prop} {v : Value} {f : Int → Option Value} (h : IsMap w S v f) (hs : w.heap.size ≤ w'.heap.size) (hk : ∀ b, b < w.heap.size → S b → w'.heap[b]? = w.heap[b]?) : IsMap w' S v f := by
  rcases h with h | ⟨b, rfl, hb, hlt, hm⟩
  · exact .inl h
  · exact .inr ⟨b, rfl, hb, by omega, hm.keep (hk b hlt hb)⟩
theorem IsMap.alloc {w : World} {S : Nat → Prop} {v : Value} {f : Int → Option Value} (h : IsMap w S v f) (o : Obj) : IsMap (w.alloc o) S v f := h.below ((Below.refl _ _).alloc (Nat.le_refl _) o)
theorem IsMap.drewN {w : World} {S : Nat → Prop} {v : Value} {f : Int → Option Value} (h : IsMap w S v f) (n : Nat) : IsMap (w.drewN n) S v f := h
theorem IntMap.made (w : World) : IntMap (w.alloc (.map #[] 0)) w.heap.size fun _ => none :=
  ⟨#[], 0, heap_alloc_new _ _, stamped_empty 0, by simp, by simp⟩

section
variable {P : Program} {w : World} {b : Nat} {f : Int → Option Value} {T K E : TypeId} {z : Value}
/-- The entry at a key, as the model finds it. -/
theorem IntMap.find (h : IntMap w b f) (k : Int) : ∃ es clock, w.heap[b]? = some (.map es clock) ∧ Stamped es clock ∧ (∀ x ∈ es.toList, IsKey (.int .i64) x.key) ∧
    ((f k = none ∧ Instr.findNow (.int .i64) (.int .i64 k) es.toList 0 = some none ∧ ∀ x ∈ es.toList, x.key ≠ .int .i64 k) ∨
      ∃ j e, Instr.findNow (.int .i64) (.int .i64 k) es.toList 0 = some (some (j, e.val)) ∧ es[j]? = some e ∧ e.key = .int .i64 k ∧ f k = some e.val) := by
  obtain ⟨es, cl, hb, hs, hk, hf⟩ := h
  have hks : ∀ x ∈ es.toList, IsKey (.int .i64) x.key := fun x hx => by
    obtain ⟨k, hk⟩ := hk x hx
    rw [hk]; exact rfl
  refine ⟨es, cl, hb, hs, hks, ?_⟩
  rcases findNow_spec (d := .int .i64) (k := .int .i64 k) rfl es.toList 0 hks with ⟨h1, h2⟩ | ⟨j, e, h1, h2, h3⟩
  · left
    refine ⟨?_, h1, h2⟩
    cases hfk : f k with
    | none => rfl
    | some v =>
      obtain ⟨e, he, hek, _⟩ := (hf k v).1 hfk
      exact absurd hek (h2 e he)
  · right
    refine ⟨j, e, by simpa using h1, by simpa using h2, h3, ?_⟩
    exact (hf k e.val).2 ⟨e, List.mem_of_getElem? h2, h3, rfl⟩
theorem IsMap.look {v : Value} {S : Nat → Prop} (h : IsMap w S v f) (hT : P.underlying T = some (.map K E)) (hK : P.underlying K = some (.int .i64)) (hz : ∀ w, (zeroValue E).run P w = .ok z w) (k : Int) (c : Bool) :
    (Instr.lookup T v (.int .i64 k) c).run P w = .ok (if c then .tuple #[(f k).getD z, .bool (f k).isSome] else (f k).getD z) w := by
  rcases h with ⟨rfl, rfl⟩ | ⟨b, rfl, _, _, hm⟩
  · have hf : (Instr.findKey K (.int .i64 k) []).run P w = .ok none w := run_findKey (d := .int .i64) (k := .int .i64 k) hK rfl
    have hc : ∀ e, (Instr.checkKey e 10000 K (.int .i64 k)).run P w = .ok () w := fun e => run_checkKey (d := .int .i64) (k := .int .i64 k) hK rfl e 9999
    simp [Instr.lookup, run_underlying hT, hc, hf, hz, Result.andThen]
  · obtain ⟨es, cl, hb, hs, hks, hr⟩ := hm.find k
    have hc : ∀ e, (Instr.checkKey e 10000 K (.int .i64 k)).run P w = .ok () w := fun e => run_checkKey (d := .int .i64) (k := .int .i64 k) hK rfl e 9999
    rcases hr with ⟨h1, h2, _⟩ | ⟨j, e, h1, _, _, h4⟩
    · simp [Instr.lookup, run_underlying hT, MapKept.run_getObj_map hb, hc, run_findKey hK h2, hz, Result.andThen, h1]
    · simp [Instr.lookup, run_underlying hT, MapKept.run_getObj_map hb, hc, run_findKey hK h1, Result.andThen, h4]
/-- f with v at k. -/
def upd (f : Int → Option Value) (k : Int) (v : Value) : Int → Option Value := fun i => if i = k then some v else f i
theorem IntMap.store (h : IntMap w b f) (hT : P.underlying T = some (.map K E)) (hK : P.underlying K = some (.int .i64)) (k : Int) (v : Value) :
    ∃ w', (Instr.mapUpdate T (.map (some b)) (.int .i64 k) v).run P w = .ok () w' ∧ IntMap w' b (upd f k v) ∧ w.grownBy w' (some b) ∧ w'.heap.size = w.heap.size := by
  obtain ⟨es0, cl0, hb0, hs0, hk0, hf0⟩ := h
  obtain ⟨es, cl, hb, hs, hks, hr⟩ := (show IntMap w b f from ⟨es0, cl0, hb0, hs0, hk0, hf0⟩).find k
  have hee : es0 = es := by rw [hb0] at hb; simp at hb; exact hb.1
  subst hee
  have hc : ∀ e, (Instr.checkKey e 10000 K (.int .i64 k)).run P w = .ok () w := fun e => run_checkKey (d := .int .i64) (k := .int .i64 k) hK rfl e 9999
  have hkeep : ∀ o, w.grownBy { w with heap := w.heap.setIfInBounds b o } (some b) := fun o =>
    ⟨rfl, rfl, rfl, by simp, fun i hi hne => (heap_set hb).2 i (fun e => hne (by rw [e]))⟩
  rcases hr with ⟨h1, h2, h3⟩ | ⟨j, e, h1, h2, h3, h4⟩
  · refine ⟨{ w with heap := w.heap.setIfInBounds b (.map (es0.push { key := .int .i64 k, val := v, born := cl }) (cl + 1)) }, by simp [Instr.mapUpdate, run_underlying hT, MapKept.run_getObj_map hb, hc, run_findKey hK h2, run_setObj_map _ hb, Result.andThen], ⟨_, _, (heap_set hb).1, stamped_push hs h3, ?_, ?_⟩, hkeep _, by simp⟩
    · intro x hx
      simp only [Array.toList_push, List.mem_append, List.mem_singleton] at hx
      rcases hx with hx | rfl
      · exact hk0 x hx
      · exact ⟨k, rfl⟩
    · intro i u
      simp only [Array.toList_push, List.mem_append, List.mem_singleton, upd]
      split
      · rename_i hi
        subst hi
        constructor
        · intro hu
          injection hu with hu
          subst hu
          exact ⟨_, .inr rfl, rfl, rfl⟩
        · rintro ⟨x, hx | rfl, hxk, rfl⟩
          · exact absurd hxk (h3 x hx)
          · rfl
      · rename_i hi
        rw [hf0]
        constructor
        · rintro ⟨x, hx, h⟩
          exact ⟨x, .inl hx, h⟩
        · rintro ⟨x, hx | rfl, hxk, h⟩
          · exact ⟨x, hx, hxk, h⟩
          · simp at hxk
            exact absurd hxk.symm hi
  · have hj : es0[j]? = some e := h2
    have hjl : j < es0.size := (Array.getElem?_eq_some_iff.1 h2).1
    have hkey : ∀ e', es0[j]? = some e' → ({ e' with key := .int .i64 k, val := v } : MapEntry).key = e'.key := fun e' he' => by rw [hj] at he'; cases he'; exact h3.symm
    refine ⟨{ w with heap := w.heap.setIfInBounds b (.map (es0.modify j fun e => { e with key := .int .i64 k, val := v }) cl) }, by simp [Instr.mapUpdate, run_underlying hT, MapKept.run_getObj_map hb, hc, run_findKey hK h1, hj, h3, run_keyThatStays (d := .int .i64) (k := .int .i64 k) rfl, run_setObj_map _ hb, Result.andThen],
      ⟨_, _, (heap_set hb).1, stamped_modify hs _ _ (fun _ _ => rfl) (fun e' _ he' => hkey e' he'), ?_, ?_⟩, hkeep _, by simp⟩
    · intro x hx
      have := isKey_modify hks j _ hkey x hx
      cases hxk : x.key <;> rw [hxk] at this <;> simp [IsKey] at this
      subst this
      exact ⟨_, rfl⟩
    · have hmem : ∀ x : MapEntry, x ∈ (es0.modify j fun e => { e with key := .int .i64 k, val := v }).toList ↔ x = { e with key := .int .i64 k, val := v } ∨ (x ∈ es0.toList ∧ x.key ≠ .int .i64 k) := by
        intro x
        rw [Array.toList_modify]
        have hpw := List.pairwise_iff_getElem.1 ((stamped_iff _ _).1 hs0).2.2
        constructor
        · intro hx
          obtain ⟨i, hi⟩ := List.mem_iff_getElem?.1 hx
          rw [List.getElem?_modify] at hi
          obtain ⟨y, hy, rfl⟩ := Option.map_eq_some_iff.1 hi
          by_cases hji : j = i
          · left
            subst hji
            have : y = e := by
              have h5 : es0.toList[j]? = some e := by simpa using hj
              rw [h5] at hy; injection hy with hy; exact hy.symm
            subst this
            simp
          · right
            simp only [if_neg hji]
            refine ⟨List.mem_of_getElem? hy, fun hyk => ?_⟩
            obtain ⟨hil, hie⟩ := List.getElem?_eq_some_iff.1 hy
            have hjl' : j < es0.toList.length := by simpa using hjl
            have hje : es0.toList[j] = e := by
              have h5 : es0.toList[j]? = some e := by simpa using hj
              exact (List.getElem?_eq_some_iff.1 h5).2
            rcases Nat.lt_or_gt_of_ne hji with hlt | hlt
            · exact hpw j i hjl' hil hlt (by rw [hje, hie, h3]; exact hyk.symm)
            · exact hpw i j hil hjl' hlt (by rw [hje, hie, h3]; exact hyk)
        · rintro (rfl | ⟨hx, hxk⟩)
          · refine List.mem_iff_getElem?.2 ⟨j, ?_⟩
            rw [List.getElem?_modify, show es0.toList[j]? = some e by simpa using hj]
            simp
          · obtain ⟨i, hi⟩ := List.mem_iff_getElem?.1 hx
            refine List.mem_iff_getElem?.2 ⟨i, ?_⟩
            rw [List.getElem?_modify, hi]
            have : j ≠ i := by
              rintro rfl
              have h5 : es0.toList[j]? = some e := by simpa using hj
              rw [h5] at hi; injection hi with hi; subst hi
              exact hxk h3
            simp [this]
      intro i u
      simp only [upd]
      split
      · rename_i hi
        subst hi
        constructor
        · intro hu
          injection hu with hu
          subst hu
          exact ⟨_, (hmem _).2 (.inl rfl), rfl, rfl⟩
        · rintro ⟨x, hx, hxk, rfl⟩
          rcases (hmem x).1 hx with rfl | ⟨_, hx2⟩
          · rfl
          · exact absurd hxk hx2
      · rename_i hi
        rw [hf0]
        constructor
        · rintro ⟨x, hx, hxk, rfl⟩
          exact ⟨x, (hmem x).2 (.inr ⟨hx, by rw [hxk]; simp; exact hi⟩), hxk, rfl⟩
        · rintro ⟨x, hx, hxk, rfl⟩
          rcases (hmem x).1 hx with rfl | ⟨hx1, _⟩
          · simp at hxk
            exact absurd hxk.symm hi
          · exact ⟨x, hx1, hxk, rfl⟩
end

theorem key_inj {l : List MapEntry} (h : l.Pairwise (fun x y => x.key ≠ y.key)) {x y : MapEntry} (hx : x ∈ l) (hy : y ∈ l) (e : x.key = y.key) : x = y := by
  induction l with
  | nil => cases hx
  | cons z l ih =>
    rw [List.pairwise_cons] at h
    rcases List.mem_cons.1 hx with rfl | hx'
    · rcases List.mem_cons.1 hy with rfl | hy'
      · rfl
      · exact absurd e (h.1 _ hy')
    · rcases List.mem_cons.1 hy with rfl | hy'
      · exact absurd e.symm (h.1 _ hx')
      · exact ih h.2 hx' hy'

/-- Block r is an iterator over the map v that holds f; left: the keys still to come. -/
def Iter (w : World) (r : Nat) (v : Value) (f : Int → Option Value) (left : List Int) : Prop :=
  (v = .map none ∧ left = [] ∧ w.heap[r]? = some (.mapIter none 0 #[] 0)) ∨
  ∃ b es clock seen c0, v = .map (some b) ∧ b ≠ r ∧ w.heap[b]? = some (.map es clock) ∧ Stamped es clock ∧ (∀ x ∈ es.toList, ∃ k, x.key = .int .i64 k) ∧ (∀ k v, f k = some v ↔ ∃ e ∈ es.toList, e.key = .int .i64 k ∧ e.val = v) ∧
    w.heap[r]? = some (.mapIter (some b) clock seen c0) ∧ clock ≤ c0 ∧ left.Nodup ∧ ∀ k, k ∈ left ↔ ∃ e ∈ es.toList, e.key = .int .i64 k ∧ e.born ∉ seen.toList

/-- How many entries an iterator has still to give. -/
def iterLeft (w : World) (r : Nat) (v : Value) : Nat := match v with | .map (some b) => w.rangeLeft b r | _ => 0
theorem rangeLeft_at {w : World} {b r : Nat} {es : Array MapEntry} {cl c c0 : Nat} {seen : Array Nat} (h1 : w.heap[b]? = some (.map es cl)) (h2 : w.heap[r]? = some (.mapIter (some b) c seen c0)) : w.rangeLeft b r = (leftOf es seen).size := by
  unfold World.rangeLeft
  rw [h1, h2]
theorem iterLeft_keep {w w' : World} {r : Nat} {v : Value} (hr : w'.heap[r]? = w.heap[r]?) (hb : ∀ b, v = .map (some b) → w'.heap[b]? = w.heap[b]?) : iterLeft w' r v = iterLeft w r v := by
  unfold iterLeft
  split
  · unfold World.rangeLeft
    rw [hr, hb _ rfl]
  · rfl
theorem Iter.keep {w w' : World} {r : Nat} {v : Value} {f : Int → Option Value} {left : List Int} (h : Iter w r v f left) (hr : w'.heap[r]? = w.heap[r]?) (hb : ∀ b, v = .map (some b) → w'.heap[b]? = w.heap[b]?) : Iter w' r v f left := by
  rcases h with ⟨rfl, rfl, h⟩ | ⟨b, es, cl, seen, c0, rfl, hne, h1, h2, h3, h4, h5, h6⟩
  · exact .inl ⟨rfl, rfl, hr.trans h⟩
  · exact .inr ⟨b, es, cl, seen, c0, rfl, hne, (hb b rfl).trans h1, h2, h3, h4, hr.trans h5, h6⟩
theorem Iter.some_ {w : World} {r : Nat} {v : Value} {f : Int → Option Value} {left : List Int} (h : Iter w r v f left) {k : Int} (hk : k ∈ left) : ∃ u, f k = some u := by
  rcases h with ⟨rfl, rfl, h⟩ | ⟨b, es, cl, seen, c0, rfl, hne, h1, h2, h3, h4, h5, h6, h7, h8⟩
  · cases hk
  · obtain ⟨e, he, hek, _⟩ := (h8 k).1 hk
    exact ⟨e.val, (h4 k _).2 ⟨e, he, hek, rfl⟩⟩

section
variable {P : Program} {w : World} {f : Int → Option Value} {S : Nat → Prop} {T K E : TypeId} {v : Value}
theorem IsMap.range (h : IsMap w S v f) (hT : P.underlying T = some (.map K E)) :
    ∃ o left, (Instr.range T v).run P w = .ok (.pointer (some ⟨w.heap.size, 0, none⟩)) (w.alloc o) ∧ Iter (w.alloc o) w.heap.size v f left ∧ left.Nodup ∧ ∀ k, k ∈ left ↔ (f k).isSome = true := by
  rcases h with ⟨rfl, rfl⟩ | ⟨b, rfl, _, hlt, es, cl, hb, hs, hk, hf⟩
  · exact ⟨_, [], run_range_nilMap w T K E hT, .inl ⟨rfl, rfl, heap_alloc_new _ _⟩, List.nodup_nil, by simp⟩
  · have hks : ∀ x ∈ es.toList, x.key = .int .i64 (match x.key with | .int _ k => k | _ => 0) := fun x hx => by
      obtain ⟨k, hk⟩ := hk x hx
      rw [hk]
    have hpw := ((stamped_iff _ _).1 hs).2.2
    have hmem : ∀ k, k ∈ es.toList.map (fun x => match x.key with | .int _ k => k | _ => 0) ↔ ∃ e ∈ es.toList, e.key = .int .i64 k := by
      intro k
      rw [List.mem_map]
      constructor
      · rintro ⟨x, hx, rfl⟩
        exact ⟨x, hx, hks x hx⟩
      · rintro ⟨x, hx, hxk⟩
        exact ⟨x, hx, by rw [hxk]⟩
    have hnd : (es.toList.map (fun x : MapEntry => match x.key with | .int _ k => k | _ => 0)).Nodup := by
      rw [List.nodup_iff_pairwise_ne, List.pairwise_map]
      refine List.Pairwise.imp_of_mem (fun {a c} ha hc hac => ?_) hpw
      intro e
      exact hac (by rw [hks a ha, hks c hc, e])
    refine ⟨_, _, run_range_map w T K E b es cl hT hb, .inr ⟨b, es, cl, #[], cl, rfl, by omega, by rw [heap_alloc_old _ _ hlt]; exact hb, hs, hk, hf, heap_alloc_new _ _, Nat.le_refl _, hnd, ?_⟩, hnd, ?_⟩
    · intro k
      rw [hmem]
      simp
    · intro k
      rw [hmem, Option.isSome_iff_exists]
      constructor
      · rintro ⟨e, he, hek⟩
        exact ⟨e.val, (hf k _).2 ⟨e, he, hek, rfl⟩⟩
      · rintro ⟨u, hu⟩
        obtain ⟨e, he, hek, _⟩ := (hf k u).1 hu
        exact ⟨e, he, hek⟩

theorem Iter.next {r : Nat} {left : List Int} (h : Iter w r v f left) (ty : TypeId) :
    (left = [] ∧ (Instr.next (.pointer (some ⟨r, 0, none⟩)) false ty).run P w = .ok (.tuple #[.bool false]) w) ∨
    ∃ k u w1, k ∈ left ∧ f k = some u ∧ (Instr.next (.pointer (some ⟨r, 0, none⟩)) false ty).run P w = .ok (.tuple #[.bool true, .int .i64 k, u]) w1 ∧
      (Instr.entry (.pointer (some ⟨r, 0, none⟩))).run P w1 = .ok (.tuple #[.int .i64 k, u]) w1 ∧ Iter w1 r v f (left.erase k) ∧ w.grownBy w1 (some r) ∧ w1.heap.size = w.heap.size ∧ iterLeft w1 r v < iterLeft w r v := by
  rcases h with ⟨rfl, rfl, h⟩ | ⟨b, es, cl, seen, c0, rfl, hne, h1, h2, h3, h4, h5, h6, h7, h8⟩
  · left
    refine ⟨rfl, ?_⟩
    simp only [Instr.next, getObj, Sem.run_bind, Sem.run, h, Result.andThen]
    rfl
  · have hst := (stamped_iff _ _).1 h2
    rcases run_next_at (P := P) w ty r b cl c0 seen es cl h5 h1 (fun x hx => hst.1 x hx) h6 with ⟨h0, hrun⟩ | ⟨e, he, w1, hw1, hrun⟩
    · left
      refine ⟨List.eq_nil_iff_forall_not_mem.2 fun k hk => ?_, hrun⟩
      obtain ⟨e, he, _, hes⟩ := (h8 k).1 hk
      have : e ∈ leftOf es seen := by
        unfold leftOf
        rw [Array.mem_filter]
        exact ⟨by simpa using he, by simpa using hes⟩
      have h9 := Array.size_pos_of_mem this
      omega
    · right
      have he' : e ∈ es.toList ∧ e.born ∉ seen.toList := by
        have : e ∈ leftOf es seen := by simpa using he
        unfold leftOf at this
        rw [Array.mem_filter] at this
        exact ⟨by simpa using this.1, by simpa using this.2⟩
      obtain ⟨k, hek⟩ := h3 e he'.1
      have hb1 : w1.heap = w.heap := by rcases hw1 with rfl | rfl <;> rfl
      have hr1 : (ChangeMaps.setBlock w1 r (.mapIter (some b) cl (seen.push e.born) cl)).heap[r]? = some (.mapIter (some b) cl (seen.push e.born) cl) := (heap_set (w := w1) (hb1 ▸ h5)).1
      have hbb : (ChangeMaps.setBlock w1 r (.mapIter (some b) cl (seen.push e.born) cl)).heap[b]? = some (.map es cl) := by
        rw [← h1, ← hb1]
        exact (heap_set (w := w1) (hb1 ▸ h5)).2 b hne
      have hent := run_entry_at (P := P) _ r b cl seen es cl e hr1 hbb he'.1 hst.2.1
      rw [hek] at hrun hent
      refine ⟨k, e.val, _, (h8 k).2 ⟨e, he'.1, hek, he'.2⟩, (h4 k _).2 ⟨e, he'.1, hek, rfl⟩, hrun, hent, .inr ⟨b, es, cl, seen.push e.born, cl, rfl, hne, hbb, h2, h3, h4, hr1, Nat.le_refl _, h7.erase _, ?_⟩, ?_, ?_, ?_⟩
      · intro k'
        rw [h7.mem_erase_iff, h8]
        simp only [Array.toList_push, List.mem_append, List.mem_singleton, not_or]
        constructor
        · rintro ⟨hkk, e', he1, he2, he3⟩
          refine ⟨e', he1, he2, he3, fun hbn => ?_⟩
          have := born_inj hst.2.1 he1 he'.1 hbn
          subst this
          rw [hek] at he2
          injection he2 with _ he2
          exact hkk he2.symm
        · rintro ⟨e', he1, he2, he3, he4⟩
          refine ⟨?_, e', he1, he2, he3⟩
          rintro rfl
          exact he4 (by rw [key_inj hst.2.2 he1 he'.1 (by rw [he2, hek])])
      · have hos : w1.os = w.os ∧ w1.tape = w.tape ∧ w1.output = w.output := by rcases hw1 with rfl | rfl <;> exact ⟨rfl, rfl, rfl⟩
        refine ⟨hos.1, hos.2.1, hos.2.2, ?_, fun i hi hne' => ?_⟩
        · show w.heap.size ≤ (w1.heap.setIfInBounds _ _).size
          simp [hb1]
        · rw [← hb1]
          exact (heap_set (w := w1) (hb1 ▸ h5)).2 i (fun e => hne' (by rw [e]))
      · show (w1.heap.setIfInBounds _ _).size = w.heap.size
        simp [hb1]
      · show World.rangeLeft _ b r < World.rangeLeft w b r
        rw [rangeLeft_at hbb hr1, rangeLeft_at h1 h5]
        exact left_shrinks es seen e he
end

section
variable {P : Program} {w : World} {ops : Array Oper} {rest : List Oper} {o : Oper} {a : Act} {Q : Exit → Act → World → Prop}
/-- The range over a map. -/
theorem wpList_range_mine (hg : o.guard = none) (m : Operand) (t : TypeId) (hop : o.op = Op.range t m) (k e : TypeId) (ht : P.underlying t = some (.map k e)) (S : Nat → Prop) (v : Value) (f : Int → Option Value) (hm : a.eval m = v) (h : IsMap w S v f)
    (hK : ∀ x left, Iter (w.alloc x) w.heap.size v f left → left.Nodup → (∀ k, k ∈ left ↔ (f k).isSome = true) → wpList P ops Q rest (a.put o.dst (.pointer (some ⟨w.heap.size, 0, none⟩))) (w.alloc x)) :
    wpList P ops Q (o :: rest) a w := by
  refine wpList_plain hg fun K' hK' => ?_
  obtain ⟨x, left, hrun, h1, h2, h3⟩ := h.range ht
  unfold Oper.wp
  simp [execOp, hop, hm, hrun, Result.andThen]
  exact hK' _ _ (hK x left h1 h2 h3)
theorem wpList_next_mine (hg : o.guard = none) (it : Operand) (hop : o.op = Op.next it false) (r : Nat) (v : Value) (f : Int → Option Value) (left : List Int) (hit : a.eval it = .pointer (some ⟨r, 0, none⟩)) (h : Iter w r v f left)
    (hDone : left = [] → wpList P ops Q rest (a.put o.dst (.tuple #[.bool false])) w)
    (hMore : ∀ k u w1, k ∈ left → f k = some u → (Instr.entry (.pointer (some ⟨r, 0, none⟩))).run P w1 = .ok (.tuple #[.int .i64 k, u]) w1 → Iter w1 r v f (left.erase k) → w.grownBy w1 (some r) → w1.heap.size = w.heap.size → iterLeft w1 r v < iterLeft w r v →
      wpList P ops Q rest (a.put o.dst (.tuple #[.bool true, .int .i64 k, u])) w1) :
    wpList P ops Q (o :: rest) a w := by
  refine wpList_plain hg fun K' hK' => ?_
  unfold Oper.wp
  rcases h.next (P := P) o.type with ⟨h0, hrun⟩ | ⟨k, u, w1, h1, h2, hrun, h3, h4, h5, h6, h7⟩
  · simp [execOp, hop, hit, hrun, Result.andThen]
    exact hK' _ _ (hDone h0)
  · simp [execOp, hop, hit, hrun, Result.andThen]
    exact hK' _ _ (hMore k u w1 h1 h2 h3 h4 h5 h6 h7)
theorem wpList_mapUpdate_mine (hg : o.guard = none) (m x v : Operand) (t : TypeId) (hop : o.op = Op.mapUpdate t m x v) (k e : TypeId) (ht : P.underlying t = some (.map k e)) (hk : P.underlying k = some (.int .i64)) (b : Nat) (f : Int → Option Value) (h : IntMap w b f)
    (hm : a.eval m = .map (some b)) (i : Int) (hx : a.eval x = .int .i64 i) (u : Value) (hv : a.eval v = u)
    (hK : ∀ w', IntMap w' b (upd f i u) → w.grownBy w' (some b) → w'.heap.size = w.heap.size → wpList P ops Q rest (a.put o.dst undef) w') :
    wpList P ops Q (o :: rest) a w := by
  refine wpList_plain hg fun K' hK' => ?_
  obtain ⟨w', hrun, r1, r2, r3⟩ := h.store ht hk i u
  unfold Oper.wp
  simp [execOp, hop, hm, hx, hv, hrun, Result.andThen]
  exact hK' _ _ (hK w' r1 r2 r3)
theorem wpList_lookup_mine (hg : o.guard = none) (m x : Operand) (t : TypeId) (c : Bool) (hop : o.op = Op.lookup t m x c) (k e : TypeId) (ht : P.underlying t = some (.map k e)) (hk : P.underlying k = some (.int .i64)) (z : Value) (hz : ∀ w, (zeroValue e).run P w = .ok z w)
    (S : Nat → Prop) (v : Value) (f : Int → Option Value) (h : IsMap w S v f) (hm : a.eval m = v) (i : Int) (hx : a.eval x = .int .i64 i)
    (hK : wpList P ops Q rest (a.put o.dst (if c then .tuple #[(f i).getD z, .bool (f i).isSome] else (f i).getD z)) w) :
    wpList P ops Q (o :: rest) a w := by
  refine wpList_plain hg fun K' hK' => ?_
  have hrun := h.look ht hk hz i c
  unfold Oper.wp
  simp [execOp, hop, hm, hx, hrun, Result.andThen]
  exact hK' _ _ hK
end
end Go.Proofs.YtkloaopjlbinpaaGreat
