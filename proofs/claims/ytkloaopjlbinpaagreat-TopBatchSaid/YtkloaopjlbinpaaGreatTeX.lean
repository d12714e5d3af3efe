/- Map entries: an entry is sought, then stored to. A pair of indices behind a row. No condition. -/
import Derived.Test.YtkloaopjlbinpaaGreatTeV
import Derived.WideKeyEntry
set_option linter.unusedVariables false
set_option linter.unusedSimpArgs false
namespace Go.Proofs.YtkloaopjlbinpaaGreat
open Go.RowKit Go.MapKept

section
variable {P : Program} {w : World} {b : Nat} {f : Int → Option Value} {T K E : TypeId} {z : Value}
theorem IntMap.entry (h : IntMap w b f) (hT : P.underlying T = some (.map K E)) (hK : P.underlying K = some (.int .i64)) (hz : ∀ w, (zeroValue E).run P w = .ok z w) (k : Int) (v : Value) :
    ∃ w1 v0 st, (Instr.mapEntry T (.map (some b)) (.int .i64 k)).run P w = .ok (.tuple #[v0, .int .i64 st]) w1 ∧ w.grownBy w1 (some b) ∧ w1.heap.size = w.heap.size ∧
      ∀ w2 : World, w2.heap[b]? = w1.heap[b]? → ∃ w3, (Instr.entryStore T (.map (some b)) (.int .i64 st) v).run P w2 = .ok () w3 ∧ IntMap w3 b (upd f k v) ∧ w2.grownBy w3 (some b) ∧ w3.heap.size = w2.heap.size := by
  obtain ⟨w', hrun, hm', -, -⟩ := h.store hT hK k v
  obtain ⟨es, cl, hb, hs, hks, hr⟩ := h.find k
  have hc : ∀ e, (Instr.checkKey e 10000 K (.int .i64 k)).run P w = .ok () w := fun e => run_checkKey (d := .int .i64) (k := .int .i64 k) hK rfl e 9999
  have hkeep : ∀ (u : World) (o p : Obj), u.heap[b]? = some p → u.grownBy { u with heap := u.heap.setIfInBounds b o } (some b) := fun u o p hp =>
    ⟨rfl, rfl, rfl, by simp, fun i hi hne => (heap_set hp).2 i (fun e => hne (by rw [e]))⟩
  rcases hr with ⟨h1, h2, h3⟩ | ⟨j, e, h1, h2, h3, h4⟩
  · have e1 : (Instr.mapUpdate T (.map (some b)) (.int .i64 k) v).run P w = .ok () { w with heap := w.heap.setIfInBounds b (.map (es.push { key := .int .i64 k, val := v, born := cl }) (cl + 1)) } := by simp [Instr.mapUpdate, run_underlying hT, MapKept.run_getObj_map hb, hc, run_findKey hK h2, run_setObj_map _ hb, Result.andThen]
    rw [e1] at hrun
    injection hrun with _ hrun
    subst hrun
    refine ⟨{ w with heap := w.heap.setIfInBounds b (.map (es.push { key := .int .i64 k, val := z, born := cl }) (cl + 1)) }, z, cl, by simp [Instr.mapEntry, run_underlying hT, MapKept.run_getObj_map hb, hc, run_findKey hK h2, hz, run_setObj_map _ hb, Result.andThen, goInt], hkeep _ _ _ hb, by simp, fun w2 e2 => ?_⟩
    have hw2 : w2.heap[b]? = some (.map (es.push { key := .int .i64 k, val := z, born := cl }) (cl + 1)) := e2.trans (heap_set hb).1
    have hidx : (es.push { key := .int .i64 k, val := z, born := cl }).findIdx? (fun e => ((e.born : Nat) : Int) == ((cl : Nat) : Int)) = some es.size := by
      rw [WideElems.findIdx_arr]
      exact WideElems.findIdx_born (stamped_push hs h3).2.1 (j := es.size) (e0 := { key := .int .i64 k, val := z, born := cl }) (by simp)
    have hmod : (es.push { key := .int .i64 k, val := z, born := cl }).modify es.size (fun e => { e with val := v }) = es.push { key := .int .i64 k, val := v, born := cl } := by
      apply Array.ext'
      rw [Array.toList_modify, Array.toList_push, Array.toList_push, ← Array.length_toList, WideElems.modify_last]
    exact ⟨{ w2 with heap := w2.heap.setIfInBounds b (.map (es.push { key := .int .i64 k, val := v, born := cl }) (cl + 1)) }, by simp [Instr.entryStore, MapKept.run_getObj_map hw2, asInt, asIntOf, hidx, hmod, MapKept.run_setObj_map _ hw2, Result.andThen], hm'.keep ((heap_set hw2).1.trans (heap_set hb).1.symm), hkeep _ _ _ hw2, by simp⟩
  · have hj : es[j]? = some e := h2
    have hj2 : es.toList[j]? = some e := by simpa using hj
    have e1 : (Instr.mapUpdate T (.map (some b)) (.int .i64 k) v).run P w = .ok () { w with heap := w.heap.setIfInBounds b (.map (es.modify j fun e => { e with key := .int .i64 k, val := v }) cl) } := by simp [Instr.mapUpdate, run_underlying hT, MapKept.run_getObj_map hb, hc, run_findKey hK h1, hj, h3, run_keyThatStays (d := .int .i64) (k := .int .i64 k) rfl, run_setObj_map _ hb, Result.andThen]
    rw [e1] at hrun
    injection hrun with _ hrun
    subst hrun
    refine ⟨{ w with heap := w.heap.setIfInBounds b (.map (es.modify j fun e => { e with key := .int .i64 k }) cl) }, e.val, e.born, by simp [Instr.mapEntry, run_underlying hT, MapKept.run_getObj_map hb, hc, run_findKey hK h1, hj, h3, run_keyThatStays (d := .int .i64) (k := .int .i64 k) rfl, run_setObj_map _ hb, Result.andThen, goInt]; try exact h4, hkeep _ _ _ hb, by simp, fun w2 e2 => ?_⟩
    have hsame : es.modify j (fun e => { e with key := .int .i64 k }) = es := by
      apply Array.ext'
      rw [Array.toList_modify, ChangeMaps.modify_eq_set _ _ _ _ hj2]
      have : ({ e with key := .int .i64 k } : MapEntry) = e := by rw [← h3]
      rw [this]
      exact WideElems.set_self _ _ _ hj2
    have hw2 : w2.heap[b]? = some (.map es cl) := by rw [e2, hsame]; exact (heap_set hb).1
    have hidx : es.findIdx? (fun x => ((x.born : Nat) : Int) == ((e.born : Nat) : Int)) = some j := by
      rw [WideElems.findIdx_arr]
      exact WideElems.findIdx_born hs.2.1 hj2
    have hmod : es.modify j (fun e => { e with val := v }) = es.modify j (fun e' => { e' with key := .int .i64 k, val := v }) := by
      apply Array.ext'
      rw [Array.toList_modify, Array.toList_modify, ChangeMaps.modify_eq_set _ _ _ _ hj2, ChangeMaps.modify_eq_set _ _ _ _ hj2, ← h3]
    exact ⟨{ w2 with heap := w2.heap.setIfInBounds b (.map (es.modify j fun e' => { e' with key := .int .i64 k, val := v }) cl) }, by simp [Instr.entryStore, MapKept.run_getObj_map hw2, asInt, asIntOf, hidx, hmod, MapKept.run_setObj_map _ hw2, Result.andThen], hm'.keep ((heap_set hw2).1.trans (heap_set hb).1.symm), hkeep _ _ _ hw2, by simp⟩
end
section
variable {P : Program} {w : World} {o : Oper} {a : Act} {K : Act → World → Prop} {Q : Exit → Act → World → Prop}
theorem step_entry (m x : Operand) {T : TypeId} (hop : o.op = Op.mapEntry T m x) {mv kv v : Value} {w1 : World} (hm : a.eval m = mv) (hx : a.eval x = kv) (hrun : (Instr.mapEntry T mv kv).run P w = .ok v w1) (h : K (a.put o.dst v) w1) : o.wp P a w K Q := by
  unfold Oper.wp
  simp [execOp, hop, hm, hx, hrun, Result.andThen]
  exact h
theorem step_store (m s x : Operand) {T : TypeId} (hop : o.op = Op.entryStore T m s x) {mv sv xv : Value} {w1 : World} (hm : a.eval m = mv) (hs : a.eval s = sv) (hx : a.eval x = xv) (hrun : (Instr.entryStore T mv sv xv).run P w = .ok () w1) (h : K (a.put o.dst undef) w1) : o.wp P a w K Q := by
  unfold Oper.wp
  simp [execOp, hop, hm, hs, hx, hrun, Result.andThen]
  exact h
end
def twoC (p : Nat × Nat) : List Value := [.int .i64 p.1, .int .i64 p.2]
theorem two_info3 : (Tryz.prog.info? 88).map (fun i => (i.zero, i.size, i.bytes)) = some (some (.agg #[.int .i64 0, .int .i64 0]), 2, 16) := by kernel_rfl
theorem two_info : ∃ i, Tryz.prog.info? 88 = some i ∧ i.zero = some (.agg #[.int .i64 0, .int .i64 0]) ∧ i.size = 2 ∧ i.bytes = 16 := by
  obtain ⟨i, h1, h2⟩ := Option.map_eq_some_iff.1 two_info3
  injection h2 with h2 h3
  injection h3 with h3 h4
  exact ⟨i, h1, h2, h3, h4⟩
/-- append of one pair onto a row of the call's own. -/
theorem app_two {w : World} {base : Nat} {v : Value} {l : List (Nat × Nat)} (h : w.ownsRow base 88 2 v l.length (l.flatMap twoC)) (hl : l.length ≤ 100000) (hb : base ≤ w.heap.size) (p : Nat × Nat) (ty : TypeId) :
    ∃ A c w', (Builtin.append_ #[84, 84] ty #[v, .slice (some ⟨w.heap.size, 0, none⟩) 1 1]).run Tryz.prog (w.alloc (.cells #[.int .i64 p.1, .int .i64 p.2] 88)) = .ok (.slice A (l.length + 1) c) w' ∧
      w'.ownsRow base 88 2 (.slice A (l.length + 1) c) (l ++ [p]).length ((l ++ [p]).flatMap twoC) ∧ KX (fun b => v.ownBlock = some b) w w' ∧ ((Value.slice A (l.length + 1) c).ownBlock = v.ownBlock ∨ ∃ q, (Value.slice A (l.length + 1) c).ownBlock = some q ∧ w.heap.size < q) := by
  have hb1 := below_alloc w (.cells #[.int .i64 p.1, .int .i64 p.2] 88)
  have hR : Reads (w.alloc (.cells #[.int .i64 p.1, .int .i64 p.2] 88)) (fun _ => True) 2 (some ⟨w.heap.size, 0, none⟩) 1 [.int .i64 p.1, .int .i64 p.2] := Reads.new w #[.int .i64 p.1, .int .i64 p.2] _ rfl trivial
  obtain ⟨i, i1, i2, i3, i4⟩ := two_info
  obtain ⟨v', w', run, e2, e3, e4⟩ := run_append_any (P := Tryz.prog) (w.alloc (.cells #[.int .i64 p.1, .int .i64 p.2] 88)) base 84 ty 88 i _ 2 16 Tryz.underlying84 i1 i2 i3 i4 rfl (by omega) v l.length _ (World.ownsRow.kept h (below_grown hb1 none) (by cases v.ownBlock <;> simp)) (fun _ => True) _ 1 1 _ hR (by simp [Value.oneCell']) (by unfold maxLen; omega) (by omega) (Nat.le_trans hb hb1.size)
  obtain ⟨A, c, rfl, -, -, -⟩ := own_reads (S := fun _ => True) e2 (fun _ _ => trivial)
  refine ⟨A, c, w', run, ?_, (KX.of_below hb1).trans (KX.of_grown e3 fun k h => h), ?_⟩
  · rw [List.length_append, List.length_singleton, List.flatMap_append]; exact e2
  · rcases e4 with e | e
    · exact .inl e
    · exact .inr ⟨_, e, by rw [World.size_alloc]; omega⟩
end Go.Proofs.YtkloaopjlbinpaaGreat
