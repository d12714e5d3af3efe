/- The six words and the puts in memory; the walk of the law's made. Conditions: at most 60 puts; the versions are at most 2^31. -/
import Derived.Test.YtilapnejkdgomaaDoorEnM
import Derived.Deep.RegionHeld3
import Derived.Great.BuildSlice
import Derived.Laws.Tables
set_option linter.unusedVariables false
set_option linter.unusedSimpArgs false
namespace Go.Proofs.YtilapnejkdgomaaDoor
open Go.RowKit

section
variable {P : Program} {ops : Array Oper} {rest : List Oper} {a : Act} {w : World} {Q : Exit → Act → World → Prop} {d : Option Tmp} {ty t : TypeId} {pos : String} {x y : Operand}
theorem at_store_ {aft} {g} (h : wpList P ops Q (⟨d, .store t x y, ty, pos, aft, g⟩ :: rest) a w) : wpList P ops Q (⟨d, .store t x y, ty, pos, aft, g⟩ :: rest) a w := h
theorem at_load_ {aft} {g} (h : wpList P ops Q (⟨d, .load t x, ty, pos, aft, g⟩ :: rest) a w) : wpList P ops Q (⟨d, .load t x, ty, pos, aft, g⟩ :: rest) a w := h
theorem at_alloc_ {aft} {g} (h : wpList P ops Q (⟨d, .alloc t, ty, pos, aft, g⟩ :: rest) a w) : wpList P ops Q (⟨d, .alloc t, ty, pos, aft, g⟩ :: rest) a w := h
theorem at_box_ {aft} {g} (h : wpList P ops Q (⟨d, .box t x, ty, pos, aft, g⟩ :: rest) a w) : wpList P ops Q (⟨d, .box t x, ty, pos, aft, g⟩ :: rest) a w := h
theorem wpList_box_mine {o : Oper} (hg : o.guard = none) (t : TypeId) (x : Operand) (ho : o.op = .box t x) (dst : Option Tmp) (hd : o.dst = dst)
    (cs : Array Value) (hx : a.eval x = .agg cs) (hi : (P.info? t).map (·.size) = some cs.size)
    (h : wpList P ops Q rest (a.put dst (.pointer (some ⟨w.heap.size, 0, none⟩))) (w.alloc (.cells cs t))) : wpList P ops Q (o :: rest) a w := by
  subst hd
  refine wpList_plain hg fun K hK => ?_
  unfold Oper.wp execOp
  simp only [ho]
  cases hq : P.info? t with
  | none => simp [hq] at hi
  | some i =>
    have hs : i.size = cs.size := by simpa [hq] using hi
    simp [Instr.box, hx, Value.cells, hs, sizeOf, typeInfo, hq, Result.andThen]
    exact hK _ _ h
theorem wpList_alloc_mine {o : Oper} (hg : o.guard = none) (t : TypeId) (ho : o.op = .alloc t) (dst : Option Tmp) (hd : o.dst = dst)
    (cs : Array Value) (hz : ∀ w, (zeroValue t).run P w = .ok (.agg cs) w) (hc : (Value.agg cs).cells = cs)
    (h : wpList P ops Q rest (a.put dst (.pointer (some ⟨w.heap.size, 0, none⟩))) (w.alloc (.cells cs t))) : wpList P ops Q (o :: rest) a w := by
  subst hd
  refine wpList_plain hg fun K hK => ?_
  unfold Oper.wp execOp
  simp only [ho]
  simp [Instr.alloc, hz, hc, Result.andThen]
  exact hK _ _ h
end
/-- Block q holds the cells cs, and may be written. -/
def Blk (w : World) (q : Nat) (t : TypeId) (cs : List Value) : Prop := w.heap[q]? = some (.cells cs.toArray t (0, 0))
section
variable {w w' : World} {q : Nat} {t : TypeId} {cs : List Value}
theorem Blk.lt (h : Blk w q t cs) : q < w.heap.size := (Array.getElem?_eq_some_iff.1 h).1
theorem Blk.below (h : Blk w q t cs) (hb : Below w.heap.size w w') : Blk w' q t cs := (hb.block _ h.lt).trans h
theorem Blk.keep {S : Nat → Prop} (h : Blk w q t cs) (k : Keep S w w') (hS : ¬ S q) : Blk w' q t cs := (k.other q h.lt hS).trans h
theorem Blk.grown (h : Blk w q t cs) {row : Option Nat} (hg : w.grownBy w' row) (hr : some q ≠ row) : Blk w' q t cs := (hg.block q h.lt hr).trans h
theorem Blk.cell (h : Blk w q t cs) {j : Nat} {v : Value} (hv : cs[j]? = some v) : w.cell? ⟨q, j, none⟩ = some v := by
  rw [cell_of_row _ _ _ _ _ _ h, List.getElem?_toArray]; exact hv
theorem Blk.free (h : Blk w q t cs) (j : Nat) : w.frozen? ⟨q, j, none⟩ = false := by
  simp only [World.frozen?]; rw [show w.heap[q]? = _ from h]; simp
theorem Blk.range (h : Blk w q t cs) {o : Nat} {vs : List Value} (hv : ∀ j v, vs[j]? = some v → cs[o + j]? = some v) : w.rangeAt q o vs := fun j v hj => h.cell (hv j v hj)
theorem Blk.there (h : Blk w q t cs) {o n : Nat} (hn : o + n ≤ cs.length) : w.there q o n := fun j hj => ⟨by rw [h.cell (List.getElem?_eq_getElem (show o + j < cs.length by omega))]; rfl, h.free _⟩
theorem Blk.setCell (h : Blk w q t cs) (o : Nat) (v : Value) : Blk (w.setCell ⟨q, o, none⟩ v) q t (cs.set o v) := by
  have := Go.heap_setCell_same w q o cs.toArray t v h
  rw [List.setIfInBounds_toArray] at this
  exact this
/-- The cells from o on, replaced. -/
def splice : List Value → Nat → List Value → List Value
  | cs, _, [] => cs
  | cs, o, v :: r => splice (cs.set o v) (o + 1) r
theorem Blk.setCells (vs : List Value) : ∀ {w : World} {cs : List Value} (o : Nat), Blk w q t cs → Blk (w.setCells q o vs) q t (splice cs o vs) := by
  induction vs with
  | nil => intro w cs o h; exact h
  | cons v r ih => intro w cs o h; exact ih (o + 1) (h.setCell o v)
theorem Blk.new {cs : Array Value} : Blk (w.alloc (.cells cs t)) w.heap.size t cs.toList := by
  unfold Blk
  rw [Array.toArray_toList]
  exact heap_alloc_new _ _
end
/-- The cells of words whose references are 0. -/
def wC (ws : List (Int × Int)) : List Value := ws.flatMap fun p => [.int .i64 p.1, .int .u32 p.2, .int .u32 0]
def wV (ws : List (Int × Int)) : Value := .agg (wC ws).toArray
theorem wC_len (ws : List (Int × Int)) : (wC ws).length = ws.length * 3 := by
  induction ws with
  | nil => rfl
  | cons a t ih => simp only [wC, List.flatMap_cons, List.length_append, List.length_cons, List.length_nil] at *; omega
theorem wC_at : ∀ (ws : List (Int × Int)) (i : Nat) (h : i < ws.length) (j : Nat) (hj : j < 3), (wC ws)[i * 3 + j]? = [Value.int .i64 ws[i].1, .int .u32 ws[i].2, .int .u32 0][j]?
  | a :: t, 0, _, j, hj => by
    simp only [wC, List.flatMap_cons, Nat.zero_mul, Nat.zero_add, List.getElem_cons_zero]
    rw [List.getElem?_append_left (by simpa using hj)]
  | a :: t, k + 1, h, j, hj => by
    have := wC_at t k (by simpa using h) j hj
    simp only [wC, List.flatMap_cons, List.getElem_cons_succ] at *
    rw [List.getElem?_append_right (by simp; omega), ← this]
    congr 1
    simp; omega
theorem splice_len (vs : List Value) : ∀ (cs : List Value) (o : Nat), (splice cs o vs).length = cs.length := by
  induction vs with
  | nil => intro cs o; rfl
  | cons v r ih => intro cs o; show (splice (cs.set o v) (o + 1) r).length = _; rw [ih, List.length_set]
theorem splice_app (vs : List Value) : ∀ (a cs : List Value) (o : Nat), splice (a ++ cs) (a.length + o) vs = a ++ splice cs o vs := by
  induction vs with
  | nil => intro a cs o; rfl
  | cons v r ih =>
    intro a cs o
    show splice ((a ++ cs).set (a.length + o) v) (a.length + o + 1) r = _
    rw [List.set_append_right _ _ (by omega), Nat.add_sub_cancel_left, Nat.add_assoc, ih]
    rfl
theorem wC_set : ∀ (ws : List (Int × Int)) (i : Nat) (h : i < ws.length) (p : Int × Int), splice (wC ws) (i * 3) [.int .i64 p.1, .int .u32 p.2, .int .u32 0] = wC (ws.set i p)
  | a :: t, 0, _, p => rfl
  | a :: t, k + 1, h, p => by
    have ih := wC_set t k (by simpa using h) p
    have e : wC (a :: t) = [.int .i64 a.1, .int .u32 a.2, .int .u32 0] ++ wC t := rfl
    rw [e, show (k + 1) * 3 = [Value.int .i64 a.1, .int .u32 a.2, .int .u32 0].length + k * 3 by simp; omega, splice_app, ih]
    rfl
theorem splice_all : ∀ (vs cs : List Value), cs.length = vs.length → splice cs 0 vs = vs
  | [], cs, h => List.eq_nil_of_length_eq_zero h
  | u :: vs, [], h => by simp at h
  | u :: vs, v :: cs, h => by
    show splice ([u] ++ cs) ([u].length + 0) vs = _
    rw [splice_app, splice_all vs cs (by simpa using h)]
    rfl
/-- A variable that holds the words. -/
abbrev WB (w : World) (q : Nat) (ws : List (Int × Int)) : Prop := Blk w q 38 (wC ws)
theorem Tryd.sizeW : (Tryd.prog.info? 38).map (·.size) = some 18 := by kernel_rfl
theorem sizeW (ws : List (Int × Int)) (h : ws.length = 6) : (Tryd.prog.info? 38).map (·.size) = some (wC ws).toArray.size := by
  rw [Tryd.sizeW, List.size_toArray, wC_len, h]
theorem wC_ones (ws : List (Int × Int)) : (wC ws).toArray.all (·.oneCell') = true := by
  rw [List.all_toArray, List.all_eq_true]
  intro u hu
  obtain ⟨p, _, hp⟩ := List.mem_flatMap.1 hu
  simp only [List.mem_cons, List.mem_nil_iff, or_false] at hp
  rcases hp with rfl | rfl | rfl <;> rfl
def ws0 : List (Int × Int) := [(0, 0), (0, 0), (0, 0), (0, 0), (0, 0), (0, 0)]
theorem zeroW : ∀ w, (zeroValue 38).run Tryd.prog w = .ok (.agg (wC ws0).toArray) w := fun w => by kernel_rfl
theorem WB.word {w : World} {q : Nat} {ws : List (Int × Int)} (h : WB w q ws) {i : Nat} (hi : i < ws.length) : w.cell? ⟨q, i * 3, none⟩ = some (.int .i64 ws[i].1) ∧ w.cell? ⟨q, i * 3 + 1, none⟩ = some (.int .u32 ws[i].2) ∧ w.cell? ⟨q, i * 3 + 2, none⟩ = some (.int .u32 0) := by
  refine ⟨?_, ?_, ?_⟩
  · have := wC_at ws i hi 0 (by omega); rw [Nat.add_zero] at this; exact h.cell this
  · exact h.cell (wC_at ws i hi 1 (by omega))
  · exact h.cell (wC_at ws i hi 2 (by omega))
section
variable {ops : Array Oper} {rest : List Oper} {a : Act} {w : World} {Q : Exit → Act → World → Prop} {o : Oper} {ws : List (Int × Int)}
theorem wb_box (hg : o.guard = none) (x : Operand) (ho : o.op = .box 38 x) (hl : ws.length = 6) (hx : a.eval x = wV ws)
    (h : ∀ w', WB w' w.heap.size ws → Below w.heap.size w w' → w'.heap.size = w.heap.size + 1 → wpList Tryd.prog ops Q rest (a.put o.dst (.pointer (some ⟨w.heap.size, 0, none⟩))) w') : wpList Tryd.prog ops Q (o :: rest) a w :=
  wpList_box_mine hg _ x ho _ rfl (wC ws).toArray hx (sizeW ws hl) (h _ (heap_alloc_new _ _) ((Below.refl _ _).alloc (Nat.le_refl _) _) (by simp))
theorem wb_alloc (hg : o.guard = none) (ho : o.op = .alloc 38)
    (h : ∀ w', WB w' w.heap.size ws0 → Below w.heap.size w w' → w'.heap.size = w.heap.size + 1 → wpList Tryd.prog ops Q rest (a.put o.dst (.pointer (some ⟨w.heap.size, 0, none⟩))) w') : wpList Tryd.prog ops Q (o :: rest) a w :=
  wpList_alloc_mine hg _ ho _ rfl (wC ws0).toArray zeroW rfl (h _ (heap_alloc_new _ _) ((Below.refl _ _).alloc (Nat.le_refl _) _) (by simp))
theorem wb_load (hg : o.guard = none) (x : Operand) (ho : o.op = .load 38 x) (hl : ws.length = 6) (g : Nat) (hx : a.eval x = .pointer (some ⟨g, 0, none⟩)) (hb : WB w g ws)
    (h : wpList Tryd.prog ops Q rest (a.put o.dst (wV ws)) w) : wpList Tryd.prog ops Q (o :: rest) a w :=
  wpList_load_row hg _ x ho g hx _ _ _ _ hb Tryd.underlying38 rfl (sizeW ws hl) h
theorem wb_store {old : List (Int × Int)} (hg : o.guard = none) (x y : Operand) (ho : o.op = .store 38 x y) (hd : o.dst = none) (hl : ws.length = 6) (hl0 : old.length = 6) (g : Nat) (hx : a.eval x = .pointer (some ⟨g, 0, none⟩)) (hy : a.eval y = wV ws) (hb : WB w g old)
    (h : ∀ w', WB w' g ws → Keep (fun k => k = g) w w' → w'.heap.size = w.heap.size → wpList Tryd.prog ops Q rest a w') : wpList Tryd.prog ops Q (o :: rest) a w := by
  refine wpList_store_rowTo hg _ x y ho hd g _ hx hy _ _ hb (sizeW ws hl) (by rw [List.size_toArray, List.size_toArray, wC_len, wC_len, hl, hl0]) (wC_ones ws) ?_
  refine h _ (setRow_heap _ _ _ _ _ _ hb) ⟨rfl, rfl, rfl, Nat.le_of_eq (by simp [World.setRow]), fun k _ hk => setRow_other _ _ _ _ hk, fun b cur e fz hb' => ?_⟩ (by simp [World.setRow])
  by_cases e1 : b = g
  · subst e1
    have h2 := hb'.symm.trans hb
    injection h2 with h2
    injection h2 with h3 h4 h5
    subst h3 h4 h5
    exact ⟨_, setRow_heap _ _ _ _ _ _ hb, by rw [List.size_toArray, List.size_toArray, wC_len, wC_len, hl, hl0]⟩
  · exact ⟨cur, (setRow_other _ _ _ _ e1).trans hb', rfl⟩
end
/-- A put's cells. -/
def pC (p : Put) : List Value := [.int .u8 (p.at_ : Int), .int .i64 p.new, .bool p.wr]
def Puts (w : World) (S : Nat → Prop) (A : Option Addr) (n : Nat) (l : List Put) : Prop := n = l.length ∧ Reads w S 3 A n (l.flatMap pC)
theorem flatP_at : ∀ (l : List Put) (i : Nat) (h : i < l.length) (j : Nat) (hj : j < 3), (l.flatMap pC)[3 * i + j]? = (pC l[i])[j]?
  | a :: t, 0, _, j, hj => by
    simp only [List.flatMap_cons, Nat.mul_zero, Nat.zero_add, List.getElem_cons_zero]
    rw [List.getElem?_append_left (by simpa [pC] using hj)]
  | a :: t, k + 1, h, j, hj => by
    have := flatP_at t k (by simpa using h) j hj
    simp only [List.flatMap_cons, List.getElem_cons_succ] at *
    rw [List.getElem?_append_right (by simp [pC]; omega), ← this]
    congr 1
    simp [pC]; omega
theorem Puts.below {w w' : World} {S : Nat → Prop} {A : Option Addr} {n : Nat} {l : List Put} (h : Puts w S A n l) (hb : Below w.heap.size w w') : Puts w' S A n l := ⟨h.1, h.2.below hb⟩
theorem Puts.at {w : World} {S : Nat → Prop} {n : Nat} {A : Option Addr} {l : List Put} (h : Puts w S A n l) (i : Nat) (hi : i < n) :
    ∃ y b o, l[i]? = some y ∧ A = some ⟨b, o, none⟩ ∧ b < w.heap.size ∧ ∀ w', Below w.heap.size w w' → w'.cell? ⟨b, o + i * 3, none⟩ = some (.int .u8 (y.at_ : Int)) ∧ w'.cell? ⟨b, o + i * 3 + 1, none⟩ = some (.int .i64 y.new) ∧ w'.cell? ⟨b, o + i * 3 + 2, none⟩ = some (.bool y.wr) := by
  obtain ⟨h0, h1, h2⟩ := h
  have hil : i < l.length := by omega
  obtain ⟨b, o, e, hb, hS, hc⟩ := h2 (by omega)
  refine ⟨l[i], b, o, List.getElem?_eq_getElem hil, e, hb, fun w' hb' => ?_⟩
  have g := fun (j : Nat) (u : Value) (hj : j < 3) (hu : (pC l[i])[j]? = some u) => (hb'.cell (p := ⟨b, o + (3 * i + j), none⟩) hb).trans (hc (3 * i + j) u ((flatP_at l i hil j hj).trans hu))
  have e1 : ∀ j, o + (3 * i + j) = o + i * 3 + j := fun j => by omega
  refine ⟨?_, ?_, ?_⟩
  · have := g 0 _ (by omega) rfl; rwa [e1] at this
  · have := g 1 _ (by omega) rfl; rwa [e1] at this
  · have := g 2 _ (by omega) rfl; rwa [e1] at this

theorem yields_wd {ops : Array Oper} {S : World → Prop} {op : Oper} {a : Act} {v n r : Int} (hw : Region.wanted op (yielded ops a.tmps) = true) (p : Operand) (ho : op.op = .load 37 p) (q o : Nat) (hx : a.eval p = .pointer (some ⟨q, o, none⟩))
    (hS : ∀ W, S W → W.cell? ⟨q, o, none⟩ = some (.int .i64 v) ∧ W.cell? ⟨q, o + 1, none⟩ = some (.int .u32 n) ∧ W.cell? ⟨q, o + 2, none⟩ = some (.int .u32 r)) : YieldsIf Tryd.prog ops S op (.agg #[.int .i64 v, .int .u32 n, .int .u32 r]) a :=
  yieldsIf_load_mid hw _ p ho q o hx [.int .i64 v, .int .u32 n, .int .u32 r] _ (fun w h j u hu => by
    obtain ⟨h0, h1, h2⟩ := hS w h
    rcases j with _ | _ | _ | j
    · injection hu with hu; subst hu; exact h0
    · injection hu with hu; subst hu; exact h1
    · injection hu with hu; subst hu; exact h2
    · simp at hu) Tryd.underlying37 rfl Tryd.size37

theorem results_tmp_cell {P : Program} {fn : Func} {p1 p : Tmp} {ty : TypeId} (h : fn.results = #[.tmp p1, .cell p ty]) (tmps : Array Value) (w : World) (g : Nat) (t : TypeId) (cs : Array Value) (fr : Nat × Nat) (d : TypeDesc)
    (hp : tmps.getD p undef = .pointer (some ⟨g, 0, none⟩)) (hg : w.heap[g]? = some (.cells cs t fr))
    (hu : P.underlying ty = some d) (hd : (match d with | .struct _ | .array _ _ => true | _ => false) = true) (hi : (P.info? ty).map (·.size) = some cs.size) :
    (results fn tmps).run P w = .ok (.tuple #[tmps.getD p1 undef, .agg cs]) w := by
  have hp' : tmps[p]?.getD undef = .pointer (some ⟨g, 0, none⟩) := by simpa using hp
  simp [results, h, hp', asAddr, run_loadVar_row w g t ty cs fr d hg hu hd hi]
/-- The entry that made builds first. -/
theorem mk_take {ws : List (Int × Int)} {l : List Put} {k : Nat} {p : Put} (h : l[k]? = some p) : mk ws (l.take (k + 1)) = mkStep ws (mk ws (l.take k)) p := by
  rw [List.take_add_one, h]
  exact mk_snoc _ _ _
theorem any_take {O : List Ent} {j : Nat} {z : Ent} {i : Int} (h : O[j]? = some z) : ((O.take (j + 1)).any fun y => y.loc == i) = (((O.take j).any fun y => y.loc == i) || z.loc == i) := by
  rw [List.take_add_one, h, List.any_append]; simp
set_option maxRecDepth 100000 in
set_option maxHeartbeats 12800000 in
theorem made_any {S : Nat → Prop} (A : Option Addr) (m c : Nat) (l : List Put) (ws : List (Int × Int)) (w : World) (hl : Puts w S A m l) (hws : ws.length = 6) (hv : VerB ws 2147483648) (hm : m ≤ 60) (hc : m ≤ c) (hp : ∀ p ∈ l, p.at_ < 256) :
    Calls Tryd.prog 18 #[wV ws, .slice A m c] w fun e w' => ∃ v, e = .returned (.tuple #[v, wV (mk ws l).2]) ∧ OwnE w' w.heap.size v (mk ws l).1 ∧ Below w.heap.size w w' := by
  have HLN := Lib.hid hl.1
  have HL := Lib.hid hl
  have HW6 := Lib.hid hws
  have HV := Lib.hid hv
  have HP := Lib.hid hp
  have hci : (m : Int) ≤ (c : Int) := by omega
  have HM := Lib.hid hm
  have hmi : (m : Int) ≤ 60 := by omega
  clear hl hws hv hp hm
  go_enter Tryd.func18, Tryd.ntmps18
  go_wp2_with (with_reducible refine at_box_ (t := 38) ?_; refine Hid.out ?_)
  refine Lib.hid ?_
  refine wb_box rfl _ rfl HW6.out rfl ?_
  intro w1 hx hb hs
  have P2 := Lib.hid hx
  have HB1 := Lib.hid hb
  have HS1 := Lib.hid hs
  clear hx hb hs
  go_wp2_with (with_reducible refine at_alloc_ (t := 38) ?_; refine Hid.out ?_)
  refine Lib.hid ?_
  refine wb_alloc rfl rfl ?_
  intro w2 hx hb hs
  have P5 := Lib.hid hx
  have P2b := Lib.hid (P2.out.below hb)
  have HB2 := Lib.hid (HB1.out.trans (hb.mono HB1.out.size))
  obtain ⟨q5, hq⟩ : ∃ q, q = w1.heap.size := ⟨_, rfl⟩
  have HS2 := Lib.hid (show w2.heap.size = w.heap.size + 2 by rw [hs, HS1.out])
  have HQ5 := Lib.hid (show q5 = w.heap.size + 1 by rw [hq, HS1.out])
  rw [← hq] at P5
  generalize w1.heap.size = q5' at *
  subst hq
  clear hx hb hs P2 HB1 HS1
  go_wp2_with (with_reducible refine at_load_ (t := 38) ?_; refine Hid.out ?_)
  refine Lib.hid ?_
  refine wb_load rfl _ rfl HW6.out w.heap.size rfl P2b.out ?_
  go_wp2_with (with_reducible refine at_alloc_ (t := 38) ?_; refine Hid.out ?_)
  refine Lib.hid ?_
  refine wb_alloc rfl rfl ?_
  intro w3 hx hb hs
  have P7 := Lib.hid hx
  have P2c := Lib.hid (P2b.out.below hb)
  have P5c := Lib.hid (P5.out.below hb)
  have HB3 := Lib.hid (HB2.out.trans (hb.mono HB2.out.size))
  obtain ⟨q7, hq⟩ : ∃ q, q = w2.heap.size := ⟨_, rfl⟩
  have HS3 := Lib.hid (show w3.heap.size = w.heap.size + 3 by rw [hs, HS2.out])
  have HQ7 := Lib.hid (show q7 = w.heap.size + 2 by rw [hq, HS2.out])
  rw [← hq] at P7
  generalize w2.heap.size = q7' at *
  subst hq
  clear hx hb hs P2b P5 HB2 HS2
  go_wp2_with (with_reducible refine at_store_ (t := 38) ?_; refine Hid.out ?_)
  refine Lib.hid ?_
  refine wb_store rfl (.tmp 7) (.tmp 15) rfl rfl HW6.out rfl q7 rfl rfl P7.out ?_
  intro w4 hx hk hs
  have P7d := Lib.hid hx
  have P2d := Lib.hid (P2c.out.keep hk (fun e => by have := HQ7.out; omega))
  have P5d := Lib.hid (P5c.out.keep hk (fun e => by have := HQ7.out; have := HQ5.out; omega))
  have HB4 := Lib.hid (HB3.out.trans (hk.below HB3.out.size (fun k hk e => by have := HQ7.out; omega)))
  have HS4 := Lib.hid (show w.heap.size + 3 ≤ w4.heap.size by rw [hs, HS3.out]; omega)
  have HO0 := Lib.hid (show OwnE w4 (w.heap.size + 3) (.slice none 0 0) (mk ws (l.take 0)).1 from World.ownsRow_nil _ _ _ _)
  clear hx hk hs P2c P5c P7 HB3 HS3
  go_wp2
  go_loopw [6, 18] (fun vv ii wr => ∃ k : Nat, k ≤ m ∧ ii = .int .i64 k ∧ Hid (OwnE wr (w.heap.size + 3) vv (mk ws (l.take k)).1) ∧ Hid (WB wr q7 (mk ws (l.take k)).2) ∧ Hid (WB wr w.heap.size ws) ∧ Hid (WB wr q5 ws0) ∧ Hid (w.heap.size + 3 ≤ wr.heap.size) ∧ Hid (Below w.heap.size w wr)) (fun vv ii _ => m - (intOf ii).toNat)
  case atStart => exact ⟨0, Nat.zero_le _, rfl, HO0, P7d, P2d, P5d, HS4, HB4⟩
  case round =>
    clear HO0 P7d P2d P5d HS4 HB4
    obtain ⟨k, hk, rfl, HO, P7, P2, P5, HS, HB⟩ := hrel
    obtain ⟨wo, rfl⟩ : ∃ wo : World, wo = wr := ⟨_, rfl⟩
    by_cases hlt : k < m
    · obtain ⟨p, b, o, hp, rfl, hbb, hcell⟩ := HL.out.at k hlt
      have HMS := Lib.hid (mk_take (ws := ws) hp)
      have HP256 := Lib.hid (HP.out p (List.mem_of_getElem? hp))
      have HSW := Lib.hid (mk_sw HW6.out (l.take k))
      obtain ⟨f0, f1, f2⟩ := hcell wo HB.out
      have hi1 : (k : Int) < (m : Int) := by omega
      have HI := Lib.hid hlt
      generalize mk ws (l.take k) = st at *
      obtain ⟨O, now⟩ := st
      dsimp only at HO P7 HSW
      obtain ⟨pa, pn, pw⟩ := p
      dsimp only at f0 f1 f2 HP256
      clear hcell hp hlt hbb
      obtain ⟨r, hr⟩ : ∃ r, r = pa % 6 := ⟨_, rfl⟩
      have hr6 : r < 6 := by rw [hr]; exact Nat.mod_lt _ (by omega)
      have hmod : ((pa : Nat) : Int).tmod 6 = (r : Int) := by rw [hr, Int.tmod_eq_emod_of_nonneg (by omega)]; omega
      have HR := Lib.hid hr
      have hr6i : (r : Int) < 6 := by omega
      have hpa : (pa : Int) < 256 := by have := HP256.out; omega
      have hpa0 : (0 : Int) ≤ (pa : Int) := by omega
      have hwr : IntKind.i64.wrap (pa : Int) = (pa : Int) := by simp [IntKind.wrap, IntKind.bits, IntKind.signed]; omega
      clear hr
      obtain ⟨Av, nv, cv, rfl, hnv, hAv, hcv, hgv⟩ := HO.out.slice
      have HNV := Lib.hid hnv
      have hcvi : (nv : Int) ≤ (cv : Int) := by omega
      have hnv6 := locs_len 6 O HSW.out.1.dst HSW.out.1.loc
      have hni : (nv : Int) ≤ 6 := by omega
      have HGV := Lib.hid hgv
      have HAV := Lib.hid hAv
      clear hnv hgv hAv hnv6
      have HPB := Lib.hid (show Below wo.heap.size wo (wo.alloc (.cells #[.int .u8 (pa : Int), .int .i64 pn, .bool pw] 71)) from (Below.refl _ _).alloc (Nat.le_refl _) _)
      have HPX := Lib.hid (show Blk (wo.alloc (.cells #[.int .u8 (pa : Int), .int .i64 pn, .bool pw] 71)) wo.heap.size 71 [.int .u8 (pa : Int), .int .i64 pn, .bool pw] from Blk.new)
      go_wp2
      go_loopw [11, 28] (fun qq jj w2 => ∃ (j : Nat) (q : Bool), j ≤ nv ∧ jj = .int .i64 j ∧ qq = .bool q ∧ Hid (q = ((O.take j).any fun y => y.loc == (r : Int))) ∧ Hid (Below (wo.alloc (.cells #[.int .u8 (pa : Int), .int .i64 pn, .bool pw] 71)).heap.size (wo.alloc (.cells #[.int .u8 (pa : Int), .int .i64 pn, .bool pw] 71)) w2)) (fun qq jj _ => nv - (intOf jj).toNat)
      case atStart => exact ⟨0, false, Nat.zero_le _, rfl, rfl, Lib.hid rfl, Lib.hid (Below.refl _ _)⟩
      case round =>
        obtain ⟨j, q, hj, rfl, rfl, HQ, HW⟩ := hrel
        obtain ⟨w2, rfl⟩ : ∃ w2 : World, w2 = wr := ⟨_, rfl⟩
        have HK := Lib.hid (HPB.out.trans (HW.out.mono HPB.out.size))
        by_cases hjn : j < nv
        · have hE := Ents.of_own (HO.out.below HK.out)
          obtain ⟨z, bz, oz, hz, rfl, hbz, hSz, hcz⟩ := hE.at j hjn
          obtain ⟨g0, g1, g2, g3, g4, g5⟩ := hcz w2 (Below.refl _ _)
          have HA2 := Lib.hid (any_take (i := (r : Int)) hz)
          have HW2 := Lib.hid (HW.out.alloc HW.out.size (entO z))
          have hj1 : (j : Int) < (nv : Int) := by omega
          have HJ := Lib.hid hjn
          obtain ⟨z0, z1, z2, z3, z4, z5⟩ := z
          unfold entO at HW2
          dsimp only at g0 g1 g2 g3 g4 g5 HA2 HW2
          clear hE hz hbz hSz hcz hjn
          cases q with
          | true =>
            go_wp2
            go_roundw
            case rel => exact ⟨j + 1, true, by have := HJ.out; omega, by go_num, rfl, Lib.hid (by rw [HA2.out, ← HQ.out]; rfl), HW2⟩
            case measure => have := HJ.out; simp [intOf]; omega
          | false =>
            cases hq : (z0 == (r : Int)) with
            | true =>
              have HA3 := Lib.hid (show true = ((O.take (j + 1)).any fun y => y.loc == (r : Int)) by rw [HA2.out, hq, Bool.or_true])
              go_wp2
              go_roundw
              case rel => exact ⟨j + 1, true, by have := HJ.out; omega, by go_num, rfl, HA3, HW2⟩
              case measure => have := HJ.out; simp [intOf]; omega
            | false =>
              have HA3 := Lib.hid (show false = ((O.take (j + 1)).any fun y => y.loc == (r : Int)) by rw [HA2.out, hq, Bool.or_false]; exact HQ.out)
              go_wp2
              go_roundw
              case rel => exact ⟨j + 1, false, by have := HJ.out; omega, by go_num, rfl, HA3, HW2⟩
              case measure => have := HJ.out; simp [intOf]; omega
        · obtain rfl : j = nv := by omega
          have hkn : ¬ ((j : Int) < (j : Int)) := by omega
          have hall : O.take j = O := List.take_of_length_le (by have := HNV.out; omega)
          rw [hall] at HQ
          have HBW := Lib.hid (HB.out.trans (HK.out.mono HB.out.size))
          have HOW := Lib.hid (HO.out.below HK.out)
          have P7W := Lib.hid (P7.out.below HK.out)
          have P2W := Lib.hid (P2.out.below HK.out)
          have P5W := Lib.hid (P5.out.below HK.out)
          have HSW2 := Lib.hid (show w.heap.size + 3 ≤ w2.heap.size by have := HS.out; have := HK.out.size; omega)
          cases q with
          | true =>
            have HST := Lib.hid (show mk ws (l.take (k + 1)) = (O, now) by rw [HMS.out]; unfold mkStep; rw [if_pos]; dsimp only; rw [← HR.out]; exact HQ.out.symm)
            go_wp2
            go_roundw
            case rel => exact ⟨k + 1, by have := HI.out; omega, by go_num, Lib.hid (by rw [HST.out]; exact HOW.out), Lib.hid (by rw [HST.out]; exact P7W.out), P2W, P5W, HSW2, HBW⟩
            case measure => have := HI.out; simp [intOf]; omega
          | false =>
            have HPW := Lib.hid (HPX.out.below HW.out)
            have p0 := HPW.out.cell (j := 0) rfl
            have p1 := HPW.out.cell (j := 1) rfl
            have p2 := HPW.out.cell (j := 2) rfl
            have hrl : r < ws.length := by rw [HW6.out]; exact hr6
            obtain ⟨v0, v1, v2⟩ := WB.word P2W.out hrl
            obtain ⟨wv, hwv⟩ : ∃ wv, wv = ws[r] := ⟨_, rfl⟩
            rw [← hwv] at v0 v1
            have HWV := Lib.hid (show wG ws (r : Int) = wv by unfold wG; rw [List.getD_eq_getElem?_getD, show ((r : Int)).toNat = r by omega, List.getElem?_eq_getElem hrl, hwv]; rfl)
            have HWR := Lib.hid hwv
            clear hwv
            obtain ⟨vv, vn⟩ := wv
            dsimp only at v0 v1 v2
            have HVB := Lib.hid (show 0 ≤ vn ∧ vn ≤ 2147483648 by have h := HV.out (r : Int) (by omega) (by omega); rw [HWV.out] at h; exact h)
            have HWRAP := Lib.hid (show IntKind.u32.wrap (vn + 1) = vn + 1 by have := HVB.out; simp [IntKind.wrap, IntKind.bits, IntKind.signed]; omega)
            go_wp2_with fail
            have hd0 : Below w2.heap.size w2 w2.drew := (Below.refl _ _).drew
            have P2d := Lib.hid (P2W.out.below hd0)
            have P7d := Lib.hid (P7W.out.below hd0)
            have P5d := Lib.hid (P5W.out.below hd0)
            have HOd := Lib.hid (HOW.out.below hd0)
            have HPd := Lib.hid (HPW.out.below hd0)
            have HBd := Lib.hid (HBW.out.trans (hd0.mono HBW.out.size))
            have HSd := Lib.hid (show w.heap.size + 3 ≤ w2.drew.heap.size from HSW2.out)
            refine wp_region_held_drew (S := fun W => WB W w.heap.size ws) (by kernel_rfl) P2d.out (fun hHeld => ?_)
            clear hHeld v0 v1 v2 p0 p1 p2 hd0 P2W P7W P5W HOW HPW HBW HSW2
            generalize w2.drew = vd at *
            refine wpAnyH_take (i := 0) (oi := ⟨some 41, _, _, _, _, _⟩) (v := .int .i64 (r : Int)) rfl (by kernel_rfl) (by kernel_rfl) (by kernel_rfl) (fun _ _ _ h => h) (Or.inl ⟨by rfl, ?_⟩) P2d.out ?_
            · intro W' hW
              go_simp
            try simp only [Act.put, List.setIfInBounds_toArray, List.set_cons_zero, List.set_cons_succ]
            refine wpAnyH_take (i := 1) (oi := ⟨some 42, _, _, _, _, _⟩) (v := .int .i64 (r : Int)) rfl (by kernel_rfl) (by kernel_rfl) (by kernel_rfl) (fun _ _ _ h => h) (Or.inl ⟨by rfl, ?_⟩) P2d.out ?_
            · intro W' hW
              go_simp
            try simp only [Act.put, List.setIfInBounds_toArray, List.set_cons_zero, List.set_cons_succ]
            refine wpAnyH_take (i := 2) (oi := ⟨some 43, _, _, _, _, _⟩) (v := .pointer (some ⟨w.heap.size, r * 3, none⟩)) rfl (by kernel_rfl) (by kernel_rfl) (by kernel_rfl) (fun _ _ _ h => h) (Or.inl ⟨by rfl, ?_⟩) P2d.out ?_
            · intro W' hW
              go_simp
            try simp only [Act.put, List.setIfInBounds_toArray, List.set_cons_zero, List.set_cons_succ]
            refine wpAnyH_take (i := 3) (oi := ⟨some 44, _, _, _, _, _⟩) (v := .agg #[.int .i64 vv, .int .u32 vn, .int .u32 0]) rfl (by kernel_rfl) (by kernel_rfl) (by kernel_rfl) (fun _ _ _ h => h) (yields_wd (by rfl) (.tmp 43) rfl w.heap.size (r * 3) rfl (fun W hW => by have h := WB.word hW hrl; rw [← HWR.out] at h; exact h)) P2d.out ?_
            try simp only [Act.put, List.setIfInBounds_toArray, List.set_cons_zero, List.set_cons_succ]
            refine wpAnyH_take (i := 4) (oi := ⟨some 45, _, _, _, _, _⟩) (v := .int .i64 (r : Int)) rfl (by kernel_rfl) (by kernel_rfl) (by kernel_rfl) (fun _ _ _ h => h) (Or.inl ⟨by rfl, ?_⟩) P2d.out ?_
            · intro W' hW
              go_simp
            try simp only [Act.put, List.setIfInBounds_toArray, List.set_cons_zero, List.set_cons_succ]
            refine wpAnyH_take (i := 5) (oi := ⟨some 46, _, _, _, _, _⟩) (v := .pointer (some ⟨w.heap.size, r * 3, none⟩)) rfl (by kernel_rfl) (by kernel_rfl) (by kernel_rfl) (fun _ _ _ h => h) (Or.inl ⟨by rfl, ?_⟩) P2d.out ?_
            · intro W' hW
              go_simp
            try simp only [Act.put, List.setIfInBounds_toArray, List.set_cons_zero, List.set_cons_succ]
            refine wpAnyH_take (i := 6) (oi := ⟨some 47, _, _, _, _, _⟩) (v := .pointer (some ⟨w.heap.size, r * 3, none⟩)) rfl (by kernel_rfl) (by kernel_rfl) (by kernel_rfl) (fun _ _ _ h => h) (Or.inl ⟨by rfl, ?_⟩) P2d.out ?_
            · intro W' hW
              go_simp
            try simp only [Act.put, List.setIfInBounds_toArray, List.set_cons_zero, List.set_cons_succ]
            refine wpAnyH_take (i := 7) (oi := ⟨some 48, _, _, _, _, _⟩) (v := .int .i64 vv) rfl (by kernel_rfl) (by kernel_rfl) (by kernel_rfl) (fun _ _ _ h => h) (Or.inl ⟨by rfl, ?_⟩) P2d.out ?_
            · intro W' hW
              have hf := (show W'.cell? ⟨w.heap.size, r * 3, none⟩ = some (.int .i64 vv) from by rw [(WB.word hW hrl).1, ← HWR.out])
              go_simp
            try simp only [Act.put, List.setIfInBounds_toArray, List.set_cons_zero, List.set_cons_succ]
            refine wpAnyH_take (i := 8) (oi := ⟨some 49, _, _, _, _, _⟩) (v := .agg #[.int .i64 (r : Int), .int .i64 vv, .int .u32 vn, .int .u32 0, .int .i64 vv, .bool false]) rfl (by kernel_rfl) (by kernel_rfl) (by kernel_rfl) (fun _ _ _ h => h) (Or.inl ⟨by rfl, ?_⟩) P2d.out ?_
            · intro W' hW
              go_simp
            try simp only [Act.put, List.setIfInBounds_toArray, List.set_cons_zero, List.set_cons_succ]
            refine wpAnyH_ready (rs := [9]) (by kernel_rfl) (by simp) ?_
            refine AllReadyH.cons (o := ⟨some 14, _, _, _, _, _⟩) rfl (fun K hK => ?_) (AllReadyH.nil)
            go_simp
            refine hK.out _ _ (P2d.out.below ((Below.refl _ _).alloc (Nat.le_refl _) _)) (fun hHeldq => ?_)
            clear hK hHeldq
            try simp only [Act.put, List.setIfInBounds_toArray, List.set_cons_zero, List.set_cons_succ]
            refine wpAnyH_ready (rs := [10]) (by kernel_rfl) (by simp) ?_
            refine AllReadyH.cons (o := ⟨none, _, _, _, _, _⟩) rfl (fun K hK => ?_) (AllReadyH.nil)
            go_simp
            refine hK.out _ _ (P2d.out.below ((Below.refl _ _).alloc (Nat.le_refl _) _)) (fun hHeldq => ?_)
            clear hK hHeldq
            try simp only [Act.put, List.setIfInBounds_toArray, List.set_cons_zero, List.set_cons_succ]
            refine wpAnyH_done (by kernel_rfl) ?_ _
            have p1 := fun o => (HPd.out.below (show Below vd.heap.size vd (vd.alloc o) from (Below.refl _ _).alloc (Nat.le_refl _) _)).cell (j := 1) rfl
            have p2 := fun o => (HPd.out.below (show Below vd.heap.size vd (vd.alloc o) from (Below.refl _ _).alloc (Nat.le_refl _) _)).cell (j := 2) rfl
            cases pw with
            | true =>
              go_wp2_with fail
              have hz : Below vd.heap.size vd (vd.alloc (.cells #[.int .i64 (r : Int), .int .i64 vv, .int .u32 vn, .int .u32 0, .int .i64 pn, .bool true] 46)) := (Below.refl _ _).alloc (Nat.le_refl _) _
              have HEz := Lib.hid (show EBox (vd.alloc (.cells #[.int .i64 (r : Int), .int .i64 vv, .int .u32 vn, .int .u32 0, .int .i64 pn, .bool true] 46)) vd.heap.size ⟨(r : Int), vv, vn, 0, pn, true⟩ from heap_alloc_new _ _)
              have P2z := Lib.hid (P2d.out.below hz)
              have P7z := Lib.hid (P7d.out.below hz)
              have P5z := Lib.hid (P5d.out.below hz)
              have HOz := Lib.hid (HOd.out.below hz)
              have HPz := Lib.hid (HPd.out.below hz)
              have HBz := Lib.hid (HBd.out.trans (hz.mono HBd.out.size))
              have HSz := Lib.hid (show w.heap.size + 3 ≤ (vd.alloc (.cells #[.int .i64 (r : Int), .int .i64 vv, .int .u32 vn, .int .u32 0, .int .i64 pn, .bool true] 46)).heap.size by have := HSd.out; simp; omega)
              have HQE := Lib.hid (show w.heap.size + 3 ≤ vd.heap.size from HSd.out)
              clear hz p1 p2 P2d P7d P5d HOd HPd HBd HSd
              generalize vd.heap.size = qe at *
              generalize vd.alloc (.cells #[.int .i64 (r : Int), .int .i64 vv, .int .u32 vn, .int .u32 0, .int .i64 pn, .bool true] 46) = vz at *
              have hd0 : Below vz.heap.size vz vz.drew := (Below.refl _ _).drew
              have PQ := Lib.hid (And.intro (P2z.out.below hd0) (HPz.out.below hd0))
              have P7g := Lib.hid (P7z.out.below hd0)
              have P5g := Lib.hid (P5z.out.below hd0)
              have HOg := Lib.hid (HOz.out.below hd0)
              have HEg := Lib.hid (HEz.out.below hd0)
              have HBg := Lib.hid (HBz.out.trans (hd0.mono HBz.out.size))
              have HSg := Lib.hid (show w.heap.size + 3 ≤ vz.drew.heap.size from HSz.out)
              refine wp_region_held_drew (S := fun W => WB W w.heap.size ws ∧ Blk W wo.heap.size 71 [.int .u8 (pa : Int), .int .i64 pn, .bool true]) (by kernel_rfl) PQ.out (fun hHeld => ?_)
              clear hHeld hd0 P2z P7z P5z HOz HPz HBz HSz HEz
              generalize vz.drew = vg at *
              refine wpAnyH_take (i := 0) (oi := ⟨some 56, _, _, _, _, _⟩) (v := .int .i64 (r : Int)) rfl (by kernel_rfl) (by kernel_rfl) (by kernel_rfl) (fun _ _ _ h => h) (Or.inl ⟨by rfl, ?_⟩) PQ.out ?_
              · intro W' hW
                go_simp
              try simp only [Act.put, List.setIfInBounds_toArray, List.set_cons_zero, List.set_cons_succ]
              refine wpAnyH_take (i := 1) (oi := ⟨some 57, _, _, _, _, _⟩) (v := .pointer (some ⟨wo.heap.size, 1, none⟩)) rfl (by kernel_rfl) (by kernel_rfl) (by kernel_rfl) (fun _ _ _ h => h) (Or.inl ⟨by rfl, ?_⟩) PQ.out ?_
              · intro W' hW
                go_simp
              try simp only [Act.put, List.setIfInBounds_toArray, List.set_cons_zero, List.set_cons_succ]
              refine wpAnyH_take (i := 2) (oi := ⟨some 58, _, _, _, _, _⟩) (v := .int .i64 pn) rfl (by kernel_rfl) (by kernel_rfl) (by kernel_rfl) (fun _ _ _ h => h) (Or.inl ⟨by rfl, ?_⟩) PQ.out ?_
              · intro W' hW
                have hf := (hW.2.cell (j := 1) rfl : W'.cell? ⟨wo.heap.size, 1, none⟩ = some (.int .i64 pn))
                go_simp
              try simp only [Act.put, List.setIfInBounds_toArray, List.set_cons_zero, List.set_cons_succ]
              refine wpAnyH_take (i := 3) (oi := ⟨some 59, _, _, _, _, _⟩) (v := .int .i64 (r : Int)) rfl (by kernel_rfl) (by kernel_rfl) (by kernel_rfl) (fun _ _ _ h => h) (Or.inl ⟨by rfl, ?_⟩) PQ.out ?_
              · intro W' hW
                go_simp
              try simp only [Act.put, List.setIfInBounds_toArray, List.set_cons_zero, List.set_cons_succ]
              refine wpAnyH_take (i := 4) (oi := ⟨some 60, _, _, _, _, _⟩) (v := .pointer (some ⟨w.heap.size, r * 3, none⟩)) rfl (by kernel_rfl) (by kernel_rfl) (by kernel_rfl) (fun _ _ _ h => h) (Or.inl ⟨by rfl, ?_⟩) PQ.out ?_
              · intro W' hW
                go_simp
              try simp only [Act.put, List.setIfInBounds_toArray, List.set_cons_zero, List.set_cons_succ]
              refine wpAnyH_take (i := 5) (oi := ⟨some 61, _, _, _, _, _⟩) (v := .pointer (some ⟨w.heap.size, r * 3 + 1, none⟩)) rfl (by kernel_rfl) (by kernel_rfl) (by kernel_rfl) (fun _ _ _ h => h) (Or.inl ⟨by rfl, ?_⟩) PQ.out ?_
              · intro W' hW
                go_simp
              try simp only [Act.put, List.setIfInBounds_toArray, List.set_cons_zero, List.set_cons_succ]
              refine wpAnyH_take (i := 6) (oi := ⟨some 62, _, _, _, _, _⟩) (v := .int .u32 vn) rfl (by kernel_rfl) (by kernel_rfl) (by kernel_rfl) (fun _ _ _ h => h) (Or.inl ⟨by rfl, ?_⟩) PQ.out ?_
              · intro W' hW
                have hf := (show W'.cell? ⟨w.heap.size, r * 3 + 1, none⟩ = some (.int .u32 vn) from by rw [(WB.word hW.1 hrl).2.1, ← HWR.out])
                go_simp
              try simp only [Act.put, List.setIfInBounds_toArray, List.set_cons_zero, List.set_cons_succ]
              refine wpAnyH_take (i := 7) (oi := ⟨some 63, _, _, _, _, _⟩) (v := .int .u32 (vn + 1)) rfl (by kernel_rfl) (by kernel_rfl) (by kernel_rfl) (fun _ _ _ h => h) (Or.inl ⟨by rfl, ?_⟩) PQ.out ?_
              · intro W' hW
                have hf := HWRAP.out
                go_simp
              try simp only [Act.put, List.setIfInBounds_toArray, List.set_cons_zero, List.set_cons_succ]
              refine wpAnyH_take (i := 8) (oi := ⟨some 64, _, _, _, _, _⟩) (v := .agg #[.int .i64 pn, .int .u32 (vn + 1), .int .u32 0]) rfl (by kernel_rfl) (by kernel_rfl) (by kernel_rfl) (fun _ _ _ h => h) (Or.inl ⟨by rfl, ?_⟩) PQ.out ?_
              · intro W' hW
                go_simp
              try simp only [Act.put, List.setIfInBounds_toArray, List.set_cons_zero, List.set_cons_succ]
              refine wpAnyH_take (i := 9) (oi := ⟨some 65, _, _, _, _, _⟩) (v := .pointer (some ⟨q7, r * 3, none⟩)) rfl (by kernel_rfl) (by kernel_rfl) (by kernel_rfl) (fun _ _ _ h => h) (Or.inl ⟨by rfl, ?_⟩) PQ.out ?_
              · intro W' hW
                go_simp
              try simp only [Act.put, List.setIfInBounds_toArray, List.set_cons_zero, List.set_cons_succ]
              refine wpAnyH_ready (rs := [10]) (by kernel_rfl) (by simp) ?_
              refine AllReadyH.cons (o := ⟨none, _, _, _, _, _⟩) rfl (fun K hK => ?_) (AllReadyH.nil)
              refine Eq.mpr (if_pos (by kernel_rfl)) ?_
              refine wp_store_mid _ (.tmp 65) (.tmp 64) rfl q7 (r * 3) #[.int .i64 pn, .int .u32 (vn + 1), .int .u32 0] rfl rfl (Blk.there P7g.out (by rw [wC_len, HSW.out.2]; simp; omega)) Tryd.size37 (by simp [Value.oneCell']) ?_
              have hkk : Keep (fun k => k = q7) vg (vg.setCells q7 (r * 3) [.int .i64 pn, .int .u32 (vn + 1), .int .u32 0]) := Keep.setCells (S := fun k => k = q7) Keep.refl rfl _ _
              have P7z := Lib.hid (show WB (vg.setCells q7 (r * 3) [.int .i64 pn, .int .u32 (vn + 1), .int .u32 0]) q7 (now.set r (pn, vn + 1)) from by
                have h := Blk.setCells [.int .i64 pn, .int .u32 (vn + 1), .int .u32 0] (r * 3) P7g.out
                rwa [wC_set now r (by rw [HSW.out.2]; exact hr6) (pn, vn + 1)] at h)
              have PQz := Lib.hid (And.intro (PQ.out.1.keep hkk (fun e => by have := HQ7.out; omega)) (PQ.out.2.keep hkk (fun e => by have := HQ7.out; have := HS.out; omega)))
              have P5z := Lib.hid (P5g.out.keep hkk (fun e => by have := HQ7.out; have := HQ5.out; omega))
              have HEz := Lib.hid (show EBox (vg.setCells q7 (r * 3) [.int .i64 pn, .int .u32 (vn + 1), .int .u32 0]) qe ⟨(r : Int), vv, vn, 0, pn, true⟩ from (hkk.other qe HEg.out.lt (fun e => by have := HQ7.out; have := HQE.out; omega)).trans HEg.out)
              have HOz := Lib.hid (HOg.out.shift (u := .slice (some ⟨q7, 0, none⟩) 0 0) ⟨hkk.os, hkk.tape, hkk.output, hkk.size, fun b hb hne => hkk.other b hb (fun e => hne (by rw [e]; rfl))⟩ (by
                cases hvb : (Value.slice Av j cv).ownBlock with
                | none => exact .inl rfl
                | some g => refine .inr fun e => ?_; injection e with e; have e2 : g = q7 := e; have := (HOg.out.lt g hvb).1; have := HQ7.out; omega))
              have HBz := Lib.hid (HBg.out.trans (hkk.below HBg.out.size (fun b hb e => by have := HQ7.out; omega)))
              have HSz := Lib.hid (show w.heap.size + 3 ≤ (vg.setCells q7 (r * 3) [.int .i64 pn, .int .u32 (vn + 1), .int .u32 0]).heap.size by have := hkk.size; have := HSg.out; omega)
              have P2z := Lib.hid PQz.out.1
              clear hkk P7g P5g HOg HEg HBg HSg
              refine hK.out _ _ PQz.out (fun hHeldq => ?_)
              clear hK hHeldq
              try simp only [Act.put, List.setIfInBounds_toArray, List.set_cons_zero, List.set_cons_succ]
              refine wpAnyH_done (by kernel_rfl) ?_ _
              generalize vg.setCells q7 (r * 3) [.int .i64 pn, .int .u32 (vn + 1), .int .u32 0] = vz at *
              have HST := Lib.hid (show mk ws (l.take (k + 1)) = (O ++ [⟨(r : Int), vv, vn, 0, pn, true⟩], now.set r (pn, vn + 1)) by
                rw [HMS.out]
                unfold mkStep
                rw [if_neg (by dsimp only; rw [← HR.out, ← HQ.out]; simp)]
                unfold mkE
                dsimp only
                rw [← HR.out, HWV.out]
                rfl)
              obtain ⟨g0, g1, g2, g3, g4, g5⟩ := HEz.out.all
              have HEX := Lib.hid (Ents.box (w := vz) ⟨(r : Int), vv, vn, 0, pn, true⟩)
              have HOX := Lib.hid (HOz.out.below (show Below vz.heap.size vz (vz.alloc (entO ⟨(r : Int), vv, vn, 0, pn, true⟩)) from (Below.refl _ _).alloc (Nat.le_refl _) _))
              have HSX := Lib.hid (show w.heap.size + 3 ≤ (vz.alloc (entO ⟨(r : Int), vv, vn, 0, pn, true⟩)).heap.size by have := HSz.out; simp; omega)
              have HZX := Lib.hid (show Below vz.heap.size vz (vz.alloc (entO ⟨(r : Int), vv, vn, 0, pn, true⟩)) from (Below.refl _ _).alloc (Nat.le_refl _) _)
              have HNO := Lib.hid (show O.length ≤ 6 by have := HNV.out; omega)
              unfold entO at HEX HOX HSX HZX
              dsimp only at HEX HOX HSX HZX g0 g1 g2 g3 g4 g5
              go_wp2_with (at_builtin; refine ap_any rfl (.tmp 66) (.tmp 68) rfl (w.heap.size + 3) _ O rfl HOX.out _ _ _ _ _ rfl HEX.out (by have := HNO.out; omega) HSX.out ?_)
              intro v3 w9 ho hg hv
              have hlo := fun q (hq : (Value.slice Av j cv).ownBlock = some q) => (HOX.out.lt q hq).1
              have hne : ∀ q, q < w.heap.size + 3 → some q ≠ (Value.slice Av j cv).ownBlock := fun q hq e => by have := hlo q e.symm; omega
              have P7y := Lib.hid ((P7z.out.below HZX.out).grown hg (hne q7 (by have := HQ7.out; omega)))
              have P2y := Lib.hid ((P2z.out.below HZX.out).grown hg (hne w.heap.size (by omega)))
              have P5y := Lib.hid ((P5z.out.below HZX.out).grown hg (hne q5 (by have := HQ5.out; omega)))
              have HBy := Lib.hid ((HBz.out.trans (HZX.out.mono HBz.out.size)).grown hg (by have := HSX.out; omega) (fun q hq => by have := hlo q hq; omega))
              have HSy := Lib.hid (show w.heap.size + 3 ≤ w9.heap.size by have := HSX.out; have := hg.size; omega)
              have HOy := Lib.hid ho
              clear ho hg hv hlo hne g0 g1 g2 g3 g4 g5
              go_wp2
              go_roundw
              case rel => exact ⟨k + 1, by have := HI.out; omega, by go_num, Lib.hid (by rw [HST.out]; exact HOy.out), Lib.hid (by rw [HST.out]; exact P7y.out), P2y, P5y, HSy, HBy⟩
              case measure => have := HI.out; simp [intOf]; omega
            | false =>
              go_wp2_with (with_reducible refine at_load_ (t := 46) ?_; refine Hid.out ?_)
              refine Lib.hid ?_
              have hz : Below vd.heap.size vd (vd.alloc (.cells #[.int .i64 (r : Int), .int .i64 vv, .int .u32 vn, .int .u32 0, .int .i64 vv, .bool false] 46)) := (Below.refl _ _).alloc (Nat.le_refl _) _
              have HEz := Lib.hid (show EBox (vd.alloc (.cells #[.int .i64 (r : Int), .int .i64 vv, .int .u32 vn, .int .u32 0, .int .i64 vv, .bool false] 46)) vd.heap.size ⟨(r : Int), vv, vn, 0, vv, false⟩ from heap_alloc_new _ _)
              have P2z := Lib.hid (P2d.out.below hz)
              have P7z := Lib.hid (P7d.out.below hz)
              have P5z := Lib.hid (P5d.out.below hz)
              have HOz := Lib.hid (HOd.out.below hz)
              have HPz := Lib.hid (HPd.out.below hz)
              have HBz := Lib.hid (HBd.out.trans (hz.mono HBd.out.size))
              have HSz := Lib.hid (show w.heap.size + 3 ≤ (vd.alloc (.cells #[.int .i64 (r : Int), .int .i64 vv, .int .u32 vn, .int .u32 0, .int .i64 vv, .bool false] 46)).heap.size by have := HSd.out; simp; omega)
              have HQE := Lib.hid (show w.heap.size + 3 ≤ vd.heap.size from HSd.out)
              clear hz p1 p2 P2d P7d P5d HOd HPd HBd HSd
              generalize vd.heap.size = qe at *
              generalize vd.alloc (.cells #[.int .i64 (r : Int), .int .i64 vv, .int .u32 vn, .int .u32 0, .int .i64 vv, .bool false] 46) = vz at *
              have HST := Lib.hid (show mk ws (l.take (k + 1)) = (O ++ [⟨(r : Int), vv, vn, 0, vv, false⟩], now) by
                rw [HMS.out]
                unfold mkStep
                rw [if_neg (by dsimp only; rw [← HR.out, ← HQ.out]; simp)]
                unfold mkE
                dsimp only
                rw [← HR.out, HWV.out]
                rfl)
              obtain ⟨g0, g1, g2, g3, g4, g5⟩ := HEz.out.all
              have HEX := Lib.hid (Ents.box (w := vz) ⟨(r : Int), vv, vn, 0, vv, false⟩)
              have HOX := Lib.hid (HOz.out.below (show Below vz.heap.size vz (vz.alloc (entO ⟨(r : Int), vv, vn, 0, vv, false⟩)) from (Below.refl _ _).alloc (Nat.le_refl _) _))
              have HSX := Lib.hid (show w.heap.size + 3 ≤ (vz.alloc (entO ⟨(r : Int), vv, vn, 0, vv, false⟩)).heap.size by have := HSz.out; simp; omega)
              have HZX := Lib.hid (show Below vz.heap.size vz (vz.alloc (entO ⟨(r : Int), vv, vn, 0, vv, false⟩)) from (Below.refl _ _).alloc (Nat.le_refl _) _)
              have HNO := Lib.hid (show O.length ≤ 6 by have := HNV.out; omega)
              unfold entO at HEX HOX HSX HZX
              dsimp only at HEX HOX HSX HZX g0 g1 g2 g3 g4 g5
              go_wp2_with (at_builtin; refine ap_any rfl (.tmp 66) (.tmp 68) rfl (w.heap.size + 3) _ O rfl HOX.out _ _ _ _ _ rfl HEX.out (by have := HNO.out; omega) HSX.out ?_)
              intro v3 w9 ho hg hv
              have hlo := fun q (hq : (Value.slice Av j cv).ownBlock = some q) => (HOX.out.lt q hq).1
              have hne : ∀ q, q < w.heap.size + 3 → some q ≠ (Value.slice Av j cv).ownBlock := fun q hq e => by have := hlo q e.symm; omega
              have P7y := Lib.hid ((P7z.out.below HZX.out).grown hg (hne q7 (by have := HQ7.out; omega)))
              have P2y := Lib.hid ((P2z.out.below HZX.out).grown hg (hne w.heap.size (by omega)))
              have P5y := Lib.hid ((P5z.out.below HZX.out).grown hg (hne q5 (by have := HQ5.out; omega)))
              have HBy := Lib.hid ((HBz.out.trans (HZX.out.mono HBz.out.size)).grown hg (by have := HSX.out; omega) (fun q hq => by have := hlo q hq; omega))
              have HSy := Lib.hid (show w.heap.size + 3 ≤ w9.heap.size by have := HSX.out; have := hg.size; omega)
              have HOy := Lib.hid ho
              clear ho hg hv hlo hne g0 g1 g2 g3 g4 g5
              go_wp2
              go_roundw
              case rel => exact ⟨k + 1, by have := HI.out; omega, by go_num, Lib.hid (by rw [HST.out]; exact HOy.out), Lib.hid (by rw [HST.out]; exact P7y.out), P2y, P5y, HSy, HBy⟩
              case measure => have := HI.out; simp [intOf]; omega
    · have hkn : ¬ ((k : Int) < (m : Int)) := by omega
      have hall : l.take k = l := List.take_of_length_le (by have := HLN.out; omega)
      rw [hall] at HO P7
      have HSW := Lib.hid (mk_sw HW6.out l)
      obtain ⟨Av, nv, cv, rfl, hnv, hAv, hcv, hgv⟩ := HO.out.slice
      go_wp2_with fail
      have hd0 : Below wo.heap.size wo wo.drew := (Below.refl _ _).drew
      have P7g := Lib.hid (P7.out.below hd0)
      have P5g := Lib.hid (P5.out.below hd0)
      have HOg := Lib.hid (HO.out.below hd0)
      have HBg := Lib.hid (HB.out.trans (hd0.mono HB.out.size))
      have HSg := Lib.hid (show w.heap.size + 3 ≤ wo.drew.heap.size from HS.out)
      have HNL := Lib.hid HSW.out.2
      obtain ⟨now, hnow⟩ : ∃ now, now = (mk ws l).2 := ⟨_, rfl⟩
      rw [← hnow] at P7g HNL
      have HNOW := Lib.hid hnow
      refine wp_region_held_drew (S := fun W => WB W q7 now) (by kernel_rfl) P7g.out (fun hHeld => ?_)
      clear hHeld hd0 hnow P7 P5 P2 HB HS HSW hall
      generalize wo.drew = vg at *
      refine wpAnyH_take (i := 0) (oi := ⟨some 71, _, _, _, _, _⟩) (v := .slice Av nv cv) rfl (by kernel_rfl) (by kernel_rfl) (by kernel_rfl) (fun _ _ _ h => h) (Or.inl ⟨by rfl, ?_⟩) P7g.out ?_
      · intro W' hW
        go_simp
      try simp only [Act.put, List.setIfInBounds_toArray, List.set_cons_zero, List.set_cons_succ]
      refine wpAnyH_take (i := 1) (oi := ⟨some 72, _, _, _, _, _⟩) (v := wV now) rfl (by kernel_rfl) (by kernel_rfl) (by kernel_rfl) (fun _ _ _ h => h) (yieldsIf_load_mid (by rfl) _ (.tmp 7) rfl q7 0 rfl (wC now) _ (fun W hW => Blk.range hW (fun j v hv => by rw [Nat.zero_add]; exact hv)) Tryd.underlying38 rfl (by have := sizeW now HNL.out; rwa [List.size_toArray] at this)) P7g.out ?_
      try simp only [Act.put, List.setIfInBounds_toArray, List.set_cons_zero, List.set_cons_succ]
      refine wpAnyH_take (i := 2) (oi := ⟨some 4, _, _, _, _, _⟩) (v := .slice Av nv cv) rfl (by kernel_rfl) (by kernel_rfl) (by kernel_rfl) (fun _ _ _ h => h) (Or.inl ⟨by rfl, ?_⟩) P7g.out ?_
      · intro W' hW
        go_simp
      try simp only [Act.put, List.setIfInBounds_toArray, List.set_cons_zero, List.set_cons_succ]
      refine wpAnyH_ready (rs := [3]) (by kernel_rfl) (by simp) ?_
      refine AllReadyH.cons (o := ⟨none, _, _, _, _, _⟩) rfl (fun K hK => ?_) (AllReadyH.nil)
      refine Eq.mpr (if_pos (by kernel_rfl)) ?_
      refine wp_store_mid _ (.tmp 5) (.tmp 72) rfl q5 0 (wC now).toArray rfl rfl (Blk.there P5g.out (by rw [List.size_toArray, wC_len, wC_len, HNL.out]; exact Nat.le_refl _)) (sizeW now HNL.out) (wC_ones now) ?_
      have hkk : Keep (fun k => k = q5) vg (vg.setCells q5 0 (wC now).toArray.toList) := Keep.setCells (S := fun k => k = q5) Keep.refl rfl _ _
      have P5z := Lib.hid (show WB (vg.setCells q5 0 (wC now).toArray.toList) q5 now from by
        have h := Blk.setCells (wC now) 0 P5g.out
        rwa [splice_all _ _ (by rw [wC_len, wC_len, HNL.out]; rfl)] at h)
      have P7z := Lib.hid (P7g.out.keep hkk (fun e => by have := HQ7.out; have := HQ5.out; omega))
      have HOz := Lib.hid (HOg.out.shift (u := .slice (some ⟨q5, 0, none⟩) 0 0) ⟨hkk.os, hkk.tape, hkk.output, hkk.size, fun b hb hne => hkk.other b hb (fun e => hne (by rw [e]; rfl))⟩ (by
        cases hvb : (Value.slice Av nv cv).ownBlock with
        | none => exact .inl rfl
        | some g => refine .inr fun e => ?_; injection e with e; have e2 : g = q5 := e; have := (HOg.out.lt g hvb).1; have := HQ5.out; omega))
      have HBz := Lib.hid (HBg.out.trans (hkk.below HBg.out.size (fun b hb e => by have := HQ5.out; omega)))
      clear hkk P5g P7g HOg HBg HSg
      refine hK.out _ _ P7z.out (fun hHeldq => ?_)
      clear hK hHeldq
      try simp only [Act.put, List.setIfInBounds_toArray, List.set_cons_zero, List.set_cons_succ]
      refine wpAnyH_done (by kernel_rfl) ?_ _
      generalize vg.setCells q5 0 (wC now).toArray.toList = vz at *
      go_wp2_with fail
      refine bodyPost_ret (results_tmp_cell rfl _ _ q5 _ (wC now).toArray _ _ rfl P5z.out Tryd.underlying38 rfl (sizeW now HNL.out)) rfl ⟨.slice Av nv cv, ?_, OwnE.mono HOz.out (by omega), HBz.out⟩
      rw [← HNOW.out]
      rfl
end Go.Proofs.YtilapnejkdgomaaDoor
