/- The reference's store in memory: its states, its versions, its readers. No condition. -/
import Derived.Test.YtpejhgkcofilmaaTrG
set_option linter.unusedVariables false
namespace Go.Proofs.Ytpejhgkcofilmaa
open Go.RowKit

/-- The reference's store: the states, the numbers of writes, the readers' stamps. -/
structure Rd where
  st : List (List Int)
  vs : List Int
  R : Nat → Int
def rCells (sa sv : Value) (R : Nat → Int) : Array Value := #[sa, sv, .int .i64 (R 0), .int .i64 (R 1), .int .i64 (R 2), .int .i64 (R 3), .int .i64 (R 4), .int .i64 (R 5), .int .i64 (R 6), .int .i64 (R 7)]
def Slc (v : Value) : Prop := ∃ A n c, v = .slice A n c
theorem rd_ones {sa sv : Value} (h1 : Slc sa) (h2 : Slc sv) (R : Nat → Int) : (rCells sa sv R).all (·.oneCell') = true := by
  obtain ⟨A, n, c, rfl⟩ := h1
  obtain ⟨B, m, d, rfl⟩ := h2
  simp [rCells, Value.oneCell']
theorem Try.size80 : (Try.prog.info? 80).map (·.size) = some 10 := by kernel_rfl
def rZ : Array Value := rCells (.slice none 0 0) (.slice none 0 0) (fun _ => 0)
set_option maxRecDepth 100000 in
theorem rZ_zero (w : World) : (zeroValue 80).run Try.prog w = .ok (.agg rZ) w := by
  simp [go_sem, rZ, rCells]
/-- A slice of numbers, as a value. -/
def IntV (w : World) (S : Nat → Prop) (v : Value) (l : List Int) : Prop := ∃ A c, v = .slice A l.length c ∧ l.length ≤ c ∧ (A = none → c = 0) ∧ Reads w S 1 A l.length (l.map (.int .i64 ·))
theorem IntV.below {w w' : World} {S : Nat → Prop} {v : Value} {l : List Int} (h : IntV w S v l) (hb : Below w.heap.size w w') : IntV w' S v l := by
  obtain ⟨A, c, e, h1, h2, h3⟩ := h
  exact ⟨A, c, e, h1, h2, h3.below hb⟩
theorem IntV.more {w : World} {S S' : Nat → Prop} {v : Value} {l : List Int} (h : IntV w S v l) (hS : ∀ b, b < w.heap.size → S b → S' b) : IntV w S' v l := by
  obtain ⟨A, c, e, h1, h2, h3⟩ := h
  exact ⟨A, c, e, h1, h2, h3.more hS⟩
theorem IntV.keep {w w' : World} {S : Nat → Prop} {v : Value} {l : List Int} (h : IntV w S v l) (hs : w.heap.size ≤ w'.heap.size) (hk : ∀ p : Addr, p.block < w.heap.size → S p.block → w'.cell? p = w.cell? p) : IntV w' S v l := by
  obtain ⟨A, c, e, h1, h2, h3⟩ := h
  exact ⟨A, c, e, h1, h2, h3.keep hs hk⟩
namespace Rd
/-- The store's slices. -/
def Mem (d : Rd) (w : World) (S : Nat → Prop) (sa sv : Value) : Prop :=
  (∃ A c rows, sa = .slice A d.st.length c ∧ d.st.length ≤ c ∧ (A = none → c = 0) ∧ Reads w S 1 A d.st.length rows ∧ ∀ i (h : i < d.st.length), ∃ v, rows[i]? = some v ∧ IntV w S v d.st[i]) ∧
  (∃ V c, sv = .slice V d.vs.length c ∧ d.vs.length ≤ c ∧ (V = none → c = 0) ∧ Reads w S 1 V d.vs.length (d.vs.map (.int .u32 ·)))
def val (d : Rd) (sa sv : Value) : Value := .agg (rCells sa sv d.R)
def At (d : Rd) (w : World) (S : Nat → Prop) (q : Nat) : Prop := ∃ sa sv, w.heap[q]? = some (.cells (rCells sa sv d.R) 80 (0, 0)) ∧ d.Mem w S sa sv
theorem Mem.keep {d : Rd} {w w' : World} {S : Nat → Prop} {sa sv : Value} (h : d.Mem w S sa sv) (hs : w.heap.size ≤ w'.heap.size) (hk : ∀ p : Addr, p.block < w.heap.size → S p.block → w'.cell? p = w.cell? p) : d.Mem w' S sa sv := by
  obtain ⟨⟨A, c, rows, e, h1, h2, h3, h4⟩, V, c2, e2, g1, g2, g3⟩ := h
  refine ⟨⟨A, c, rows, e, h1, h2, h3.keep hs hk, fun i hi => ?_⟩, V, c2, e2, g1, g2, g3.keep hs hk⟩
  obtain ⟨v, hv, hx⟩ := h4 i hi
  exact ⟨v, hv, hx.keep hs hk⟩
theorem Mem.below {d : Rd} {w w' : World} {S : Nat → Prop} {sa sv : Value} (h : d.Mem w S sa sv) (hb : Below w.heap.size w w') : d.Mem w' S sa sv := h.keep hb.size fun _ hp _ => hb.cell hp
theorem Mem.more {d : Rd} {w : World} {S S' : Nat → Prop} {sa sv : Value} (h : d.Mem w S sa sv) (hS : ∀ b, b < w.heap.size → S b → S' b) : d.Mem w S' sa sv := by
  obtain ⟨⟨A, c, rows, e, h1, h2, h3, h4⟩, V, c2, e2, g1, g2, g3⟩ := h
  refine ⟨⟨A, c, rows, e, h1, h2, h3.more hS, fun i hi => ?_⟩, V, c2, e2, g1, g2, g3.more hS⟩
  obtain ⟨v, hv, hx⟩ := h4 i hi
  exact ⟨v, hv, hx.more hS⟩
theorem Mem.slc {d : Rd} {w : World} {S : Nat → Prop} {sa sv : Value} (h : d.Mem w S sa sv) : Slc sa ∧ Slc sv := by
  obtain ⟨⟨A, c, rows, e, _⟩, V, c2, e2, _⟩ := h
  exact ⟨⟨_, _, _, e⟩, _, _, _, e2⟩
theorem Mem.setRow {d : Rd} {w : World} {S : Nat → Prop} {sa sv : Value} {q : Nat} (h : d.Mem w S sa sv) (hq : ¬ S q) (cs : Array Value) : d.Mem (w.setRow q cs) S sa sv :=
  h.keep (by simp [World.setRow]) fun p _ hp => by
    unfold World.cell?
    rw [setRow_other w q p.block cs (by rintro rfl; exact hq hp)]
theorem Mem.setCell {d : Rd} {w : World} {S : Nat → Prop} {sa sv : Value} {p : Addr} (h : d.Mem w S sa sv) (hq : ¬ S p.block) (u : Value) : d.Mem (w.setCell p u) S sa sv :=
  h.keep (by simp [World.setCell]) fun q _ hS => World.cell?_setCell_other w p q u (fun e => by subst e; exact hq hS)
theorem At.lt {d : Rd} {w : World} {S : Nat → Prop} {q : Nat} (h : d.At w S q) : q < w.heap.size := by
  obtain ⟨sa, sv, h1, _⟩ := h
  exact lt_of_block h1
theorem At.below {d : Rd} {w w' : World} {S : Nat → Prop} {q : Nat} (h : d.At w S q) (hb : Below w.heap.size w w') : d.At w' S q := by
  have hl := h.lt
  obtain ⟨sa, sv, h1, h2⟩ := h
  exact ⟨sa, sv, (hb.block q hl).trans h1, h2.below hb⟩
theorem At.more {d : Rd} {w : World} {S S' : Nat → Prop} {q : Nat} (h : d.At w S q) (hS : ∀ b, b < w.heap.size → S b → S' b) : d.At w S' q := by
  obtain ⟨sa, sv, h1, h2⟩ := h
  exact ⟨sa, sv, h1, h2.more hS⟩
/-- The zero value. -/
def zero : Rd := ⟨[], [], fun _ => 0⟩
theorem zero_mem (w : World) (S : Nat → Prop) : zero.Mem w S (.slice none 0 0) (.slice none 0 0) :=
  ⟨⟨none, 0, [], rfl, Nat.le_refl _, fun _ => rfl, Reads.none_, fun i h => absurd h (by simp [zero])⟩, none, 0, rfl, Nat.le_refl _, fun _ => rfl, Reads.none_⟩
end Rd
theorem Touch.rat {g q : Nat} {w w' : World} {d : Rd} {S : Nat → Prop} (h : Touch g w w') (ha : d.At w S q) (hq : q ≠ g) (hS : ¬ S g) : d.At w' S q := by
  obtain ⟨sa, sv, h1, h2⟩ := ha
  refine ⟨sa, sv, (h.block hq).trans h1, ?_⟩
  obtain ⟨cs, rfl⟩ := h
  exact h2.setRow hS cs
theorem rd_all {W : World} {b : Nat} {sa sv : Value} {R : Nat → Int} {t : TypeId} {fr : Nat × Nat} (h : W.heap[b]? = some (.cells (rCells sa sv R) t fr)) :
    W.cell? ⟨b, 0, none⟩ = some sa ∧ W.cell? ⟨b, 1, none⟩ = some sv ∧ ∀ k, k < 8 → W.cell? ⟨b, 2 + k, none⟩ = some (.int .i64 (R k)) := by
  refine ⟨by rw [cell_of_row _ _ _ _ _ _ h]; rfl, by rw [cell_of_row _ _ _ _ _ _ h]; rfl, fun k hk => ?_⟩
  rw [cell_of_row _ _ _ _ _ _ h]
  obtain rfl | rfl | rfl | rfl | rfl | rfl | rfl | rfl : k = 0 ∨ k = 1 ∨ k = 2 ∨ k = 3 ∨ k = 4 ∨ k = 5 ∨ k = 6 ∨ k = 7 := by omega
  all_goals rfl
def updR (R : Nat → Int) (k : Nat) (x : Int) : Nat → Int := fun j => if j = k then x else R j
theorem rd_set {w : World} {b : Nat} {sa sv : Value} {R : Nat → Int} {t : TypeId} {fr : Nat × Nat} (h : w.heap[b]? = some (.cells (rCells sa sv R) t fr)) (k : Nat) (hk : k < 8) (x : Int) :
    (w.setCell ⟨b, 2 + k, none⟩ (.int .i64 x)).heap[b]? = some (.cells (rCells sa sv (updR R k x)) t fr) := by
  rw [setCell_block h _]
  congr 2
  obtain rfl | rfl | rfl | rfl | rfl | rfl | rfl | rfl : k = 0 ∨ k = 1 ∨ k = 2 ∨ k = 3 ∨ k = 4 ∨ k = 5 ∨ k = 6 ∨ k = 7 := by omega
  all_goals rfl

section
variable {ops : Array Oper} {rest : List Oper} {a : Act} {w : World} {Q : Exit → Act → World → Prop} {o : Oper} {d d0 : Rd} {S S0 : Nat → Prop} {sa sv : Value}
theorem box_rd (hg : o.guard = none) (x : Operand) (ho : o.op = .box 80 x) (hx : a.eval x = d.val sa sv) (hm : d.Mem w S sa sv)
    (k : ∀ w', w'.heap[w.heap.size]? = some (.cells (rCells sa sv d.R) 80 (0, 0)) → d.Mem w' (fun b => S b ∧ b ≠ w.heap.size) sa sv → Below w.heap.size w w' → w'.heap.size = w.heap.size + 1 → wpList Try.prog ops Q rest (a.put o.dst (.pointer (some ⟨w.heap.size, 0, none⟩))) w') : wpList Try.prog ops Q (o :: rest) a w := by
  refine wpList_box_mine hg _ x ho _ rfl (rCells sa sv d.R) hx Try.size80 ?_
  refine k _ (heap_alloc_new _ _) ?_ ((Below.refl _ _).alloc (Nat.le_refl _) _) (by simp)
  exact (hm.more (fun b hb h => ⟨h, by omega⟩)).below ((Below.refl _ _).alloc (Nat.le_refl _) _)
theorem alloc_rd (hg : o.guard = none) (ho : o.op = .alloc 80) (k : ∀ w', Rd.zero.At w' S w.heap.size → Below w.heap.size w w' → w'.heap.size = w.heap.size + 1 → wpList Try.prog ops Q rest (a.put o.dst (.pointer (some ⟨w.heap.size, 0, none⟩))) w') : wpList Try.prog ops Q (o :: rest) a w := by
  refine wpList_alloc_mine hg 80 ho _ rfl rZ rZ_zero rfl ?_
  exact k _ ⟨_, _, heap_alloc_new _ _, Rd.zero_mem _ _⟩ ((Below.refl _ _).alloc (Nat.le_refl _) _) (by simp)
theorem get_rd (hg : o.guard = none) (x : Operand) (ho : o.op = .load 80 x) (g : Nat) (hx : a.eval x = .pointer (some ⟨g, 0, none⟩)) {t : TypeId} {fr : Nat × Nat} (hb : w.heap[g]? = some (.cells (rCells sa sv d.R) t fr))
    (h : wpList Try.prog ops Q rest (a.put o.dst (d.val sa sv)) w) : wpList Try.prog ops Q (o :: rest) a w :=
  wpList_load_row hg _ x ho g hx t _ fr _ hb Try.underlying80 rfl Try.size80 h
theorem get_rat (hg : o.guard = none) (x : Operand) (ho : o.op = .load 80 x) (g : Nat) (hx : a.eval x = .pointer (some ⟨g, 0, none⟩)) (h : d.At w S g)
    (k : ∀ sa sv, d.Mem w S sa sv → wpList Try.prog ops Q rest (a.put o.dst (d.val sa sv)) w) : wpList Try.prog ops Q (o :: rest) a w := by
  obtain ⟨sa, sv, h1, h2⟩ := h
  exact get_rd hg x ho g hx h1 (k sa sv h2)
theorem put_rd (hg : o.guard = none) (x y : Operand) (ho : o.op = .store 80 x y) (hd : o.dst = none) (g : Nat) (hx : a.eval x = .pointer (some ⟨g, 0, none⟩)) (hy : a.eval y = d.val sa sv)
    (h0 : d0.At w S0 g) (hm : d.Mem w S sa sv) (hS : ¬ S g) (k : ∀ w', d.At w' S g → Touch g w w' → wpList Try.prog ops Q rest a w') : wpList Try.prog ops Q (o :: rest) a w := by
  obtain ⟨sa0, sv0, h1, _⟩ := h0
  refine wpList_store_rowTo hg _ x y ho hd g _ hx hy 80 _ h1 Try.size80 rfl (rd_ones hm.slc.1 hm.slc.2 _) ?_
  exact k _ ⟨sa, sv, setRow_heap _ _ _ _ _ _ h1, hm.setRow hS _⟩ ⟨_, rfl⟩
theorem put_rd_row (hg : o.guard = none) (x y : Operand) (ho : o.op = .store 80 x y) (hd : o.dst = none) (g : Nat) (hx : a.eval x = .pointer (some ⟨g, 0, none⟩)) (hy : a.eval y = d.val sa sv)
    (h0 : d0.At w S0 g) (h1 : Slc sa) (h2 : Slc sv) (k : ∀ w', w'.heap[g]? = some (.cells (rCells sa sv d.R) 80 (0, 0)) → Touch g w w' → wpList Try.prog ops Q rest a w') : wpList Try.prog ops Q (o :: rest) a w := by
  obtain ⟨sa0, sv0, h3, _⟩ := h0
  refine wpList_store_rowTo hg _ x y ho hd g _ hx hy 80 _ h3 Try.size80 rfl (rd_ones h1 h2 _) ?_
  exact k _ (setRow_heap _ _ _ _ _ _ h3) ⟨_, rfl⟩
end
section
variable {P : Program} {ops : Array Oper} {rest : List Oper} {a : Act} {w : World} {Q : Exit → Act → World → Prop} {d : Option Tmp} {ty t : TypeId} {pos : String} {x y : Operand}
theorem at_mk_ {aft} {g} (h : wpList P ops Q (⟨d, .makeSlice t x y, ty, pos, aft, g⟩ :: rest) a w) : wpList P ops Q (⟨d, .makeSlice t x y, ty, pos, aft, g⟩ :: rest) a w := h
end
/-- append onto a row of the call's own, as one operation. -/
theorem wp_app_any {P : Program} {w : World} {K : Act → World → Prop} {o : Oper} {a : Act} {Q : Exit → Act → World → Prop} (s x : Operand) (t : TypeId)
    (ho : o.op = .call { callee := .builtin .append, args := #[s, x], argTypes := #[t, t] })
    (base : Nat) (e : TypeId) (i : TypeInfo) (z : Value) (size bytes : Nat) (ht : P.underlying t = some (.slice e)) (hi : P.info? e = some i) (hz : i.zero = some z)
    (hsize : i.size = size) (hby : i.bytes = bytes) (hzs : z.cells.size = size) (hsz : 0 < size)
    (v : Value) (n : Nat) (xs : List Value) (hs : a.eval s = v) (hown : w.ownsRow base e size v n xs)
    (S : Nat → Prop) (A : Option Addr) (m c : Nat) (news : List Value) (hx : a.eval x = .slice A m c) (hr : Reads w S size A m news) (h1 : ∀ u ∈ news, u.oneCell' = true)
    (h63 : n + m ≤ maxLen) (hbytes : (n + m) * bytes ≤ 140737488355328) (hbase : base ≤ w.heap.size)
    (h : ∀ v' w', w'.ownsRow base e size v' (n + m) (xs ++ news) → w.grownBy w' v.ownBlock → (v'.ownBlock = v.ownBlock ∨ v'.ownBlock = some w.heap.size) → K (a.put o.dst v') w') : o.wp P a w K Q := by
  obtain ⟨v', w', hrun, h2, h3, h4⟩ := run_append_any (P := P) w base t o.type e i z size bytes ht hi hz hsize hby hzs hsz v n xs hown S A m c news hr h1 h63 hbytes hbase
  unfold Oper.wp execOp
  simp only [ho, resolve, invoke, builtin, Sem.run_bind, Sem.run_pure, Result.andThen_ok, List.map_toArray, List.map_cons, List.map_nil, hs, hx, hrun]
  exact h v' w' h2 h3 h4
/-- A store loaded whole. -/
theorem load_rd (W : World) (b : Nat) (cs : Array Value) (t : TypeId) (fr : Nat × Nat) (h : W.heap[b]? = some (.cells cs t fr)) (hc : cs.size = 10) : (loadVar 80 ⟨b, 0, none⟩).run Try.prog W = .ok (.agg cs) W := by
  exact run_loadVar_row W b t _ cs fr _ h Try.underlying80 rfl (by rw [hc]; exact Try.size80)
end Go.Proofs.Ytpejhgkcofilmaa
