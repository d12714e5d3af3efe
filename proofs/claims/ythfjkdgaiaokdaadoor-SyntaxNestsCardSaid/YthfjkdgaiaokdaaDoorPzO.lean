/- The walk of SyntaxParts (printed by wip/genpzo.py). Conditions: the library's tables are laid (SxW), strings as long as the machine has them, at most 2^60 parameters; the numbers are bytes. -/
import Derived.Test.YthfjkdgaiaokdaaDoorQM
set_option linter.unusedVariables false
set_option linter.unusedSimpArgs false
namespace Go.Proofs.YthfjkdgaiaokdaaDoor
open Go.RowKit

theorem bounds_u8 {n : Int} (h : (Lit.int .u8 n).wf = true) : 0 ≤ n ∧ n < 256 := by
  simp [Lit.wf, IntKind.min, IntKind.max, IntKind.bits, IntKind.signed] at h
  omega
theorem byte_in {n : Int} (h : (Lit.int .u8 n).wf = true) : 0 ≤ n ∧ n ≤ 255 := by have := bounds_u8 h; omega
/-- Since w0 nothing old has changed but block g, which holds the cells X. -/
structure Bxs (g : Nat) (t : TypeId) (w0 : World) (X : Array Value) (w : World) : Prop where
  gr : w0.grownBy w (some g)
  bx : w.heap[g]? = some (.cells X t (0, 0))
section
variable {g : Nat} {t : TypeId} {w0 w w' : World} {X X' : Array Value}
theorem Bxs.lt (h : Bxs g t w0 X w) : g < w.heap.size := lt_of_block h.bx
theorem Bxs.next (h : Bxs g t w0 X w) (hb : Below w.heap.size w w') : Bxs g t w0 X w' := ⟨World.grownBy.trans h.gr (Below.grown_ hb _), (hb.block g h.lt).trans h.bx⟩
theorem Bxs.block (h : Bxs g t w0 X w) {b : Nat} (hb : b < w0.heap.size) (hg : b ≠ g) : w.heap[b]? = w0.heap[b]? := h.gr.block b hb (fun e => hg (Option.some.inj e))
theorem Bxs.cellOf (h : Bxs g t w0 X w) {b j : Nat} {v : Value} (hg : b ≠ g) (hv : w0.cell? ⟨b, j, none⟩ = some v) : w.cell? ⟨b, j, none⟩ = some v := by
  have hb : b < w0.heap.size := World.block_lt_of_cell? _ _ hv
  rw [World.cell?_of_block (a := ⟨b, j, none⟩) (h.block hb hg)]; exact hv
theorem Bxs.free (h : Bxs g t w0 X w) (j : Nat) : w.frozen? ⟨g, j, none⟩ = false := by simp [World.frozen?, h.bx]
theorem grown_put (W : World) (b j : Nat) (v : Value) : W.grownBy (W.setCell ⟨b, j, none⟩ v) (some b) :=
  ⟨rfl, rfl, rfl, by simp, fun k hk hne => Below.heap_setCell _ _ _ k (fun e => hne (by rw [e]))⟩
theorem Bxs.set (h : Bxs g t w0 X w) (j : Nat) (v : Value) : Bxs g t w0 (X.setIfInBounds j v) (w.setCell ⟨g, j, none⟩ v) := by
  refine ⟨World.grownBy.trans h.gr (grown_put w g j v), ?_⟩
  rw [setCell_eq_setRow w g j _ _ _ _ h.bx]
  exact setRow_heap _ _ _ _ _ _ h.bx
/-- A row of the call's own has grown: block g is as it was. -/
theorem Bxs.own {B : Nat} {r : Option Nat} (h : Bxs g t w0 X w) (hB : g < B) (hb : w.grownBy w' r) (hr : ∀ k, r = some k → B ≤ k) (hB0 : w0.heap.size ≤ B) : Bxs g t w0 X w' := by
  refine ⟨⟨hb.os.trans h.gr.os, hb.tape.trans h.gr.tape, hb.output.trans h.gr.output, Nat.le_trans h.gr.size hb.size, fun k hk hne => ?_⟩, (hb.block g h.lt (fun e => by have := hr g e.symm; omega)).trans h.bx⟩
  exact (hb.block k (Nat.lt_of_lt_of_le hk h.gr.size) (fun e => by have := hr k e.symm; omega)).trans (h.gr.block k hk hne)
end
/-- append by its run, as one step of a region that draws its order. -/
theorem step_app {P : Program} {ops : Array Oper} {o : Oper} {a : Act} {w : World} {K : Act → World → Prop} {Q : Exit → Act → World → Prop} {E : Prop}
    (hg : o.guard = none) (d x : Operand) (t : TypeId) (hop : o.op = Op.call { callee := Callee.builtin Builtin.append, args := #[d, x], argTypes := #[t, t] })
    (v u : Value) (hd : a.eval d = v) (hx : a.eval x = u) {v' : Value} {w' : World} (hr : (Builtin.append_ #[t, t] o.type #[v, u]).run P w = .ok v' w') (hK : K (a.put o.dst v') w') :
    if Region.wanted o (yielded ops a.tmps) = true then Oper.wp P o a w K Q else E := by
  have hw : Region.wanted o (yielded ops a.tmps) = true := by simp [Region.wanted, hg]
  rw [if_pos hw]
  unfold Oper.wp
  simp [execOp, hop, resolve, invoke, builtin, hd, hx, hr, Result.andThen]
  exact hK
theorem flatTk {n : Nat} : ∀ (css : List (List Value)) (k : Nat), (∀ cs ∈ css, cs.length = n) → css.flatten.take (k * n) = (css.take k).flatten ∧ css.flatten.drop (k * n) = (css.drop k).flatten
  | [], k, _ => by simp
  | c :: t, 0, _ => by simp
  | c :: t, k + 1, h => by
    have hc := h c (by simp)
    have ih := flatTk t k fun x hx => h x (by simp [hx])
    rw [List.flatten_cons, List.take_succ_cons, List.drop_succ_cons, List.flatten_cons, List.take_append, List.drop_append, hc, show (k + 1) * n - n = k * n by rw [Nat.succ_mul]; omega, ih.1, ih.2, List.take_of_length_le (by rw [hc, Nat.succ_mul]; omega), List.drop_of_length_le (by rw [hc, Nat.succ_mul]; omega)]
    exact ⟨rfl, rfl⟩
theorem flat_erase {n : Nat} (css : List (List Value)) (k : Nat) (h : ∀ cs ∈ css, cs.length = n) : ([] : List (List Value)).flatten ++ css.flatten.take (k * n) ++ css.flatten.drop ((k + 1) * n) = (css.eraseIdx k).flatten := by
  rw [(flatTk css k h).1, (flatTk css (k + 1) h).2, List.flatten_nil, List.nil_append, ← List.flatten_append, List.eraseIdx_eq_take_drop_succ]
theorem erase_match {α β : Type} {a : List α} {b : List β} {V : α → β → Prop} (h : ∀ (i : Nat) (y : β), b[i]? = some y → ∃ x, a[i]? = some x ∧ V x y) (k : Nat) : ∀ (i : Nat) (y : β), (b.eraseIdx k)[i]? = some y → ∃ x, (a.eraseIdx k)[i]? = some x ∧ V x y := fun i y hy => by
  rw [List.getElem?_eraseIdx] at hy ⊢
  by_cases hi : i < k
  · rw [if_pos hi] at hy ⊢; exact h i y hy
  · rw [if_neg hi] at hy ⊢; exact h (i + 1) y hy
theorem map_add_zero (A : Option Addr) : A.map (fun x => x.add 0) = A := by cases A <;> simp [Addr.add]
theorem elem_o : Tryd.prog.elem 23 = 41 := by kernel_rfl
theorem hi_o (W : World) (A : Option Addr) (n c j : Nat) (hj : j ≤ c) : (Instr.slice 23 (.slice A n c) none (some (.int .i64 (j : Int))) none).run Tryd.prog W = .ok (.slice A j c) W := by
  rw [run_slice_h W 23 A n c (by rw [elem_o]; exact Tryd.underlying23) .i64 (j : Int) (by omega) (by omega), elem_o]
  have hz := Tryd.sizeOf41
  simp [hz, sliced, map_add_zero, Result.andThen]
theorem lo_o (W : World) (A : Option Addr) (n c j : Nat) (hj : j ≤ n) : (Instr.slice 23 (.slice A n c) (some (.int .i64 (j : Int))) none none).run Tryd.prog W = .ok (.slice (if c = j then A else A.map (fun x => x.add (j * 3))) (n - j) (c - j)) W := by
  rw [run_slice_l W 23 A n c (by rw [elem_o]; exact Tryd.underlying23) .i64 (j : Int) (by omega) (by omega), elem_o]
  have hz := Tryd.sizeOf41
  simp [hz, sliced, Result.andThen]
theorem info3_o : (Tryd.prog.info? 41).map (fun i => (i.zero, i.size, i.bytes)) = some (some (.agg #[.string ⟨#[]⟩, .slice none 0 0, .slice none 0 0]), 3, 64) := by kernel_rfl
theorem info_o : ∃ i, Tryd.prog.info? 41 = some i ∧ i.zero = some (.agg #[.string ⟨#[]⟩, .slice none 0 0, .slice none 0 0]) ∧ i.size = 3 ∧ i.bytes = 64 := by
  obtain ⟨i, h1, h2⟩ := Option.map_eq_some_iff.1 info3_o
  injection h2 with h2 h3
  injection h3 with h3 h4
  exact ⟨i, h1, h2, h3, h4⟩
/-- append onto a row of the call's own. -/
theorem app_o (w : World) (ty : TypeId) (base : Nat) (v : Value) (n : Nat) (xs : List Value) (hown : w.ownsRow base 41 3 v n xs) (S : Nat → Prop) (A : Option Addr) (m c : Nat) (news : List Value) (hr : Reads w S 3 A m news) (h1 : ∀ u ∈ news, u.oneCell' = true) (hn : n + m ≤ 1000000) (hb : base ≤ w.heap.size) :
    ∃ v' w', (Builtin.append_ #[23, 23] ty #[v, .slice A m c]).run Tryd.prog w = .ok v' w' ∧ w'.ownsRow base 41 3 v' (n + m) (xs ++ news) ∧ w.grownBy w' v.ownBlock := by
  obtain ⟨i, h2, h3, h4, h5⟩ := info_o
  obtain ⟨v', w', e1, e2, e3, e4⟩ := run_append_any (P := Tryd.prog) w base 23 ty 41 i _ 3 64 Tryd.underlying23 h2 h3 h4 h5 rfl (by omega) v n xs hown S A m c news hr h1 (by unfold maxLen; omega) (by omega) hb
  exact ⟨v', w', e1, e2, e3⟩
theorem elem_d : Tryd.prog.elem 22 = 50 := by kernel_rfl
theorem hi_d (W : World) (A : Option Addr) (n c j : Nat) (hj : j ≤ c) : (Instr.slice 22 (.slice A n c) none (some (.int .i64 (j : Int))) none).run Tryd.prog W = .ok (.slice A j c) W := by
  rw [run_slice_h W 22 A n c (by rw [elem_d]; exact Tryd.underlying22) .i64 (j : Int) (by omega) (by omega), elem_d]
  have hz := Tryd.sizeOf50
  simp [hz, sliced, map_add_zero, Result.andThen]
theorem lo_d (W : World) (A : Option Addr) (n c j : Nat) (hj : j ≤ n) : (Instr.slice 22 (.slice A n c) (some (.int .i64 (j : Int))) none none).run Tryd.prog W = .ok (.slice (if c = j then A else A.map (fun x => x.add (j * 2))) (n - j) (c - j)) W := by
  rw [run_slice_l W 22 A n c (by rw [elem_d]; exact Tryd.underlying22) .i64 (j : Int) (by omega) (by omega), elem_d]
  have hz := Tryd.sizeOf50
  simp [hz, sliced, Result.andThen]
theorem info3_d : (Tryd.prog.info? 50).map (fun i => (i.zero, i.size, i.bytes)) = some (some (.agg #[.string ⟨#[]⟩, .string ⟨#[]⟩]), 2, 32) := by kernel_rfl
theorem info_d : ∃ i, Tryd.prog.info? 50 = some i ∧ i.zero = some (.agg #[.string ⟨#[]⟩, .string ⟨#[]⟩]) ∧ i.size = 2 ∧ i.bytes = 32 := by
  obtain ⟨i, h1, h2⟩ := Option.map_eq_some_iff.1 info3_d
  injection h2 with h2 h3
  injection h3 with h3 h4
  exact ⟨i, h1, h2, h3, h4⟩
/-- append onto a row of the call's own. -/
theorem app_d (w : World) (ty : TypeId) (base : Nat) (v : Value) (n : Nat) (xs : List Value) (hown : w.ownsRow base 50 2 v n xs) (S : Nat → Prop) (A : Option Addr) (m c : Nat) (news : List Value) (hr : Reads w S 2 A m news) (h1 : ∀ u ∈ news, u.oneCell' = true) (hn : n + m ≤ 1000000) (hb : base ≤ w.heap.size) :
    ∃ v' w', (Builtin.append_ #[22, 22] ty #[v, .slice A m c]).run Tryd.prog w = .ok v' w' ∧ w'.ownsRow base 50 2 v' (n + m) (xs ++ news) ∧ w.grownBy w' v.ownBlock := by
  obtain ⟨i, h2, h3, h4, h5⟩ := info_d
  obtain ⟨v', w', e1, e2, e3, e4⟩ := run_append_any (P := Tryd.prog) w base 22 ty 50 i _ 2 32 Tryd.underlying22 h2 h3 h4 h5 rfl (by omega) v n xs hown S A m c news hr h1 (by unfold maxLen; omega) (by omega) hb
  exact ⟨v', w', e1, e2, e3⟩
end Go.Proofs.YthfjkdgaiaokdaaDoor
