/- The walks of syntax.rules, Binaries, hasName, hasExpr, hasNum. No condition. -/
import Derived.Test.YthfjkdgaiaokdaaDoorSxC
import Derived.Great.BuildSlice
set_option linter.unusedVariables false
set_option linter.unusedSimpArgs false
namespace Go.Proofs.YthfjkdgaiaokdaaDoor
open Go.RowKit

section
variable {P : Program} {ops : Array Oper} {rest : List Oper} {a : Act} {w : World} {Q : Exit → Act → World → Prop} {d : Option Tmp} {t ty : TypeId} {x y : Operand} {pos : String}
theorem at_build_ {aft} {g} {ps} (h : wpList P ops Q (⟨d, .build t ps, ty, pos, aft, g⟩ :: rest) a w) : wpList P ops Q (⟨d, .build t ps, ty, pos, aft, g⟩ :: rest) a w := h
theorem at_store_ {aft} {g} (h : wpList P ops Q (⟨d, .store t x y, ty, pos, aft, g⟩ :: rest) a w) : wpList P ops Q (⟨d, .store t x y, ty, pos, aft, g⟩ :: rest) a w := h
theorem at_load_ {aft} {g} (h : wpList P ops Q (⟨d, .load t x, ty, pos, aft, g⟩ :: rest) a w) : wpList P ops Q (⟨d, .load t x, ty, pos, aft, g⟩ :: rest) a w := h
theorem at_alloc_ {aft} {g} (h : wpList P ops Q (⟨d, .alloc t, ty, pos, aft, g⟩ :: rest) a w) : wpList P ops Q (⟨d, .alloc t, ty, pos, aft, g⟩ :: rest) a w := h
theorem at_box_ {aft} {g} (h : wpList P ops Q (⟨d, .box t x, ty, pos, aft, g⟩ :: rest) a w) : wpList P ops Q (⟨d, .box t x, ty, pos, aft, g⟩ :: rest) a w := h
/-- A new variable of a type of many cells. -/
theorem wpList_alloc_mine {o : Oper} (hg : o.guard = none) (t : TypeId) (ho : o.op = .alloc t) (dst : Option Tmp) (hd : o.dst = dst)
    (cs : Array Value) (hz : ∀ w, (zeroValue t).run P w = .ok (.agg cs) w) (hc : (Value.agg cs).cells = cs)
    (h : wpList P ops Q rest (a.put dst (.pointer (some ⟨w.heap.size, 0, none⟩))) (w.alloc (.cells cs t))) : wpList P ops Q (o :: rest) a w := by
  subst hd
  refine wpList_plain hg fun K hK => ?_
  unfold Oper.wp execOp
  simp only [ho]
  simp [Instr.alloc, hz, hc, Result.andThen]
  exact hK _ _ h
end
theorem setRow_alloc (w : World) (cs ds : Array Value) (t : TypeId) : (w.alloc (.cells cs t)).setRow w.heap.size ds = w.alloc (.cells ds t) := by
  unfold World.setRow World.alloc
  congr 1
  apply Array.ext
  · simp
  · intro k h1 h2
    simp only [Array.getElem_modify]
    split
    · rename_i hk
      subst hk
      simp
    · rename_i hk
      have : k < w.heap.size := by simp at h2; omega
      simp [Array.getElem_push, this]

/-- The rules of the kinds of expressions. -/
def rulesC : Array Value := #[.bool true, .bool false, .bool false, .bool false, .bool false, .int .i64 9223372036854775807, .int .i64 0, .int .i64 0, .bool true, .bool false, .bool false, .bool false, .bool false, .int .i64 1, .int .i64 0, .int .i64 0, .bool false, .bool true, .bool false, .bool false, .bool false, .int .i64 0, .int .i64 0, .int .i64 0, .bool false, .bool false, .bool false, .bool false, .bool false, .int .i64 0, .int .i64 1, .int .i64 1, .bool false, .bool false, .bool false, .bool false, .bool false, .int .i64 0, .int .i64 1, .int .i64 1, .bool false, .bool false, .bool false, .bool true, .bool false, .int .i64 0, .int .i64 2, .int .i64 2, .bool false, .bool true, .bool true, .bool false, .bool true, .int .i64 0, .int .i64 0, .int .i64 4, .bool false, .bool true, .bool false, .bool false, .bool false, .int .i64 0, .int .i64 0, .int .i64 4]
def rulesZ : Array Value := #[.bool false, .bool false, .bool false, .bool false, .bool false, .int .i64 0, .int .i64 0, .int .i64 0, .bool false, .bool false, .bool false, .bool false, .bool false, .int .i64 0, .int .i64 0, .int .i64 0, .bool false, .bool false, .bool false, .bool false, .bool false, .int .i64 0, .int .i64 0, .int .i64 0, .bool false, .bool false, .bool false, .bool false, .bool false, .int .i64 0, .int .i64 0, .int .i64 0, .bool false, .bool false, .bool false, .bool false, .bool false, .int .i64 0, .int .i64 0, .int .i64 0, .bool false, .bool false, .bool false, .bool false, .bool false, .int .i64 0, .int .i64 0, .int .i64 0, .bool false, .bool false, .bool false, .bool false, .bool false, .int .i64 0, .int .i64 0, .int .i64 0, .bool false, .bool false, .bool false, .bool false, .bool false, .int .i64 0, .int .i64 0, .int .i64 0]
/-- One kind's rule. -/
def ruleC (k : Nat) : Array Value := rulesC.extract (k * 8) (k * 8 + 8)
theorem rules_zero (w : World) : (zeroValue 134).run Tryd.prog w = .ok (.agg rulesZ) w := by
  have h : (Tryd.prog.info? 134).bind (·.zero) = some (.agg rulesZ) := by kernel_rfl
  unfold zeroValue typeInfo
  cases hi : Tryd.prog.info? 134 with
  | none => rw [hi] at h; cases h
  | some i =>
    rw [hi] at h
    have h2 : i.zero = some (.agg rulesZ) := h
    simp [hi, h2]
theorem rules_size : (Tryd.prog.info? 134).map (·.size) = some rulesC.size := by kernel_rfl
theorem rules_ones : rulesC.all (·.oneCell') = true := by kernel_rfl
theorem rules_built : Tryd.prog.built 134 [(0, .agg #[.bool true, .bool false, .bool false, .bool false, .bool false, .int .i64 9223372036854775807, .int .i64 0, .int .i64 0]), (1, .agg #[.bool true, .bool false, .bool false, .bool false, .bool false, .int .i64 1, .int .i64 0, .int .i64 0]), (2, .agg #[.bool false, .bool true, .bool false, .bool false, .bool false, .int .i64 0, .int .i64 0, .int .i64 0]), (3, .agg #[.bool false, .bool false, .bool false, .bool false, .bool false, .int .i64 0, .int .i64 1, .int .i64 1]), (4, .agg #[.bool false, .bool false, .bool false, .bool false, .bool false, .int .i64 0, .int .i64 1, .int .i64 1]), (5, .agg #[.bool false, .bool false, .bool false, .bool true, .bool false, .int .i64 0, .int .i64 2, .int .i64 2]), (6, .agg #[.bool false, .bool true, .bool true, .bool false, .bool true, .int .i64 0, .int .i64 0, .int .i64 4]), (7, .agg #[.bool false, .bool true, .bool false, .bool false, .bool false, .int .i64 0, .int .i64 0, .int .i64 4])] = some rulesC := by kernel_rfl
set_option maxRecDepth 100000 in
theorem rules_any (w : World) : Calls Tryd.prog 88 #[] w fun e w' => e = .returned (.agg rulesC) ∧ Below w.heap.size w w' := by
  have H0 := Lib.hid (show ∀ (o : Obj), (w.alloc o).heap[w.heap.size]? = some o from fun o => heap_alloc_new w o)
  go_enter Tryd.func88, Tryd.ntmps88
  go_wp2_with (first
    | (with_reducible refine at_alloc_ ?_; refine wpList_alloc_mine rfl 134 rfl _ rfl rulesZ rules_zero rfl ?_)
    | (with_reducible refine at_build_ (t := 134) ?_; refine Hid.out ?_))
  refine Lib.hid ?_
  refine wpList_buildTo rfl 134 _ rfl _ rfl rulesC (by simp only [List.map_toArray, List.map_cons, List.map_nil, List.toList_toArray]; exact rules_built) ?_
  go_wp2_with (with_reducible refine at_store_ ?_; refine Hid.out ?_)
  refine Lib.hid ?_
  refine wpList_store_rowTo rfl 134 (.tmp 0) (.tmp 9) rfl rfl w.heap.size rulesC rfl rfl 134 rulesZ (H0.out _) rules_size rfl rules_ones ?_
  rw [setRow_alloc]
  go_wp2_with fail
  refine bodyPost_ret (results_cell_row rfl _ _ w.heap.size _ _ _ _ rfl (H0.out _) Tryd.underlying134 rfl rules_size) rfl ⟨rfl, (Below.refl _ _).alloc (Nat.le_refl _) _⟩
set_option maxRecDepth 100000 in
theorem rule_at (k : Nat) (hk : k < 8) (w : World) : (Instr.index 134 (.agg rulesC) (.int .i64 (k : Int))).run Tryd.prog w = .ok (.agg (ruleC k)) w := by
  match k, hk with
  | 0, _ => rfl
  | 1, _ => rfl
  | 2, _ => rfl
  | 3, _ => rfl
  | 4, _ => rfl
  | 5, _ => rfl
  | 6, _ => rfl
  | 7, _ => rfl
set_option maxRecDepth 100000 in
theorem hasName_any (k : Int) (w : World) : Calls Tryd.prog 73 #[.int .i64 k] w fun e w' => e = .returned (.bool (decide (k ≤ 1 ∧ 0 ≤ k))) ∧ w' = w := by
  rcases Classical.em (k = 0) with h0 | h0
  · subst h0
    go_enter Tryd.func73, Tryd.ntmps73
    go_wp2
    go_ret
    exact ⟨rfl, rfl⟩
  · have h1 : decide (k ≤ 1 ∧ 0 ≤ k) = (k == 1) := by rw [Bool.eq_iff_iff]; simp; omega
    rw [h1]
    have h2 : (k == 0) = false := by simp [h0]
    go_enter Tryd.func73, Tryd.ntmps73
    go_wp2
    go_ret
    exact ⟨rfl, rfl⟩
set_option maxRecDepth 100000 in
theorem hasExpr_any (k : Int) (w : World) : Calls Tryd.prog 48 #[.int .i64 k] w fun e w' => e = .returned (.bool (hasX k)) ∧ w' = w := by
  unfold hasX
  rcases Classical.em (k = 4) with h0 | h0
  · subst h0
    go_enter Tryd.func48, Tryd.ntmps48
    go_wp2
    go_ret
    exact ⟨rfl, rfl⟩
  · have h1 : decide (k ≠ 4 ∧ k ≠ 6) = (k != 6) := by rw [Bool.eq_iff_iff]; simp [h0]
    rw [h1]
    have h2 : (k != 4) = true := by simp [h0]
    go_enter Tryd.func48, Tryd.ntmps48
    go_wp2
    go_ret
    exact ⟨rfl, rfl⟩
set_option maxRecDepth 100000 in
theorem hasNum_any (k : Int) (w : World) : Calls Tryd.prog 86 #[.int .i64 k] w fun e w' => e = .returned (.bool (decide (k = 4 ∨ k = 6))) ∧ w' = w := by
  rcases Classical.em (k = 4) with h0 | h0
  · subst h0
    go_enter Tryd.func86, Tryd.ntmps86
    go_wp2
    go_ret
    exact ⟨rfl, rfl⟩
  · have h1 : decide (k = 4 ∨ k = 6) = (k == 6) := by rw [Bool.eq_iff_iff]; simp [h0]
    rw [h1]
    have h2 : (k == 4) = false := by simp [h0]
    go_enter Tryd.func86, Tryd.ntmps86
    go_wp2
    go_ret
    exact ⟨rfl, rfl⟩
end Go.Proofs.YthfjkdgaiaokdaaDoor
