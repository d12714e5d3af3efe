/- The walks of syntax.rules, Binaries, hasName, hasExpr, hasNum. No condition. The walk of syntax.rule.form (printed by wip/gensxe.py): the kinds but that of a binary operator. No condition. syntax.Binaries, and rule.form at a binary operator. No condition. rule.form in one contract; Expr.empty (printed by wip/gensxg.py). No condition. Maps keyed by strings whose elements are any values: look-up, store, as laws on the operations' runs. Contracts of Go's library at this translation, out of the kit's shelf. No condition beyond the contracts' own. The walks of the lexer's digit, letter, run and blank. No condition. -/
import Derived.Test.YtkakbidllpjopaaGreatDoorW01
import Derived.Great.BuildSlice
import Derived.Deep.RegionHeld3
import Derived.Maps.RangeRun
import Derived.Shelf.Strings.Builder1
import Derived.Shelf.Strings.Builder2
import Derived.Shelf.Strings.OnBuilder
import Derived.Shelf.Small.Strs
import Derived.Shelf.Small.Wraps
import Derived.Shelf.Strings.BuilderF
import Derived.Shelf.Strings.BuilderK
import Derived.Shelf.Strings.Builder2Cap
import Derived.Shelf.Strconv.Itoa0
import Derived.Shelf.Strconv.Itoa1
import Derived.Shelf.LaysM
import Derived.Shelf.Strconv.Itoa2
import Derived.Shelf.Strconv.Itoa3
import Derived.Shelf.Strconv.Itoa4
import Derived.Shelf.Strconv.ParseIntEmpty
import Derived.Shelf.Strconv.Clone
import Derived.Shelf.Strconv.SyntaxError
import Derived.Shelf.LaysC
import Derived.Shelf.Strconv.ToError
import Derived.Shelf.Strconv.Lower
import Derived.Shelf.Strconv.ParseUint10
import Derived.Shelf.Strconv.ParseUint10Empty
import Derived.Shelf.Strconv.ParseUint10Any
import Derived.Shelf.Strconv.ParseInt10
import Derived.Shelf.Strconv.RangeError
import Derived.Shelf.Strconv.ToErrorRange
import Derived.Shelf.Strconv.ParseUintEmpty
import Derived.Shelf.Strconv.ParseUint10b64
import Derived.Shelf.Strconv.ParseUint10b32
import Derived.Shelf.Strconv.ParseUint10b16
import Derived.Shelf.Strconv.ParseUint10b8
import Derived.Shelf.Strconv.ParseUint10At
import Derived.Shelf.Strconv.ParseInt10At64
import Derived.Shelf.Strconv.ParseInt10At32
import Derived.Shelf.Strconv.ParseInt10At16
import Derived.Shelf.Strconv.ParseInt10At8
import Derived.Shelf.Strconv.ParseInt10All
import Derived.Shelf.Strconv.ParseIntPublic10
import Derived.Shelf.Strings.Search1
import Derived.Shelf.Strings.Prefix
import Derived.Shelf.Bits.Mul64
import Derived.Shelf.Strings.Repeat
import Derived.Shelf.Strings.BuilderCap
import Derived.Shelf.Slices.Turned
import Derived.Shelf.Slices.Equal
import Derived.Ground.Names2Prog
import Derived.Shelf.Slices.Clone
import Derived.Shelf.Slices.Empties2
import Derived.Ground.SlgnProg
import Derived.Shelf.SlicesE.Clone
import Derived.Test.YtkakbidllpjopaaGreatDoorProg
set_option linter.unusedVariables false
set_option linter.unusedSimpArgs false
namespace Go.Proofs.YtkakbidllpjopaaGreatDoor
open Go.RowKit

section
variable {P : Program} {ops : Array Oper} {rest : List Oper} {a : Act} {w : World} {Q : Exit → Act → World → Prop} {d : Option Tmp} {t ty : TypeId} {x y : Operand} {pos : String}
theorem at_build_ {aft} {g} {ps} (h : wpList P ops Q (⟨d, .build t ps, ty, pos, aft, g⟩ :: rest) a w) : wpList P ops Q (⟨d, .build t ps, ty, pos, aft, g⟩ :: rest) a w := h
theorem at_store_ {aft} {g} (h : wpList P ops Q (⟨d, .store t x y, ty, pos, aft, g⟩ :: rest) a w) : wpList P ops Q (⟨d, .store t x y, ty, pos, aft, g⟩ :: rest) a w := h
theorem at_load_ {aft} {g} (h : wpList P ops Q (⟨d, .load t x, ty, pos, aft, g⟩ :: rest) a w) : wpList P ops Q (⟨d, .load t x, ty, pos, aft, g⟩ :: rest) a w := h
theorem at_alloc_ {aft} {g} (h : wpList P ops Q (⟨d, .alloc t, ty, pos, aft, g⟩ :: rest) a w) : wpList P ops Q (⟨d, .alloc t, ty, pos, aft, g⟩ :: rest) a w := h
theorem at_box_ {aft} {g} (h : wpList P ops Q (⟨d, .box t x, ty, pos, aft, g⟩ :: rest) a w) : wpList P ops Q (⟨d, .box t x, ty, pos, aft, g⟩ :: rest) a w := h
/-- A new variable of a type of many cells. -/
theorem wpList_alloc_mine {o : Oper} (hg : o.guard = none) (t : TypeId) (ho : o.op = .alloc t) (dst : Option Tmp) (hd : o.dst = dst)
    (cs : Array Value) (hz : ∀ w, (zeroValue t).run P w = .ok (.agg cs) w) (hc : (Value.agg cs).cells = cs)
    (h : wpList P ops Q rest (a.put dst (.pointer (some ⟨w.heap.size, 0, none⟩))) (w.alloc (.cells cs t))) : wpList P ops Q (o :: rest) a w := by
  subst hd
  refine wpList_plain hg fun K hK => ?_
  unfold Oper.wp execOp
  simp only [ho]
  simp [Instr.alloc, hz, hc, Result.andThen]
  exact hK _ _ h
end
theorem setRow_alloc (w : World) (cs ds : Array Value) (t : TypeId) : (w.alloc (.cells cs t)).setRow w.heap.size ds = w.alloc (.cells ds t) := by
  unfold World.setRow World.alloc
  congr 1
  apply Array.ext
  · simp
  · intro k h1 h2
    simp only [Array.getElem_modify]
    split
    · rename_i hk
      subst hk
      simp
    · rename_i hk
      have : k < w.heap.size := by simp at h2; omega
      simp [Array.getElem_push, this]

/-- The rules of the kinds of expressions. -/
def rulesC : Array Value := #[.bool true, .bool false, .bool false, .bool false, .bool false, .int .i64 9223372036854775807, .int .i64 0, .int .i64 0, .bool true, .bool false, .bool false, .bool false, .bool false, .int .i64 1, .int .i64 0, .int .i64 0, .bool false, .bool true, .bool false, .bool false, .bool false, .int .i64 0, .int .i64 0, .int .i64 0, .bool false, .bool false, .bool false, .bool false, .bool false, .int .i64 0, .int .i64 1, .int .i64 1, .bool false, .bool false, .bool false, .bool false, .bool false, .int .i64 0, .int .i64 1, .int .i64 1, .bool false, .bool false, .bool false, .bool true, .bool false, .int .i64 0, .int .i64 2, .int .i64 2, .bool false, .bool true, .bool true, .bool false, .bool true, .int .i64 0, .int .i64 0, .int .i64 4, .bool false, .bool true, .bool false, .bool false, .bool false, .int .i64 0, .int .i64 0, .int .i64 4]
def rulesZ : Array Value := #[.bool false, .bool false, .bool false, .bool false, .bool false, .int .i64 0, .int .i64 0, .int .i64 0, .bool false, .bool false, .bool false, .bool false, .bool false, .int .i64 0, .int .i64 0, .int .i64 0, .bool false, .bool false, .bool false, .bool false, .bool false, .int .i64 0, .int .i64 0, .int .i64 0, .bool false, .bool false, .bool false, .bool false, .bool false, .int .i64 0, .int .i64 0, .int .i64 0, .bool false, .bool false, .bool false, .bool false, .bool false, .int .i64 0, .int .i64 0, .int .i64 0, .bool false, .bool false, .bool false, .bool false, .bool false, .int .i64 0, .int .i64 0, .int .i64 0, .bool false, .bool false, .bool false, .bool false, .bool false, .int .i64 0, .int .i64 0, .int .i64 0, .bool false, .bool false, .bool false, .bool false, .bool false, .int .i64 0, .int .i64 0, .int .i64 0]
/-- One kind's rule. -/
def ruleC (k : Nat) : Array Value := rulesC.extract (k * 8) (k * 8 + 8)
theorem rules_zero (w : World) : (zeroValue 194).run Tryz.prog w = .ok (.agg rulesZ) w := by
  have h : (Tryz.prog.info? 194).bind (·.zero) = some (.agg rulesZ) := by kernel_rfl
  unfold zeroValue typeInfo
  cases hi : Tryz.prog.info? 194 with
  | none => rw [hi] at h; cases h
  | some i =>
    rw [hi] at h
    have h2 : i.zero = some (.agg rulesZ) := h
    simp [hi, h2]
theorem rules_size : (Tryz.prog.info? 194).map (·.size) = some rulesC.size := by kernel_rfl
theorem rules_ones : rulesC.all (·.oneCell') = true := by kernel_rfl
theorem rules_built : Tryz.prog.built 194 [(0, .agg #[.bool true, .bool false, .bool false, .bool false, .bool false, .int .i64 9223372036854775807, .int .i64 0, .int .i64 0]), (1, .agg #[.bool true, .bool false, .bool false, .bool false, .bool false, .int .i64 1, .int .i64 0, .int .i64 0]), (2, .agg #[.bool false, .bool true, .bool false, .bool false, .bool false, .int .i64 0, .int .i64 0, .int .i64 0]), (3, .agg #[.bool false, .bool false, .bool false, .bool false, .bool false, .int .i64 0, .int .i64 1, .int .i64 1]), (4, .agg #[.bool false, .bool false, .bool false, .bool false, .bool false, .int .i64 0, .int .i64 1, .int .i64 1]), (5, .agg #[.bool false, .bool false, .bool false, .bool true, .bool false, .int .i64 0, .int .i64 2, .int .i64 2]), (6, .agg #[.bool false, .bool true, .bool true, .bool false, .bool true, .int .i64 0, .int .i64 0, .int .i64 4]), (7, .agg #[.bool false, .bool true, .bool false, .bool false, .bool false, .int .i64 0, .int .i64 0, .int .i64 4])] = some rulesC := by kernel_rfl
set_option maxRecDepth 100000 in
theorem rules_any (w : World) : Calls Tryz.prog 138 #[] w fun e w' => e = .returned (.agg rulesC) ∧ Below w.heap.size w w' := by
  have H0 := Lib.hid (show ∀ (o : Obj), (w.alloc o).heap[w.heap.size]? = some o from fun o => heap_alloc_new w o)
  go_enter Tryz.func138, Tryz.ntmps138
  go_wp2_with (first
    | (with_reducible refine at_alloc_ ?_; refine wpList_alloc_mine rfl 194 rfl _ rfl rulesZ rules_zero rfl ?_)
    | (with_reducible refine at_build_ (t := 194) ?_; refine Hid.out ?_))
  refine Lib.hid ?_
  refine wpList_buildTo rfl 194 _ rfl _ rfl rulesC (by simp only [List.map_toArray, List.map_cons, List.map_nil, List.toList_toArray]; exact rules_built) ?_
  go_wp2_with (with_reducible refine at_store_ ?_; refine Hid.out ?_)
  refine Lib.hid ?_
  refine wpList_store_rowTo rfl 194 (.tmp 0) (.tmp 9) rfl rfl w.heap.size rulesC rfl rfl 194 rulesZ (H0.out _) rules_size rfl rules_ones ?_
  rw [setRow_alloc]
  go_wp2_with fail
  refine bodyPost_ret (results_cell_row rfl _ _ w.heap.size _ _ _ _ rfl (H0.out _) Tryz.underlying194 rfl rules_size) rfl ⟨rfl, (Below.refl _ _).alloc (Nat.le_refl _) _⟩
set_option maxRecDepth 100000 in
theorem rule_at (k : Nat) (hk : k < 8) (w : World) : (Instr.index 194 (.agg rulesC) (.int .i64 (k : Int))).run Tryz.prog w = .ok (.agg (ruleC k)) w := by
  match k, hk with
  | 0, _ => rfl
  | 1, _ => rfl
  | 2, _ => rfl
  | 3, _ => rfl
  | 4, _ => rfl
  | 5, _ => rfl
  | 6, _ => rfl
  | 7, _ => rfl
set_option maxRecDepth 100000 in
theorem hasName_any (k : Int) (w : World) : Calls Tryz.prog 122 #[.int .i64 k] w fun e w' => e = .returned (.bool (decide (k ≤ 1 ∧ 0 ≤ k))) ∧ w' = w := by
  rcases Classical.em (k = 0) with h0 | h0
  · subst h0
    go_enter Tryz.func122, Tryz.ntmps122
    go_wp2
    go_ret
    exact ⟨rfl, rfl⟩
  · have h1 : decide (k ≤ 1 ∧ 0 ≤ k) = (k == 1) := by rw [Bool.eq_iff_iff]; simp; omega
    rw [h1]
    have h2 : (k == 0) = false := by simp [h0]
    go_enter Tryz.func122, Tryz.ntmps122
    go_wp2
    go_ret
    exact ⟨rfl, rfl⟩
set_option maxRecDepth 100000 in
theorem hasExpr_any (k : Int) (w : World) : Calls Tryz.prog 123 #[.int .i64 k] w fun e w' => e = .returned (.bool (hasX k)) ∧ w' = w := by
  unfold hasX
  rcases Classical.em (k = 4) with h0 | h0
  · subst h0
    go_enter Tryz.func123, Tryz.ntmps123
    go_wp2
    go_ret
    exact ⟨rfl, rfl⟩
  · have h1 : decide (k ≠ 4 ∧ k ≠ 6) = (k != 6) := by rw [Bool.eq_iff_iff]; simp [h0]
    rw [h1]
    have h2 : (k != 4) = true := by simp [h0]
    go_enter Tryz.func123, Tryz.ntmps123
    go_wp2
    go_ret
    exact ⟨rfl, rfl⟩
set_option maxRecDepth 100000 in
theorem hasNum_any (k : Int) (w : World) : Calls Tryz.prog 136 #[.int .i64 k] w fun e w' => e = .returned (.bool (decide (k = 4 ∨ k = 6))) ∧ w' = w := by
  rcases Classical.em (k = 4) with h0 | h0
  · subst h0
    go_enter Tryz.func136, Tryz.ntmps136
    go_wp2
    go_ret
    exact ⟨rfl, rfl⟩
  · have h1 : decide (k = 4 ∨ k = 6) = (k == 6) := by rw [Bool.eq_iff_iff]; simp [h0]
    rw [h1]
    have h2 : (k == 4) = false := by simp [h0]
    go_enter Tryz.func136, Tryz.ntmps136
    go_wp2
    go_ret
    exact ⟨rfl, rfl⟩
end Go.Proofs.YtkakbidllpjopaaGreatDoor
namespace Go.Proofs.YtkakbidllpjopaaGreatDoor
open Go.RowKit

theorem ruleC0 : ruleC 0 = #[.bool true, .bool false, .bool false, .bool false, .bool false, .int .i64 9223372036854775807, .int .i64 0, .int .i64 0] := rfl
theorem ruleC1 : ruleC 1 = #[.bool true, .bool false, .bool false, .bool false, .bool false, .int .i64 1, .int .i64 0, .int .i64 0] := rfl
theorem ruleC2 : ruleC 2 = #[.bool false, .bool true, .bool false, .bool false, .bool false, .int .i64 0, .int .i64 0, .int .i64 0] := rfl
theorem ruleC3 : ruleC 3 = #[.bool false, .bool false, .bool false, .bool false, .bool false, .int .i64 0, .int .i64 1, .int .i64 1] := rfl
theorem ruleC4 : ruleC 4 = #[.bool false, .bool false, .bool false, .bool false, .bool false, .int .i64 0, .int .i64 1, .int .i64 1] := rfl
theorem ruleC5 : ruleC 5 = #[.bool false, .bool false, .bool false, .bool true, .bool false, .int .i64 0, .int .i64 2, .int .i64 2] := rfl
theorem ruleC6 : ruleC 6 = #[.bool false, .bool true, .bool true, .bool false, .bool true, .int .i64 0, .int .i64 0, .int .i64 4] := rfl
theorem ruleC7 : ruleC 7 = #[.bool false, .bool true, .bool false, .bool false, .bool false, .int .i64 0, .int .i64 0, .int .i64 4] := rfl
theorem nil_facts {s : Str} (h : s = []) : (bs s).toList = [] ∧ (bs s).toList.isEmpty = true := by subst h; exact ⟨bs_toList [], by rw [bs_toList]; rfl⟩
theorem cons_facts {s : Str} (h : ¬ s = []) : ¬ (bs s).toList = [] ∧ (bs s).toList.isEmpty = false := by
  rw [bs_toList]
  exact ⟨h, by cases s with | nil => exact absurd rfl h | cons => rfl⟩
theorem beq_nil {s : Str} (h : ¬ s = []) : (s == []) = false := by simp [h]
set_option maxRecDepth 100000 in
set_option maxHeartbeats 12800000 in
theorem form0_any (n : Int) (s m : Str) (A : Option Addr) (na ca : Nat) (O : Option Addr) (no co : Nat) (a o : List Ex) (w : World) (ha : na = a.length) (ho : no = o.length) :
    Calls Tryz.prog 139 #[.agg (ruleC 0), .agg (exC 0 n s m A na ca O no co).toArray] w fun e w' => e = .returned (.bool (formE (.mk 0 n s m a o))) ∧ Below w.heap.size w w' := by
  have HB := Lib.hid (fun X Y => (((Below.refl w.heap.size w).alloc (Nat.le_refl _) X).alloc (by show _ ≤ (w.heap.push X).size; simp) Y))
  have HD := Lib.hid (fun X Y k => (show Below w.heap.size w (((w.alloc X).alloc Y).drewN k) from ⟨(HB.out X Y).os, (HB.out X Y).tape, (HB.out X Y).output, (HB.out X Y).size, (HB.out X Y).block⟩))
  obtain ⟨f, hf⟩ : ∃ f, f = formE (.mk 0 n s m a o) := ⟨_, rfl⟩
  rw [← hf]
  unfold formE at hf
  simp only [Ex.kind, Ex.num, Ex.name, Ex.meth, Ex.args, Ex.orr, ← ha, ← ho] at hf
  simp (config := { decide := true }) only [if_true, if_false, or_true, true_or, or_false, false_or] at hf
  rw [ruleC0]
  unfold exC
  clear ha ho
  by_cases qs : s = []
  rotate_left
  · obtain ⟨qs1, qs2⟩ := cons_facts qs
    have qs3 := beq_nil qs
    obtain rfl : f = false := by rw [hf]; first | rfl | (simp [qs]; done) | (simp [qs]; omega)
    clear hf
    go_enter Tryz.func139, Tryz.ntmps139
    go_wp2
    repeat (go_quiet (fail); go_wp2)
    go_ret
    first | exact ⟨rfl, HB.out _ _⟩ | exact ⟨rfl, HD.out _ _ _⟩
  obtain ⟨qs1, qs2⟩ := nil_facts qs
  subst qs
  by_cases qm : m = []
  rotate_left
  · obtain ⟨qm1, qm2⟩ := cons_facts qm
    have qm3 := beq_nil qm
    obtain rfl : f = false := by rw [hf]; first | rfl | (simp [qm]; done) | (simp [qm]; omega)
    clear hf
    go_enter Tryz.func139, Tryz.ntmps139
    go_wp2
    repeat (go_quiet (fail); go_wp2)
    go_ret
    first | exact ⟨rfl, HB.out _ _⟩ | exact ⟨rfl, HD.out _ _ _⟩
  obtain ⟨qm1, qm2⟩ := nil_facts qm
  subst qm
  by_cases qh : 0 < (na : Int)
  · have qh2 : ¬ na ≤ 0 := by omega
    have qh3 : ¬ na = 0 := by omega
    have qh4 : ¬ (na : Int) < 0 := by omega
    obtain rfl : f = false := by rw [hf]; first | rfl | (simp [qh2, qh3]; done) | (simp [qh2, qh3]; omega)
    clear hf
    go_enter Tryz.func139, Tryz.ntmps139
    go_wp2
    repeat (go_quiet (fail); go_wp2)
    go_ret
    first | exact ⟨rfl, HB.out _ _⟩ | exact ⟨rfl, HD.out _ _ _⟩
  have qh4 : ¬ (na : Int) < 0 := by omega
  have qh5 : na ≤ 0 := by omega
  have qh6 : na = 0 := by omega
  by_cases qo : no = 0
  · subst qo
    obtain rfl : f = true := by rw [hf]; first | rfl | (simp [qh6, qh5]; done) | (simp [qh6, qh5]; omega)
    clear hf
    go_enter Tryz.func139, Tryz.ntmps139
    go_wp2
    repeat (go_quiet (fail); go_wp2)
    go_ret
    first | exact ⟨rfl, HB.out _ _⟩ | exact ⟨rfl, HD.out _ _ _⟩
  have qo1 : ((no : Int) == 0) = false := by simp [qo]
  have qo2 : ¬ (no : Int) = 0 := by omega
  obtain rfl : f = false := by rw [hf]; first | rfl | (simp [qh6, qh5, qo]; done) | (simp [qh6, qh5, qo]; omega)
  clear hf
  go_enter Tryz.func139, Tryz.ntmps139
  go_wp2
  repeat (go_quiet (fail); go_wp2)
  go_ret
  first | exact ⟨rfl, HB.out _ _⟩ | exact ⟨rfl, HD.out _ _ _⟩
set_option maxRecDepth 100000 in
set_option maxHeartbeats 12800000 in
theorem form1_any (n : Int) (s m : Str) (A : Option Addr) (na ca : Nat) (O : Option Addr) (no co : Nat) (a o : List Ex) (w : World) (ha : na = a.length) (ho : no = o.length) :
    Calls Tryz.prog 139 #[.agg (ruleC 1), .agg (exC 1 n s m A na ca O no co).toArray] w fun e w' => e = .returned (.bool (formE (.mk 1 n s m a o))) ∧ Below w.heap.size w w' := by
  have HB := Lib.hid (fun X Y => (((Below.refl w.heap.size w).alloc (Nat.le_refl _) X).alloc (by show _ ≤ (w.heap.push X).size; simp) Y))
  have HD := Lib.hid (fun X Y k => (show Below w.heap.size w (((w.alloc X).alloc Y).drewN k) from ⟨(HB.out X Y).os, (HB.out X Y).tape, (HB.out X Y).output, (HB.out X Y).size, (HB.out X Y).block⟩))
  obtain ⟨f, hf⟩ : ∃ f, f = formE (.mk 1 n s m a o) := ⟨_, rfl⟩
  rw [← hf]
  unfold formE at hf
  simp only [Ex.kind, Ex.num, Ex.name, Ex.meth, Ex.args, Ex.orr, ← ha, ← ho] at hf
  simp (config := { decide := true }) only [if_true, if_false, or_true, true_or, or_false, false_or] at hf
  rw [ruleC1]
  unfold exC
  clear ha ho
  by_cases qs : s = []
  rotate_left
  · obtain ⟨qs1, qs2⟩ := cons_facts qs
    have qs3 := beq_nil qs
    obtain rfl : f = false := by rw [hf]; first | rfl | (simp [qs]; done) | (simp [qs]; omega)
    clear hf
    go_enter Tryz.func139, Tryz.ntmps139
    go_wp2
    repeat (go_quiet (fail); go_wp2)
    go_ret
    first | exact ⟨rfl, HB.out _ _⟩ | exact ⟨rfl, HD.out _ _ _⟩
  obtain ⟨qs1, qs2⟩ := nil_facts qs
  subst qs
  by_cases qm : m = []
  rotate_left
  · obtain ⟨qm1, qm2⟩ := cons_facts qm
    have qm3 := beq_nil qm
    obtain rfl : f = false := by rw [hf]; first | rfl | (simp [qm]; done) | (simp [qm]; omega)
    clear hf
    go_enter Tryz.func139, Tryz.ntmps139
    go_wp2
    repeat (go_quiet (fail); go_wp2)
    go_ret
    first | exact ⟨rfl, HB.out _ _⟩ | exact ⟨rfl, HD.out _ _ _⟩
  obtain ⟨qm1, qm2⟩ := nil_facts qm
  subst qm
  by_cases qh : 0 < (na : Int)
  · have qh2 : ¬ na ≤ 0 := by omega
    have qh3 : ¬ na = 0 := by omega
    have qh4 : ¬ (na : Int) < 0 := by omega
    obtain rfl : f = false := by rw [hf]; first | rfl | (simp [qh2, qh3]; done) | (simp [qh2, qh3]; omega)
    clear hf
    go_enter Tryz.func139, Tryz.ntmps139
    go_wp2
    repeat (go_quiet (fail); go_wp2)
    go_ret
    first | exact ⟨rfl, HB.out _ _⟩ | exact ⟨rfl, HD.out _ _ _⟩
  have qh4 : ¬ (na : Int) < 0 := by omega
  have qh5 : na ≤ 0 := by omega
  have qh6 : na = 0 := by omega
  by_cases qo : no = 0
  · subst qo
    obtain rfl : f = true := by rw [hf]; first | rfl | (simp [qh6, qh5]; done) | (simp [qh6, qh5]; omega)
    clear hf
    go_enter Tryz.func139, Tryz.ntmps139
    go_wp2
    repeat (go_quiet (fail); go_wp2)
    go_ret
    first | exact ⟨rfl, HB.out _ _⟩ | exact ⟨rfl, HD.out _ _ _⟩
  have qo1 : ((no : Int) == 0) = false := by simp [qo]
  have qo2 : ¬ (no : Int) = 0 := by omega
  obtain rfl : f = false := by rw [hf]; first | rfl | (simp [qh6, qh5, qo]; done) | (simp [qh6, qh5, qo]; omega)
  clear hf
  go_enter Tryz.func139, Tryz.ntmps139
  go_wp2
  repeat (go_quiet (fail); go_wp2)
  go_ret
  first | exact ⟨rfl, HB.out _ _⟩ | exact ⟨rfl, HD.out _ _ _⟩
set_option maxRecDepth 100000 in
set_option maxHeartbeats 12800000 in
theorem form2_any (n : Int) (s m : Str) (A : Option Addr) (na ca : Nat) (O : Option Addr) (no co : Nat) (a o : List Ex) (w : World) (ha : na = a.length) (ho : no = o.length) :
    Calls Tryz.prog 139 #[.agg (ruleC 2), .agg (exC 2 n s m A na ca O no co).toArray] w fun e w' => e = .returned (.bool (formE (.mk 2 n s m a o))) ∧ Below w.heap.size w w' := by
  have HB := Lib.hid (fun X Y => (((Below.refl w.heap.size w).alloc (Nat.le_refl _) X).alloc (by show _ ≤ (w.heap.push X).size; simp) Y))
  have HD := Lib.hid (fun X Y k => (show Below w.heap.size w (((w.alloc X).alloc Y).drewN k) from ⟨(HB.out X Y).os, (HB.out X Y).tape, (HB.out X Y).output, (HB.out X Y).size, (HB.out X Y).block⟩))
  obtain ⟨f, hf⟩ : ∃ f, f = formE (.mk 2 n s m a o) := ⟨_, rfl⟩
  rw [← hf]
  unfold formE at hf
  simp only [Ex.kind, Ex.num, Ex.name, Ex.meth, Ex.args, Ex.orr, ← ha, ← ho] at hf
  simp (config := { decide := true }) only [if_true, if_false, or_true, true_or, or_false, false_or] at hf
  rw [ruleC2]
  unfold exC
  clear ha ho
  by_cases qn : n = 0
  rotate_left
  · have qn1 : (n != 0) = true := by simp [qn]
    obtain rfl : f = false := by rw [hf]; first | rfl | (simp [qn]; done) | (simp [qn]; omega)
    clear hf
    go_enter Tryz.func139, Tryz.ntmps139
    go_wp2
    repeat (go_quiet (fail); go_wp2)
    go_ret
    first | exact ⟨rfl, HB.out _ _⟩ | exact ⟨rfl, HD.out _ _ _⟩
  subst qn
  by_cases qm : m = []
  rotate_left
  · obtain ⟨qm1, qm2⟩ := cons_facts qm
    have qm3 := beq_nil qm
    obtain rfl : f = false := by rw [hf]; first | rfl | (simp [qm]; done) | (simp [qm]; omega)
    clear hf
    go_enter Tryz.func139, Tryz.ntmps139
    go_wp2
    repeat (go_quiet (fail); go_wp2)
    go_ret
    first | exact ⟨rfl, HB.out _ _⟩ | exact ⟨rfl, HD.out _ _ _⟩
  obtain ⟨qm1, qm2⟩ := nil_facts qm
  subst qm
  by_cases qh : 0 < (na : Int)
  · have qh2 : ¬ na ≤ 0 := by omega
    have qh3 : ¬ na = 0 := by omega
    have qh4 : ¬ (na : Int) < 0 := by omega
    obtain rfl : f = false := by rw [hf]; first | rfl | (simp [qh2, qh3]; done) | (simp [qh2, qh3]; omega)
    clear hf
    go_enter Tryz.func139, Tryz.ntmps139
    go_wp2
    repeat (go_quiet (fail); go_wp2)
    go_ret
    first | exact ⟨rfl, HB.out _ _⟩ | exact ⟨rfl, HD.out _ _ _⟩
  have qh4 : ¬ (na : Int) < 0 := by omega
  have qh5 : na ≤ 0 := by omega
  have qh6 : na = 0 := by omega
  by_cases qo : no = 0
  · subst qo
    obtain rfl : f = true := by rw [hf]; first | rfl | (simp [qh6, qh5]; done) | (simp [qh6, qh5]; omega)
    clear hf
    go_enter Tryz.func139, Tryz.ntmps139
    go_wp2
    repeat (go_quiet (fail); go_wp2)
    go_ret
    first | exact ⟨rfl, HB.out _ _⟩ | exact ⟨rfl, HD.out _ _ _⟩
  have qo1 : ((no : Int) == 0) = false := by simp [qo]
  have qo2 : ¬ (no : Int) = 0 := by omega
  obtain rfl : f = false := by rw [hf]; first | rfl | (simp [qh6, qh5, qo]; done) | (simp [qh6, qh5, qo]; omega)
  clear hf
  go_enter Tryz.func139, Tryz.ntmps139
  go_wp2
  repeat (go_quiet (fail); go_wp2)
  go_ret
  first | exact ⟨rfl, HB.out _ _⟩ | exact ⟨rfl, HD.out _ _ _⟩
set_option maxRecDepth 100000 in
set_option maxHeartbeats 12800000 in
theorem form3_any (n : Int) (s m : Str) (A : Option Addr) (na ca : Nat) (O : Option Addr) (no co : Nat) (a o : List Ex) (w : World) (ha : na = a.length) (ho : no = o.length) :
    Calls Tryz.prog 139 #[.agg (ruleC 3), .agg (exC 3 n s m A na ca O no co).toArray] w fun e w' => e = .returned (.bool (formE (.mk 3 n s m a o))) ∧ Below w.heap.size w w' := by
  have HB := Lib.hid (fun X Y => (((Below.refl w.heap.size w).alloc (Nat.le_refl _) X).alloc (by show _ ≤ (w.heap.push X).size; simp) Y))
  have HD := Lib.hid (fun X Y k => (show Below w.heap.size w (((w.alloc X).alloc Y).drewN k) from ⟨(HB.out X Y).os, (HB.out X Y).tape, (HB.out X Y).output, (HB.out X Y).size, (HB.out X Y).block⟩))
  obtain ⟨f, hf⟩ : ∃ f, f = formE (.mk 3 n s m a o) := ⟨_, rfl⟩
  rw [← hf]
  unfold formE at hf
  simp only [Ex.kind, Ex.num, Ex.name, Ex.meth, Ex.args, Ex.orr, ← ha, ← ho] at hf
  simp (config := { decide := true }) only [if_true, if_false, or_true, true_or, or_false, false_or] at hf
  rw [ruleC3]
  unfold exC
  clear ha ho
  by_cases qn : n = 0
  rotate_left
  · have qn1 : (n != 0) = true := by simp [qn]
    obtain rfl : f = false := by rw [hf]; first | rfl | (simp [qn]; done) | (simp [qn]; omega)
    clear hf
    go_enter Tryz.func139, Tryz.ntmps139
    go_wp2
    repeat (go_quiet (fail); go_wp2)
    go_ret
    first | exact ⟨rfl, HB.out _ _⟩ | exact ⟨rfl, HD.out _ _ _⟩
  subst qn
  by_cases qs : s = []
  rotate_left
  · obtain ⟨qs1, qs2⟩ := cons_facts qs
    have qs3 := beq_nil qs
    obtain rfl : f = false := by rw [hf]; first | rfl | (simp [qs]; done) | (simp [qs]; omega)
    clear hf
    go_enter Tryz.func139, Tryz.ntmps139
    go_wp2
    repeat (go_quiet (fail); go_wp2)
    go_ret
    first | exact ⟨rfl, HB.out _ _⟩ | exact ⟨rfl, HD.out _ _ _⟩
  obtain ⟨qs1, qs2⟩ := nil_facts qs
  subst qs
  by_cases qm : m = []
  rotate_left
  · obtain ⟨qm1, qm2⟩ := cons_facts qm
    have qm3 := beq_nil qm
    obtain rfl : f = false := by rw [hf]; first | rfl | (simp [qm]; done) | (simp [qm]; omega)
    clear hf
    go_enter Tryz.func139, Tryz.ntmps139
    go_wp2
    repeat (go_quiet (fail); go_wp2)
    go_ret
    first | exact ⟨rfl, HB.out _ _⟩ | exact ⟨rfl, HD.out _ _ _⟩
  obtain ⟨qm1, qm2⟩ := nil_facts qm
  subst qm
  by_cases ql : (na : Int) < 1
  · have ql2 : ¬ na = 1 := by omega
    obtain rfl : f = false := by rw [hf]; first | rfl | (simp [ql2]; done) | (simp [ql2]; omega)
    clear hf
    go_enter Tryz.func139, Tryz.ntmps139
    go_wp2
    repeat (go_quiet (fail); go_wp2)
    go_ret
    first | exact ⟨rfl, HB.out _ _⟩ | exact ⟨rfl, HD.out _ _ _⟩
  by_cases qh : 1 < (na : Int)
  · have qh2 : ¬ na ≤ 1 := by omega
    have qh3 : ¬ na = 1 := by omega
    have qh4 : ¬ (na : Int) < 1 := by omega
    obtain rfl : f = false := by rw [hf]; first | rfl | (simp [qh2, qh3]; done) | (simp [qh2, qh3]; omega)
    clear hf
    go_enter Tryz.func139, Tryz.ntmps139
    go_wp2
    repeat (go_quiet (fail); go_wp2)
    go_ret
    first | exact ⟨rfl, HB.out _ _⟩ | exact ⟨rfl, HD.out _ _ _⟩
  have qh4 : ¬ (na : Int) < 1 := by omega
  have qh5 : na ≤ 1 := by omega
  have qh6 : na = 1 := by omega
  by_cases qo : no = 0
  · subst qo
    obtain rfl : f = true := by rw [hf]; first | rfl | (simp [qh6, qh5]; done) | (simp [qh6, qh5]; omega)
    clear hf
    go_enter Tryz.func139, Tryz.ntmps139
    go_wp2
    repeat (go_quiet (fail); go_wp2)
    go_ret
    first | exact ⟨rfl, HB.out _ _⟩ | exact ⟨rfl, HD.out _ _ _⟩
  have qo1 : ((no : Int) == 0) = false := by simp [qo]
  have qo2 : ¬ (no : Int) = 0 := by omega
  obtain rfl : f = false := by rw [hf]; first | rfl | (simp [qh6, qh5, qo]; done) | (simp [qh6, qh5, qo]; omega)
  clear hf
  go_enter Tryz.func139, Tryz.ntmps139
  go_wp2
  repeat (go_quiet (fail); go_wp2)
  go_ret
  first | exact ⟨rfl, HB.out _ _⟩ | exact ⟨rfl, HD.out _ _ _⟩
set_option maxRecDepth 100000 in
set_option maxHeartbeats 12800000 in
theorem form4_any (n : Int) (s m : Str) (A : Option Addr) (na ca : Nat) (O : Option Addr) (no co : Nat) (a o : List Ex) (w : World) (ha : na = a.length) (ho : no = o.length) :
    Calls Tryz.prog 139 #[.agg (ruleC 4), .agg (exC 4 n s m A na ca O no co).toArray] w fun e w' => e = .returned (.bool (formE (.mk 4 n s m a o))) ∧ Below w.heap.size w w' := by
  have HB := Lib.hid (fun X Y => (((Below.refl w.heap.size w).alloc (Nat.le_refl _) X).alloc (by show _ ≤ (w.heap.push X).size; simp) Y))
  have HD := Lib.hid (fun X Y k => (show Below w.heap.size w (((w.alloc X).alloc Y).drewN k) from ⟨(HB.out X Y).os, (HB.out X Y).tape, (HB.out X Y).output, (HB.out X Y).size, (HB.out X Y).block⟩))
  obtain ⟨f, hf⟩ : ∃ f, f = formE (.mk 4 n s m a o) := ⟨_, rfl⟩
  rw [← hf]
  unfold formE at hf
  simp only [Ex.kind, Ex.num, Ex.name, Ex.meth, Ex.args, Ex.orr, ← ha, ← ho] at hf
  simp (config := { decide := true }) only [if_true, if_false, or_true, true_or, or_false, false_or] at hf
  rw [ruleC4]
  unfold exC
  clear ha ho
  by_cases qn : n = 0
  rotate_left
  · have qn1 : (n != 0) = true := by simp [qn]
    obtain rfl : f = false := by rw [hf]; first | rfl | (simp [qn]; done) | (simp [qn]; omega)
    clear hf
    go_enter Tryz.func139, Tryz.ntmps139
    go_wp2
    repeat (go_quiet (fail); go_wp2)
    go_ret
    first | exact ⟨rfl, HB.out _ _⟩ | exact ⟨rfl, HD.out _ _ _⟩
  subst qn
  by_cases qs : s = []
  rotate_left
  · obtain ⟨qs1, qs2⟩ := cons_facts qs
    have qs3 := beq_nil qs
    obtain rfl : f = false := by rw [hf]; first | rfl | (simp [qs]; done) | (simp [qs]; omega)
    clear hf
    go_enter Tryz.func139, Tryz.ntmps139
    go_wp2
    repeat (go_quiet (fail); go_wp2)
    go_ret
    first | exact ⟨rfl, HB.out _ _⟩ | exact ⟨rfl, HD.out _ _ _⟩
  obtain ⟨qs1, qs2⟩ := nil_facts qs
  subst qs
  by_cases qm : m = []
  rotate_left
  · obtain ⟨qm1, qm2⟩ := cons_facts qm
    have qm3 := beq_nil qm
    obtain rfl : f = false := by rw [hf]; first | rfl | (simp [qm]; done) | (simp [qm]; omega)
    clear hf
    go_enter Tryz.func139, Tryz.ntmps139
    go_wp2
    repeat (go_quiet (fail); go_wp2)
    go_ret
    first | exact ⟨rfl, HB.out _ _⟩ | exact ⟨rfl, HD.out _ _ _⟩
  obtain ⟨qm1, qm2⟩ := nil_facts qm
  subst qm
  by_cases ql : (na : Int) < 1
  · have ql2 : ¬ na = 1 := by omega
    obtain rfl : f = false := by rw [hf]; first | rfl | (simp [ql2]; done) | (simp [ql2]; omega)
    clear hf
    go_enter Tryz.func139, Tryz.ntmps139
    go_wp2
    repeat (go_quiet (fail); go_wp2)
    go_ret
    first | exact ⟨rfl, HB.out _ _⟩ | exact ⟨rfl, HD.out _ _ _⟩
  by_cases qh : 1 < (na : Int)
  · have qh2 : ¬ na ≤ 1 := by omega
    have qh3 : ¬ na = 1 := by omega
    have qh4 : ¬ (na : Int) < 1 := by omega
    obtain rfl : f = false := by rw [hf]; first | rfl | (simp [qh2, qh3]; done) | (simp [qh2, qh3]; omega)
    clear hf
    go_enter Tryz.func139, Tryz.ntmps139
    go_wp2
    repeat (go_quiet (fail); go_wp2)
    go_ret
    first | exact ⟨rfl, HB.out _ _⟩ | exact ⟨rfl, HD.out _ _ _⟩
  have qh4 : ¬ (na : Int) < 1 := by omega
  have qh5 : na ≤ 1 := by omega
  have qh6 : na = 1 := by omega
  by_cases qo : no = 0
  · subst qo
    obtain rfl : f = true := by rw [hf]; first | rfl | (simp [qh6, qh5]; done) | (simp [qh6, qh5]; omega)
    clear hf
    go_enter Tryz.func139, Tryz.ntmps139
    go_wp2
    repeat (go_quiet (fail); go_wp2)
    go_ret
    first | exact ⟨rfl, HB.out _ _⟩ | exact ⟨rfl, HD.out _ _ _⟩
  have qo1 : ((no : Int) == 0) = false := by simp [qo]
  have qo2 : ¬ (no : Int) = 0 := by omega
  obtain rfl : f = false := by rw [hf]; first | rfl | (simp [qh6, qh5, qo]; done) | (simp [qh6, qh5, qo]; omega)
  clear hf
  go_enter Tryz.func139, Tryz.ntmps139
  go_wp2
  repeat (go_quiet (fail); go_wp2)
  go_ret
  first | exact ⟨rfl, HB.out _ _⟩ | exact ⟨rfl, HD.out _ _ _⟩
set_option maxRecDepth 100000 in
set_option maxHeartbeats 12800000 in
theorem form6_any (n : Int) (s m : Str) (A : Option Addr) (na ca : Nat) (O : Option Addr) (no co : Nat) (a o : List Ex) (w : World) (ha : na = a.length) (ho : no = o.length) :
    Calls Tryz.prog 139 #[.agg (ruleC 6), .agg (exC 6 n s m A na ca O no co).toArray] w fun e w' => e = .returned (.bool (formE (.mk 6 n s m a o))) ∧ Below w.heap.size w w' := by
  have HB := Lib.hid (fun X Y => (((Below.refl w.heap.size w).alloc (Nat.le_refl _) X).alloc (by show _ ≤ (w.heap.push X).size; simp) Y))
  have HD := Lib.hid (fun X Y k => (show Below w.heap.size w (((w.alloc X).alloc Y).drewN k) from ⟨(HB.out X Y).os, (HB.out X Y).tape, (HB.out X Y).output, (HB.out X Y).size, (HB.out X Y).block⟩))
  obtain ⟨f, hf⟩ : ∃ f, f = formE (.mk 6 n s m a o) := ⟨_, rfl⟩
  rw [← hf]
  unfold formE at hf
  simp only [Ex.kind, Ex.num, Ex.name, Ex.meth, Ex.args, Ex.orr, ← ha, ← ho] at hf
  simp (config := { decide := true }) only [if_true, if_false, or_true, true_or, or_false, false_or] at hf
  rw [ruleC6]
  unfold exC
  clear ha ho
  by_cases qn : n = 0
  rotate_left
  · have qn1 : (n != 0) = true := by simp [qn]
    obtain rfl : f = false := by rw [hf]; first | rfl | (simp [qn]; done) | (simp [qn]; omega)
    clear hf
    go_enter Tryz.func139, Tryz.ntmps139
    go_wp2
    repeat (go_quiet (fail); go_wp2)
    go_ret
    first | exact ⟨rfl, HB.out _ _⟩ | exact ⟨rfl, HD.out _ _ _⟩
  subst qn
  by_cases qh : 4 < (na : Int)
  · have qh2 : ¬ na ≤ 4 := by omega
    have qh3 : ¬ na = 4 := by omega
    have qh4 : ¬ (na : Int) < 0 := by omega
    obtain rfl : f = false := by rw [hf]; first | rfl | (simp [qh2, qh3]; done) | (simp [qh2, qh3]; omega)
    clear hf
    go_enter Tryz.func139, Tryz.ntmps139
    go_wp2
    repeat (go_quiet (fail); go_wp2)
    go_ret
    first | exact ⟨rfl, HB.out _ _⟩ | exact ⟨rfl, HD.out _ _ _⟩
  have qh4 : ¬ (na : Int) < 0 := by omega
  have qh5 : na ≤ 4 := by omega
  by_cases qo : no = 0
  · subst qo
    obtain rfl : f = true := by rw [hf]; first | rfl | (simp [qh5]; done) | (simp [qh5]; omega)
    clear hf
    go_enter Tryz.func139, Tryz.ntmps139
    go_wp2
    repeat (go_quiet (fail); go_wp2)
    go_ret
    first | exact ⟨rfl, HB.out _ _⟩ | exact ⟨rfl, HD.out _ _ _⟩
  have qo1 : ((no : Int) == 0) = false := by simp [qo]
  have qo2 : ¬ (no : Int) = 0 := by omega
  by_cases qp : no = 1
  · subst qp
    obtain rfl : f = true := by rw [hf]; first | rfl | (simp [qh5]; done) | (simp [qh5]; omega)
    clear hf
    go_enter Tryz.func139, Tryz.ntmps139
    go_wp2
    repeat (go_quiet (fail); go_wp2)
    go_ret
    first | exact ⟨rfl, HB.out _ _⟩ | exact ⟨rfl, HD.out _ _ _⟩
  have qp1 : ((no : Int) == 1) = false := by simp; omega
  have qp2 : ¬ (no : Int) = 1 := by omega
  have qp3 : ¬ no ≤ 1 := by omega
  obtain rfl : f = false := by rw [hf]; first | rfl | (simp [qh5, qp3, qo]; done) | (simp [qh5, qp3, qo]; omega)
  clear hf
  go_enter Tryz.func139, Tryz.ntmps139
  go_wp2
  repeat (go_quiet (fail); go_wp2)
  go_ret
  first | exact ⟨rfl, HB.out _ _⟩ | exact ⟨rfl, HD.out _ _ _⟩
set_option maxRecDepth 100000 in
set_option maxHeartbeats 12800000 in
theorem form7_any (n : Int) (s m : Str) (A : Option Addr) (na ca : Nat) (O : Option Addr) (no co : Nat) (a o : List Ex) (w : World) (ha : na = a.length) (ho : no = o.length) :
    Calls Tryz.prog 139 #[.agg (ruleC 7), .agg (exC 7 n s m A na ca O no co).toArray] w fun e w' => e = .returned (.bool (formE (.mk 7 n s m a o))) ∧ Below w.heap.size w w' := by
  have HB := Lib.hid (fun X Y => (((Below.refl w.heap.size w).alloc (Nat.le_refl _) X).alloc (by show _ ≤ (w.heap.push X).size; simp) Y))
  have HD := Lib.hid (fun X Y k => (show Below w.heap.size w (((w.alloc X).alloc Y).drewN k) from ⟨(HB.out X Y).os, (HB.out X Y).tape, (HB.out X Y).output, (HB.out X Y).size, (HB.out X Y).block⟩))
  obtain ⟨f, hf⟩ : ∃ f, f = formE (.mk 7 n s m a o) := ⟨_, rfl⟩
  rw [← hf]
  unfold formE at hf
  simp only [Ex.kind, Ex.num, Ex.name, Ex.meth, Ex.args, Ex.orr, ← ha, ← ho] at hf
  simp (config := { decide := true }) only [if_true, if_false, or_true, true_or, or_false, false_or] at hf
  rw [ruleC7]
  unfold exC
  clear ha ho
  by_cases qn : n = 0
  rotate_left
  · have qn1 : (n != 0) = true := by simp [qn]
    obtain rfl : f = false := by rw [hf]; first | rfl | (simp [qn]; done) | (simp [qn]; omega)
    clear hf
    go_enter Tryz.func139, Tryz.ntmps139
    go_wp2
    repeat (go_quiet (fail); go_wp2)
    go_ret
    first | exact ⟨rfl, HB.out _ _⟩ | exact ⟨rfl, HD.out _ _ _⟩
  subst qn
  by_cases qm : m = []
  rotate_left
  · obtain ⟨qm1, qm2⟩ := cons_facts qm
    have qm3 := beq_nil qm
    obtain rfl : f = false := by rw [hf]; first | rfl | (simp [qm]; done) | (simp [qm]; omega)
    clear hf
    go_enter Tryz.func139, Tryz.ntmps139
    go_wp2
    repeat (go_quiet (fail); go_wp2)
    go_ret
    first | exact ⟨rfl, HB.out _ _⟩ | exact ⟨rfl, HD.out _ _ _⟩
  obtain ⟨qm1, qm2⟩ := nil_facts qm
  subst qm
  by_cases qh : 4 < (na : Int)
  · have qh2 : ¬ na ≤ 4 := by omega
    have qh3 : ¬ na = 4 := by omega
    have qh4 : ¬ (na : Int) < 0 := by omega
    obtain rfl : f = false := by rw [hf]; first | rfl | (simp [qh2, qh3]; done) | (simp [qh2, qh3]; omega)
    clear hf
    go_enter Tryz.func139, Tryz.ntmps139
    go_wp2
    repeat (go_quiet (fail); go_wp2)
    go_ret
    first | exact ⟨rfl, HB.out _ _⟩ | exact ⟨rfl, HD.out _ _ _⟩
  have qh4 : ¬ (na : Int) < 0 := by omega
  have qh5 : na ≤ 4 := by omega
  by_cases qo : no = 0
  · subst qo
    obtain rfl : f = true := by rw [hf]; first | rfl | (simp [qh5]; done) | (simp [qh5]; omega)
    clear hf
    go_enter Tryz.func139, Tryz.ntmps139
    go_wp2
    repeat (go_quiet (fail); go_wp2)
    go_ret
    first | exact ⟨rfl, HB.out _ _⟩ | exact ⟨rfl, HD.out _ _ _⟩
  have qo1 : ((no : Int) == 0) = false := by simp [qo]
  have qo2 : ¬ (no : Int) = 0 := by omega
  obtain rfl : f = false := by rw [hf]; first | rfl | (simp [qh5, qo]; done) | (simp [qh5, qo]; omega)
  clear hf
  go_enter Tryz.func139, Tryz.ntmps139
  go_wp2
  repeat (go_quiet (fail); go_wp2)
  go_ret
  first | exact ⟨rfl, HB.out _ _⟩ | exact ⟨rfl, HD.out _ _ _⟩
end Go.Proofs.YtkakbidllpjopaaGreatDoor
namespace Go.Proofs.YtkakbidllpjopaaGreatDoor
open Go.RowKit

set_option maxRecDepth 100000 in
theorem binaries_any (w : World) : Calls Tryz.prog 9 #[] w fun e w' => ∃ v, e = .returned v ∧ w'.ownsRow w.heap.size 9 1 v 13 ((sgns.map bs).map Value.string) ∧ Below w.heap.size w w' := by
  go_enter Tryz.func9, Tryz.ntmps9
  go_wp2
  go_ret
  exact ⟨_, rfl, ⟨rfl, .inr ⟨w.heap.size, 13, _, rfl, Nat.le_refl _, heap_alloc_new w _, by decide, by decide, rfl, rfl⟩⟩, (Below.refl _ _).alloc (Nat.le_refl _) _⟩

/-- A later world. -/
structure Bz (w0 w : World) : Prop where
  b : Below w0.heap.size w0 w
theorem Bz.next {w0 w w' : World} (h : Bz w0 w) (h' : Below w.heap.size w w') : Bz w0 w' := ⟨h.b.trans (h'.mono h.b.size)⟩
theorem Bz.drew {w0 w : World} (h : Bz w0 w) : Bz w0 w.drew := ⟨⟨h.b.os, h.b.tape, h.b.output, h.b.size, h.b.block⟩⟩
theorem Bz.drewN {w0 w : World} (h : Bz w0 w) (k : Nat) : Bz w0 (w.drewN k) := ⟨⟨h.b.os, h.b.tape, h.b.output, h.b.size, h.b.block⟩⟩
theorem cell_of_Bz {w0 w : World} (h : Bz w0 w) {g j : Nat} {v : Value} (hv : w0.cell? ⟨g, j, none⟩ = some v) (hg : g < w0.heap.size) : w.cell? ⟨g, j, none⟩ = some v := by
  rw [World.cell?_of_block (a := ⟨g, j, none⟩) (h.b.block g hg)]; exact hv

theorem form5_cases (q : Bool) (na no : Nat) (f : Bool) (hf : f = (decide ((0 : Int) = 0) && ([] : Str) == [] && q && decide (na = 2) && decide (no = 0))) :
    (q = false ∧ f = false) ∨ (q = true ∧ f = false ∧ (na : Int) < 2 ∧ True) ∨ (q = true ∧ f = false ∧ ¬ (na : Int) < 2 ∧ 2 < (na : Int)) ∨ (q = true ∧ f = true ∧ ¬ (na : Int) < 2 ∧ ¬ 2 < (na : Int) ∧ ((no : Int) == 0) = true) ∨ (q = true ∧ f = false ∧ ¬ (na : Int) < 2 ∧ ¬ 2 < (na : Int) ∧ ((no : Int) == 0) = false ∧ ¬ (no : Int) = 0) := by
  cases q with
  | false => exact .inl ⟨rfl, by rw [hf]; simp⟩
  | true =>
    right
    by_cases h1 : (na : Int) < 2
    · exact .inl ⟨rfl, by rw [hf, decide_eq_false (show ¬ na = 2 by omega)]; simp, h1, trivial⟩
    · right
      by_cases h2 : 2 < (na : Int)
      · exact .inl ⟨rfl, by rw [hf, decide_eq_false (show ¬ na = 2 by omega)]; simp, h1, h2⟩
      · right
        by_cases h3 : no = 0
        · exact .inl ⟨rfl, by rw [hf, decide_eq_true (show na = 2 by omega), h3]; simp, h1, h2, by simp [h3]⟩
        · exact .inr ⟨rfl, by rw [hf, decide_eq_false h3]; simp, h1, h2, by simp [h3], by omega⟩
set_option maxRecDepth 100000 in
set_option maxHeartbeats 12800000 in
theorem form5_any (n : Int) (s m : Str) (A : Option Addr) (na ca : Nat) (O : Option Addr) (no co : Nat) (a o : List Ex) (w : World) (ha : na = a.length) (ho : no = o.length) :
    Calls Tryz.prog 139 #[.agg (ruleC 5), .agg (exC 5 n s m A na ca O no co).toArray] w fun e w' => e = .returned (.bool (formE (.mk 5 n s m a o))) ∧ Below w.heap.size w w' := by
  have HB := Lib.hid (fun X Y => (((Below.refl w.heap.size w).alloc (Nat.le_refl _) X).alloc (by show _ ≤ (w.heap.push X).size; simp) Y))
  have HD := Lib.hid (fun X Y k => (show Below w.heap.size w (((w.alloc X).alloc Y).drewN k) from ⟨(HB.out X Y).os, (HB.out X Y).tape, (HB.out X Y).output, (HB.out X Y).size, (HB.out X Y).block⟩))
  obtain ⟨f, hf⟩ : ∃ f, f = formE (.mk 5 n s m a o) := ⟨_, rfl⟩
  rw [← hf]
  unfold formE at hf
  simp only [Ex.kind, Ex.num, Ex.name, Ex.meth, Ex.args, Ex.orr, ← ha, ← ho] at hf
  simp (config := { decide := true }) only [if_true, if_false, or_true, true_or, or_false, false_or] at hf
  rw [ruleC5]
  unfold exC
  clear ha ho
  by_cases qn : n = 0
  rotate_left
  · have qn1 : (n != 0) = true := by simp [qn]
    obtain rfl : f = false := by rw [hf]; simp [qn]
    clear hf
    go_enter Tryz.func139, Tryz.ntmps139
    go_wp2
    repeat (go_quiet (fail); go_wp2)
    go_ret
    first | exact ⟨rfl, HB.out _ _⟩ | exact ⟨rfl, HD.out _ _ _⟩
  subst qn
  by_cases qs : s = []
  rotate_left
  · obtain ⟨qs1, qs2⟩ := cons_facts qs
    have qs3 := beq_nil qs
    obtain rfl : f = false := by rw [hf]; simp [qs]
    clear hf
    go_enter Tryz.func139, Tryz.ntmps139
    go_wp2
    repeat (go_quiet (fail); go_wp2)
    go_ret
    first | exact ⟨rfl, HB.out _ _⟩ | exact ⟨rfl, HD.out _ _ _⟩
  obtain ⟨qs1, qs2⟩ := nil_facts qs
  subst qs
  have K1 := Lib.hid (fun W => binaries_any W)
  have K2 := Lib.hid (fun (W : World) base v (h : W.ownsRow base 9 1 v 13 ((sgns.map bs).map Value.string)) => contains_own h m rfl (by decide) (by decide))
  obtain ⟨q, hq⟩ : ∃ q, q = sgns.contains m := ⟨_, rfl⟩
  rw [← hq] at K2 hf
  clear hq
  have HW := Lib.hid (fun X Y (W : World) (h : Bz ((w.alloc (.cells X 193)).alloc (.cells Y 27)) W) => (show (∀ j v, X[j]? = some v → W.cell? ⟨w.heap.size, j, none⟩ = some v) ∧ (∀ j v, Y[j]? = some v → W.cell? ⟨w.heap.size + 1, j, none⟩ = some v) from by
    have e1 : ((w.alloc (.cells X 193)).alloc (.cells Y 27)).heap[w.heap.size]? = some (.cells X 193) := by
      rw [heap_alloc_old _ _ (by show _ < (w.heap.push _).size; simp)]; exact heap_alloc_new w _
    refine ⟨fun j v hv => cell_of_Bz h (by rw [cell_of_row _ _ _ _ _ _ e1]; exact hv) (lt_of_block e1), fun j v hv => cell_of_Bz h (by rw [cell_of_row _ _ _ _ _ _ (heap_alloc2_new w _ _)]; exact hv) (lt_of_block (heap_alloc2_new w _ _))⟩))
  go_enter Tryz.func139, Tryz.ntmps139
  go_wp2
  obtain ⟨W0, hW0⟩ : ∃ W0 : World, W0 = (w.alloc (.cells #[.bool false, .bool false, .bool false, .bool true, .bool false, .int .i64 0, .int .i64 2, .int .i64 2] 193)).alloc (.cells #[.int .i64 5, .int .i64 0, .string (bs []), .string (bs m), .slice A na ca, .slice O no co] 27) := ⟨_, rfl⟩
  have HF := Lib.hid (show ∀ W, Bz W0 W → (W.cell? ⟨w.heap.size, 4, none⟩ = some (.bool false) ∧ W.cell? ⟨w.heap.size, 6, none⟩ = some (.int .i64 2) ∧ W.cell? ⟨w.heap.size, 7, none⟩ = some (.int .i64 2) ∧ W.cell? ⟨w.heap.size + 1, 3, none⟩ = some (.string (bs m)) ∧ W.cell? ⟨w.heap.size + 1, 4, none⟩ = some (.slice A na ca) ∧ W.cell? ⟨w.heap.size + 1, 5, none⟩ = some (.slice O no co) ∧ W.cell? ⟨w.heap.size, 3, none⟩ = some (.bool true)) from fun W h => by
    subst hW0
    have h2 := HW.out _ _ W h
    exact ⟨h2.1 4 _ rfl, h2.1 6 _ rfl, h2.1 7 _ rfl, h2.2 3 _ rfl, h2.2 4 _ rfl, h2.2 5 _ rfl, h2.1 3 _ rfl⟩)
  have HG := Lib.hid (show ∀ W, Bz W0 W → Below w.heap.size w W from fun W h => by
    subst hW0
    exact (HB.out _ _).trans (h.b.mono (HB.out _ _).size))
  rw [← hW0]
  clear hW0 HW HB HD
  rcases form5_cases q na no f hf with ⟨rfl, rfl⟩ | ⟨rfl, rfl, h1, h2⟩ | ⟨rfl, rfl, h1, h2⟩ | ⟨rfl, rfl, h1, h2, h3⟩ | ⟨rfl, rfl, h1, h2, h3, h4⟩
  all_goals
    clear hf
    have z0 : Bz W0 W0 := ⟨Below.refl _ _⟩
    have z1 := z0.drew
    go_region_held3 (fun W => (W.cell? ⟨w.heap.size, 4, none⟩ = some (.bool false) ∧ W.cell? ⟨w.heap.size, 6, none⟩ = some (.int .i64 2) ∧ W.cell? ⟨w.heap.size, 7, none⟩ = some (.int .i64 2) ∧ W.cell? ⟨w.heap.size + 1, 3, none⟩ = some (.string (bs m)) ∧ W.cell? ⟨w.heap.size + 1, 4, none⟩ = some (.slice A na ca) ∧ W.cell? ⟨w.heap.size + 1, 5, none⟩ = some (.slice O no co) ∧ W.cell? ⟨w.heap.size, 3, none⟩ = some (.bool true))) (exact HF.out _ (by assumption)) (first
      | (go_at_call 9; refine (K1.out _).mono ?_; rintro e w1 ⟨v, rfl, ho, hb⟩; have z2 := Bz.next (by assumption) hb; have HO := Lib.hid ho; clear ho hb)
      | (go_at_call 79; refine (K2.out _ _ _ (by exact HO.out)).mono ?_; rintro e w2 ⟨rfl, rfl⟩))
    all_goals
      first
        | (go_ret; exact ⟨rfl, HG.out _ (by assumption)⟩)
        | (go_wp2; go_ret; exact ⟨rfl, HG.out _ (by assumption)⟩)
end Go.Proofs.YtkakbidllpjopaaGreatDoor
namespace Go.Proofs.YtkakbidllpjopaaGreatDoor
open Go.RowKit

theorem form_any (j : Nat) (hj : j < 8) (n : Int) (s m : Str) (A : Option Addr) (na ca : Nat) (O : Option Addr) (no co : Nat) (a o : List Ex) (w : World) (ha : na = a.length) (ho : no = o.length) :
    Calls Tryz.prog 139 #[.agg (ruleC j), .agg (exC (j : Int) n s m A na ca O no co).toArray] w fun e w' => e = .returned (.bool (formE (.mk (j : Int) n s m a o))) ∧ Below w.heap.size w w' := by
  match j, hj with
  | 0, _ => exact form0_any n s m A na ca O no co a o w ha ho
  | 1, _ => exact form1_any n s m A na ca O no co a o w ha ho
  | 2, _ => exact form2_any n s m A na ca O no co a o w ha ho
  | 3, _ => exact form3_any n s m A na ca O no co a o w ha ho
  | 4, _ => exact form4_any n s m A na ca O no co a o w ha ho
  | 5, _ => exact form5_any n s m A na ca O no co a o w ha ho
  | 6, _ => exact form6_any n s m A na ca O no co a o w ha ho
  | 7, _ => exact form7_any n s m A na ca O no co a o w ha ho
/-- A rule's fields. -/
theorem rule_fields (j : Nat) (hj : j < 8) : ∃ b3 b4 : Bool, ∃ g lo hi : Int, ruleC j = #[.bool (decide (j ≤ 1)), .bool (decide (j = 2 ∨ 6 ≤ j)), .bool (decide (j = 6)), .bool b3, .bool b4, .int .i64 g, .int .i64 lo, .int .i64 hi] ∧ (j = 0 → g = 9223372036854775807) ∧ (j = 1 → g = 1) := by
  match j, hj with
  | 0, _ => exact ⟨_, _, _, _, _, ruleC0, by decide, by decide⟩
  | 1, _ => exact ⟨_, _, _, _, _, ruleC1, by decide, by decide⟩
  | 2, _ => exact ⟨_, _, _, _, _, ruleC2, by decide, by decide⟩
  | 3, _ => exact ⟨_, _, _, _, _, ruleC3, by decide, by decide⟩
  | 4, _ => exact ⟨_, _, _, _, _, ruleC4, by decide, by decide⟩
  | 5, _ => exact ⟨_, _, _, _, _, ruleC5, by decide, by decide⟩
  | 6, _ => exact ⟨_, _, _, _, _, ruleC6, by decide, by decide⟩
  | 7, _ => exact ⟨_, _, _, _, _, ruleC7, by decide, by decide⟩
set_option maxRecDepth 100000 in
set_option maxHeartbeats 12800000 in
theorem empty_any (k n : Int) (s m : Str) (A : Option Addr) (na ca : Nat) (O : Option Addr) (no co : Nat) (a o : List Ex) (w : World) (ha : na = a.length) (ho : no = o.length) :
    Calls Tryz.prog 137 #[.agg (exC k n s m A na ca O no co).toArray] w fun e w' => e = .returned (.bool (emptyE (.mk k n s m a o))) ∧ Below w.heap.size w w' := by
  have HB := Lib.hid (fun X => ((Below.refl w.heap.size w).alloc (Nat.le_refl _) X))
  have HD := Lib.hid (fun X k => (show Below w.heap.size w ((w.alloc X).drewN k) from ⟨(HB.out X).os, (HB.out X).tape, (HB.out X).output, (HB.out X).size, (HB.out X).block⟩))
  obtain ⟨f, hf⟩ : ∃ f, f = emptyE (.mk k n s m a o) := ⟨_, rfl⟩
  rw [← hf]
  unfold emptyE at hf
  simp only [Ex.kind, Ex.num, Ex.name, Ex.meth, Ex.args, Ex.orr, ← ha, ← ho] at hf
  unfold exC
  clear ha ho
  by_cases qk : k = 0
  rotate_left
  · have qk1 : (k == 0) = false := by simp [qk]
    obtain rfl : f = false := by rw [hf]; simp [qk]
    clear hf
    go_enter Tryz.func137, Tryz.ntmps137
    go_wp2
    repeat (go_quiet (fail); go_wp2)
    go_ret
    first | exact ⟨rfl, HB.out _⟩ | exact ⟨rfl, HD.out _ _⟩
  subst qk
  by_cases qn : n = 0
  rotate_left
  · have qn1 : (n == 0) = false := by simp [qn]
    obtain rfl : f = false := by rw [hf]; simp [qn]
    clear hf
    go_enter Tryz.func137, Tryz.ntmps137
    go_wp2
    repeat (go_quiet (fail); go_wp2)
    go_ret
    first | exact ⟨rfl, HB.out _⟩ | exact ⟨rfl, HD.out _ _⟩
  subst qn
  by_cases qs : s = []
  rotate_left
  · obtain ⟨qs1, qs2⟩ := cons_facts qs
    have qs3 := beq_nil qs
    obtain rfl : f = false := by rw [hf]; simp [qs]
    clear hf
    go_enter Tryz.func137, Tryz.ntmps137
    go_wp2
    repeat (go_quiet (fail); go_wp2)
    go_ret
    first | exact ⟨rfl, HB.out _⟩ | exact ⟨rfl, HD.out _ _⟩
  obtain ⟨qs1, qs2⟩ := nil_facts qs
  subst qs
  by_cases qm : m = []
  rotate_left
  · obtain ⟨qm1, qm2⟩ := cons_facts qm
    have qm3 := beq_nil qm
    obtain rfl : f = false := by rw [hf]; simp [qm]
    clear hf
    go_enter Tryz.func137, Tryz.ntmps137
    go_wp2
    repeat (go_quiet (fail); go_wp2)
    go_ret
    first | exact ⟨rfl, HB.out _⟩ | exact ⟨rfl, HD.out _ _⟩
  obtain ⟨qm1, qm2⟩ := nil_facts qm
  subst qm
  by_cases qna : na = 0
  rotate_left
  · have qna1 : ((na : Int) == 0) = false := by simp [qna]
    obtain rfl : f = false := by rw [hf]; simp [qna]
    clear hf
    go_enter Tryz.func137, Tryz.ntmps137
    go_wp2
    repeat (go_quiet (fail); go_wp2)
    go_ret
    first | exact ⟨rfl, HB.out _⟩ | exact ⟨rfl, HD.out _ _⟩
  subst qna
  by_cases qno : no = 0
  rotate_left
  · have qno1 : ((no : Int) == 0) = false := by simp [qno]
    obtain rfl : f = false := by rw [hf]; simp [qno]
    clear hf
    go_enter Tryz.func137, Tryz.ntmps137
    go_wp2
    repeat (go_quiet (fail); go_wp2)
    go_ret
    first | exact ⟨rfl, HB.out _⟩ | exact ⟨rfl, HD.out _ _⟩
  subst qno
  obtain rfl : f = true := by rw [hf]; simp []
  clear hf
  go_enter Tryz.func137, Tryz.ntmps137
  go_wp2
  repeat (go_quiet (fail); go_wp2)
  go_ret
  first | exact ⟨rfl, HB.out _⟩ | exact ⟨rfl, HD.out _ _⟩
end Go.Proofs.YtkakbidllpjopaaGreatDoor
namespace Go.Proofs.YtkakbidllpjopaaGreatDoor
open Go.RowKit Go.MapKept

/-- Block b is a map that holds, at the key k, f k. -/
def StrMap (w : World) (b : Nat) (f : ByteArray → Option Value) : Prop :=
  ∃ es clock, w.heap[b]? = some (.map es clock) ∧ Stamped es clock ∧ (∀ x ∈ es.toList, ∃ k, x.key = .string k) ∧ ∀ k v, f k = some v ↔ ∃ e ∈ es.toList, e.key = .string k ∧ e.val = v
theorem StrMap.keep {w w' : World} {b : Nat} {f : ByteArray → Option Value} (h : StrMap w b f) (e : w'.heap[b]? = w.heap[b]?) : StrMap w' b f := by
  obtain ⟨es, cl, hb, r⟩ := h
  exact ⟨es, cl, e.trans hb, r⟩
theorem StrMap.lt {w : World} {b : Nat} {f : ByteArray → Option Value} (h : StrMap w b f) : b < w.heap.size := by
  obtain ⟨es, cl, hb, _⟩ := h
  exact lt_of_block hb
theorem StrMap.below {w w' : World} {b : Nat} {f : ByteArray → Option Value} (h : StrMap w b f) (hb : Below w.heap.size w w') : StrMap w' b f := h.keep (hb.block _ h.lt)
theorem StrMap.made (w : World) : StrMap (w.alloc (.map #[] 0)) w.heap.size fun _ => none :=
  ⟨#[], 0, heap_alloc_new _ _, stamped_empty 0, by simp, by simp⟩

section
variable {P : Program} {w : World} {b : Nat} {f : ByteArray → Option Value} {T K E : TypeId} {z : Value}
/-- The entry at a key, as the model finds it. -/
theorem StrMap.find (h : StrMap w b f) (k : ByteArray) : ∃ es clock, w.heap[b]? = some (.map es clock) ∧ Stamped es clock ∧ (∀ x ∈ es.toList, IsKey .string x.key) ∧
    ((f k = none ∧ Instr.findNow .string (.string k) es.toList 0 = some none ∧ ∀ x ∈ es.toList, x.key ≠ .string k) ∨
      ∃ j e, Instr.findNow .string (.string k) es.toList 0 = some (some (j, e.val)) ∧ es[j]? = some e ∧ e.key = .string k ∧ f k = some e.val) := by
  obtain ⟨es, cl, hb, hs, hk, hf⟩ := h
  have hks : ∀ x ∈ es.toList, IsKey .string x.key := fun x hx => by
    obtain ⟨k, hk⟩ := hk x hx
    rw [hk]; trivial
  refine ⟨es, cl, hb, hs, hks, ?_⟩
  rcases findNow_spec (d := .string) (k := .string k) trivial es.toList 0 hks with ⟨h1, h2⟩ | ⟨j, e, h1, h2, h3⟩
  · left
    refine ⟨?_, h1, h2⟩
    cases hfk : f k with
    | none => rfl
    | some v =>
      obtain ⟨e, he, hek, _⟩ := (hf k v).1 hfk
      exact absurd hek (h2 e he)
  · right
    refine ⟨j, e, by simpa using h1, by simpa using h2, h3, ?_⟩
    exact (hf k e.val).2 ⟨e, List.mem_of_getElem? h2, h3, rfl⟩
theorem StrMap.look (h : StrMap w b f) (hT : P.underlying T = some (.map K E)) (hK : P.underlying K = some .string) (hz : ∀ w, (zeroValue E).run P w = .ok z w) (k : ByteArray) (c : Bool) :
    (Instr.lookup T (.map (some b)) (.string k) c).run P w = .ok (if c then .tuple #[(f k).getD z, .bool (f k).isSome] else (f k).getD z) w := by
  obtain ⟨es, cl, hb, hs, hks, hr⟩ := h.find k
  have hc : ∀ e, (Instr.checkKey e 10000 K (.string k)).run P w = .ok () w := fun e => run_checkKey (d := .string) (k := .string k) hK trivial e 9999
  rcases hr with ⟨h1, h2, _⟩ | ⟨j, e, h1, _, _, h4⟩
  · simp [Instr.lookup, run_underlying hT, MapKept.run_getObj_map hb, hc, run_findKey hK h2, hz, Result.andThen, h1]
  · simp [Instr.lookup, run_underlying hT, MapKept.run_getObj_map hb, hc, run_findKey hK h1, Result.andThen, h4]
/-- f with v at k. -/
def upd (f : ByteArray → Option Value) (k : ByteArray) (v : Value) : ByteArray → Option Value := fun i => if i = k then some v else f i
theorem StrMap.store (h : StrMap w b f) (hT : P.underlying T = some (.map K E)) (hK : P.underlying K = some .string) (k : ByteArray) (v : Value) :
    ∃ w', (Instr.mapUpdate T (.map (some b)) (.string k) v).run P w = .ok () w' ∧ StrMap w' b (upd f k v) ∧ w.grownBy w' (some b) ∧ w'.heap.size = w.heap.size := by
  obtain ⟨es0, cl0, hb0, hs0, hk0, hf0⟩ := h
  obtain ⟨es, cl, hb, hs, hks, hr⟩ := (show StrMap w b f from ⟨es0, cl0, hb0, hs0, hk0, hf0⟩).find k
  have hee : es0 = es := by rw [hb0] at hb; simp at hb; exact hb.1
  subst hee
  have hc : ∀ e, (Instr.checkKey e 10000 K (.string k)).run P w = .ok () w := fun e => run_checkKey (d := .string) (k := .string k) hK trivial e 9999
  have hkeep : ∀ o, w.grownBy { w with heap := w.heap.setIfInBounds b o } (some b) := fun o =>
    ⟨rfl, rfl, rfl, by simp, fun i hi hne => (heap_set hb).2 i (fun e => hne (by rw [e]))⟩
  rcases hr with ⟨h1, h2, h3⟩ | ⟨j, e, h1, h2, h3, h4⟩
  · refine ⟨{ w with heap := w.heap.setIfInBounds b (.map (es0.push { key := .string k, val := v, born := cl }) (cl + 1)) }, by simp [Instr.mapUpdate, run_underlying hT, MapKept.run_getObj_map hb, hc, run_findKey hK h2, run_setObj_map _ hb, Result.andThen], ⟨_, _, (heap_set hb).1, stamped_push hs h3, ?_, ?_⟩, hkeep _, by simp⟩
    · intro x hx
      simp only [Array.toList_push, List.mem_append, List.mem_singleton] at hx
      rcases hx with hx | rfl
      · exact hk0 x hx
      · exact ⟨k, rfl⟩
    · intro i u
      simp only [Array.toList_push, List.mem_append, List.mem_singleton, upd]
      split
      · rename_i hi
        subst hi
        constructor
        · intro hu
          injection hu with hu
          subst hu
          exact ⟨_, .inr rfl, rfl, rfl⟩
        · rintro ⟨x, hx | rfl, hxk, rfl⟩
          · exact absurd hxk (h3 x hx)
          · rfl
      · rename_i hi
        rw [hf0]
        constructor
        · rintro ⟨x, hx, h⟩
          exact ⟨x, .inl hx, h⟩
        · rintro ⟨x, hx | rfl, hxk, h⟩
          · exact ⟨x, hx, hxk, h⟩
          · simp at hxk
            exact absurd hxk.symm hi
  · have hj : es0[j]? = some e := h2
    have hjl : j < es0.size := (Array.getElem?_eq_some_iff.1 h2).1
    have hkey : ∀ e', es0[j]? = some e' → ({ e' with key := .string k, val := v } : MapEntry).key = e'.key := fun e' he' => by rw [hj] at he'; cases he'; exact h3.symm
    refine ⟨{ w with heap := w.heap.setIfInBounds b (.map (es0.modify j fun e => { e with key := .string k, val := v }) cl) }, by simp [Instr.mapUpdate, run_underlying hT, MapKept.run_getObj_map hb, hc, run_findKey hK h1, hj, h3, run_keyThatStays (d := .string) (k := .string k) trivial, run_setObj_map _ hb, Result.andThen],
      ⟨_, _, (heap_set hb).1, stamped_modify hs _ _ (fun _ _ => rfl) (fun e' _ he' => hkey e' he'), ?_, ?_⟩, hkeep _, by simp⟩
    · intro x hx
      have := isKey_modify hks j _ hkey x hx
      cases hxk : x.key <;> rw [hxk] at this <;> simp [IsKey] at this
      try subst this
      exact ⟨_, rfl⟩
    · have hmem : ∀ x : MapEntry, x ∈ (es0.modify j fun e => { e with key := .string k, val := v }).toList ↔ x = { e with key := .string k, val := v } ∨ (x ∈ es0.toList ∧ x.key ≠ .string k) := by
        intro x
        rw [Array.toList_modify]
        have hpw := List.pairwise_iff_getElem.1 ((stamped_iff _ _).1 hs0).2.2
        constructor
        · intro hx
          obtain ⟨i, hi⟩ := List.mem_iff_getElem?.1 hx
          rw [List.getElem?_modify] at hi
          obtain ⟨y, hy, rfl⟩ := Option.map_eq_some_iff.1 hi
          by_cases hji : j = i
          · left
            subst hji
            have : y = e := by
              have h5 : es0.toList[j]? = some e := by simpa using hj
              rw [h5] at hy; injection hy with hy; exact hy.symm
            subst this
            simp
          · right
            simp only [if_neg hji]
            refine ⟨List.mem_of_getElem? hy, fun hyk => ?_⟩
            obtain ⟨hil, hie⟩ := List.getElem?_eq_some_iff.1 hy
            have hjl' : j < es0.toList.length := by simpa using hjl
            have hje : es0.toList[j] = e := by
              have h5 : es0.toList[j]? = some e := by simpa using hj
              exact (List.getElem?_eq_some_iff.1 h5).2
            rcases Nat.lt_or_gt_of_ne hji with hlt | hlt
            · exact hpw j i hjl' hil hlt (by rw [hje, hie, h3]; exact hyk.symm)
            · exact hpw i j hil hjl' hlt (by rw [hje, hie, h3]; exact hyk)
        · rintro (rfl | ⟨hx, hxk⟩)
          · refine List.mem_iff_getElem?.2 ⟨j, ?_⟩
            rw [List.getElem?_modify, show es0.toList[j]? = some e by simpa using hj]
            simp
          · obtain ⟨i, hi⟩ := List.mem_iff_getElem?.1 hx
            refine List.mem_iff_getElem?.2 ⟨i, ?_⟩
            rw [List.getElem?_modify, hi]
            have : j ≠ i := by
              rintro rfl
              have h5 : es0.toList[j]? = some e := by simpa using hj
              rw [h5] at hi; injection hi with hi; subst hi
              exact hxk h3
            simp [this]
      intro i u
      simp only [upd]
      split
      · rename_i hi
        subst hi
        constructor
        · intro hu
          injection hu with hu
          subst hu
          exact ⟨_, (hmem _).2 (.inl rfl), rfl, rfl⟩
        · rintro ⟨x, hx, hxk, rfl⟩
          rcases (hmem x).1 hx with rfl | ⟨_, hx2⟩
          · rfl
          · exact absurd hxk hx2
      · rename_i hi
        rw [hf0]
        constructor
        · rintro ⟨x, hx, hxk, rfl⟩
          exact ⟨x, (hmem x).2 (.inr ⟨hx, by rw [hxk]; simp; exact hi⟩), hxk, rfl⟩
        · rintro ⟨x, hx, hxk, rfl⟩
          rcases (hmem x).1 hx with rfl | ⟨hx1, _⟩
          · simp at hxk
            exact absurd hxk.symm hi
          · exact ⟨x, hx1, hxk, rfl⟩
end

section
variable {P : Program} {w : World} {ops : Array Oper} {rest : List Oper} {o : Oper} {a : Act} {Q : Exit → Act → World → Prop}
theorem wpList_mapUpdate_str (hg : o.guard = none) (m x v : Operand) (t : TypeId) (hop : o.op = Op.mapUpdate t m x v) (k e : TypeId) (ht : P.underlying t = some (.map k e)) (hk : P.underlying k = some .string) (b : Nat) (f : ByteArray → Option Value) (h : StrMap w b f)
    (hm : a.eval m = .map (some b)) (i : ByteArray) (hx : a.eval x = .string i) (u : Value) (hv : a.eval v = u)
    (hK : ∀ w', StrMap w' b (upd f i u) → w.grownBy w' (some b) → w'.heap.size = w.heap.size → wpList P ops Q rest (a.put o.dst undef) w') :
    wpList P ops Q (o :: rest) a w := by
  refine wpList_plain hg fun K' hK' => ?_
  obtain ⟨w', hrun, r1, r2, r3⟩ := h.store ht hk i u
  unfold Oper.wp
  simp [execOp, hop, hm, hx, hv, hrun, Result.andThen]
  exact hK' _ _ (hK w' r1 r2 r3)
theorem wpList_lookup_str (hg : o.guard = none) (m x : Operand) (t : TypeId) (c : Bool) (hop : o.op = Op.lookup t m x c) (k e : TypeId) (ht : P.underlying t = some (.map k e)) (hk : P.underlying k = some .string) (z : Value) (hz : ∀ w, (zeroValue e).run P w = .ok z w)
    (b : Nat) (f : ByteArray → Option Value) (h : StrMap w b f) (hm : a.eval m = .map (some b)) (i : ByteArray) (hx : a.eval x = .string i)
    (hK : wpList P ops Q rest (a.put o.dst (if c then .tuple #[(f i).getD z, .bool (f i).isSome] else (f i).getD z)) w) :
    wpList P ops Q (o :: rest) a w := by
  refine wpList_plain hg fun K' hK' => ?_
  have hrun := h.look ht hk hz i c
  unfold Oper.wp
  simp [execOp, hop, hm, hx, hrun, Result.andThen]
  exact hK' _ _ hK
end
/-- Block b is a map that holds these names. -/
def NMap (w : World) (b : Nat) (met : List Str) : Prop := StrMap w b fun k => if met.contains k.data.toList = true then some (.bool true) else none
theorem NMap.made (w : World) : NMap (w.alloc (.map #[] 0)) w.heap.size [] := by
  have h := StrMap.made w
  unfold NMap
  simpa using h
theorem NMap.keep {w w' : World} {b : Nat} {met : List Str} (h : NMap w b met) (e : w'.heap[b]? = w.heap[b]?) : NMap w' b met := StrMap.keep h e
theorem NMap.lt {w : World} {b : Nat} {met : List Str} (h : NMap w b met) : b < w.heap.size := StrMap.lt h
theorem NMap.upd_ {met : List Str} {s : Str} : upd (fun k => if met.contains k.data.toList = true then some (.bool true) else none) (bs s) (.bool true) = fun k : ByteArray => if (met ++ [s]).contains k.data.toList = true then some (.bool true) else none := by
  funext k
  unfold upd
  by_cases h : k = bs s
  · subst h
    rw [if_pos rfl, if_pos (by simp [bs_list])]
  · have h2 : ¬ k.data.toList = s := fun e => h (by rw [← bs_eta k, e])
    rw [if_neg h]
    show (if met.contains k.data.toList = true then some (Value.bool true) else none) = _
    by_cases hc : met.contains k.data.toList = true
    · rw [if_pos hc, if_pos (by simp at hc ⊢; exact .inl hc)]
    · rw [if_neg hc, if_neg (by simp at hc ⊢; exact ⟨hc, h2⟩)]
theorem grownBy.below {w w' : World} {g B : Nat} (h : w.grownBy w' (some g)) (hB : B ≤ g) (hw : g < w.heap.size) : Below B w w' :=
  ⟨h.os, h.tape, h.output, h.size, fun k hk => h.block k (by omega) (by intro e; injection e with e; omega)⟩
theorem Below.grown_ {w w' : World} (h : Below w.heap.size w w') (g : Option Nat) : w.grownBy w' g := ⟨h.os, h.tape, h.output, h.size, fun k hk _ => h.block k hk⟩
end Go.Proofs.YtkakbidllpjopaaGreatDoor
namespace Go.Proofs
open Go.Shelf
def Tryz.lays137_ren : Go.Shelf.Ren := ⟨fun | 137 => 75 | 217 => 100 | 266 => 125 | n => n, fun | 9 => 9 | 5 => 5 | 3 => 3 | n => n, fun | n => n⟩
theorem Tryz.lays137 : Go.Proofs.Lays.n137 Tryz.prog Tryz.lays137_ren := {
  mixed := by kernel_rfl
  f137 := Tryz.func75.trans (congrArg some (by kernel_rfl))
  f217 := Tryz.func100.trans (congrArg some (by kernel_rfl))
  f266 := Tryz.func125.trans (congrArg some (by kernel_rfl))
  t3 := Tryz.underlying3
  a3 := Tryz.isAgg3
  z3 := Tryz.sizeOf3
  v3 := Tryz.zeroValue3
  t5 := Tryz.underlying5
  a5 := Tryz.isAgg5
  z5 := Tryz.sizeOf5
  v5 := Tryz.zeroValue5
  t9 := Tryz.underlying9
  a9 := Tryz.isAgg9
  z9 := Tryz.sizeOf9
  v9 := Tryz.zeroValue9 }
open Go.RowKit Go.Sort Go.Lib in
theorem Tryz.strings_IndexByte (s : ByteArray) (c : Int) (w : World) :
    Calls Tryz.prog 75 #[.string s, .int .u8 c] w fun e w' => e = .returned (.int .i64 (Lib.indexByte s.data.toList c.toNat.toUInt8)) ∧ w' = w := Any.strings_IndexByte Tryz.lays137 s c w
def Tryz.lays99_ren : Go.Shelf.Ren := ⟨fun | 99 => 80 | 206 => 104 | n => n, fun | 9 => 9 | 4 => 4 | 3 => 3 | n => n, fun | n => n⟩
theorem Tryz.lays99 : Go.Proofs.Lays.n99 Tryz.prog Tryz.lays99_ren := {
  mixed := by kernel_rfl
  f99 := Tryz.func80.trans (congrArg some (by kernel_rfl))
  f206 := Tryz.func104.trans (congrArg some (by kernel_rfl))
  t3 := Tryz.underlying3
  a3 := Tryz.isAgg3
  z3 := Tryz.sizeOf3
  v3 := Tryz.zeroValue3
  t4 := Tryz.underlying4
  a4 := Tryz.isAgg4
  z4 := Tryz.sizeOf4
  v4 := Tryz.zeroValue4
  t9 := Tryz.underlying9
  a9 := Tryz.isAgg9
  z9 := Tryz.sizeOf9
  v9 := Tryz.zeroValue9 }
open Go.RowKit Go.Sort Go.Lib in
theorem Tryz.strings_HasPrefix (s p : ByteArray) (w : World) :
    Calls Tryz.prog 80 #[.string s, .string p] w fun e w' => e = .returned (.bool (Lib.hasPrefix s.data.toList p.data.toList)) ∧ w' = w := Any.strings_HasPrefix Tryz.lays99 s p w
def Tryz.laysC174_ren : Go.Shelf.Ren := ⟨fun | 174 => 102 | 247 => 126 | 245 => 127 | 287 => 140 | 279 => 141 | 280 => 142 | 281 => 143 | 282 => 144 | 321 => 151 | 322 => 152 | 316 => 153 | 171 => 155 | 205 => 154 | 243 => 158 | 246 => 113 | 283 => 130 | 284 => 131 | 285 => 132 | 286 => 133 | 129 => 146 | 317 => 145 | 318 => 147 | 319 => 148 | 320 => 149 | 337 => 156 | 338 => 157 | n => n, fun | 9 => 9 | 3 => 3 | 2 => 2 | 75 => 122 | 85 => 164 | 4 => 4 | 167 => 198 | 5 => 5 | 53 => 157 | 175 => 199 | 46 => 151 | 168 => 201 | 37 => 58 | 0 => 0 | 210 => 211 | 21 => 21 | 127 => 128 | 145 => 216 | 143 => 214 | 171 => 186 | 173 => 189 | 212 => 206 | 51 => 169 | 20 => 20 | 213 => 207 | 232 => 217 | 233 => 218 | 80 => 88 | n => n, fun | 15 => 4 | 16 => 5 | 17 => 3 | 18 => 6 | 19 => 7 | n => n⟩
theorem Tryz.laysC174 : Go.Proofs.LaysC.n174 Tryz.prog Tryz.laysC174_ren := {
  mixed := by kernel_rfl
  f129 := Tryz.func146.trans (congrArg some (by kernel_rfl))
  f171 := Tryz.func155.trans (congrArg some (by kernel_rfl))
  f174 := Tryz.func102.trans (congrArg some (by kernel_rfl))
  f205 := Tryz.func154.trans (congrArg some (by kernel_rfl))
  f243 := Tryz.func158.trans (congrArg some (by kernel_rfl))
  f245 := Tryz.func127.trans (congrArg some (by kernel_rfl))
  f246 := Tryz.func113.trans (congrArg some (by kernel_rfl))
  f247 := Tryz.func126.trans (congrArg some (by kernel_rfl))
  f279 := Tryz.func141.trans (congrArg some (by kernel_rfl))
  f280 := Tryz.func142.trans (congrArg some (by kernel_rfl))
  f281 := Tryz.func143.trans (congrArg some (by kernel_rfl))
  f282 := Tryz.func144.trans (congrArg some (by kernel_rfl))
  f283 := Tryz.func130.trans (congrArg some (by kernel_rfl))
  f284 := Tryz.func131.trans (congrArg some (by kernel_rfl))
  f285 := Tryz.func132.trans (congrArg some (by kernel_rfl))
  f286 := Tryz.func133.trans (congrArg some (by kernel_rfl))
  f287 := Tryz.func140.trans (congrArg some (by kernel_rfl))
  f316 := Tryz.func153.trans (congrArg some (by kernel_rfl))
  f317 := Tryz.func145.trans (congrArg some (by kernel_rfl))
  f318 := Tryz.func147.trans (congrArg some (by kernel_rfl))
  f319 := Tryz.func148.trans (congrArg some (by kernel_rfl))
  f320 := Tryz.func149.trans (congrArg some (by kernel_rfl))
  f321 := Tryz.func151.trans (congrArg some (by kernel_rfl))
  f322 := Tryz.func152.trans (congrArg some (by kernel_rfl))
  f337 := Tryz.func156.trans (congrArg some (by kernel_rfl))
  f338 := Tryz.func157.trans (congrArg some (by kernel_rfl))
  t0 := Tryz.underlying0
  a0 := Tryz.isAgg0
  z0 := Tryz.sizeOf0
  v0 := Tryz.zeroValue0
  t2 := Tryz.underlying2
  a2 := Tryz.isAgg2
  z2 := Tryz.sizeOf2
  v2 := Tryz.zeroValue2
  t3 := Tryz.underlying3
  a3 := Tryz.isAgg3
  z3 := Tryz.sizeOf3
  v3 := Tryz.zeroValue3
  t4 := Tryz.underlying4
  a4 := Tryz.isAgg4
  z4 := Tryz.sizeOf4
  v4 := Tryz.zeroValue4
  t5 := Tryz.underlying5
  a5 := Tryz.isAgg5
  z5 := Tryz.sizeOf5
  v5 := Tryz.zeroValue5
  t9 := Tryz.underlying9
  a9 := Tryz.isAgg9
  z9 := Tryz.sizeOf9
  v9 := Tryz.zeroValue9
  t20 := Tryz.underlying20
  a20 := Tryz.isAgg20
  z20 := Tryz.sizeOf20
  v20 := Tryz.zeroValue20
  t21 := Tryz.underlying21
  a21 := Tryz.isAgg21
  z21 := Tryz.sizeOf21
  v21 := Tryz.zeroValue21
  t37 := Tryz.underlying58
  a37 := Tryz.isAgg58
  z37 := Tryz.sizeOf58
  v37 := Tryz.zeroValue58
  t46 := Tryz.underlying151
  a46 := Tryz.isAgg151
  z46 := Tryz.sizeOf151
  v46 := Tryz.zeroValue151
  t51 := Tryz.underlying169
  a51 := Tryz.isAgg169
  z51 := Tryz.sizeOf169
  v51 := Tryz.zeroValue169
  t53 := Tryz.underlying157
  a53 := Tryz.isAgg157
  z53 := Tryz.sizeOf157
  v53 := Tryz.zeroValue157
  t75 := Tryz.underlying122
  a75 := Tryz.isAgg122
  z75 := Tryz.sizeOf122
  v75 := Tryz.zeroValue122
  t85 := Tryz.underlying164
  a85 := Tryz.isAgg164
  z85 := Tryz.sizeOf164
  v85 := Tryz.zeroValue164
  t127 := Tryz.underlying128
  a127 := Tryz.isAgg128
  z127 := Tryz.sizeOf128
  v127 := Tryz.zeroValue128
  t143 := Tryz.underlying214
  a143 := Tryz.isAgg214
  z143 := Tryz.sizeOf214
  v143 := Tryz.zeroValue214
  t145 := Tryz.underlying216
  a145 := Tryz.isAgg216
  z145 := Tryz.sizeOf216
  v145 := Tryz.zeroValue216
  t167 := Tryz.underlying198
  a167 := Tryz.isAgg198
  z167 := Tryz.sizeOf198
  v167 := Tryz.zeroValue198
  t168 := Tryz.underlying201
  a168 := Tryz.isAgg201
  z168 := Tryz.sizeOf201
  v168 := Tryz.zeroValue201
  t171 := Tryz.underlying186
  a171 := Tryz.isAgg186
  z171 := Tryz.sizeOf186
  v171 := Tryz.zeroValue186
  t173 := Tryz.underlying189
  a173 := Tryz.isAgg189
  z173 := Tryz.sizeOf189
  v173 := Tryz.zeroValue189
  t175 := Tryz.underlying199
  a175 := Tryz.isAgg199
  z175 := Tryz.sizeOf199
  v175 := Tryz.zeroValue199
  t210 := Tryz.underlying211
  a210 := Tryz.isAgg211
  z210 := Tryz.sizeOf211
  v210 := Tryz.zeroValue211
  t212 := Tryz.underlying206
  a212 := Tryz.isAgg206
  z212 := Tryz.sizeOf206
  v212 := Tryz.zeroValue206
  t213 := Tryz.underlying207
  a213 := Tryz.isAgg207
  z213 := Tryz.sizeOf207
  t232 := Tryz.underlying217
  a232 := Tryz.isAgg217
  z232 := Tryz.sizeOf217
  v232 := Tryz.zeroValue217
  t233 := Tryz.underlying218
  a233 := Tryz.isAgg218
  z233 := Tryz.sizeOf218
  v233 := Tryz.zeroValue218
  g15 := by kernel_rfl
  g16 := by kernel_rfl
  g17 := by kernel_rfl
  g18 := by kernel_rfl
  g19 := by kernel_rfl
  t80 := Tryz.underlying88
  a80 := Tryz.isAgg88
  z80 := Tryz.sizeOf88
  v80 := Tryz.zeroValue88
  i0 := by kernel_rfl
  i2 := by kernel_rfl
  i3 := by kernel_rfl
  i4 := by kernel_rfl
  i5 := by kernel_rfl
  i9 := by kernel_rfl
  i20 := by kernel_rfl
  i21 := by kernel_rfl
  i37 := by kernel_rfl
  i46 := by kernel_rfl
  i51 := by kernel_rfl
  i53 := by kernel_rfl
  i75 := by kernel_rfl
  i80 := by kernel_rfl
  i85 := by kernel_rfl
  i127 := by kernel_rfl
  i143 := by kernel_rfl
  i145 := by kernel_rfl
  i167 := by kernel_rfl
  i168 := by kernel_rfl
  i171 := by kernel_rfl
  i173 := by kernel_rfl
  i175 := by kernel_rfl
  i210 := by kernel_rfl
  i212 := by kernel_rfl
  i232 := by kernel_rfl
  i233 := by kernel_rfl
  m15 := by kernel_rfl
  m16 := by kernel_rfl
  m17 := by kernel_rfl
  m18 := by kernel_rfl
  m19 := by kernel_rfl
  c0 := by kernel_rfl
  c2 := by kernel_rfl
  c3 := by kernel_rfl
  c4 := by kernel_rfl
  c5 := by kernel_rfl
  c9 := by kernel_rfl
  c20 := by kernel_rfl
  c21 := by kernel_rfl
  c37 := by kernel_rfl
  c46 := by kernel_rfl
  c51 := by kernel_rfl
  c53 := by kernel_rfl
  c75 := by kernel_rfl
  c80 := by kernel_rfl
  c85 := by kernel_rfl
  c127 := by kernel_rfl
  c143 := by kernel_rfl
  c145 := by kernel_rfl
  c167 := by kernel_rfl
  c168 := by kernel_rfl
  c171 := by kernel_rfl
  c173 := by kernel_rfl
  c175 := by kernel_rfl
  c210 := by kernel_rfl
  c212 := by kernel_rfl
  c213 := by kernel_rfl
  c232 := by kernel_rfl
  c233 := by kernel_rfl }
open Go.RowKit Go.Sort Go.Lib in
theorem Tryz.strconv_ParseInt_10_at64_ok (s : ByteArray) (hmax : s.size ≤ 9223372036854775806) (v : Int) (h : Lib.parseIntB 64 s.data.toList = .ok v) (w : World) :
    Calls Tryz.prog 102 #[.string s, .int .i64 10, .int .i64 64] w fun e w' => e = .returned (.tuple #[.int .i64 v, .nilIface]) ∧ (w' = w ∨ ∃ t, w' = Lib.bytesWorld w 5 t) := Any.strconv_ParseInt_10_at64_ok Tryz.laysC174 s hmax v h w
open Go.RowKit Go.Sort Go.Lib in
theorem Tryz.strconv_ParseInt_10_at64_range (s : ByteArray) (hlim : s.size ≤ 281474976710656) (h : Lib.parseIntB 64 s.data.toList = .range) (ev : Value) (w : World) (hv : w.cell? ⟨5, 0, none⟩ = some ev) (hev : ev = .nilIface ∨ ∃ te pe, ev = .iface te pe) :
    Calls Tryz.prog 102 #[.string s, .int .i64 10, .int .i64 64] w fun e w' => ∃ N, e = .returned (.tuple #[.int .i64 (Lib.intSat 64 s.data.toList), .iface 201 (.pointer (some ⟨N, 0, none⟩))]) ∧ w.heap.size ≤ N ∧ w'.heap[N]? = some (.cells #[.string ⟨#[80, 97, 114, 115, 101, 73, 110, 116]⟩, .string s, ev] 211 (0, 0)) ∧ Below w.heap.size w w' := Any.strconv_ParseInt_10_at64_range Tryz.laysC174 s hlim h ev w hv hev
open Go.RowKit Go.Sort Go.Lib in
theorem Tryz.strconv_ParseInt_10_at64_syntax (s : ByteArray) (hlim : s.size ≤ 281474976710656) (h : Lib.parseIntB 64 s.data.toList = .«syntax») (ev : Value) (w : World) (hv : w.cell? ⟨4, 0, none⟩ = some ev) (hev : ev = .nilIface ∨ ∃ te pe, ev = .iface te pe) :
    Calls Tryz.prog 102 #[.string s, .int .i64 10, .int .i64 64] w fun e w' => ∃ N, e = .returned (.tuple #[.int .i64 (0), .iface 201 (.pointer (some ⟨N, 0, none⟩))]) ∧ w.heap.size ≤ N ∧ w'.heap[N]? = some (.cells #[.string ⟨#[80, 97, 114, 115, 101, 73, 110, 116]⟩, .string s, ev] 211 (0, 0)) ∧ Below w.heap.size w w' := Any.strconv_ParseInt_10_at64_syntax Tryz.laysC174 s hlim h ev w hv hev
end Go.Proofs
namespace Go.Proofs.YtkakbidllpjopaaGreatDoor.Lx
open Go.RowKit

def digZ (r : Int) : Bool := decide (48 ≤ r) && decide (r ≤ 57)
def letZ (r : Int) : Bool := decide (r = 95) || (decide (97 ≤ r) && decide (r ≤ 122)) || (decide (65 ≤ r) && decide (r ≤ 90))
theorem digZ_nat (n : Nat) : digZ n = digN n := by
  unfold digZ digN
  rw [show decide ((48 : Int) ≤ (n : Int)) = decide (48 ≤ n) from decide_eq_decide.2 (by omega), show decide ((n : Int) ≤ 57) = decide (n ≤ 57) from decide_eq_decide.2 (by omega)]
theorem letZ_nat (n : Nat) : letZ n = letN n := by
  unfold letZ letN
  rw [show decide ((n : Int) = 95) = decide (n = 95) from decide_eq_decide.2 (by omega), show decide ((97 : Int) ≤ (n : Int)) = decide (97 ≤ n) from decide_eq_decide.2 (by omega), show decide ((n : Int) ≤ 122) = decide (n ≤ 122) from decide_eq_decide.2 (by omega),
    show decide ((65 : Int) ≤ (n : Int)) = decide (65 ≤ n) from decide_eq_decide.2 (by omega), show decide ((n : Int) ≤ 90) = decide (n ≤ 90) from decide_eq_decide.2 (by omega)]
theorem digZ_high {r : Int} (h : 128 ≤ r) : digZ r = false := by
  unfold digZ
  rw [decide_eq_false (show ¬ r ≤ 57 by omega), Bool.and_false]
theorem letZ_high {r : Int} (h : 128 ≤ r) : letZ r = false := by
  unfold letZ
  rw [decide_eq_false (show ¬ r = 95 by omega), decide_eq_false (show ¬ r ≤ 122 by omega), decide_eq_false (show ¬ r ≤ 90 by omega), Bool.and_false, Bool.and_false]
  rfl

set_option maxRecDepth 100000 in
theorem digit_any (r : Int) (w : World) : Calls Tryz.prog 77 #[.int .i32 r] w fun e w' => e = .returned (.bool (digZ r)) ∧ w' = w := by
  unfold digZ
  by_cases h1 : 48 ≤ r
  · by_cases h2 : r ≤ 57
    all_goals (
      go_enter Tryz.func77, Tryz.ntmps77
      go_wp2
      go_ret
      exact ⟨by first | (simp [h1, h2]; done) | (simp [h1, h2]; omega), rfl⟩)
  · go_enter Tryz.func77, Tryz.ntmps77
    go_wp2
    go_ret
    exact ⟨by first | (simp [h1]; done) | (simp [h1]; omega), rfl⟩
set_option maxRecDepth 100000 in
set_option maxHeartbeats 1600000 in
theorem letter_any (r : Int) (w : World) : Calls Tryz.prog 101 #[.int .i32 r] w fun e w' => e = .returned (.bool (letZ r)) ∧ w' = w := by
  unfold letZ
  by_cases h0 : r = 95
  · subst h0
    go_enter Tryz.func101, Tryz.ntmps101
    go_wp2
    go_ret
    exact ⟨rfl, rfl⟩
  · by_cases h1 : 97 ≤ r <;> by_cases h2 : r ≤ 122 <;> by_cases h3 : 65 ≤ r <;> by_cases h4 : r ≤ 90
    all_goals first
      | (exfalso; omega)
      | (go_enter Tryz.func101, Tryz.ntmps101
         go_wp2
         go_ret
         exact ⟨by first | (simp [h0, h1, h2, h3, h4]; done) | (simp [h0, h1, h2, h3, h4]; rw [beq_eq_false_iff_ne.2 h0, decide_eq_false (by omega), decide_eq_false (by omega)]; rfl), rfl⟩)

theorem width_pos (s : ByteArray) (pos : Nat) (h : pos < s.size) : 1 ≤ (Utf8.decode s pos).2 := by
  by_cases ha : (s[pos]'h).toNat < 128
  · rw [decode_ascii s pos h ha]
    exact Nat.le_refl _
  · exact (decode_high s pos h (by omega)).2
theorem word_step (l : List UInt8) : ∀ (k : Nat) (hk : k < l.length), k ≤ (word l).length → (partB l[k] = true → k + 1 ≤ (word l).length) ∧ (partB l[k] = false → (word l).length = k) := by
  induction l with
  | nil => intro k hk; cases hk
  | cons b t ih =>
    intro k hk h
    unfold word at *
    rw [List.takeWhile_cons] at *
    cases k with
    | zero =>
      rw [List.getElem_cons_zero]
      refine ⟨fun hp => ?_, fun hp => ?_⟩
      · rw [if_pos hp, List.length_cons]; omega
      · rw [if_neg (by rw [hp]; decide)]; rfl
    | succ k =>
      rw [List.getElem_cons_succ]
      by_cases hb : partB b = true
      · rw [if_pos hb, List.length_cons] at *
        obtain ⟨g1, g2⟩ := ih k (by simpa using hk) (by omega)
        exact ⟨fun hp => by have := g1 hp; omega, fun hp => by have := g2 hp; omega⟩
      · rw [if_neg hb] at h
        simp at h
theorem word_all {l : List UInt8} (h : l.length ≤ (word l).length) : word l = l := by
  have := word_take l
  rw [List.take_of_length_le h] at this
  exact this.symm
theorem iter_below (w : World) (s : ByteArray) (p : Nat) : Below w.heap.size w (w.iter s p) := (Below.refl _ _).alloc (Nat.le_refl _) _
theorem bs_get (l : List UInt8) (k : Nat) (hk : k < l.length) (h : k < (bs l).size) : (bs l)[k]'h = l[k] := rfl

set_option maxRecDepth 100000 in
set_option maxHeartbeats 1600000 in
theorem run_any (l : List UInt8) (w : World) :
    Calls Tryz.prog 76 #[.string (bs l)] w fun e w' => e = .returned (.string (bs (word l))) ∧ Below w.heap.size w w' := by
  go_enter Tryz.func76, Tryz.ntmps76
  go_wp2
  go_loopw [3] (fun _ wr => ∃ k : Nat, k ≤ l.length ∧ k ≤ (word l).length ∧ wr = w.iter (bs l) k) (fun _ wr => l.length - wr.iterPos w.heap.size)
  case atStart => exact ⟨0, by omega, by omega, rfl⟩
  case round =>
    obtain ⟨k, hk, hw, rfl⟩ := hrel
    by_cases hp : k < l.length
    · have hps : k < (bs l).size := hp
      have HK := Lib.hid hp
      obtain ⟨s1, s2⟩ := word_step l k hp hw
      by_cases ha : (l[k]).toNat < 128
      · have hnx : ∀ ty, (Instr.next (.pointer (some ⟨w.heap.size, 0, none⟩)) true ty).run Tryz.prog (w.iter (bs l) k) = .ok (.tuple #[.bool true, .int .i64 k, .int .i32 (l[k]).toNat]) (w.iter (bs l) (k + 1)) := fun ty => run_next_ascii w (bs l) k ty hps ha
        have HL := Lib.hid (letter_any ((l[k]).toNat : Int) (w.iter (bs l) (k + 1)))
        have HD := Lib.hid (digit_any ((l[k]).toNat : Int) (w.iter (bs l) (k + 1)))
        rw [letZ_nat] at HL
        rw [digZ_nat] at HD
        by_cases h1 : letN (l[k]).toNat = true
        · have hpart : partB l[k] = true := by unfold partB partN; rw [h1]; rfl
          have S1 := Lib.hid (s1 hpart)
          rw [h1] at HL
          clear s1 s2 hpart h1 HD hw
          generalize (l[k]).toNat = c at *
          clear hps hp
          go_wp2_with fail
          refine HL.out.mono ?_
          rintro e w1 ⟨rfl, rfl⟩
          go_wp2
          go_roundw
          case rel => exact ⟨k + 1, HK.out, S1.out, rfl⟩
          case measure => rw [World.iterPos_iter, World.iterPos_iter]; have := HK.out; omega
        · have h1f : letN (l[k]).toNat = false := by simpa using h1
          rw [h1f] at HL
          by_cases h2 : digN (l[k]).toNat = true
          · have hpart : partB l[k] = true := by unfold partB partN; rw [h2, Bool.or_true]
            have S1 := Lib.hid (s1 hpart)
            rw [h2] at HD
            clear s1 s2 hpart h1 h2 h1f hw
            generalize (l[k]).toNat = c at *
            clear hps hp
            go_wp2_with fail
            refine HL.out.mono ?_
            rintro e w1 ⟨rfl, rfl⟩
            go_wp2_with fail
            refine HD.out.mono ?_
            rintro e w1 ⟨rfl, rfl⟩
            go_wp2
            go_roundw
            case rel => exact ⟨k + 1, HK.out, S1.out, rfl⟩
            case measure => rw [World.iterPos_iter, World.iterPos_iter]; have := HK.out; omega
          · have h2f : digN (l[k]).toNat = false := by simpa using h2
            rw [h2f] at HD
            have hpart : partB l[k] = false := by unfold partB partN; rw [h1f, h2f]; rfl
            have S2 := Lib.hid (s2 hpart)
            have HE := Lib.hid (bs_head l k)
            have hkz : (k : Int) ≤ ((bs l).size : Int) := by omega
            clear s1 s2 hpart h1 h2 h1f h2f hw
            generalize (l[k]).toNat = c at *
            clear hp hps
            go_wp2_with fail
            refine HL.out.mono ?_
            rintro e w1 ⟨rfl, rfl⟩
            go_wp2_with fail
            refine HD.out.mono ?_
            rintro e w1 ⟨rfl, rfl⟩
            go_wp2
            go_ret
            exact ⟨by rw [HE.out, ← S2.out, word_take]; rfl, iter_below _ _ _⟩
      · have hnx : ∀ ty, (Instr.next (.pointer (some ⟨w.heap.size, 0, none⟩)) true ty).run Tryz.prog (w.iter (bs l) k) = .ok (.tuple #[.bool true, .int .i64 k, .int .i32 (Utf8.decode (bs l) k).1]) (w.iter (bs l) (k + (Utf8.decode (bs l) k).2)) := fun ty => run_next_any w (bs l) k ty hps
        have hhi := (decode_high (bs l) k hps (by rw [bs_get l k hp]; omega)).1
        have hpart : partB l[k] = false := by
          cases hq : partB l[k] with
          | false => rfl
          | true => exact absurd (part_low hq) ha
        have S2 := Lib.hid (s2 hpart)
        have HE := Lib.hid (bs_head l k)
        have HL := Lib.hid (letter_any ((Utf8.decode (bs l) k).1 : Int) (w.iter (bs l) (k + (Utf8.decode (bs l) k).2)))
        have HD := Lib.hid (digit_any ((Utf8.decode (bs l) k).1 : Int) (w.iter (bs l) (k + (Utf8.decode (bs l) k).2)))
        rw [letZ_high (by omega)] at HL
        rw [digZ_high (by omega)] at HD
        have hkz : (k : Int) ≤ ((bs l).size : Int) := by omega
        clear s1 s2 hpart hw hhi ha
        generalize (Utf8.decode (bs l) k).1 = c at *
        generalize k + (Utf8.decode (bs l) k).2 = k2 at *
        clear hp hps
        go_wp2_with fail
        refine HL.out.mono ?_
        rintro e w1 ⟨rfl, rfl⟩
        go_wp2_with fail
        refine HD.out.mono ?_
        rintro e w1 ⟨rfl, rfl⟩
        go_wp2
        go_ret
        exact ⟨by rw [HE.out, ← S2.out, word_take]; rfl, iter_below _ _ _⟩
    · have hps : ¬ k < (bs l).size := hp
      have hnx : ∀ ty, (Instr.next (.pointer (some ⟨w.heap.size, 0, none⟩)) true ty).run Tryz.prog (w.iter (bs l) k) = _ := fun ty => run_next_end w (bs l) k ty hps
      have HE := Lib.hid (word_all (l := l) (by omega))
      clear hp hps hw hk
      go_wp2
      go_ret
      exact ⟨by rw [HE.out]; rfl, iter_below _ _ _⟩
end Go.Proofs.YtkakbidllpjopaaGreatDoor.Lx
