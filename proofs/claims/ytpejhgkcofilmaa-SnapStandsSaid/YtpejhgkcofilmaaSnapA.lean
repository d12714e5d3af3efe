/- The walks of the store's small functions: cell, Now, is, New, Close. No condition. -/
import Derived.Test.YtpejhgkcofilmaaVerG
import Derived.Test.YtpejhgkcofilmaaMap
import Derived.Maps.RangeWalk
import Derived.Maps.OwnOps
import Derived.Maps.OwnSet
import Derived.Great.BuildSlice
set_option linter.unusedVariables false
namespace Go.Proofs.Ytpejhgkcofilmaa
open Go.RowKit

/-- A store's cells: the number of cells, the time, the two maps, the readers. -/
def stoCells (c n : Int) (ml mw : Value) (B : Nat → Bool) (T : Nat → Int) : Array Value :=
  #[.int .i64 c, .int .i64 n, ml, mw, .bool (B 0), .int .i64 (T 0), .bool (B 1), .int .i64 (T 1), .bool (B 2), .int .i64 (T 2), .bool (B 3), .int .i64 (T 3), .bool (B 4), .int .i64 (T 4), .bool (B 5), .int .i64 (T 5), .bool (B 6), .int .i64 (T 6), .bool (B 7), .int .i64 (T 7)]

/-- A store's value. -/
def sto (c n : Int) (ml mw : Value) (B : Nat → Bool) (T : Nat → Int) : Value := .agg (stoCells c n ml mw B T)
section
variable {P : Program} {ops : Array Oper} {rest : List Oper} {a : Act} {w : World} {Q : Exit → Act → World → Prop} {d : Option Tmp} {ty t : TypeId} {pos : String} {x y : Operand}
theorem at_store_ {aft} {g} (h : wpList P ops Q (⟨d, .store t x y, ty, pos, aft, g⟩ :: rest) a w) : wpList P ops Q (⟨d, .store t x y, ty, pos, aft, g⟩ :: rest) a w := h
theorem at_load_ {aft} {g} (h : wpList P ops Q (⟨d, .load t x, ty, pos, aft, g⟩ :: rest) a w) : wpList P ops Q (⟨d, .load t x, ty, pos, aft, g⟩ :: rest) a w := h
theorem at_alloc_ {aft} {g} (h : wpList P ops Q (⟨d, .alloc t, ty, pos, aft, g⟩ :: rest) a w) : wpList P ops Q (⟨d, .alloc t, ty, pos, aft, g⟩ :: rest) a w := h
theorem at_box_ {aft} {g} (h : wpList P ops Q (⟨d, .box t x, ty, pos, aft, g⟩ :: rest) a w) : wpList P ops Q (⟨d, .box t x, ty, pos, aft, g⟩ :: rest) a w := h
theorem wpList_box_mine {o : Oper} (hg : o.guard = none) (t : TypeId) (x : Operand) (ho : o.op = .box t x) (dst : Option Tmp) (hd : o.dst = dst)
    (cs : Array Value) (hx : a.eval x = .agg cs) (hi : (P.info? t).map (·.size) = some cs.size)
    (h : wpList P ops Q rest (a.put dst (.pointer (some ⟨w.heap.size, 0, none⟩))) (w.alloc (.cells cs t))) : wpList P ops Q (o :: rest) a w := by
  subst hd
  refine wpList_plain hg fun K hK => ?_
  unfold Oper.wp execOp
  simp only [ho]
  cases hq : P.info? t with
  | none => simp [hq] at hi
  | some i =>
    have hs : i.size = cs.size := by simpa [hq] using hi
    simp [Instr.box, hx, Value.cells, hs, sizeOf, typeInfo, hq, Result.andThen]
    exact hK _ _ h
theorem at_upd_ {aft} {g} {u} (h : wpList P ops Q (⟨d, .mapUpdate t x y u, ty, pos, aft, g⟩ :: rest) a w) : wpList P ops Q (⟨d, .mapUpdate t x y u, ty, pos, aft, g⟩ :: rest) a w := h
/-- A new variable of a type of many cells. -/
theorem wpList_alloc_mine {o : Oper} (hg : o.guard = none) (t : TypeId) (ho : o.op = .alloc t) (dst : Option Tmp) (hd : o.dst = dst)
    (cs : Array Value) (hz : ∀ w, (zeroValue t).run P w = .ok (.agg cs) w) (hc : (Value.agg cs).cells = cs)
    (h : wpList P ops Q rest (a.put dst (.pointer (some ⟨w.heap.size, 0, none⟩))) (w.alloc (.cells cs t))) : wpList P ops Q (o :: rest) a w := by
  subst hd
  refine wpList_plain hg fun K hK => ?_
  unfold Oper.wp execOp
  simp only [ho]
  simp [Instr.alloc, hz, hc, Result.andThen]
  exact hK _ _ h
end
/-- A store's cells, laid over a block just made. -/
theorem setRow_alloc (w : World) (cs ds : Array Value) (t : TypeId) : (w.alloc (.cells cs t)).setRow w.heap.size ds = w.alloc (.cells ds t) := by
  unfold World.setRow World.alloc
  congr 1
  apply Array.ext
  · simp
  · intro k h1 h2
    simp only [Array.getElem_modify]
    split
    · rename_i hk
      subst hk
      simp
    · rename_i hk
      have : k < w.heap.size := by simp at h2; omega
      simp [Array.getElem_push, this]

theorem sto_ones (c n : Int) (b1 b2 : Option Nat) (B : Nat → Bool) (T : Nat → Int) : (stoCells c n (.map b1) (.map b2) B T).all (·.oneCell') = true := by
  simp [stoCells, Value.oneCell']
theorem Try.size57 : (Try.prog.info? 57).map (·.size) = some 20 := by kernel_rfl
def stoZ (c : Int) : Array Value := stoCells c 0 (.map none) (.map none) (fun _ => false) (fun _ => 0)
set_option maxRecDepth 100000 in
theorem stoZ_zero (w : World) : (zeroValue 57).run Try.prog w = .ok (.agg (stoZ 0)) w := by
  simp [go_sem, stoZ, stoCells]

set_option maxRecDepth 100000 in
set_option maxHeartbeats 1600000 in
theorem scell_any (c n : Int) (b1 b2 : Option Nat) (B : Nat → Bool) (T : Nat → Int) (i : Int) (w : World) :
    Calls Try.prog 65 #[sto c n (.map b1) (.map b2) B T, .int .i64 i] w fun e w' => e = .returned (.bool (decide (0 ≤ i) && decide (i < c))) ∧ Below w.heap.size w w' := by
  unfold sto stoCells
  by_cases h1 : 0 ≤ i
  · have h1' : ¬ i < 0 := by omega
    go_enter Try.func65, Try.ntmps65
    go_wp2
    go_ret
    exact ⟨by simp [h1], (Below.refl _ _).alloc (Nat.le_refl _) _⟩
  · have h1' : i < 0 := by omega
    go_enter Try.func65, Try.ntmps65
    go_wp2
    go_ret
    exact ⟨by rw [show decide (0 ≤ i) = false from decide_eq_false (by omega)]; rfl, (Below.refl _ _).alloc (Nat.le_refl _) _⟩

set_option maxRecDepth 100000 in
set_option maxHeartbeats 1600000 in
theorem snow_any (c n : Int) (b1 b2 : Option Nat) (B : Nat → Bool) (T : Nat → Int) (w : World) :
    Calls Try.prog 34 #[sto c n (.map b1) (.map b2) B T] w fun e w' => e = .returned (.int .i64 n) ∧ Below w.heap.size w w' := by
  unfold sto stoCells
  go_enter Try.func34, Try.ntmps34
  go_wp2
  go_ret
  exact ⟨rfl, (Below.refl _ _).alloc (Nat.le_refl _) _⟩

/-- Is reader i (from 1) open? -/
def isR (B : Nat → Bool) (i : Int) : Bool := decide (1 ≤ i) && decide (i ≤ 8) && B (i - 1).toNat
theorem isR_lo (B : Nat → Bool) {i : Int} (h : i < 1) : isR B i = false := by simp only [isR, decide_eq_false (show ¬ 1 ≤ i by omega), Bool.false_and]
theorem isR_hi (B : Nat → Bool) {i : Int} (h : 8 < i) : isR B i = false := by simp only [isR, decide_eq_false (show ¬ i ≤ 8 by omega), Bool.and_false, Bool.false_and]

set_option maxRecDepth 100000 in
set_option maxHeartbeats 3200000 in
theorem sis_any (c n : Int) (b1 b2 : Option Nat) (B : Nat → Bool) (T : Nat → Int) (i : Int) (w : World) :
    Calls Try.prog 64 #[sto c n (.map b1) (.map b2) B T, .int .i64 i] w fun e w' => e = .returned (.bool (isR B i)) ∧ Below w.heap.size w w' := by
  unfold sto stoCells
  by_cases h1 : 1 ≤ i
  · by_cases h2 : i ≤ 8
    · obtain rfl | rfl | rfl | rfl | rfl | rfl | rfl | rfl : i = 1 ∨ i = 2 ∨ i = 3 ∨ i = 4 ∨ i = 5 ∨ i = 6 ∨ i = 7 ∨ i = 8 := by omega
      all_goals
        go_enter Try.func64, Try.ntmps64
        go_wp2
        go_ret
        exact ⟨by simp [isR], (Below.refl _ _).alloc (Nat.le_refl _) _⟩
    · have h2' : 8 < i := by omega
      go_enter Try.func64, Try.ntmps64
      go_wp2
      go_ret
      exact ⟨by rw [isR_hi B h2']; rfl, (Below.refl _ _).alloc (Nat.le_refl _) _⟩
  · have h1' : i < 1 := by omega
    go_enter Try.func64, Try.ntmps64
    go_wp2
    go_ret
    exact ⟨by rw [isR_lo B h1']; rfl, (Below.refl _ _).alloc (Nat.le_refl _) _⟩

section
variable {ops : Array Oper} {rest : List Oper} {a : Act} {w : World} {Q : Exit → Act → World → Prop} {o : Oper} {c n : Int} {B : Nat → Bool} {T : Nat → Int}
theorem box_sto (hg : o.guard = none) (x : Operand) (ho : o.op = .box 57 x) (dst : Option Tmp) (hd : o.dst = dst) {ml mw : Value} (hx : a.eval x = sto c n ml mw B T)
    (h : wpList Try.prog ops Q rest (a.put dst (.pointer (some ⟨w.heap.size, 0, none⟩))) (w.alloc (.cells (stoCells c n ml mw B T) 57))) : wpList Try.prog ops Q (o :: rest) a w :=
  wpList_box_mine hg _ x ho dst hd (stoCells c n ml mw B T) hx Try.size57 h
theorem get_sto (hg : o.guard = none) (x : Operand) (ho : o.op = .load 57 x) (g : Nat) (hx : a.eval x = .pointer (some ⟨g, 0, none⟩)) {ml mw : Value} {t : TypeId} {fr : Nat × Nat} (hb : w.heap[g]? = some (.cells (stoCells c n ml mw B T) t fr))
    (h : wpList Try.prog ops Q rest (a.put o.dst (sto c n ml mw B T)) w) : wpList Try.prog ops Q (o :: rest) a w :=
  wpList_load_row hg _ x ho g hx t _ fr _ hb Try.underlying57 rfl Try.size57 h
theorem put_sto (hg : o.guard = none) (x y : Operand) (ho : o.op = .store 57 x y) (hd : o.dst = none) (g : Nat) (hx : a.eval x = .pointer (some ⟨g, 0, none⟩)) {b1 b2 : Option Nat} (hy : a.eval y = sto c n (.map b1) (.map b2) B T)
    {t : TypeId} {old : Array Value} (hb : w.heap[g]? = some (.cells old t (0, 0))) (hold : old.size = 20)
    (h : wpList Try.prog ops Q rest a (w.setRow g (stoCells c n (.map b1) (.map b2) B T))) : wpList Try.prog ops Q (o :: rest) a w :=
  wpList_store_rowTo hg _ x y ho hd g _ hx hy t old hb Try.size57 hold (sto_ones ..) h
end
/-- The zero store. -/
def sto0 (c : Int) : Value := .agg (stoZ c)
/-- A store loaded whole. -/
theorem load_sto (W : World) (b : Nat) (cs : Array Value) (t : TypeId) (fr : Nat × Nat) (h : W.heap[b]? = some (.cells cs t fr)) (hc : cs.size = 20) : (loadVar 57 ⟨b, 0, none⟩).run Try.prog W = .ok (.agg cs) W := by
  exact run_loadVar_row W b t _ cs fr _ h Try.underlying57 rfl (by rw [hc]; exact Try.size57)

set_option maxRecDepth 100000 in
set_option maxHeartbeats 3200000 in
theorem snew_bad (c : Int) (w : World) (h : c < 1 ∨ (1 ≤ c ∧ 2048 < c)) :
    Calls Try.prog 29 #[.int .i64 c] w fun e w' => e = .returned (.tuple #[sto0 0, .int .i64 3]) ∧ Below w.heap.size w w' := by
  have h0 : ∀ (o : Obj), (w.alloc o).heap[w.heap.size]? = some o := fun o => heap_alloc_new w o
  have H0 := Lib.hid h0
  clear h0
  rcases h with h | ⟨h, h'⟩
  all_goals
    go_enter Try.func29, Try.ntmps29
    go_wp2_with (first
      | (with_reducible refine at_alloc_ ?_; refine wpList_alloc_mine rfl 57 rfl _ rfl (stoZ 0) stoZ_zero rfl ?_)
      | (with_reducible refine at_store_ ?_; refine Hid.out ?_))
    refine Lib.hid ?_
    refine wpList_store_rowTo rfl 57 (.tmp 2) (.tmp 10) rfl rfl w.heap.size (stoZ 0) rfl rfl 57 (stoZ 0) (H0.out _) Try.size57 rfl (sto_ones ..) ?_
    rw [setRow_alloc]
    go_wp2_with fail
    have hl := load_sto _ _ _ _ _ (H0.out (.cells (stoZ 0) 57)) rfl
    refine bodyPost_ret (v := .tuple #[sto0 0, .int .i64 3]) ?_ rfl ⟨rfl, (Below.refl _ _).alloc (Nat.le_refl _) _⟩
    simp [results, Try.results29, asAddr, hl, sto0, Result.andThen]

set_option maxRecDepth 100000 in
set_option maxHeartbeats 3200000 in
theorem snew_ok (c : Int) (w : World) (h : 1 ≤ c) (h' : c ≤ 2048) :
    Calls Try.prog 29 #[.int .i64 c] w fun e w' => e = .returned (.tuple #[sto0 c, .int .i64 0]) ∧ Below w.heap.size w w' := by
  have h0 : ∀ (o : Obj), (w.alloc o).heap[w.heap.size]? = some o := fun o => heap_alloc_new w o
  have H0 := Lib.hid h0
  clear h0
  go_enter Try.func29, Try.ntmps29
  go_wp2_with (first
    | (with_reducible refine at_alloc_ ?_; refine wpList_alloc_mine rfl 57 rfl _ rfl (stoZ 0) stoZ_zero rfl ?_)
    | (with_reducible refine at_store_ ?_; refine Hid.out ?_))
  refine Lib.hid ?_
  refine wpList_store_rowTo rfl 57 (.tmp 2) (.tmp 12) rfl rfl w.heap.size (stoZ c) rfl rfl 57 (stoZ 0) (H0.out _) Try.size57 rfl (sto_ones ..) ?_
  rw [setRow_alloc]
  go_wp2_with fail
  have hl := load_sto _ _ _ _ _ (H0.out (.cells (stoZ c) 57)) rfl
  refine bodyPost_ret (v := .tuple #[sto0 c, .int .i64 0]) ?_ rfl ⟨rfl, (Below.refl _ _).alloc (Nat.le_refl _) _⟩
  simp [results, Try.results29, asAddr, hl, sto0, Result.andThen]
end Go.Proofs.Ytpejhgkcofilmaa
