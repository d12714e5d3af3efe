/- The walks of the store's Open and Readers. Conditions: none but on the maps' form. -/
import Derived.Test.YtpejhgkcofilmaaSnapG
import Derived.Deep.MidRow
set_option linter.unusedVariables false
namespace Go.Proofs.Ytpejhgkcofilmaa
open Go.RowKit

/-- The readers' cells. -/
def arrL (B : Nat → Bool) (T : Nat → Int) : List Value :=
  [.bool (B 0), .int .i64 (T 0), .bool (B 1), .int .i64 (T 1), .bool (B 2), .int .i64 (T 2), .bool (B 3), .int .i64 (T 3), .bool (B 4), .int .i64 (T 4), .bool (B 5), .int .i64 (T 5), .bool (B 6), .int .i64 (T 6), .bool (B 7), .int .i64 (T 7)]
def arrV (B : Nat → Bool) (T : Nat → Int) : Value := .agg (arrL B T).toArray
theorem arr_index (B : Nat → Bool) (T : Nat → Int) (k : Nat) (hk : k < 8) (w : World) : (Instr.index 55 (arrV B T) (.int .i64 (k : Int))).run Try.prog w = .ok (.agg #[.bool (B k), .int .i64 (T k)]) w := by
  obtain rfl | rfl | rfl | rfl | rfl | rfl | rfl | rfl : k = 0 ∨ k = 1 ∨ k = 2 ∨ k = 3 ∨ k = 4 ∨ k = 5 ∨ k = 6 ∨ k = 7 := by omega
  all_goals kernel_rfl
theorem arr_range {w : World} {b : Nat} {c n : Int} {ml mw : Value} {B : Nat → Bool} {T : Nat → Int} {t : TypeId} {fr : Nat × Nat} (h : w.heap[b]? = some (.cells (stoCells c n ml mw B T) t fr)) : w.rangeAt b 4 (arrL B T) := by
  intro j v hj
  have : j < 16 := (List.getElem?_eq_some_iff.1 hj).1
  rw [cell_of_row _ _ _ _ _ _ h, ← hj]
  obtain rfl | rfl | rfl | rfl | rfl | rfl | rfl | rfl | rfl | rfl | rfl | rfl | rfl | rfl | rfl | rfl : j = 0 ∨ j = 1 ∨ j = 2 ∨ j = 3 ∨ j = 4 ∨ j = 5 ∨ j = 6 ∨ j = 7 ∨ j = 8 ∨ j = 9 ∨ j = 10 ∨ j = 11 ∨ j = 12 ∨ j = 13 ∨ j = 14 ∨ j = 15 := by omega
  all_goals rfl
theorem arr_size : (Try.prog.info? 55).map (·.size) = some 16 := by kernel_rfl
theorem get_arr {ops : Array Oper} {rest : List Oper} {a : Act} {w : World} {Q : Exit → Act → World → Prop} {o : Oper} {c n : Int} {ml mw : Value} {B : Nat → Bool} {T : Nat → Int} (hg : o.guard = none) (x : Operand) (ho : o.op = .load 55 x) (b : Nat) (hx : a.eval x = .pointer (some ⟨b, 4, none⟩)) {t : TypeId} {fr : Nat × Nat} (hb : w.heap[b]? = some (.cells (stoCells c n ml mw B T) t fr))
    (h : wpList Try.prog ops Q rest (a.put o.dst (arrV B T)) w) : wpList Try.prog ops Q (o :: rest) a w :=
  wpList_load_mid hg _ x ho b 4 hx (arrL B T) _ (arr_range hb) Try.underlying55 rfl arr_size h
/-- The first reader that is not open, from k on. -/
def updB (B : Nat → Bool) (k : Nat) (b : Bool) : Nat → Bool := fun j => if j = k then b else B j
def updT (T : Nat → Int) (k : Nat) (x : Int) : Nat → Int := fun j => if j = k then x else T j
theorem sto_open {w : World} {b : Nat} {c n : Int} {ml mw : Value} {B : Nat → Bool} {T : Nat → Int} {t : TypeId} {fr : Nat × Nat} (h : w.heap[b]? = some (.cells (stoCells c n ml mw B T) t fr)) (k : Nat) (hk : k < 8) (q : Bool) (x : Int) :
    ((w.setCell ⟨b, 4 + k * 2, none⟩ (.bool q)).setCell ⟨b, 4 + k * 2 + 1, none⟩ (.int .i64 x)).heap[b]? = some (.cells (stoCells c n ml mw (updB B k q) (updT T k x)) t fr) := by
  rw [setCell_block (setCell_block h _) _]
  congr 2
  obtain rfl | rfl | rfl | rfl | rfl | rfl | rfl | rfl : k = 0 ∨ k = 1 ∨ k = 2 ∨ k = 3 ∨ k = 4 ∨ k = 5 ∨ k = 6 ∨ k = 7 := by omega
  all_goals rfl

set_option maxRecDepth 100000 in
set_option maxHeartbeats 6400000 in
theorem open_ok (c n : Int) (b1 b2 : Option Nat) (B : Nat → Bool) (T : Nat → Int) (r : Nat) (hr : r < 8) (hB : ∀ j, j < r → B j = true) (hBr : B r = false) (w : World) :
    Calls Try.prog 30 #[sto c n (.map b1) (.map b2) B T] w fun e w' => e = .returned (.tuple #[sto c n (.map b1) (.map b2) (updB B r true) (updT T r n), .int .i64 ((r : Int) + 1), .int .i64 0]) ∧ Below w.heap.size w w' := by
  have H1 := Lib.hid fun (o2 : Obj) => heap_alloc2_old w (.cells (stoCells c n (.map b1) (.map b2) B T) 57) o2
  have H2 := Lib.hid fun (o1 o2 : Obj) => heap_alloc2_new w o1 o2
  have HI := Lib.hid fun k hk w => arr_index B T k hk w
  go_enter Try.func30, Try.ntmps30
  go_wp2_with (first
    | (with_reducible refine at_box_ (t := 57) ?_; refine box_sto rfl _ rfl _ rfl (c := c) (n := n) (ml := .map b1) (mw := .map b2) (B := B) (T := T) rfl ?_)
    | (with_reducible refine at_alloc_ (t := 57) ?_; refine wpList_alloc_mine rfl 57 rfl _ rfl (stoZ 0) stoZ_zero rfl ?_)
    | (with_reducible refine at_load_ (t := 55) ?_; refine get_arr rfl _ rfl w.heap.size rfl (H1.out _) ?_))
  have hq1 := H1.out (.cells (stoZ 0) 57)
  have hq2 := H2.out (.cells (stoCells c n (.map b1) (.map b2) B T) 57) (.cells (stoZ 0) 57)
  have hb : Below w.heap.size w ((w.alloc (.cells (stoCells c n (.map b1) (.map b2) B T) 57)).alloc (.cells (stoZ 0) 57)) := ((Below.refl _ _).alloc (Nat.le_refl _) _).alloc (by simp) _
  generalize (w.alloc (.cells (stoCells c n (.map b1) (.map b2) B T) 57)).alloc (.cells (stoZ 0) 57) = w1 at *
  have P := Lib.hid hq1
  have P' := Lib.hid hq2
  have HB := Lib.hid hb
  clear hq1 hq2 hb H1 H2
  generalize hA : arrV B T = A at *
  clear hA
  go_loopw [9] (fun i wr => ∃ k : Nat, k ≤ r ∧ i = .int .i64 k ∧ Hid (wr.heap[w.heap.size]? = some (.cells (stoCells c n (.map b1) (.map b2) B T) 57)) ∧ Hid (wr.heap[w.heap.size + 1]? = some (.cells (stoZ 0) 57)) ∧ Hid (Below w.heap.size w wr)) (fun i _ => r - (intOf i).toNat)
  case atStart => exact ⟨0, by omega, rfl, P, P', HB⟩
  case round =>
    clear P P' HB
    obtain ⟨k, hk, rfl, P, P', HB⟩ := hrel
    have hi := HI.out k (by omega)
    have h8 : (k : Int) < 8 := by omega
    by_cases hlt : k < r
    · have hbk := hB k hlt
      rw [hbk] at hi
      have PA := Lib.hid fun (o : Obj) => (heap_alloc_old wr o (r := w.heap.size) (lt_of_block P.out)).trans P.out
      have PB := Lib.hid fun (o : Obj) => (heap_alloc_old wr o (r := w.heap.size + 1) (lt_of_block P'.out)).trans P'.out
      have HBA := Lib.hid fun (o : Obj) => HB.out.alloc HB.out.size o
      go_wp2
      go_roundw
      case rel => exact ⟨k + 1, by omega, by go_num, Lib.hid (PA.out _), Lib.hid (PB.out _), Lib.hid (HBA.out _)⟩
      case measure => simp [intOf]; omega
    · obtain rfl : r = k := by omega
      rw [hBr] at hi
      have PA := Lib.hid fun (o : Obj) => (heap_alloc_old wr o (r := w.heap.size) (lt_of_block P.out)).trans P.out
      have PB := Lib.hid fun (o : Obj) => (heap_alloc_old wr o (r := w.heap.size + 1) (lt_of_block P'.out)).trans P'.out
      have HBA := Lib.hid fun (o : Obj) => HB.out.alloc HB.out.size o
      have NN := Lib.hid fun (o : Obj) => not_frozen (PA.out o)
      have hx1 : ∀ o, (wr.alloc o).cell? ⟨w.heap.size, 1, none⟩ = some (.int .i64 n) := fun o => (sto_all (PA.out o)).2.1
      have hx2 : ∀ o, (wr.alloc o).cell? ⟨w.heap.size, 4 + r * 2, none⟩ = some (.bool (B r)) := fun o => (sto_stamp (PA.out o) r (by omega)).1
      have hx3 : ∀ o, (wr.alloc o).cell? ⟨w.heap.size, 4 + r * 2 + 1, none⟩ = some (.int .i64 (T r)) := fun o => (sto_stamp (PA.out o) r (by omega)).2
      have hz : ∀ o i, (wr.alloc o).frozen? ⟨w.heap.size, i, none⟩ = false := fun o i => not_frozen (PA.out o) i
      have h80 : (0 : Int) ≤ (r : Int) := by omega
      have hkw : IntKind.i64.wrap ((r : Int) + 1) = (r : Int) + 1 := by simp [IntKind.wrap, IntKind.bits, IntKind.signed]; omega
      go_wp2_with (first
        | (with_reducible refine at_load_ (t := 57) ?_; refine Hid.out ?_)
        | (with_reducible refine at_store_ (t := 57) ?_; refine Hid.out ?_))
      refine Lib.hid ?_
      have e1 := sto_open (PA.out (.cells #[.bool false, .int .i64 (T r)] 54)) r hr true n
      have e2 : (((wr.alloc (.cells #[.bool false, .int .i64 (T r)] 54)).setCell ⟨w.heap.size, 4 + r * 2, none⟩ (.bool true)).setCell ⟨w.heap.size, 4 + r * 2 + 1, none⟩ (.int .i64 n)).heap[w.heap.size + 1]? = some (.cells (stoZ 0) 57) := by
        rw [heap_setCell_other _ ⟨w.heap.size, 4 + r * 2 + 1, none⟩ _ _ (by simp), heap_setCell_other _ ⟨w.heap.size, 4 + r * 2, none⟩ _ _ (by simp)]
        exact PB.out _
      have e3 : Below w.heap.size w (((wr.alloc (.cells #[.bool false, .int .i64 (T r)] 54)).setCell ⟨w.heap.size, 4 + r * 2, none⟩ (.bool true)).setCell ⟨w.heap.size, 4 + r * 2 + 1, none⟩ (.int .i64 n)) := ((HBA.out _).setCell (Nat.le_refl _) _).setCell (Nat.le_refl _) _
      generalize ((wr.alloc (.cells #[.bool false, .int .i64 (T r)] 54)).setCell ⟨w.heap.size, 4 + r * 2, none⟩ (.bool true)).setCell ⟨w.heap.size, 4 + r * 2 + 1, none⟩ (.int .i64 n) = w7 at *
      have E1 := Lib.hid e1
      have E2 := Lib.hid e2
      have E3 := Lib.hid e3
      clear e1 e2 e3 hx1 hx2 hx3 hz PA PB HBA NN
      refine get_sto rfl (.tmp 1) rfl w.heap.size rfl E1.out ?_
      try simp only [Act.put, List.setIfInBounds_toArray, List.set_cons_zero, List.set_cons_succ]
      go_wp2_with (with_reducible refine at_store_ (t := 57) ?_; refine Hid.out ?_)
      refine Lib.hid ?_
      refine put_sto rfl (.tmp 2) (.tmp 22) rfl rfl (w.heap.size + 1) rfl rfl E2.out rfl ?_
      go_wp2_with fail
      have hl := load_sto _ _ _ _ _ (setRow_heap w7 (w.heap.size + 1) _ (stoCells c n (.map b1) (.map b2) (updB B r true) (updT T r n)) _ _ E2.out) rfl
      refine bodyPost_ret (v := .tuple #[sto c n (.map b1) (.map b2) (updB B r true) (updT T r n), .int .i64 ((r : Int) + 1), .int .i64 0]) ?_ rfl ⟨rfl, below_setRow E3.out (Nat.le_succ _) _⟩
      simp [results, Try.results30, asAddr, hl, sto, Result.andThen]
end Go.Proofs.Ytpejhgkcofilmaa
