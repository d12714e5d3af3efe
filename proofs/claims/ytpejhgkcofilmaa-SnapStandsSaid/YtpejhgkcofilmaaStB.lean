/- The walks of the store's Open where no reader is free, Close, and Cut. Conditions: the maps and lists lie in blocks that meet S. -/
import Derived.Test.YtpejhgkcofilmaaStA
set_option linter.unusedVariables false
namespace Go.Proofs.Ytpejhgkcofilmaa
open Go.RowKit

set_option maxRecDepth 100000 in
set_option maxHeartbeats 6400000 in
theorem open_full (c n : Int) (b1 b2 : Option Nat) (B : Nat → Bool) (T : Nat → Int) (hB : ∀ j, j < 8 → B j = true) (w : World) :
    Calls Try.prog 30 #[sto c n (.map b1) (.map b2) B T] w fun e w' => e = .returned (.tuple #[sto c n (.map b1) (.map b2) B T, .int .i64 0, .int .i64 9]) ∧ Below w.heap.size w w' := by
  have H1 := Lib.hid fun (o2 : Obj) => heap_alloc2_old w (.cells (stoCells c n (.map b1) (.map b2) B T) 57) o2
  have H2 := Lib.hid fun (o1 o2 : Obj) => heap_alloc2_new w o1 o2
  have HI := Lib.hid fun k hk w => arr_index B T k hk w
  go_enter Try.func30, Try.ntmps30
  go_wp2_with (first
    | (with_reducible refine at_box_ (t := 57) ?_; refine box_sto rfl _ rfl _ rfl (c := c) (n := n) (ml := .map b1) (mw := .map b2) (B := B) (T := T) rfl ?_)
    | (with_reducible refine at_alloc_ (t := 57) ?_; refine wpList_alloc_mine rfl 57 rfl _ rfl (stoZ 0) stoZ_zero rfl ?_)
    | (with_reducible refine at_load_ (t := 55) ?_; refine get_arr rfl _ rfl w.heap.size rfl (H1.out _) ?_))
  have hq1 := H1.out (.cells (stoZ 0) 57)
  have hq2 := H2.out (.cells (stoCells c n (.map b1) (.map b2) B T) 57) (.cells (stoZ 0) 57)
  have hb : Below w.heap.size w ((w.alloc (.cells (stoCells c n (.map b1) (.map b2) B T) 57)).alloc (.cells (stoZ 0) 57)) := ((Below.refl _ _).alloc (Nat.le_refl _) _).alloc (by simp) _
  generalize (w.alloc (.cells (stoCells c n (.map b1) (.map b2) B T) 57)).alloc (.cells (stoZ 0) 57) = w1 at *
  have P := Lib.hid hq1
  have P' := Lib.hid hq2
  have HB := Lib.hid hb
  clear hq1 hq2 hb H1 H2
  generalize hA : arrV B T = A at *
  clear hA
  go_loopw [9] (fun i wr => ∃ k : Nat, k ≤ 8 ∧ i = .int .i64 k ∧ Hid (wr.heap[w.heap.size]? = some (.cells (stoCells c n (.map b1) (.map b2) B T) 57)) ∧ Hid (wr.heap[w.heap.size + 1]? = some (.cells (stoZ 0) 57)) ∧ Hid (Below w.heap.size w wr)) (fun i _ => 8 - (intOf i).toNat)
  case atStart => exact ⟨0, by omega, rfl, P, P', HB⟩
  case round =>
    clear P P' HB
    obtain ⟨k, hk, rfl, P, P', HB⟩ := hrel
    by_cases hlt : k < 8
    · have hi := HI.out k (by omega)
      have h8 : (k : Int) < 8 := by omega
      have hbk := hB k hlt
      rw [hbk] at hi
      have PA := Lib.hid fun (o : Obj) => (heap_alloc_old wr o (r := w.heap.size) (lt_of_block P.out)).trans P.out
      have PB := Lib.hid fun (o : Obj) => (heap_alloc_old wr o (r := w.heap.size + 1) (lt_of_block P'.out)).trans P'.out
      have HBA := Lib.hid fun (o : Obj) => HB.out.alloc HB.out.size o
      go_wp2
      go_roundw
      case rel => exact ⟨k + 1, by omega, by go_num, Lib.hid (PA.out _), Lib.hid (PB.out _), Lib.hid (HBA.out _)⟩
      case measure => simp [intOf]; omega
    · obtain rfl : k = 8 := by omega
      go_wp2_with (first
        | (with_reducible refine at_load_ (t := 57) ?_; refine get_sto rfl _ rfl w.heap.size rfl P.out ?_)
        | (with_reducible refine at_store_ (t := 57) ?_; refine Hid.out ?_))
      refine Lib.hid ?_
      refine put_sto rfl (.tmp 2) (.tmp 26) rfl rfl (w.heap.size + 1) rfl rfl P'.out rfl ?_
      go_wp2_with fail
      have hl := load_sto _ _ _ _ _ (setRow_heap wr (w.heap.size + 1) _ (stoCells c n (.map b1) (.map b2) B T) _ _ P'.out) rfl
      refine bodyPost_ret (v := .tuple #[sto c n (.map b1) (.map b2) B T, .int .i64 0, .int .i64 9]) ?_ rfl ⟨rfl, below_setRow HB.out (Nat.le_succ _) _⟩
      simp [results, Try.results30, asAddr, hl, sto, Result.andThen]

theorem sto_close {w : World} {b : Nat} {c n : Int} {ml mw : Value} {B : Nat → Bool} {T : Nat → Int} {t : TypeId} {fr : Nat × Nat} (h : w.heap[b]? = some (.cells (stoCells c n ml mw B T) t fr)) (k : Nat) (hk : k < 8) (q : Bool) :
    (w.setCell ⟨b, 4 + k * 2, none⟩ (.bool q)).heap[b]? = some (.cells (stoCells c n ml mw (updB B k q) T) t fr) := by
  rw [setCell_block h _]
  congr 2
  obtain rfl | rfl | rfl | rfl | rfl | rfl | rfl | rfl : k = 0 ∨ k = 1 ∨ k = 2 ∨ k = 3 ∨ k = 4 ∨ k = 5 ∨ k = 6 ∨ k = 7 := by omega
  all_goals rfl

set_option maxRecDepth 100000 in
set_option maxHeartbeats 6400000 in
theorem close_no (c n : Int) (b1 b2 : Option Nat) (B : Nat → Bool) (T : Nat → Int) (r : Int) (w : World) (h : isR B r = false) :
    Calls Try.prog 49 #[sto c n (.map b1) (.map b2) B T, .int .i64 r] w fun e w' => e = .returned (.tuple #[sto c n (.map b1) (.map b2) B T, .int .i64 10]) ∧ Below w.heap.size w w' := by
  have H1 := Lib.hid fun (o2 : Obj) => heap_alloc2_old w (.cells (stoCells c n (.map b1) (.map b2) B T) 57) o2
  have H2 := Lib.hid fun (o1 o2 : Obj) => heap_alloc2_new w o1 o2
  have HC := Lib.hid h
  clear h
  go_enter Try.func49, Try.ntmps49
  go_wp2_with (first
    | (with_reducible refine at_box_ (t := 57) ?_; refine box_sto rfl _ rfl _ rfl (c := c) (n := n) (ml := .map b1) (mw := .map b2) (B := B) (T := T) rfl ?_)
    | (with_reducible refine at_alloc_ (t := 57) ?_; refine wpList_alloc_mine rfl 57 rfl _ rfl (stoZ 0) stoZ_zero rfl ?_)
    | (with_reducible refine at_load_ (t := 57) ?_; refine get_sto rfl _ rfl w.heap.size rfl (H1.out _) ?_))
  refine (sis_any c n b1 b2 B T r _).mono ?_
  rintro e w2 ⟨rfl, hb2⟩
  rw [HC.out]
  have P := Lib.hid ((hb2.block w.heap.size (by simp; omega)).trans (H1.out _))
  have P' := Lib.hid ((hb2.block (w.heap.size + 1) (by simp)).trans (H2.out _ _))
  have hb0 : Below w.heap.size w ((w.alloc (.cells (stoCells c n (.map b1) (.map b2) B T) 57)).alloc (.cells (stoZ 0) 57)) := ((Below.refl _ _).alloc (Nat.le_refl _) _).alloc (by simp) _
  have HB := Lib.hid (hb0.trans (hb2.mono hb0.size))
  clear hb2 hb0 H1 H2
  go_wp2_with (first
    | (with_reducible refine at_load_ (t := 57) ?_; refine get_sto rfl _ rfl w.heap.size rfl P.out ?_)
    | (with_reducible refine at_store_ (t := 57) ?_; refine Hid.out ?_))
  refine Lib.hid ?_
  refine put_sto rfl (.tmp 4) (.tmp 10) rfl rfl (w.heap.size + 1) rfl rfl P'.out rfl ?_
  go_wp2_with fail
  have hl := load_sto _ _ _ _ _ (setRow_heap w2 (w.heap.size + 1) _ (stoCells c n (.map b1) (.map b2) B T) _ _ P'.out) rfl
  refine bodyPost_ret (v := .tuple #[sto c n (.map b1) (.map b2) B T, .int .i64 10]) ?_ rfl ⟨rfl, below_setRow HB.out (Nat.le_succ _) _⟩
  simp [results, Try.results49, asAddr, hl, sto, Result.andThen]

set_option maxRecDepth 100000 in
set_option maxHeartbeats 6400000 in
theorem close_ok (c n : Int) (b1 b2 : Option Nat) (B : Nat → Bool) (T : Nat → Int) (k : Nat) (hk : k < 8) (w : World) (h : isR B ((k : Int) + 1) = true) :
    Calls Try.prog 49 #[sto c n (.map b1) (.map b2) B T, .int .i64 ((k : Int) + 1)] w fun e w' => e = .returned (.tuple #[sto c n (.map b1) (.map b2) (updB B k false) T, .int .i64 0]) ∧ Below w.heap.size w w' := by
  have H1 := Lib.hid fun (o2 : Obj) => heap_alloc2_old w (.cells (stoCells c n (.map b1) (.map b2) B T) 57) o2
  have H2 := Lib.hid fun (o1 o2 : Obj) => heap_alloc2_new w o1 o2
  have HC := Lib.hid h
  have h8 : (k : Int) < 8 := by omega
  have h80 : (0 : Int) ≤ (k : Int) := by omega
  have hkw : IntKind.i64.wrap ((k : Int) + 1 - 1) = (k : Int) := by simp [IntKind.wrap, IntKind.bits, IntKind.signed]; omega
  clear h
  go_enter Try.func49, Try.ntmps49
  go_wp2_with (first
    | (with_reducible refine at_box_ (t := 57) ?_; refine box_sto rfl _ rfl _ rfl (c := c) (n := n) (ml := .map b1) (mw := .map b2) (B := B) (T := T) rfl ?_)
    | (with_reducible refine at_alloc_ (t := 57) ?_; refine wpList_alloc_mine rfl 57 rfl _ rfl (stoZ 0) stoZ_zero rfl ?_)
    | (with_reducible refine at_load_ (t := 57) ?_; refine get_sto rfl _ rfl w.heap.size rfl (H1.out _) ?_))
  refine (sis_any c n b1 b2 B T ((k : Int) + 1) _).mono ?_
  rintro e w2 ⟨rfl, hb2⟩
  rw [HC.out]
  have P := Lib.hid ((hb2.block w.heap.size (by simp; omega)).trans (H1.out _))
  have P' := Lib.hid ((hb2.block (w.heap.size + 1) (by simp)).trans (H2.out _ _))
  have hb0 : Below w.heap.size w ((w.alloc (.cells (stoCells c n (.map b1) (.map b2) B T) 57)).alloc (.cells (stoZ 0) 57)) := ((Below.refl _ _).alloc (Nat.le_refl _) _).alloc (by simp) _
  have HB := Lib.hid (hb0.trans (hb2.mono hb0.size))
  clear hb2 hb0 H1 H2
  have hx2 : w2.cell? ⟨w.heap.size, 4 + k * 2, none⟩ = some (.bool (B k)) := (sto_stamp P.out k (by omega)).1
  have hz : ∀ i, w2.frozen? ⟨w.heap.size, i, none⟩ = false := fun i => not_frozen P.out i
  go_wp2_with (first
    | (with_reducible refine at_load_ (t := 57) ?_; refine Hid.out ?_)
    | (with_reducible refine at_store_ (t := 57) ?_; refine Hid.out ?_))
  refine Lib.hid ?_
  have E1 := Lib.hid (sto_close P.out k hk false)
  have E2 := Lib.hid (show (w2.setCell ⟨w.heap.size, 4 + k * 2, none⟩ (.bool false)).heap[w.heap.size + 1]? = some (.cells (stoZ 0) 57) from (heap_setCell_other _ ⟨w.heap.size, 4 + k * 2, none⟩ _ _ (by simp)).trans P'.out)
  have E3 := Lib.hid (HB.out.setCell (p := ⟨w.heap.size, 4 + k * 2, none⟩) (Nat.le_refl _) (.bool false))
  clear hx2 hz P P' HB
  generalize w2.setCell ⟨w.heap.size, 4 + k * 2, none⟩ (.bool false) = w7 at *
  refine get_sto rfl (.tmp 2) rfl w.heap.size rfl E1.out ?_
  try simp only [Act.put, List.setIfInBounds_toArray, List.set_cons_zero, List.set_cons_succ]
  go_wp2_with (with_reducible refine at_store_ (t := 57) ?_; refine Hid.out ?_)
  refine Lib.hid ?_
  refine put_sto rfl (.tmp 4) (.tmp 16) rfl rfl (w.heap.size + 1) rfl rfl E2.out rfl ?_
  go_wp2_with fail
  have hl := load_sto _ _ _ _ _ (setRow_heap w7 (w.heap.size + 1) _ (stoCells c n (.map b1) (.map b2) (updB B k false) T) _ _ E2.out) rfl
  refine bodyPost_ret (v := .tuple #[sto c n (.map b1) (.map b2) (updB B k false) T, .int .i64 0]) ?_ rfl ⟨rfl, below_setRow E3.out (Nat.le_succ _) _⟩
  simp [results, Try.results49, asAddr, hl, sto, Result.andThen]
end Go.Proofs.Ytpejhgkcofilmaa
