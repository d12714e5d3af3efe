/- The walk of the law WordDistinct: true. Conditions: the numbers are of their kinds; the table of powers of ten is laid. -/
import Derived.Test.YtkccaadhjodhlaaDoorWordDa
import Derived.Deep.RegionHeld3
set_option linter.unusedVariables false
namespace Go.Proofs.YtkccaadhjodhlaaDoor
open Go.RowKit

/-- Block b holds a pair. -/
def PBox (w : World) (b : Nat) (x y : Int) : Prop := w.heap[b]? = some (.cells #[.int .i64 x, .int .i64 y] 40)
section
variable {w w' : World} {b : Nat} {x y : Int}
theorem PBox.lt (h : PBox w b x y) : b < w.heap.size := by
  unfold PBox at h
  exact (Array.getElem?_eq_some_iff.1 h).1
theorem PBox.below (h : PBox w b x y) (hb : Below w.heap.size w w') : PBox w' b x y := (hb.block _ h.lt).trans h
theorem PBox.alloc (h : PBox w b x y) (o : Obj) : PBox (w.alloc o) b x y := by
  have := h.lt
  unfold PBox at *
  unfold World.alloc
  rw [Array.getElem?_push_lt this, ← h, Array.getElem?_eq_getElem this]
theorem PBox.new : PBox (w.alloc (.cells #[.int .i64 x, .int .i64 y] 40)) w.heap.size x y := heap_alloc_new _ _
theorem PBox.c0 (h : PBox w b x y) : w.cell? ⟨b, 0, none⟩ = some (.int .i64 x) := by unfold World.cell?; simp [show w.heap[b]? = _ from h]
theorem PBox.c1 (h : PBox w b x y) : w.cell? ⟨b, 1, none⟩ = some (.int .i64 y) := by unfold World.cell?; simp [show w.heap[b]? = _ from h]
end
@[go_sem] theorem eq_pair (a b c d : Int) (w : World) : (Op.equalIn 10000 40 (.agg #[.int .i64 a, .int .i64 b]) (.agg #[.int .i64 c, .int .i64 d])).run Tryd.prog w = .ok (a == c && b == d) w := by
  have u3 := Tryd.underlying3
  have a3 := Tryd.isAgg3
  have z3 := Tryd.sizeOf3
  rw [show (10000 : Nat) = 9999 + 1 from rfl, Op.equalIn]
  simp only [Sem.run_bind, run_underlying Tryd.underlying40, Result.andThen_ok]
  simp only [Std.Legacy.Range.forIn_eq_forIn_range', Std.Legacy.Range.size, Nat.sub_zero, Nat.add_sub_cancel, Nat.div_one, List.range'_succ, List.range'_zero, List.forIn_cons, List.forIn_nil]
  go_simp
  by_cases h1 : a = c <;> by_cases h2 : b = d <;> simp [h1, h2]
theorem bytes_of (l : List UInt8) : (ByteArray.mk l.toArray).toList = l := (ByteArray.toList_eq _).trans (by simp)
theorem str_eq (l m : List UInt8) : ((ByteArray.mk l.toArray).toList == (ByteArray.mk m.toArray).toList) = decide (l = m) := by
  rw [bytes_of, bytes_of]
  by_cases h : l = m <;> simp [h]
theorem size_al (w : World) (o : Obj) : (w.alloc o).heap.size = w.heap.size + 1 := by simp

set_option maxRecDepth 100000 in
set_option maxHeartbeats 12800000 in
theorem dist_e1 (a b c d v n s : Int) (w : World) (hv0 : -9223372036854775808 ≤ v) (hv1 : v ≤ 9223372036854775807) (h4 : 0 ≤ n) (h5 : n < 4294967296) (hp : Pow w) (h : ¬ wOk a b) :
    Calls Tryd.prog 6 #[.agg #[.int .i64 a, .int .i64 b], .agg #[.int .i64 c, .int .i64 d], wd v n s] w fun e w' => e = .returned (.bool true) ∧ Below w.heap.size w w' := by
  have c1 := fun w => ref_any a b w
  rw [show rErr a b = 3 by simp only [rErr, if_neg h]] at c1
  have C1 := Lib.hid c1
  have C2 := Lib.hid fun w => ref_any c d w
  have he : rErr c d = 0 ∨ rErr c d = 3 := by unfold rErr; split <;> simp
  generalize rVal a b = A at *
  generalize rVal c d = B at *
  generalize rErr c d = E at *
  clear c1 h hp h4 h5 hv0 hv1
  unfold wd
  go_enter Tryd.func6, Tryd.ntmps6
  go_wp2_with fail
  refine (C1.out _).mono ?_
  rintro e w1 ⟨rfl, hx⟩
  subst w1
  go_wp2_with fail
  refine (C2.out _).mono ?_
  rintro e w1 ⟨rfl, hx⟩
  subst w1
  go_wp2_with fail
  refine (awake_any _).mono ?_
  rintro e w1 ⟨rfl, hb⟩
  go_wp2
  go_ret
  exact ⟨rfl, below_new (below_new (below_new hb))⟩

set_option maxRecDepth 100000 in
set_option maxHeartbeats 12800000 in
theorem dist_e2 (a b c d v n s : Int) (w : World) (hv0 : -9223372036854775808 ≤ v) (hv1 : v ≤ 9223372036854775807) (h4 : 0 ≤ n) (h5 : n < 4294967296) (hp : Pow w) (h : wOk a b) (h2 : ¬ wOk c d) :
    Calls Tryd.prog 6 #[.agg #[.int .i64 a, .int .i64 b], .agg #[.int .i64 c, .int .i64 d], wd v n s] w fun e w' => e = .returned (.bool true) ∧ Below w.heap.size w w' := by
  have c1 := fun w => ref_any a b w
  rw [show rErr a b = 0 by simp only [rErr, if_pos h]] at c1
  have c2 := fun w => ref_any c d w
  rw [show rErr c d = 3 by simp only [rErr, if_neg h2]] at c2
  have C1 := Lib.hid c1
  have C2 := Lib.hid c2
  generalize rVal a b = A at *
  generalize rVal c d = B at *
  clear c1 c2 h h2 hp h4 h5 hv0 hv1
  unfold wd
  go_enter Tryd.func6, Tryd.ntmps6
  go_wp2_with fail
  refine (C1.out _).mono ?_
  rintro e w1 ⟨rfl, hx⟩
  subst w1
  go_wp2_with fail
  refine (C2.out _).mono ?_
  rintro e w1 ⟨rfl, hx⟩
  subst w1
  go_wp2_with fail
  refine (awake_any _).mono ?_
  rintro e w1 ⟨rfl, hb⟩
  go_wp2
  go_ret
  exact ⟨rfl, below_new (below_new (below_new hb))⟩

set_option maxRecDepth 100000 in
set_option maxHeartbeats 12800000 in
theorem dist_eq (a b c d v n s : Int) (w : World) (hv0 : -9223372036854775808 ≤ v) (hv1 : v ≤ 9223372036854775807) (h4 : 0 ≤ n) (h5 : n < 4294967296) (hp : Pow w) (h : wOk a b) :
    Calls Tryd.prog 6 #[.agg #[.int .i64 a, .int .i64 b], .agg #[.int .i64 a, .int .i64 b], wd v n s] w fun e w' => e = .returned (.bool true) ∧ Below w.heap.size w w' := by
  have hr := whoA_rVal h
  have hs := whoA_rVal h
  have kr := kindV_ref h
  have ks := kindV_ref h
  have c1 := fun w => ref_any a b w
  rw [show rErr a b = 0 by simp only [rErr, if_pos h]] at c1
  have c2 := fun w => ref_any a b w
  rw [show rErr a b = 0 by simp only [rErr, if_pos h]] at c2
  have c3 := fun w => install_any v n 0 (rVal a b) w (by decide) (by decide) hr.2.2.1 hr.2.2.2
  rw [show insR 0 (rVal a b) = rVal a b by simp [insR, kr], show insE 0 (rVal a b) = 0 by simp [insE, kr]] at c3
  have c4 := fun w => install_any v n 0 (rVal a b) w (by decide) (by decide) hs.2.2.1 hs.2.2.2
  rw [show insR 0 (rVal a b) = rVal a b by simp [insR, ks], show insE 0 (rVal a b) = 0 by simp [insE, ks]] at c4
  have c5 := fun w hp => text_any v n (rVal a b) w hv0 hv1 hr.2.2.1 hr.2.2.2 h4 h5 hp
  have c6 := fun w hp => text_any v n (rVal a b) w hv0 hv1 hs.2.2.1 hs.2.2.2 h4 h5 hp
  have c7 := fun w hp => text_any v n 0 w hv0 hv1 (by decide) (by decide) h4 h5 hp
  have q3 : ((ByteArray.mk (txt v n (rVal a b)).toArray).toList == (ByteArray.mk (txt v n 0).toArray).toList) = false := by rw [str_eq]; exact decide_eq_false (txt_plain v n _ kr)
  have q1 : (rVal a b == rVal a b) = true := beq_self_eq_true _
  clear kr ks hr hs
  have C1 := Lib.hid c1
  have C2 := Lib.hid c2
  have C3 := Lib.hid c3
  have C4 := Lib.hid c4
  have C5 := Lib.hid c5
  have C6 := Lib.hid c6
  have C7 := Lib.hid c7
  have HP := Lib.hid hp
  clear c1 c2 c3 c4 c5 c6 c7 hp h h4 h5 hv0 hv1
  generalize ByteArray.mk (txt v n (rVal a b)).toArray = X at *
  generalize ByteArray.mk (txt v n 0).toArray = Z at *
  generalize rVal a b = A at *
  unfold wd at *
  go_enter Tryd.func6, Tryd.ntmps6
  go_wp2_with fail
  refine (C1.out _).mono ?_
  rintro e w1 ⟨rfl, hx⟩
  subst w1
  go_wp2_with fail
  refine (C2.out _).mono ?_
  rintro e w1 ⟨rfl, hx⟩
  subst w1
  go_wp2_with fail
  clear C1 C2
  generalize hw0 : (((w.alloc (.cells _ _)).alloc (.cells _ _)).alloc (.cells _ _)) = w0
  have P3 := Lib.hid (show PBox w0 w.heap.size a b by rw [← hw0]; exact (PBox.new.alloc _).alloc _)
  have P4 := Lib.hid (show PBox w0 (w.heap.size + 1) a b by
    have := (PBox.new (w := w.alloc (.cells #[.int .i64 a, .int .i64 b] 40)) (x := a) (y := b)).alloc (wdO v n 0)
    rw [size_al] at this
    rw [← hw0]; exact this)
  have P5 := Lib.hid (show WBox w0 (w.heap.size + 1 + 1) v n 0 by
    have := WBox.new (w := (w.alloc (.cells #[.int .i64 a, .int .i64 b] 40)).alloc (.cells #[.int .i64 a, .int .i64 b] 40)) (v := v) (n := n) (r := 0)
    rw [size_al, size_al] at this
    rw [← hw0]; exact this)
  have HW0 := Lib.hid (show Below w.heap.size w w0 by rw [← hw0]; exact (((Below.refl _ _).alloc (Nat.le_refl _) _).alloc (by simp) _).alloc (by simp; omega) _)
  clear hw0
  generalize w.heap.size + 1 + 1 = p5 at *
  generalize w.heap.size + 1 = p4 at *
  refine (C3.out _).mono ?_
  rintro e w1 ⟨rfl, hb⟩
  have Q3 := Lib.hid (P3.out.below hb)
  have Q4 := Lib.hid (P4.out.below hb)
  have Q5 := Lib.hid (P5.out.below hb)
  have HW1 := Lib.hid (HW0.out.trans (hb.mono HW0.out.size))
  clear hb P3 P4 P5 HW0 C3
  have f0 := Q5.out.c0
  have f1 := Q5.out.c1
  have f2 := Q5.out.c2
  have g0 := fun o => (Q5.out.alloc o).c0
  have g1 := fun o => (Q5.out.alloc o).c1
  have g2 := fun o => (Q5.out.alloc o).c2
  go_wp2_with fail
  clear f0 f1 f2 g0 g1 g2
  refine (C4.out _).mono ?_
  rintro e w2 ⟨rfl, hb⟩
  have R3 := Lib.hid ((Q3.out.alloc _).below hb)
  have R4 := Lib.hid ((Q4.out.alloc _).below hb)
  have R5 := Lib.hid ((Q5.out.alloc _).below hb)
  have R11 := Lib.hid ((WBox.new (v := v) (n := n) (r := A)).below hb)
  have HW2 := Lib.hid (HW1.out.trans ((below_new hb).mono HW1.out.size))
  clear hb Q3 Q4 Q5 HW1 C4
  go_wp2_with fail
  generalize w1.heap.size = p11 at *
  generalize hw3 : w2.alloc (.cells _ _) = w3
  have S3 := Lib.hid (show PBox w3 w.heap.size a b by rw [← hw3]; exact R3.out.alloc _)
  have S4 := Lib.hid (show PBox w3 p4 a b by rw [← hw3]; exact R4.out.alloc _)
  have S5 := Lib.hid (show WBox w3 p5 v n 0 by rw [← hw3]; exact R5.out.alloc _)
  have S11 := Lib.hid (show WBox w3 p11 v n A by rw [← hw3]; exact R11.out.alloc _)
  have S13 := Lib.hid (show WBox w3 w2.heap.size v n A by rw [← hw3]; exact WBox.new)
  have HW3 := Lib.hid (show Below w.heap.size w w3 by rw [← hw3]; exact HW2.out.alloc HW2.out.size _)
  have HP3 := Lib.hid (HP.out.below HW3.out)
  clear hw3 R3 R4 R5 R11 HW2
  generalize w2.heap.size = p13 at *
  have key : ∀ W, Below w3.heap.size w3 W → (fun W => (W.cell? ⟨w.heap.size, 0, none⟩ = some (.int .i64 a) ∧ W.cell? ⟨w.heap.size, 1, none⟩ = some (.int .i64 b)) ∧ (W.cell? ⟨p4, 0, none⟩ = some (.int .i64 a) ∧ W.cell? ⟨p4, 1, none⟩ = some (.int .i64 b)) ∧ (W.cell? ⟨p5, 0, none⟩ = some (.int .i64 v) ∧ W.cell? ⟨p5, 1, none⟩ = some (.int .u32 n) ∧ W.cell? ⟨p5, 2, none⟩ = some (.int .u32 0)) ∧ (W.cell? ⟨p11, 0, none⟩ = some (.int .i64 v) ∧ W.cell? ⟨p11, 1, none⟩ = some (.int .u32 n) ∧ W.cell? ⟨p11, 2, none⟩ = some (.int .u32 A)) ∧ (W.cell? ⟨p13, 0, none⟩ = some (.int .i64 v) ∧ W.cell? ⟨p13, 1, none⟩ = some (.int .u32 n) ∧ W.cell? ⟨p13, 2, none⟩ = some (.int .u32 A))) W := fun W hb => ⟨⟨(S3.out.below hb).c0, (S3.out.below hb).c1⟩, ⟨(S4.out.below hb).c0, (S4.out.below hb).c1⟩, word_cells (S5.out.below hb), word_cells (S11.out.below hb), word_cells (S13.out.below hb)⟩
  have K3 := Lib.hid fun (W : World) (hb : Below w3.heap.size w3 W) => HP3.out.below hb
  have y3 := key w3.drew (Below.refl _ _).drew
  have HB3 := Lib.hid (show Below w3.heap.size w3 w3.drew from (Below.refl _ _).drew)
  have KEY := Lib.hid key
  clear key S3 S4 S5 S11 S13 HP HP3
  go_region_held3 (fun W => (W.cell? ⟨w.heap.size, 0, none⟩ = some (.int .i64 a) ∧ W.cell? ⟨w.heap.size, 1, none⟩ = some (.int .i64 b)) ∧ (W.cell? ⟨p4, 0, none⟩ = some (.int .i64 a) ∧ W.cell? ⟨p4, 1, none⟩ = some (.int .i64 b)) ∧ (W.cell? ⟨p5, 0, none⟩ = some (.int .i64 v) ∧ W.cell? ⟨p5, 1, none⟩ = some (.int .u32 n) ∧ W.cell? ⟨p5, 2, none⟩ = some (.int .u32 0)) ∧ (W.cell? ⟨p11, 0, none⟩ = some (.int .i64 v) ∧ W.cell? ⟨p11, 1, none⟩ = some (.int .u32 n) ∧ W.cell? ⟨p11, 2, none⟩ = some (.int .u32 A)) ∧ (W.cell? ⟨p13, 0, none⟩ = some (.int .i64 v) ∧ W.cell? ⟨p13, 1, none⟩ = some (.int .u32 n) ∧ W.cell? ⟨p13, 2, none⟩ = some (.int .u32 A))) (first | exact y3 | exact y4 | exact y5 | exact y6 | exact y7 | exact y8) (first
    | (go_at_call 13; refine (awake_any _).mono ?_; rintro e w8 ⟨rfl, hb⟩; have HB8 := Lib.hid (HB7.out.trans (hb.mono HB7.out.size)); clear hb; have y8 := KEY.out w8 HB8.out)
    | (have hq := HB5; clear hq; go_at_call_of 17 A; refine (C5.out w5 (K3.out _ HB5.out)).mono ?_; rintro e w6 ⟨rfl, hb⟩; have HB6 := Lib.hid (HB5.out.trans (hb.mono HB5.out.size)); clear hb; have y6 := KEY.out w6 HB6.out)
    | (have hq := HB4; clear hq; go_at_call_of 17 A; refine (C5.out w4 (K3.out _ HB4.out)).mono ?_; rintro e w5 ⟨rfl, hb⟩; have HB5 := Lib.hid (HB4.out.trans (hb.mono HB4.out.size)); clear hb; have y5 := KEY.out w5 HB5.out)
    | (go_at_call_of 17 A; refine (C5.out w3.drew (K3.out _ HB3.out)).mono ?_; rintro e w4 ⟨rfl, hb⟩; have HB4 := Lib.hid (HB3.out.trans (hb.mono HB3.out.size)); clear hb; have y4 := KEY.out w4 HB4.out)
    | (have hq := HB6; clear hq; go_at_call_of 17 (0 : Int); refine (C7.out w6 (K3.out _ HB6.out)).mono ?_; rintro e w7 ⟨rfl, hb⟩; have HB7 := Lib.hid (HB6.out.trans (hb.mono HB6.out.size)); clear hb; have y7 := KEY.out w7 HB7.out))
  go_wp2
  go_ret
  exact ⟨rfl, HW3.out.trans (HB8.out.mono HW3.out.size)⟩

set_option maxRecDepth 100000 in
set_option maxHeartbeats 12800000 in
theorem dist_a (a b c d v n s : Int) (w : World) (hv0 : -9223372036854775808 ≤ v) (hv1 : v ≤ 9223372036854775807) (h4 : 0 ≤ n) (h5 : n < 4294967296) (hp : Pow w) (h : wOk a b) (h2 : wOk c d) (hn : a ≠ c) :
    Calls Tryd.prog 6 #[.agg #[.int .i64 a, .int .i64 b], .agg #[.int .i64 c, .int .i64 d], wd v n s] w fun e w' => e = .returned (.bool true) ∧ Below w.heap.size w w' := by
  have hr := whoA_rVal h
  have hs := whoA_rVal h2
  have kr := kindV_ref h
  have ks := kindV_ref h2
  have c1 := fun w => ref_any a b w
  rw [show rErr a b = 0 by simp only [rErr, if_pos h]] at c1
  have c2 := fun w => ref_any c d w
  rw [show rErr c d = 0 by simp only [rErr, if_pos h2]] at c2
  have c3 := fun w => install_any v n 0 (rVal a b) w (by decide) (by decide) hr.2.2.1 hr.2.2.2
  rw [show insR 0 (rVal a b) = rVal a b by simp [insR, kr], show insE 0 (rVal a b) = 0 by simp [insE, kr]] at c3
  have c4 := fun w => install_any v n 0 (rVal c d) w (by decide) (by decide) hs.2.2.1 hs.2.2.2
  rw [show insR 0 (rVal c d) = rVal c d by simp [insR, ks], show insE 0 (rVal c d) = 0 by simp [insE, ks]] at c4
  have c5 := fun w hp => text_any v n (rVal a b) w hv0 hv1 hr.2.2.1 hr.2.2.2 h4 h5 hp
  have c6 := fun w hp => text_any v n (rVal c d) w hv0 hv1 hs.2.2.1 hs.2.2.2 h4 h5 hp
  have c7 := fun w hp => text_any v n 0 w hv0 hv1 (by decide) (by decide) h4 h5 hp
  have q3 : ((ByteArray.mk (txt v n (rVal a b)).toArray).toList == (ByteArray.mk (txt v n 0).toArray).toList) = false := by rw [str_eq]; exact decide_eq_false (txt_plain v n _ kr)
  have q2 : ((ByteArray.mk (txt v n (rVal a b)).toArray).toList == (ByteArray.mk (txt v n (rVal c d)).toArray).toList) = false := by rw [str_eq]; exact decide_eq_false (fun e => hn (txt_diff v n h h2 e).1)
  have q1 : (rVal a b == rVal c d) = false := beq_eq_false_iff_ne.2 (fun e => hn (by have e1 := hr.1; rw [e, hs.1] at e1; exact e1.symm))
  have qn : (a == c) = false := beq_eq_false_iff_ne.2 hn
  clear kr ks hr hs
  have C1 := Lib.hid c1
  have C2 := Lib.hid c2
  have C3 := Lib.hid c3
  have C4 := Lib.hid c4
  have C5 := Lib.hid c5
  have C6 := Lib.hid c6
  have C7 := Lib.hid c7
  have HP := Lib.hid hp
  clear c1 c2 c3 c4 c5 c6 c7 hp h h4 h5 hv0 hv1 h2 hn
  generalize ByteArray.mk (txt v n (rVal a b)).toArray = X at *
  generalize ByteArray.mk (txt v n (rVal c d)).toArray = Y at *
  generalize ByteArray.mk (txt v n 0).toArray = Z at *
  generalize rVal a b = A at *
  generalize rVal c d = B at *
  unfold wd at *
  go_enter Tryd.func6, Tryd.ntmps6
  go_wp2_with fail
  refine (C1.out _).mono ?_
  rintro e w1 ⟨rfl, hx⟩
  subst w1
  go_wp2_with fail
  refine (C2.out _).mono ?_
  rintro e w1 ⟨rfl, hx⟩
  subst w1
  go_wp2_with fail
  clear C1 C2
  generalize hw0 : (((w.alloc (.cells _ _)).alloc (.cells _ _)).alloc (.cells _ _)) = w0
  have P3 := Lib.hid (show PBox w0 w.heap.size a b by rw [← hw0]; exact (PBox.new.alloc _).alloc _)
  have P4 := Lib.hid (show PBox w0 (w.heap.size + 1) c d by
    have := (PBox.new (w := w.alloc (.cells #[.int .i64 a, .int .i64 b] 40)) (x := c) (y := d)).alloc (wdO v n 0)
    rw [size_al] at this
    rw [← hw0]; exact this)
  have P5 := Lib.hid (show WBox w0 (w.heap.size + 1 + 1) v n 0 by
    have := WBox.new (w := (w.alloc (.cells #[.int .i64 a, .int .i64 b] 40)).alloc (.cells #[.int .i64 c, .int .i64 d] 40)) (v := v) (n := n) (r := 0)
    rw [size_al, size_al] at this
    rw [← hw0]; exact this)
  have HW0 := Lib.hid (show Below w.heap.size w w0 by rw [← hw0]; exact (((Below.refl _ _).alloc (Nat.le_refl _) _).alloc (by simp) _).alloc (by simp; omega) _)
  clear hw0
  generalize w.heap.size + 1 + 1 = p5 at *
  generalize w.heap.size + 1 = p4 at *
  refine (C3.out _).mono ?_
  rintro e w1 ⟨rfl, hb⟩
  have Q3 := Lib.hid (P3.out.below hb)
  have Q4 := Lib.hid (P4.out.below hb)
  have Q5 := Lib.hid (P5.out.below hb)
  have HW1 := Lib.hid (HW0.out.trans (hb.mono HW0.out.size))
  clear hb P3 P4 P5 HW0 C3
  have f0 := Q5.out.c0
  have f1 := Q5.out.c1
  have f2 := Q5.out.c2
  have g0 := fun o => (Q5.out.alloc o).c0
  have g1 := fun o => (Q5.out.alloc o).c1
  have g2 := fun o => (Q5.out.alloc o).c2
  go_wp2_with fail
  clear f0 f1 f2 g0 g1 g2
  refine (C4.out _).mono ?_
  rintro e w2 ⟨rfl, hb⟩
  have R3 := Lib.hid ((Q3.out.alloc _).below hb)
  have R4 := Lib.hid ((Q4.out.alloc _).below hb)
  have R5 := Lib.hid ((Q5.out.alloc _).below hb)
  have R11 := Lib.hid ((WBox.new (v := v) (n := n) (r := A)).below hb)
  have HW2 := Lib.hid (HW1.out.trans ((below_new hb).mono HW1.out.size))
  clear hb Q3 Q4 Q5 HW1 C4
  go_wp2_with fail
  generalize w1.heap.size = p11 at *
  generalize hw3 : w2.alloc (.cells _ _) = w3
  have S3 := Lib.hid (show PBox w3 w.heap.size a b by rw [← hw3]; exact R3.out.alloc _)
  have S4 := Lib.hid (show PBox w3 p4 c d by rw [← hw3]; exact R4.out.alloc _)
  have S5 := Lib.hid (show WBox w3 p5 v n 0 by rw [← hw3]; exact R5.out.alloc _)
  have S11 := Lib.hid (show WBox w3 p11 v n A by rw [← hw3]; exact R11.out.alloc _)
  have S13 := Lib.hid (show WBox w3 w2.heap.size v n B by rw [← hw3]; exact WBox.new)
  have HW3 := Lib.hid (show Below w.heap.size w w3 by rw [← hw3]; exact HW2.out.alloc HW2.out.size _)
  have HP3 := Lib.hid (HP.out.below HW3.out)
  clear hw3 R3 R4 R5 R11 HW2
  generalize w2.heap.size = p13 at *
  have key : ∀ W, Below w3.heap.size w3 W → (fun W => (W.cell? ⟨w.heap.size, 0, none⟩ = some (.int .i64 a) ∧ W.cell? ⟨w.heap.size, 1, none⟩ = some (.int .i64 b)) ∧ (W.cell? ⟨p4, 0, none⟩ = some (.int .i64 c) ∧ W.cell? ⟨p4, 1, none⟩ = some (.int .i64 d)) ∧ (W.cell? ⟨p5, 0, none⟩ = some (.int .i64 v) ∧ W.cell? ⟨p5, 1, none⟩ = some (.int .u32 n) ∧ W.cell? ⟨p5, 2, none⟩ = some (.int .u32 0)) ∧ (W.cell? ⟨p11, 0, none⟩ = some (.int .i64 v) ∧ W.cell? ⟨p11, 1, none⟩ = some (.int .u32 n) ∧ W.cell? ⟨p11, 2, none⟩ = some (.int .u32 A)) ∧ (W.cell? ⟨p13, 0, none⟩ = some (.int .i64 v) ∧ W.cell? ⟨p13, 1, none⟩ = some (.int .u32 n) ∧ W.cell? ⟨p13, 2, none⟩ = some (.int .u32 B))) W := fun W hb => ⟨⟨(S3.out.below hb).c0, (S3.out.below hb).c1⟩, ⟨(S4.out.below hb).c0, (S4.out.below hb).c1⟩, word_cells (S5.out.below hb), word_cells (S11.out.below hb), word_cells (S13.out.below hb)⟩
  have K3 := Lib.hid fun (W : World) (hb : Below w3.heap.size w3 W) => HP3.out.below hb
  have y3 := key w3.drew (Below.refl _ _).drew
  have HB3 := Lib.hid (show Below w3.heap.size w3 w3.drew from (Below.refl _ _).drew)
  have KEY := Lib.hid key
  clear key S3 S4 S5 S11 S13 HP HP3
  go_region_held3 (fun W => (W.cell? ⟨w.heap.size, 0, none⟩ = some (.int .i64 a) ∧ W.cell? ⟨w.heap.size, 1, none⟩ = some (.int .i64 b)) ∧ (W.cell? ⟨p4, 0, none⟩ = some (.int .i64 c) ∧ W.cell? ⟨p4, 1, none⟩ = some (.int .i64 d)) ∧ (W.cell? ⟨p5, 0, none⟩ = some (.int .i64 v) ∧ W.cell? ⟨p5, 1, none⟩ = some (.int .u32 n) ∧ W.cell? ⟨p5, 2, none⟩ = some (.int .u32 0)) ∧ (W.cell? ⟨p11, 0, none⟩ = some (.int .i64 v) ∧ W.cell? ⟨p11, 1, none⟩ = some (.int .u32 n) ∧ W.cell? ⟨p11, 2, none⟩ = some (.int .u32 A)) ∧ (W.cell? ⟨p13, 0, none⟩ = some (.int .i64 v) ∧ W.cell? ⟨p13, 1, none⟩ = some (.int .u32 n) ∧ W.cell? ⟨p13, 2, none⟩ = some (.int .u32 B))) (first | exact y3 | exact y4 | exact y5 | exact y6 | exact y7 | exact y8) (first
    | (go_at_call 13; refine (awake_any _).mono ?_; rintro e w8 ⟨rfl, hb⟩; have HB8 := Lib.hid (HB7.out.trans (hb.mono HB7.out.size)); clear hb; have y8 := KEY.out w8 HB8.out)
    | (have hq := HB5; clear hq; go_at_call_of 17 A; refine (C5.out w5 (K3.out _ HB5.out)).mono ?_; rintro e w6 ⟨rfl, hb⟩; have HB6 := Lib.hid (HB5.out.trans (hb.mono HB5.out.size)); clear hb; have y6 := KEY.out w6 HB6.out)
    | (have hq := HB4; clear hq; go_at_call_of 17 B; refine (C6.out w4 (K3.out _ HB4.out)).mono ?_; rintro e w5 ⟨rfl, hb⟩; have HB5 := Lib.hid (HB4.out.trans (hb.mono HB4.out.size)); clear hb; have y5 := KEY.out w5 HB5.out)
    | (go_at_call_of 17 A; refine (C5.out w3.drew (K3.out _ HB3.out)).mono ?_; rintro e w4 ⟨rfl, hb⟩; have HB4 := Lib.hid (HB3.out.trans (hb.mono HB3.out.size)); clear hb; have y4 := KEY.out w4 HB4.out)
    | (have hq := HB6; clear hq; go_at_call_of 17 (0 : Int); refine (C7.out w6 (K3.out _ HB6.out)).mono ?_; rintro e w7 ⟨rfl, hb⟩; have HB7 := Lib.hid (HB6.out.trans (hb.mono HB6.out.size)); clear hb; have y7 := KEY.out w7 HB7.out))
  go_wp2
  go_ret
  exact ⟨rfl, HW3.out.trans (HB8.out.mono HW3.out.size)⟩

set_option maxRecDepth 100000 in
set_option maxHeartbeats 12800000 in
theorem dist_b (a b c d v n s : Int) (w : World) (hv0 : -9223372036854775808 ≤ v) (hv1 : v ≤ 9223372036854775807) (h4 : 0 ≤ n) (h5 : n < 4294967296) (hp : Pow w) (h : wOk a b) (h2 : wOk a d) (hn : b ≠ d) :
    Calls Tryd.prog 6 #[.agg #[.int .i64 a, .int .i64 b], .agg #[.int .i64 a, .int .i64 d], wd v n s] w fun e w' => e = .returned (.bool true) ∧ Below w.heap.size w w' := by
  have hr := whoA_rVal h
  have hs := whoA_rVal h2
  have kr := kindV_ref h
  have ks := kindV_ref h2
  have c1 := fun w => ref_any a b w
  rw [show rErr a b = 0 by simp only [rErr, if_pos h]] at c1
  have c2 := fun w => ref_any a d w
  rw [show rErr a d = 0 by simp only [rErr, if_pos h2]] at c2
  have c3 := fun w => install_any v n 0 (rVal a b) w (by decide) (by decide) hr.2.2.1 hr.2.2.2
  rw [show insR 0 (rVal a b) = rVal a b by simp [insR, kr], show insE 0 (rVal a b) = 0 by simp [insE, kr]] at c3
  have c4 := fun w => install_any v n 0 (rVal a d) w (by decide) (by decide) hs.2.2.1 hs.2.2.2
  rw [show insR 0 (rVal a d) = rVal a d by simp [insR, ks], show insE 0 (rVal a d) = 0 by simp [insE, ks]] at c4
  have c5 := fun w hp => text_any v n (rVal a b) w hv0 hv1 hr.2.2.1 hr.2.2.2 h4 h5 hp
  have c6 := fun w hp => text_any v n (rVal a d) w hv0 hv1 hs.2.2.1 hs.2.2.2 h4 h5 hp
  have c7 := fun w hp => text_any v n 0 w hv0 hv1 (by decide) (by decide) h4 h5 hp
  have q3 : ((ByteArray.mk (txt v n (rVal a b)).toArray).toList == (ByteArray.mk (txt v n 0).toArray).toList) = false := by rw [str_eq]; exact decide_eq_false (txt_plain v n _ kr)
  have q2 : ((ByteArray.mk (txt v n (rVal a b)).toArray).toList == (ByteArray.mk (txt v n (rVal a d)).toArray).toList) = false := by rw [str_eq]; exact decide_eq_false (fun e => hn (txt_diff v n h h2 e).2)
  have q1 : (rVal a b == rVal a d) = false := beq_eq_false_iff_ne.2 (fun e => hn (by have e1 := hr.2.1; rw [e, hs.2.1] at e1; exact e1.symm))
  have qn : (b == d) = false := beq_eq_false_iff_ne.2 hn
  clear kr ks hr hs
  have C1 := Lib.hid c1
  have C2 := Lib.hid c2
  have C3 := Lib.hid c3
  have C4 := Lib.hid c4
  have C5 := Lib.hid c5
  have C6 := Lib.hid c6
  have C7 := Lib.hid c7
  have HP := Lib.hid hp
  clear c1 c2 c3 c4 c5 c6 c7 hp h h4 h5 hv0 hv1 h2 hn
  generalize ByteArray.mk (txt v n (rVal a b)).toArray = X at *
  generalize ByteArray.mk (txt v n (rVal a d)).toArray = Y at *
  generalize ByteArray.mk (txt v n 0).toArray = Z at *
  generalize rVal a b = A at *
  generalize rVal a d = B at *
  unfold wd at *
  go_enter Tryd.func6, Tryd.ntmps6
  go_wp2_with fail
  refine (C1.out _).mono ?_
  rintro e w1 ⟨rfl, hx⟩
  subst w1
  go_wp2_with fail
  refine (C2.out _).mono ?_
  rintro e w1 ⟨rfl, hx⟩
  subst w1
  go_wp2_with fail
  clear C1 C2
  generalize hw0 : (((w.alloc (.cells _ _)).alloc (.cells _ _)).alloc (.cells _ _)) = w0
  have P3 := Lib.hid (show PBox w0 w.heap.size a b by rw [← hw0]; exact (PBox.new.alloc _).alloc _)
  have P4 := Lib.hid (show PBox w0 (w.heap.size + 1) a d by
    have := (PBox.new (w := w.alloc (.cells #[.int .i64 a, .int .i64 b] 40)) (x := a) (y := d)).alloc (wdO v n 0)
    rw [size_al] at this
    rw [← hw0]; exact this)
  have P5 := Lib.hid (show WBox w0 (w.heap.size + 1 + 1) v n 0 by
    have := WBox.new (w := (w.alloc (.cells #[.int .i64 a, .int .i64 b] 40)).alloc (.cells #[.int .i64 a, .int .i64 d] 40)) (v := v) (n := n) (r := 0)
    rw [size_al, size_al] at this
    rw [← hw0]; exact this)
  have HW0 := Lib.hid (show Below w.heap.size w w0 by rw [← hw0]; exact (((Below.refl _ _).alloc (Nat.le_refl _) _).alloc (by simp) _).alloc (by simp; omega) _)
  clear hw0
  generalize w.heap.size + 1 + 1 = p5 at *
  generalize w.heap.size + 1 = p4 at *
  refine (C3.out _).mono ?_
  rintro e w1 ⟨rfl, hb⟩
  have Q3 := Lib.hid (P3.out.below hb)
  have Q4 := Lib.hid (P4.out.below hb)
  have Q5 := Lib.hid (P5.out.below hb)
  have HW1 := Lib.hid (HW0.out.trans (hb.mono HW0.out.size))
  clear hb P3 P4 P5 HW0 C3
  have f0 := Q5.out.c0
  have f1 := Q5.out.c1
  have f2 := Q5.out.c2
  have g0 := fun o => (Q5.out.alloc o).c0
  have g1 := fun o => (Q5.out.alloc o).c1
  have g2 := fun o => (Q5.out.alloc o).c2
  go_wp2_with fail
  clear f0 f1 f2 g0 g1 g2
  refine (C4.out _).mono ?_
  rintro e w2 ⟨rfl, hb⟩
  have R3 := Lib.hid ((Q3.out.alloc _).below hb)
  have R4 := Lib.hid ((Q4.out.alloc _).below hb)
  have R5 := Lib.hid ((Q5.out.alloc _).below hb)
  have R11 := Lib.hid ((WBox.new (v := v) (n := n) (r := A)).below hb)
  have HW2 := Lib.hid (HW1.out.trans ((below_new hb).mono HW1.out.size))
  clear hb Q3 Q4 Q5 HW1 C4
  go_wp2_with fail
  generalize w1.heap.size = p11 at *
  generalize hw3 : w2.alloc (.cells _ _) = w3
  have S3 := Lib.hid (show PBox w3 w.heap.size a b by rw [← hw3]; exact R3.out.alloc _)
  have S4 := Lib.hid (show PBox w3 p4 a d by rw [← hw3]; exact R4.out.alloc _)
  have S5 := Lib.hid (show WBox w3 p5 v n 0 by rw [← hw3]; exact R5.out.alloc _)
  have S11 := Lib.hid (show WBox w3 p11 v n A by rw [← hw3]; exact R11.out.alloc _)
  have S13 := Lib.hid (show WBox w3 w2.heap.size v n B by rw [← hw3]; exact WBox.new)
  have HW3 := Lib.hid (show Below w.heap.size w w3 by rw [← hw3]; exact HW2.out.alloc HW2.out.size _)
  have HP3 := Lib.hid (HP.out.below HW3.out)
  clear hw3 R3 R4 R5 R11 HW2
  generalize w2.heap.size = p13 at *
  have key : ∀ W, Below w3.heap.size w3 W → (fun W => (W.cell? ⟨w.heap.size, 0, none⟩ = some (.int .i64 a) ∧ W.cell? ⟨w.heap.size, 1, none⟩ = some (.int .i64 b)) ∧ (W.cell? ⟨p4, 0, none⟩ = some (.int .i64 a) ∧ W.cell? ⟨p4, 1, none⟩ = some (.int .i64 d)) ∧ (W.cell? ⟨p5, 0, none⟩ = some (.int .i64 v) ∧ W.cell? ⟨p5, 1, none⟩ = some (.int .u32 n) ∧ W.cell? ⟨p5, 2, none⟩ = some (.int .u32 0)) ∧ (W.cell? ⟨p11, 0, none⟩ = some (.int .i64 v) ∧ W.cell? ⟨p11, 1, none⟩ = some (.int .u32 n) ∧ W.cell? ⟨p11, 2, none⟩ = some (.int .u32 A)) ∧ (W.cell? ⟨p13, 0, none⟩ = some (.int .i64 v) ∧ W.cell? ⟨p13, 1, none⟩ = some (.int .u32 n) ∧ W.cell? ⟨p13, 2, none⟩ = some (.int .u32 B))) W := fun W hb => ⟨⟨(S3.out.below hb).c0, (S3.out.below hb).c1⟩, ⟨(S4.out.below hb).c0, (S4.out.below hb).c1⟩, word_cells (S5.out.below hb), word_cells (S11.out.below hb), word_cells (S13.out.below hb)⟩
  have K3 := Lib.hid fun (W : World) (hb : Below w3.heap.size w3 W) => HP3.out.below hb
  have y3 := key w3.drew (Below.refl _ _).drew
  have HB3 := Lib.hid (show Below w3.heap.size w3 w3.drew from (Below.refl _ _).drew)
  have KEY := Lib.hid key
  clear key S3 S4 S5 S11 S13 HP HP3
  go_region_held3 (fun W => (W.cell? ⟨w.heap.size, 0, none⟩ = some (.int .i64 a) ∧ W.cell? ⟨w.heap.size, 1, none⟩ = some (.int .i64 b)) ∧ (W.cell? ⟨p4, 0, none⟩ = some (.int .i64 a) ∧ W.cell? ⟨p4, 1, none⟩ = some (.int .i64 d)) ∧ (W.cell? ⟨p5, 0, none⟩ = some (.int .i64 v) ∧ W.cell? ⟨p5, 1, none⟩ = some (.int .u32 n) ∧ W.cell? ⟨p5, 2, none⟩ = some (.int .u32 0)) ∧ (W.cell? ⟨p11, 0, none⟩ = some (.int .i64 v) ∧ W.cell? ⟨p11, 1, none⟩ = some (.int .u32 n) ∧ W.cell? ⟨p11, 2, none⟩ = some (.int .u32 A)) ∧ (W.cell? ⟨p13, 0, none⟩ = some (.int .i64 v) ∧ W.cell? ⟨p13, 1, none⟩ = some (.int .u32 n) ∧ W.cell? ⟨p13, 2, none⟩ = some (.int .u32 B))) (first | exact y3 | exact y4 | exact y5 | exact y6 | exact y7 | exact y8) (first
    | (go_at_call 13; refine (awake_any _).mono ?_; rintro e w8 ⟨rfl, hb⟩; have HB8 := Lib.hid (HB7.out.trans (hb.mono HB7.out.size)); clear hb; have y8 := KEY.out w8 HB8.out)
    | (have hq := HB5; clear hq; go_at_call_of 17 A; refine (C5.out w5 (K3.out _ HB5.out)).mono ?_; rintro e w6 ⟨rfl, hb⟩; have HB6 := Lib.hid (HB5.out.trans (hb.mono HB5.out.size)); clear hb; have y6 := KEY.out w6 HB6.out)
    | (have hq := HB4; clear hq; go_at_call_of 17 B; refine (C6.out w4 (K3.out _ HB4.out)).mono ?_; rintro e w5 ⟨rfl, hb⟩; have HB5 := Lib.hid (HB4.out.trans (hb.mono HB4.out.size)); clear hb; have y5 := KEY.out w5 HB5.out)
    | (go_at_call_of 17 A; refine (C5.out w3.drew (K3.out _ HB3.out)).mono ?_; rintro e w4 ⟨rfl, hb⟩; have HB4 := Lib.hid (HB3.out.trans (hb.mono HB3.out.size)); clear hb; have y4 := KEY.out w4 HB4.out)
    | (have hq := HB6; clear hq; go_at_call_of 17 (0 : Int); refine (C7.out w6 (K3.out _ HB6.out)).mono ?_; rintro e w7 ⟨rfl, hb⟩; have HB7 := Lib.hid (HB6.out.trans (hb.mono HB6.out.size)); clear hb; have y7 := KEY.out w7 HB7.out))
  go_wp2
  go_ret
  exact ⟨rfl, HW3.out.trans (HB8.out.mono HW3.out.size)⟩

theorem distinct_any (a b c d v n s : Int) (w : World) (hv0 : -9223372036854775808 ≤ v) (hv1 : v ≤ 9223372036854775807) (h4 : 0 ≤ n) (h5 : n < 4294967296) (hp : Pow w) :
    Calls Tryd.prog 6 #[.agg #[.int .i64 a, .int .i64 b], .agg #[.int .i64 c, .int .i64 d], wd v n s] w fun e w' => e = .returned (.bool true) ∧ Below w.heap.size w w' := by
  by_cases h : wOk a b
  · by_cases h2 : wOk c d
    · by_cases ha : a = c
      · subst ha
        by_cases hb : b = d
        · subst hb
          exact dist_eq a b a b v n s w hv0 hv1 h4 h5 hp h
        · exact dist_b a b a d v n s w hv0 hv1 h4 h5 hp h h2 hb
      · exact dist_a a b c d v n s w hv0 hv1 h4 h5 hp h h2 ha
    · exact dist_e2 a b c d v n s w hv0 hv1 h4 h5 hp h h2
  · exact dist_e1 a b c d v n s w hv0 hv1 h4 h5 hp h
end Go.Proofs.YtkccaadhjodhlaaDoor
