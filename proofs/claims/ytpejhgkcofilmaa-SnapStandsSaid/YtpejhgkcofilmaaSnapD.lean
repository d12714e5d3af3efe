/- The walk of the store's Read. Conditions: the lists ascend and have at most 2^40 versions. -/
import Derived.Test.YtpejhgkcofilmaaSnapC
import Derived.Deep.RegionHeld3
set_option linter.unusedVariables false
namespace Go.Proofs.Ytpejhgkcofilmaa
open Go.RowKit

theorem load_at (W : World) (b : Nat) {c n : Int} {ml mw : Value} {B : Nat → Bool} {T : Nat → Int} {t : TypeId} {fr : Nat × Nat} (h : W.heap[b]? = some (.cells (stoCells c n ml mw B T) t fr)) :
    (Instr.loadAt 57 (.pointer (some ⟨b, 0, none⟩))).run Try.prog W = .ok (sto c n ml mw B T) W := by
  simp only [Instr.loadAt, Instr.sureAddr, Sem.run_bind, Sem.run_pure, Result.andThen_ok, load_sto W b _ t fr h rfl]
  rfl
theorem sto_stamp {w : World} {b : Nat} {c n : Int} {ml mw : Value} {B : Nat → Bool} {T : Nat → Int} {t : TypeId} {fr : Nat × Nat} (h : w.heap[b]? = some (.cells (stoCells c n ml mw B T) t fr)) (k : Nat) (hk : k < 8) :
    w.cell? ⟨b, 4 + k * 2, none⟩ = some (.bool (B k)) ∧ w.cell? ⟨b, 4 + k * 2 + 1, none⟩ = some (.int .i64 (T k)) := by
  rw [cell_of_row _ _ _ _ _ _ h, cell_of_row _ _ _ _ _ _ h]
  obtain rfl | rfl | rfl | rfl | rfl | rfl | rfl | rfl : k = 0 ∨ k = 1 ∨ k = 2 ∨ k = 3 ∨ k = 4 ∨ k = 5 ∨ k = 6 ∨ k = 7 := by omega
  all_goals exact ⟨rfl, rfl⟩

theorem sto_all {W : World} {b : Nat} {c n : Int} {b1 b2 : Option Nat} {B : Nat → Bool} {T : Nat → Int} {t : TypeId} {fr : Nat × Nat} (h : W.heap[b]? = some (.cells (stoCells c n (.map b1) (.map b2) B T) t fr)) :
    W.cell? ⟨b, 0, none⟩ = some (.int .i64 c) ∧ W.cell? ⟨b, 1, none⟩ = some (.int .i64 n) ∧ W.cell? ⟨b, 2, none⟩ = some (.map b1) ∧ W.cell? ⟨b, 3, none⟩ = some (.map b2) ∧ W.cell? ⟨b, 4, none⟩ = some (.bool (B 0)) ∧ W.cell? ⟨b, 5, none⟩ = some (.int .i64 (T 0)) ∧ W.cell? ⟨b, 6, none⟩ = some (.bool (B 1)) ∧ W.cell? ⟨b, 7, none⟩ = some (.int .i64 (T 1)) ∧ W.cell? ⟨b, 8, none⟩ = some (.bool (B 2)) ∧ W.cell? ⟨b, 9, none⟩ = some (.int .i64 (T 2)) ∧ W.cell? ⟨b, 10, none⟩ = some (.bool (B 3)) ∧ W.cell? ⟨b, 11, none⟩ = some (.int .i64 (T 3)) ∧ W.cell? ⟨b, 12, none⟩ = some (.bool (B 4)) ∧ W.cell? ⟨b, 13, none⟩ = some (.int .i64 (T 4)) ∧ W.cell? ⟨b, 14, none⟩ = some (.bool (B 5)) ∧ W.cell? ⟨b, 15, none⟩ = some (.int .i64 (T 5)) ∧ W.cell? ⟨b, 16, none⟩ = some (.bool (B 6)) ∧ W.cell? ⟨b, 17, none⟩ = some (.int .i64 (T 6)) ∧ W.cell? ⟨b, 18, none⟩ = some (.bool (B 7)) ∧ W.cell? ⟨b, 19, none⟩ = some (.int .i64 (T 7)) := by
  refine ⟨?_, ?_, ?_, ?_, ?_, ?_, ?_, ?_, ?_, ?_, ?_, ?_, ?_, ?_, ?_, ?_, ?_, ?_, ?_, ?_⟩
  all_goals rw [cell_of_row _ _ _ _ _ _ h]; rfl

set_option maxRecDepth 100000 in
set_option maxHeartbeats 3200000 in
theorem sread_no {S : Nat → Prop} (c n : Int) (b1 b2 : Option Nat) (B : Nat → Bool) (T : Nat → Int) (r i : Int) (w : World) (h : isR B r = false) :
    Calls Try.prog 33 #[sto c n (.map b1) (.map b2) B T, .int .i64 r, .int .i64 i] w fun e w' => e = .returned (.tuple #[.int .i64 0, .int .i64 10]) ∧ Below w.heap.size w w' := by
  have H1 := Lib.hid (heap_alloc_new w (.cells (stoCells c n (.map b1) (.map b2) B T) 57))
  have HC := Lib.hid h
  clear h
  go_enter Try.func33, Try.ntmps33
  go_wp2_with (first
    | (with_reducible refine at_box_ (t := 57) ?_; refine box_sto rfl _ rfl _ rfl (c := c) (n := n) (ml := .map b1) (mw := .map b2) (B := B) (T := T) rfl ?_)
    | (with_reducible refine at_load_ (t := 57) ?_; refine get_sto rfl _ rfl w.heap.size rfl H1.out ?_))
  refine (sis_any c n b1 b2 B T r _).mono ?_
  rintro e w1 ⟨rfl, hb1⟩
  rw [HC.out]
  have HB := Lib.hid (below_new hb1)
  clear hb1
  go_wp2
  go_ret2
  exact ⟨rfl, HB.out⟩

set_option maxRecDepth 100000 in
set_option maxHeartbeats 3200000 in
theorem sread_arg {S : Nat → Prop} (c n : Int) (b1 b2 : Option Nat) (B : Nat → Bool) (T : Nat → Int) (r i : Int) (w : World) (h : isR B r = true) (hc : (decide (0 ≤ i) && decide (i < c)) = false) :
    Calls Try.prog 33 #[sto c n (.map b1) (.map b2) B T, .int .i64 r, .int .i64 i] w fun e w' => e = .returned (.tuple #[.int .i64 0, .int .i64 1]) ∧ Below w.heap.size w w' := by
  have H1 := Lib.hid (heap_alloc_new w (.cells (stoCells c n (.map b1) (.map b2) B T) 57))
  have HC := Lib.hid h
  have HD := Lib.hid hc
  clear h hc
  go_enter Try.func33, Try.ntmps33
  go_wp2_with (first
    | (with_reducible refine at_box_ (t := 57) ?_; refine box_sto rfl _ rfl _ rfl (c := c) (n := n) (ml := .map b1) (mw := .map b2) (B := B) (T := T) rfl ?_)
    | (with_reducible refine at_load_ (t := 57) ?_; refine get_sto rfl _ rfl w.heap.size rfl H1.out ?_))
  refine (sis_any c n b1 b2 B T r _).mono ?_
  rintro e w1 ⟨rfl, hb1⟩
  rw [HC.out]
  obtain ⟨p1, hb, hsz⟩ := boxed1 hb1
  have P1 := Lib.hid p1
  have HB := Lib.hid hb
  clear hb1 p1 hb hsz H1 HC
  go_wp2_with (with_reducible refine at_load_ (t := 57) ?_; refine get_sto rfl _ rfl w.heap.size rfl P1.out ?_)
  refine (scell_any c n b1 b2 B T i _).mono ?_
  rintro e w2 ⟨rfl, hb2⟩
  rw [HD.out]
  have HB2 := Lib.hid (HB.out.trans (hb2.mono HB.out.size))
  clear hb2 P1 HD HB
  go_wp2
  go_ret2
  exact ⟨rfl, HB2.out⟩

theorem isR_eight {B : Nat → Bool} {r : Int} (h : isR B r = true) : r = 1 ∨ r = 2 ∨ r = 3 ∨ r = 4 ∨ r = 5 ∨ r = 6 ∨ r = 7 ∨ r = 8 := by
  simp only [isR, Bool.and_eq_true, decide_eq_true_eq] at h
  omega

/-- A store read whole, in a region that draws its order. -/
theorem yields_sto {ops : Array Oper} {S : World → Prop} {op : Oper} {a : Act} {c n : Int} {ml mw : Value} {B : Nat → Bool} {T : Nat → Int} (hw : Region.wanted op (yielded ops a.tmps) = true) (x : Operand) (ho : op.op = .load 57 x)
    (b : Nat) (hx : a.eval x = .pointer (some ⟨b, 0, none⟩)) (t : TypeId) (fr : Nat × Nat) (hS : ∀ w, S w → w.heap[b]? = some (.cells (stoCells c n ml mw B T) t fr)) : YieldsIf Try.prog ops S op (sto c n ml mw B T) a :=
  .inl ⟨hw, fun w hw' => by
    unfold execOp
    simp only [ho, hx, Instr.loadAt, Instr.sureAddr, Sem.run_bind, Sem.run_pure, Result.andThen_ok, load_sto w b _ t fr (hS w hw') rfl]
    rfl⟩

set_option maxRecDepth 100000 in
set_option maxHeartbeats 12800000 in
theorem sread_at {S : Nat → Prop} (c n : Int) (b1 b2 : Option Nat) (B : Nat → Bool) (T : Nat → Int) (f : Int → Option Value) (g : Int → Option (List (Int × Int))) (k : Nat) (i : Int) (w : World) (hS : ∀ b, w.heap.size ≤ b → S b)
    (hm : IsMap w S (.map b1) f) (hg : LMap w S f g) (ha : Asc (listOf c g i)) (hl : (listOf c g i).length ≤ 1099511627776) (hk : k < 8) (h : isR B ((k : Int) + 1) = true) (hc : (decide (0 ≤ i) && decide (i < c)) = true) :
    Calls Try.prog 33 #[sto c n (.map b1) (.map b2) B T, .int .i64 ((k : Int) + 1), .int .i64 i] w fun e w' =>
      e = .returned (.tuple #[.int .i64 (if seeB (listOf c g i) (T k) = true then seeV (listOf c g i) (T k) else 0), .int .i64 (if seeB (listOf c g i) (T k) = true then 0 else 24)]) ∧ Below w.heap.size w w' := by
  have hbw : ∀ w1, Below w.heap.size w w1 → w.heap.size + 1 ≤ w1.heap.size →
      Calls Try.prog 41 #[sto c n (.map b1) (.map b2) B T, .int .i64 i] w1 fun e w' => ∃ u, e = .returned u ∧ VList w' (Off S w.heap.size (w.heap.size + 1)) u (listOf c g i) ∧ Below w1.heap.size w1 w' := by
    intro w1 hbb hsz
    exact slist_any (S := Off S w.heap.size (w.heap.size + 1)) c n b1 b2 B T f g i w1 (off_new hS (Nat.le_add_right _ 1) hsz) ((hm.off (w.heap.size + 1)).below hbb) ((hg.off (w.heap.size + 1)).below hbb)
  have C1 := Lib.hid hbw
  have H1 := Lib.hid (heap_alloc_new w (.cells (stoCells c n (.map b1) (.map b2) B T) 57))
  have HC := Lib.hid h
  have HD := Lib.hid hc
  have C3 := Lib.hid fun A m cc w3 (hv : Ones w3 (Off S w.heap.size (w.heap.size + 1)) A m (listOf c g i)) => at_any A m cc (listOf c g i) (T k) w3 hv ha hl
  clear hm hg hbw hS h hc ha hl
  generalize listOf c g i = L at *
  obtain ⟨x, y, hx, hy⟩ : ∃ x y, x = seeV L (T k) ∧ y = seeB L (T k) := ⟨_, _, rfl, rfl⟩
  rw [← hx, ← hy] at C3 ⊢
  clear hx hy
  have hk1 : ((k : Int) + 1) - 1 = k := by omega
  have hk2 : (0 : Int) ≤ k := by omega
  have hk3 : (k : Int) < 8 := by omega
  have hk4 : IntKind.i64.wrap (k : Int) = k := by simp [IntKind.wrap, IntKind.bits, IntKind.signed]; omega
  go_enter Try.func33, Try.ntmps33
  go_wp2_with (first
    | (with_reducible refine at_box_ (t := 57) ?_; refine box_sto rfl _ rfl _ rfl (c := c) (n := n) (ml := .map b1) (mw := .map b2) (B := B) (T := T) rfl ?_)
    | (with_reducible refine at_load_ (t := 57) ?_; refine get_sto rfl _ rfl w.heap.size rfl H1.out ?_))
  refine (sis_any c n b1 b2 B T _ _).mono ?_
  rintro e w1 ⟨rfl, hb1⟩
  rw [HC.out]
  obtain ⟨p1, hb, hsz⟩ := boxed1 hb1
  have P1 := Lib.hid p1
  have HB := Lib.hid hb
  have HSZ := Lib.hid hsz
  clear hb1 p1 hb hsz H1 HC
  go_wp2_with (with_reducible refine at_load_ (t := 57) ?_; refine get_sto rfl _ rfl w.heap.size rfl P1.out ?_)
  refine (scell_any c n b1 b2 B T i _).mono ?_
  rintro e w2 ⟨rfl, hb2⟩
  rw [HD.out]
  have HB2 := Lib.hid (HB.out.trans (hb2.mono HB.out.size))
  have HSZ2 := Lib.hid (Nat.le_trans HSZ.out hb2.size)
  have C2 := Lib.hid (C1.out w2.drew HB2.out.drew HSZ2.out)
  have P2 := Lib.hid ((hb2.block w.heap.size HSZ.out).trans P1.out)
  clear hb2 P1 HD HB C1 HSZ
  go_wp2_with fail
  refine wp_region_held_drew (S := fun W => W.heap[w.heap.size]? = some (.cells (stoCells c n (.map b1) (.map b2) B T) 57 (0, 0))) (by kernel_rfl) P2.out (fun hHeld => ?_)
  refine wpAnyH_take (i := 0) (v := sto c n (.map b1) (.map b2) B T) rfl (by kernel_rfl) (by kernel_rfl) (by kernel_rfl) (fun _ _ _ h => h) (yields_sto (by rfl) _ rfl w.heap.size rfl 57 (0, 0) (fun _ h => h)) hHeld ?_
  try simp only [Act.put, List.setIfInBounds_toArray, List.set_cons_zero, List.set_cons_succ]
  refine wpAnyH_take (i := 1) (v := .int .i64 i) rfl (by kernel_rfl) (by kernel_rfl) (by kernel_rfl) (fun _ _ _ h => h) (Or.inl ⟨by rfl, ?_⟩) hHeld ?_
  · intro W hW
    go_simp
  try simp only [Act.put, List.setIfInBounds_toArray, List.set_cons_zero, List.set_cons_succ]
  refine wpAnyH_take (i := 3) (v := .int .i64 ((k : Int) + 1)) rfl (by kernel_rfl) (by kernel_rfl) (by kernel_rfl) (fun _ _ _ h => h) (Or.inl ⟨by rfl, ?_⟩) hHeld ?_
  · intro W hW
    go_simp
  try simp only [Act.put, List.setIfInBounds_toArray, List.set_cons_zero, List.set_cons_succ]
  refine wpAnyH_take (i := 4) (v := .int .i64 k) rfl (by kernel_rfl) (by kernel_rfl) (by kernel_rfl) (fun _ _ _ h => h) (Or.inl ⟨by rfl, ?_⟩) hHeld ?_
  · intro W hW
    go_simp
  try simp only [Act.put, List.setIfInBounds_toArray, List.set_cons_zero, List.set_cons_succ]
  refine wpAnyH_take (i := 5) (v := .pointer (some ⟨w.heap.size, 4, none⟩)) rfl (by kernel_rfl) (by kernel_rfl) (by kernel_rfl) (fun _ _ _ h => h) (Or.inl ⟨by rfl, ?_⟩) hHeld ?_
  · intro W hW
    go_simp
  try simp only [Act.put, List.setIfInBounds_toArray, List.set_cons_zero, List.set_cons_succ]
  refine wpAnyH_take (i := 6) (v := .pointer (some ⟨w.heap.size, 4 + k * 2, none⟩)) rfl (by kernel_rfl) (by kernel_rfl) (by kernel_rfl) (fun _ _ _ h => h) (Or.inl ⟨by rfl, ?_⟩) hHeld ?_
  · intro W hW
    go_simp
  try simp only [Act.put, List.setIfInBounds_toArray, List.set_cons_zero, List.set_cons_succ]
  refine wpAnyH_take (i := 7) (v := .pointer (some ⟨w.heap.size, 4 + k * 2 + 1, none⟩)) rfl (by kernel_rfl) (by kernel_rfl) (by kernel_rfl) (fun _ _ _ h => h) (Or.inl ⟨by rfl, ?_⟩) hHeld ?_
  · intro W hW
    go_simp
  try simp only [Act.put, List.setIfInBounds_toArray, List.set_cons_zero, List.set_cons_succ]
  refine wpAnyH_take (i := 8) (v := .int .i64 (T k)) rfl (by kernel_rfl) (by kernel_rfl) (by kernel_rfl) (fun _ _ _ h => h) (Or.inl ⟨by rfl, ?_⟩) hHeld ?_
  · intro W hW
    have hT := (sto_stamp hW k hk).2
    clear hW
    go_simp
  try simp only [Act.put, List.setIfInBounds_toArray, List.set_cons_zero, List.set_cons_succ]
  refine wpAnyH_ready (rs := [2]) (by kernel_rfl) (by simp) ?_
  refine AllReadyH.cons rfl (fun K hK => ?_) AllReadyH.nil
  go_simp
  refine C2.out.mono ?_
  rintro e w3 ⟨u, rfl, ⟨A, m, cc, rfl, hc1, hc2, hv⟩, hb3⟩
  refine hK.out _ _ ((hb3.block w.heap.size HSZ2.out).trans P2.out) (fun hHeld3 => ?_)
  clear hK
  try simp only [Act.put, List.setIfInBounds_toArray, List.set_cons_zero, List.set_cons_succ]
  refine wpAnyH_ready (rs := [9]) (by kernel_rfl) (by simp) ?_
  refine AllReadyH.cons rfl (fun K hK => ?_) AllReadyH.nil
  go_simp
  refine (C3.out A m cc w3 hv).mono ?_
  rintro e w4 ⟨rfl, hb4⟩
  have HB4 := Lib.hid (HB2.out.drew.trans ((hb3.mono HB2.out.size).trans (hb4.mono (Nat.le_trans HB2.out.size hb3.size))))
  refine hK.out _ _ ((hb4.block w.heap.size (Nat.le_trans HSZ2.out hb3.size)).trans hHeld3) (fun hHeld4 => ?_)
  clear hK hb3 hb4 hv hc1 hc2 hHeld hHeld3
  try simp only [Act.put, List.setIfInBounds_toArray, List.set_cons_zero, List.set_cons_succ]
  refine wpAnyH_take (i := 10) (v := .tuple #[.int .i64 x, .bool y]) rfl (by kernel_rfl) (by kernel_rfl) (by kernel_rfl) (fun _ _ _ h => h) (Or.inl ⟨by rfl, ?_⟩) hHeld4 ?_
  · intro W hW
    go_simp
  try simp only [Act.put, List.setIfInBounds_toArray, List.set_cons_zero, List.set_cons_succ]
  refine wpAnyH_take (i := 11) (v := .int .i64 x) rfl (by kernel_rfl) (by kernel_rfl) (by kernel_rfl) (fun _ _ _ h => h) (Or.inl ⟨by rfl, ?_⟩) hHeld4 ?_
  · intro W hW
    go_simp
  try simp only [Act.put, List.setIfInBounds_toArray, List.set_cons_zero, List.set_cons_succ]
  refine wpAnyH_take (i := 12) (v := .bool y) rfl (by kernel_rfl) (by kernel_rfl) (by kernel_rfl) (fun _ _ _ h => h) (Or.inl ⟨by rfl, ?_⟩) hHeld4 ?_
  · intro W hW
    go_simp
  try simp only [Act.put, List.setIfInBounds_toArray, List.set_cons_zero, List.set_cons_succ]
  refine wpAnyH_take (i := 13) (v := .int .i64 x) rfl (by kernel_rfl) (by kernel_rfl) (by kernel_rfl) (fun _ _ _ h => h) (Or.inl ⟨by rfl, ?_⟩) hHeld4 ?_
  · intro W hW
    go_simp
  try simp only [Act.put, List.setIfInBounds_toArray, List.set_cons_zero, List.set_cons_succ]
  refine wpAnyH_take (i := 14) (v := .bool y) rfl (by kernel_rfl) (by kernel_rfl) (by kernel_rfl) (fun _ _ _ h => h) (Or.inl ⟨by rfl, ?_⟩) hHeld4 ?_
  · intro W hW
    go_simp
  try simp only [Act.put, List.setIfInBounds_toArray, List.set_cons_zero, List.set_cons_succ]
  refine wpAnyH_done (by kernel_rfl) ?_ _
  cases y
  all_goals
    go_wp2
    go_ret2
    exact ⟨rfl, HB4.out⟩
theorem sread_ok {S : Nat → Prop} (c n : Int) (b1 b2 : Option Nat) (B : Nat → Bool) (T : Nat → Int) (f : Int → Option Value) (g : Int → Option (List (Int × Int))) (r i : Int) (w : World) (hS : ∀ b, w.heap.size ≤ b → S b)
    (hm : IsMap w S (.map b1) f) (hg : LMap w S f g) (ha : Asc (listOf c g i)) (hl : (listOf c g i).length ≤ 1099511627776) (h : isR B r = true) (hc : (decide (0 ≤ i) && decide (i < c)) = true) :
    Calls Try.prog 33 #[sto c n (.map b1) (.map b2) B T, .int .i64 r, .int .i64 i] w fun e w' =>
      e = .returned (.tuple #[.int .i64 (if seeB (listOf c g i) (T (r - 1).toNat) = true then seeV (listOf c g i) (T (r - 1).toNat) else 0), .int .i64 (if seeB (listOf c g i) (T (r - 1).toNat) = true then 0 else 24)]) ∧ Below w.heap.size w w' := by
  have h8 := isR_eight h
  obtain ⟨k, hk, rfl⟩ : ∃ k : Nat, k < 8 ∧ r = (k : Int) + 1 := ⟨(r - 1).toNat, by omega, by omega⟩
  have := sread_at c n b1 b2 B T f g k i w hS hm hg ha hl hk h hc
  rwa [show ((k : Int) + 1 - 1).toNat = k by omega]
end Go.Proofs.Ytpejhgkcofilmaa
