/- The walk of syntax.Expr.wrong. Conditions: the table of keywords is laid (SxW). -/
import Derived.Test.YthfjkdgaiaokdaaDoorSxG
import Derived.Deep.CutRange
import Derived.Deep.CutBlock
import Derived.Laws.CopyOwn
set_option linter.unusedVariables false
set_option linter.unusedSimpArgs false
namespace Go.Proofs.YthfjkdgaiaokdaaDoor
open Go.RowKit

theorem cells8 {w : World} {g : Nat} {t : TypeId} {fr : Nat × Nat} {a0 a1 a2 a3 a4 a5 a6 a7 : Value} (h : w.heap[g]? = some (.cells #[a0, a1, a2, a3, a4, a5, a6, a7] t fr)) :
    w.cell? ⟨g, 0, none⟩ = some a0 ∧ w.cell? ⟨g, 1, none⟩ = some a1 ∧ w.cell? ⟨g, 2, none⟩ = some a2 ∧ w.cell? ⟨g, 3, none⟩ = some a3 ∧ w.cell? ⟨g, 4, none⟩ = some a4 ∧ w.cell? ⟨g, 5, none⟩ = some a5 ∧ w.cell? ⟨g, 6, none⟩ = some a6 ∧ w.cell? ⟨g, 7, none⟩ = some a7 := by
  refine ⟨?_, ?_, ?_, ?_, ?_, ?_, ?_, ?_⟩ <;> (rw [cell_of_row _ _ _ _ _ _ h]; rfl)
theorem lt_alloc (w : World) (X : Obj) : w.heap.size < (w.alloc X).heap.size := by show _ < (w.heap.push X).size; rw [Array.size_push]; exact Nat.lt_succ_self _
theorem Bz.alloc {w0 w : World} (h : Bz w0 w) (X : Obj) : Bz w0 (w.alloc X) := ⟨h.b.alloc h.b.size X⟩
def ruleZ : Array Value := #[.bool false, .bool false, .bool false, .bool false, .bool false, .int .i64 0, .int .i64 0, .int .i64 0]
section
variable {a : Act} {w : World} {K : Act → World → Prop} {Q : Exit → Act → World → Prop} {o : Oper}
theorem wp_alloc_rule (ho : o.op = .alloc 133) (k : K (a.put o.dst (.pointer (some ⟨w.heap.size, 0, none⟩))) (w.alloc (.cells ruleZ 133))) : o.wp Tryd.prog a w K Q := by
  unfold Oper.wp execOp
  simp only [ho]
  simp [Instr.alloc, Result.andThen]
  exact k
theorem rule_size : (Tryd.prog.info? 133).map (·.size) = some 8 := by kernel_rfl
theorem wp_put_rule {p0 p1 p2 b3 b4 : Bool} {g lo hi : Int} (x y : Operand) (ho : o.op = .store 133 x y) (b : Nat) (hx : a.eval x = .pointer (some ⟨b, 0, none⟩)) (hy : a.eval y = .agg #[.bool p0, .bool p1, .bool p2, .bool b3, .bool b4, .int .i64 g, .int .i64 lo, .int .i64 hi])
    (h0 : w.heap[b]? = some (.cells ruleZ 133 (0, 0))) (k : ∀ w', w'.heap[b]? = some (.cells #[.bool p0, .bool p1, .bool p2, .bool b3, .bool b4, .int .i64 g, .int .i64 lo, .int .i64 hi] 133 (0, 0)) → (∀ w0, w0.heap.size ≤ b → Bz w0 w → Bz w0 w') → K (a.put o.dst undef) w') : o.wp Tryd.prog a w K Q :=
  wp_store_row 133 x y ho b _ hx hy 133 _ h0 rule_size rfl (by simp [Value.oneCell']) (k _ (setRow_heap _ _ _ _ _ _ h0) (fun w0 h1 h2 => ⟨below_setRow h2.b h1 _⟩))
end
/-- One expression's error, as a call: what Expr.wrong's walk shows. -/
def WrongAt (e : Ex) : Prop := ∀ (d : Int) (w : World) (S : Nat → Prop) (cs : List Value), 0 ≤ d → d ≤ 4611686018427387904 → SxW w → XV w S e cs →
  Calls Tryd.prog 74 #[.agg cs.toArray, .int .i64 d] w fun e' w' => e' = .returned (.int .i64 (chkE d e)) ∧ Below w.heap.size w w'
set_option maxRecDepth 100000 in
theorem exprWrong_head (e : Ex) (d : Int) (w : World) (S : Nat → Prop) (cs : List Value) (hd : 12 < d) (hx : XV w S e cs) :
    Calls Tryd.prog 74 #[.agg cs.toArray, .int .i64 d] w fun e' w' => e' = .returned (.int .i64 18) ∧ Below w.heap.size w w' := by
  obtain ⟨k, n, s, m, a, o⟩ := e
  obtain ⟨A, na, ca, O, no, co, rfl, hA, hO⟩ := hx.open_
  clear hx hA hO
  unfold exC
  go_enter Tryd.func74, Tryd.ntmps74
  go_wp2
  go_ret
  exact ⟨rfl, (Below.refl _ _).alloc (Nat.le_refl _) _⟩
set_option maxRecDepth 100000 in
theorem exprWrong_kind (k n : Int) (s m : Str) (a o : List Ex) (d : Int) (w : World) (S : Nat → Prop) (cs : List Value) (hd : ¬ 12 < d) (hk : k < 0 ∨ 7 < k) (hx : XV w S (.mk k n s m a o) cs) :
    Calls Tryd.prog 74 #[.agg cs.toArray, .int .i64 d] w fun e' w' => e' = .returned (.int .i64 2) ∧ Below w.heap.size w w' := by
  obtain ⟨A, na, ca, O, no, co, rfl, hA, hO⟩ := hx.open_
  clear hx hA hO
  unfold exC
  rcases Classical.em (k < 0) with h0 | h0
  · clear hk
    go_enter Tryd.func74, Tryd.ntmps74
    go_wp2
    go_ret
    exact ⟨rfl, (Below.refl _ _).alloc (Nat.le_refl _) _⟩
  · have h7 : 7 < k := by omega
    clear hk
    go_enter Tryd.func74, Tryd.ntmps74
    go_wp2
    go_ret
    exact ⟨rfl, (Below.refl _ _).alloc (Nat.le_refl _) _⟩
theorem meas_up (q n : Nat) (h : q < n) : n - (intOf (.int .i64 ((q + 1 : Nat) : Int))).toNat < n - (intOf (.int .i64 (q : Int))).toNat := by simp [intOf]; omega
theorem chkEs_take_ok {d : Int} : ∀ {l : List Ex} {q : Nat} {x : Ex}, l[q]? = some x → chkEs d (l.take q) = 0 → chkE d x = 0 → chkEs d (l.take (q + 1)) = 0
  | [], q, x, h, _, _ => by simp at h
  | e :: t, 0, x, h, _, h2 => by
    obtain rfl : e = x := by simpa using h
    simp [chkEs, h2]
  | e :: t, q + 1, x, h, h1, h2 => by
    rw [List.take_succ_cons, chkEs] at h1 ⊢
    split at h1
    · exact absurd h1 (by assumption)
    · rename_i h3
      rw [if_neg h3]
      exact chkEs_take_ok (by simpa using h) h1 h2
theorem chkEs_take_bad {d : Int} : ∀ {l : List Ex} {q : Nat} {x : Ex}, l[q]? = some x → chkEs d (l.take q) = 0 → chkE d x ≠ 0 → chkEs d l = chkE d x
  | [], q, x, h, _, _ => by simp at h
  | e :: t, 0, x, h, _, h2 => by
    obtain rfl : e = x := by simpa using h
    simp [chkEs, h2]
  | e :: t, q + 1, x, h, h1, h2 => by
    rw [List.take_succ_cons, chkEs] at h1
    rw [chkEs]
    split at h1
    · exact absurd h1 (by assumption)
    · rename_i h3
      rw [if_neg h3]
      exact chkEs_take_bad (by simpa using h) h1 h2
theorem chkE_head {d : Int} {e : Ex} (h : headE d e ≠ 0) : chkE d e = headE d e := by
  obtain ⟨k, n, s, m, a, o⟩ := e
  rw [chkE, if_pos h]
theorem chkE_parts {d : Int} {k n : Int} {s m : Str} {a o : List Ex} (h : headE d (.mk k n s m a o) = 0) : chkE d (.mk k n s m a o) = if chkEs (d + 1) a ≠ 0 then chkEs (d + 1) a else chkEs (d + 1) o := by
  rw [chkE, if_neg (by simp [h])]
theorem formE_mk (k n : Int) (s m : Str) (a o : List Ex) : formE (.mk k n s m a o) = (if k = 0 ∨ k = 1 then s == [] && m == [] && decide (a.length = 0) && decide (o.length = 0)
  else if k = 2 then decide (n = 0) && m == [] && decide (a.length = 0) && decide (o.length = 0)
  else if k = 3 ∨ k = 4 then decide (n = 0) && s == [] && m == [] && decide (a.length = 1) && decide (o.length = 0)
  else if k = 5 then decide (n = 0) && s == [] && sgns.contains m && decide (a.length = 2) && decide (o.length = 0)
  else if k = 6 then decide (n = 0) && decide (a.length ≤ 4) && decide (o.length ≤ 1)
  else decide (n = 0) && m == [] && decide (a.length ≤ 4) && decide (o.length = 0)) := rfl
theorem formE_len {k n : Int} {s m : Str} {a o : List Ex} (h : formE (.mk k n s m a o) = true) : a.length ≤ 4 ∧ o.length ≤ 4 := by
  rw [formE_mk] at h
  by_cases h0 : k = 0 ∨ k = 1
  · rw [if_pos h0] at h; simp only [Bool.and_eq_true, decide_eq_true_eq] at h; omega
  rw [if_neg h0] at h
  by_cases h2 : k = 2
  · rw [if_pos h2] at h; simp only [Bool.and_eq_true, decide_eq_true_eq] at h; omega
  rw [if_neg h2] at h
  by_cases h3 : k = 3 ∨ k = 4
  · rw [if_pos h3] at h; simp only [Bool.and_eq_true, decide_eq_true_eq] at h; omega
  rw [if_neg h3] at h
  by_cases h5 : k = 5
  · rw [if_pos h5] at h; simp only [Bool.and_eq_true, decide_eq_true_eq] at h; omega
  rw [if_neg h5] at h
  by_cases h6 : k = 6
  · rw [if_pos h6] at h; simp only [Bool.and_eq_true, decide_eq_true_eq] at h; omega
  rw [if_neg h6] at h; simp only [Bool.and_eq_true, decide_eq_true_eq] at h; omega
theorem headE_len {d k n : Int} {s m : Str} {a o : List Ex} (h : headE d (.mk k n s m a o) = 0) : a.length ≤ 4 ∧ o.length ≤ 4 := by
  unfold headE at h
  by_cases h1 : 12 < d
  · rw [if_pos h1] at h; cases h
  rw [if_neg h1] at h
  by_cases h2 : (Ex.mk k n s m a o).kind < 0 ∨ 7 < (Ex.mk k n s m a o).kind
  · rw [if_pos h2] at h; cases h
  rw [if_neg h2] at h
  cases hf : formE (.mk k n s m a o) with
  | false => rw [if_pos hf] at h; cases h
  | true => exact formE_len hf
theorem headE_cases (j : Nat) (hj : j < 8) (n : Int) (s m : Str) (a o : List Ex) (d g : Int) (hd : ¬ 12 < d) (hn : InR n) (hg0 : j = 0 → g = 9223372036854775807) (hg1 : j = 1 → g = 1) {f : Bool} (hf : f = formE (.mk (j : Int) n s m a o)) :
    (f = false → headE d (.mk (j : Int) n s m a o) = 5) ∧ (f = true → decide (j = 2 ∨ 6 ≤ j) = true → nameOk s = false → headE d (.mk (j : Int) n s m a o) = 16) ∧ (f = true → decide (j = 6) = true → nameOk m = false → headE d (.mk (j : Int) n s m a o) = 16) ∧
    (f = true → (decide (j = 2 ∨ 6 ≤ j) = true → nameOk s = true) → (decide (j = 6) = true → nameOk m = true) → decide (j ≤ 1) = true → (n < 0 ∨ g < n) → headE d (.mk (j : Int) n s m a o) = 3) ∧
    (f = true → (decide (j = 2 ∨ 6 ≤ j) = true → nameOk s = true) → (decide (j = 6) = true → nameOk m = true) → (decide (j ≤ 1) = true → ¬ n < 0 ∧ ¬ g < n) → headE d (.mk (j : Int) n s m a o) = 0) := by
  unfold InR at hn
  have h0 : ¬ ((j : Int) < 0 ∨ 7 < (j : Int)) := by omega
  simp only [decide_eq_true_eq]
  have hh : headE d (.mk (j : Int) n s m a o) = if 12 < d then 18 else if (j : Int) < 0 ∨ 7 < (j : Int) then 2 else if f = false then 5 else if (((j : Int) = 2 ∨ 6 ≤ (j : Int)) ∧ nameOk s = false) ∨ ((j : Int) = 6 ∧ nameOk m = false) then 16 else if (j : Int) ≤ 1 ∧ (n < 0 ∨ ((j : Int) = 1 ∧ 1 < n)) then 3 else 0 := by
    rw [hf]; rfl
  rw [hh, if_neg hd, if_neg h0]
  clear hh hf
  refine ⟨fun h => by rw [if_pos h], fun h h1 h2 => ?_, fun h h1 h2 => ?_, fun h h1 h2 h3 h4 => ?_, fun h h1 h2 h3 => ?_⟩
  · rw [if_neg (by simp [h]), if_pos (.inl ⟨by omega, h2⟩)]
  · rw [if_neg (by simp [h]), if_pos (.inr ⟨by omega, h2⟩)]
  · rw [if_neg (by simp [h]), if_neg, if_pos]
    · refine ⟨by omega, ?_⟩
      rcases h4 with h4 | h4
      · exact .inl h4
      · right
        have hj1 : j = 0 ∨ j = 1 := by omega
        rcases hj1 with rfl | rfl
        · rw [hg0 rfl] at h4; omega
        · rw [hg1 rfl] at h4; exact ⟨by omega, h4⟩
    · rintro (⟨h5, h6⟩ | ⟨h5, h6⟩)
      · rw [h1 (by omega)] at h6; cases h6
      · rw [h2 (by omega)] at h6; cases h6
  · rw [if_neg (by simp [h]), if_neg, if_neg]
    · rintro ⟨h5, h6⟩
      obtain ⟨h7, h8⟩ := h3 (by omega)
      rcases h6 with h6 | ⟨h6, h9⟩
      · exact h7 h6
      · rw [hg1 (by omega)] at h8; exact h8 h9
    · rintro (⟨h5, h6⟩ | ⟨h5, h6⟩)
      · rw [h1 (by omega)] at h6; cases h6
      · rw [h2 (by omega)] at h6; cases h6
set_option maxRecDepth 100000 in
set_option maxHeartbeats 12800000 in
/-- One step: the parts' errors are known. -/
theorem exprWrong_mid (j : Nat) (hj : j < 8) (n : Int) (s m : Str) (a o : List Ex) (ih : ∀ e ∈ a ++ o, WrongAt e) (d : Int) (w : World) (S : Nat → Prop) (cs : List Value) (hd0 : 0 ≤ d) (hd : ¬ 12 < d) (hw : SxW w) (hx : XV w S (.mk (j : Int) n s m a o) cs) :
    Calls Tryd.prog 74 #[.agg cs.toArray, .int .i64 d] w fun e' w' => e' = .returned (.int .i64 (chkE d (.mk (j : Int) n s m a o))) ∧ Below w.heap.size w w' := by
  obtain ⟨A, na, ca, O, no, co, rfl, hA, hO⟩ := hx.open_
  have KF := Lib.hid (fun W => form_any j hj n s m A na ca O no co a o W hA.1.1 hO.1.1)
  have hn := hx.num
  have KR := Lib.hid rules_any
  obtain ⟨b3, b4, g, lo, hi, hr, hg0, hg1⟩ := rule_fields j hj
  have kx : ∀ W, (Instr.index 134 (.agg rulesC) (.int .i64 (j : Int))).run Tryd.prog W = .ok (.agg (ruleC j)) W := fun W => rule_at j hj W
  rw [hr] at kx KF
  clear hr
  obtain ⟨F, hf⟩ : ∃ F, F = formE (.mk (j : Int) n s m a o) := ⟨_, rfl⟩
  rw [← hf] at KF
  obtain ⟨E, hE⟩ : ∃ E, E = chkE d (.mk (j : Int) n s m a o) := ⟨_, rfl⟩
  rw [← hE]
  have HE := Lib.hid hE
  have HG := Lib.hid (And.intro hg0 hg1)
  have HJ := Lib.hid hj
  have HA := Lib.hid hA
  have HO := Lib.hid hO
  have HI := Lib.hid ih
  have HWS := Lib.hid hw
  have HH := headE_cases j hj n s m a o d g hd hn hg0 hg1 hf
  have HP1 : (decide (j = 2 ∨ 6 ≤ j) = true → decide (j ≤ 1) = false) ∧ (decide (j = 2 ∨ 6 ≤ j) = false → decide (j = 6) = false) := by
    simp
    omega
  have KS := Lib.hid (fun W h => isName_any s W h)
  have KM := Lib.hid (fun W h => isName_any m W h)
  clear hf
  generalize decide (j ≤ 1) = P0 at *
  generalize decide (j = 2 ∨ 6 ≤ j) = P1 at *
  generalize decide (j = 6) = P2 at *
  generalize nameOk s = QS at *
  generalize nameOk m = QM at *
  obtain ⟨p0, e0⟩ : ∃ p, P0 = p := ⟨_, rfl⟩
  obtain ⟨p1, e1⟩ : ∃ p, P1 = p := ⟨_, rfl⟩
  obtain ⟨p2, e2⟩ : ∃ p, P2 = p := ⟨_, rfl⟩
  obtain ⟨f, ef⟩ : ∃ p, F = p := ⟨_, rfl⟩
  obtain ⟨qs, es⟩ : ∃ p, QS = p := ⟨_, rfl⟩
  obtain ⟨qm, em⟩ : ∃ p, QM = p := ⟨_, rfl⟩
  rw [e0, e1, e2] at kx
  rw [e0, e1, e2, ef] at KF
  rw [es] at KS
  rw [em] at KM
  have HH2 := Lib.hid HH
  have HP2 := Lib.hid HP1
  clear HH HP1
  have E0 := Lib.hid e0
  have E1 := Lib.hid e1
  have E2 := Lib.hid e2
  have EF := Lib.hid ef
  have ES := Lib.hid es
  have EM := Lib.hid em
  clear e0 e1 e2 ef es em
  have HW := Lib.hid (fun X (W : World) (h : Bz (w.alloc (.cells X 44)) W) => (show (∀ j v, X[j]? = some v → W.cell? ⟨w.heap.size, j, none⟩ = some v) from by
    exact fun j v hv => cell_of_Bz h (by rw [cell_of_row _ _ _ _ _ _ (heap_alloc_new w _)]; exact hv) (lt_of_block (heap_alloc_new w _))))
  have hk0 : ¬ (j : Int) < 0 := by omega
  have hk7 : ¬ 7 < (j : Int) := by omega
  have HX := Lib.hid (show ∀ v, v ≠ 0 → headE d (.mk (j : Int) n s m a o) = v → E = v from fun v h1 h2 => by rw [hE, chkE_head (by rw [h2]; exact h1), h2])
  clear hn hx hA hO hj hE hg0 hg1 hw ih
  unfold exC at KF ⊢
  go_enter Tryd.func74, Tryd.ntmps74
  go_upto_region 5 with fail
  obtain ⟨W0, hW0⟩ : ∃ W0 : World, W0 = w.alloc (.cells #[.int .i64 (j : Int), .int .i64 n, .string (bs s), .string (bs m), .slice A na ca, .slice O no co] 44) := ⟨_, rfl⟩
  have HF := Lib.hid (show ∀ W, Bz W0 W → (W.cell? ⟨w.heap.size, 0, none⟩ = some (.int .i64 (j : Int)) ∧ W.cell? ⟨w.heap.size, 1, none⟩ = some (.int .i64 n) ∧ W.cell? ⟨w.heap.size, 2, none⟩ = some (.string (bs s)) ∧ W.cell? ⟨w.heap.size, 3, none⟩ = some (.string (bs m)) ∧ W.cell? ⟨w.heap.size, 4, none⟩ = some (.slice A na ca) ∧ W.cell? ⟨w.heap.size, 5, none⟩ = some (.slice O no co)) from fun W h => by
    subst hW0
    have h2 := HW.out _ W h
    exact ⟨h2 0 _ rfl, h2 1 _ rfl, h2 2 _ rfl, h2 3 _ rfl, h2 4 _ rfl, h2 5 _ rfl⟩)
  have HG0 := Lib.hid (show ∀ W, Bz W0 W → Below w.heap.size w W from fun W h => by
    subst hW0
    have hb := (Below.refl w.heap.size w).alloc (Nat.le_refl _) (.cells #[.int .i64 (j : Int), .int .i64 n, .string (bs s), .string (bs m), .slice A na ca, .slice O no co] 44)
    exact hb.trans (h.b.mono hb.size))
  rw [← hW0]
  clear hW0 HW
  have z0 : Bz W0 W0 := ⟨Below.refl _ _⟩
  have z1 := z0.drew
  go_cut [5] from 23 (fun v5 wx => ∃ rb, v5 = .pointer (some ⟨rb, 0, none⟩) ∧ W0.heap.size ≤ rb ∧ Bz W0 wx ∧ wx.heap[rb]? = some (.cells #[.bool p0, .bool p1, .bool p2, .bool b3, .bool b4, .int .i64 g, .int .i64 lo, .int .i64 hi] 133 (0, 0)))
  case first =>
    rename_i J0 K0 hR0 hK0
    refine wp_region_held_drew (S := fun W => W.cell? ⟨w.heap.size, 0, none⟩ = some (.int .i64 (j : Int))) (by kernel_rfl) ((HF.out _ z1).1) (fun hHeld => ?_)
    refine wpAnyH_take (i := 1) (oi := ⟨some 24, _, _, _, _, _⟩) (v := .pointer (some ⟨w.heap.size, 0, none⟩)) rfl (by kernel_rfl) (by kernel_rfl) (by kernel_rfl) (fun _ _ _ h => h) (Or.inl ⟨by rfl, ?_⟩) hHeld ?_
    · intro W hW
      go_simp
    try simp only [Act.put, List.setIfInBounds_toArray, List.set_cons_zero, List.set_cons_succ]
    refine wpAnyH_take (i := 2) (oi := ⟨some 25, _, _, _, _, _⟩) (v := .int .i64 (j : Int)) rfl (by kernel_rfl) (by kernel_rfl) (by kernel_rfl) (fun _ _ _ h => h) (Or.inl ⟨by rfl, ?_⟩) hHeld ?_
    · intro W hW
      go_simp
    try simp only [Act.put, List.setIfInBounds_toArray, List.set_cons_zero, List.set_cons_succ]
    refine wpAnyH_ready (rs := [0, 4]) (by kernel_rfl) (by simp) ?_
    refine AllReadyH.cons rfl (fun K hK => ?_) (AllReadyH.cons rfl (fun K hK => ?_) AllReadyH.nil)
    · -- the call first
      go_simp
      refine (KR.out _).mono ?_
      rintro e w1 ⟨rfl, hb⟩
      have z2 := Bz.next z1 hb
      refine hK.out _ _ ((HF.out _ z2).1) (fun hHeld2 => ?_)
      clear hK
      try simp only [Act.put, List.setIfInBounds_toArray, List.set_cons_zero, List.set_cons_succ]
      refine wpAnyH_take (i := 3) (oi := ⟨some 26, _, _, _, _, _⟩) (v := .agg #[.bool p0, .bool p1, .bool p2, .bool b3, .bool b4, .int .i64 g, .int .i64 lo, .int .i64 hi]) rfl (by kernel_rfl) (by kernel_rfl) (by kernel_rfl) (fun _ _ _ h => h) (Or.inl ⟨by rfl, ?_⟩) hHeld2 ?_
      · intro W hW
        go_simp
      try simp only [Act.put, List.setIfInBounds_toArray, List.set_cons_zero, List.set_cons_succ]
      refine wpAnyH_ready (rs := [4]) (by kernel_rfl) (by simp) ?_
      refine AllReadyH.cons (o := ⟨some 5, _, _, _, _, _⟩) rfl (fun K hK => ?_) AllReadyH.nil
      refine Eq.mpr (if_pos (by kernel_rfl)) ?_
      refine wp_alloc_rule rfl ?_
      have z3 := Bz.alloc z2 (.cells ruleZ 133)
      have HQ := Lib.hid (heap_alloc_new w1 (.cells ruleZ 133))
      refine hK.out _ _ ((HF.out _ z3).1) (fun hHeld3 => ?_)
      clear hK
      try simp only [Act.put, List.setIfInBounds_toArray, List.set_cons_zero, List.set_cons_succ]
      refine wpAnyH_ready (rs := [5]) (by kernel_rfl) (by simp) ?_
      refine AllReadyH.cons (o := ⟨none, _, _, _, _, _⟩) rfl (fun K hK => ?_) AllReadyH.nil
      refine Eq.mpr (if_pos (by kernel_rfl)) ?_
      refine wp_put_rule (.tmp 5) (.tmp 26) rfl w1.heap.size rfl rfl HQ.out ?_
      intro w9 hq9 hb9
      have z9 := hb9 W0 z2.b.size z3
      refine hK.out _ _ ((HF.out _ z9).1) (fun hHeld9 => ?_)
      clear hK
      try simp only [Act.put, List.setIfInBounds_toArray, List.set_cons_zero, List.set_cons_succ]
      refine wpAnyH_done (by kernel_rfl) ?_ _
      refine hK0 _ _ (Met.intro (hR0 _ _ ?_))
      (repeat apply Exists.intro)
      refine ⟨?rel, rfl⟩
      case rel => exact ⟨w1.heap.size, rfl, z2.b.size, z9, hq9⟩
    · -- the variable first
      refine Eq.mpr (if_pos (by kernel_rfl)) ?_
      refine wp_alloc_rule rfl ?_
      have z2 := Bz.alloc z1 (.cells ruleZ 133)
      refine hK.out _ _ ((HF.out _ z2).1) (fun hHeld2 => ?_)
      clear hK
      try simp only [Act.put, List.setIfInBounds_toArray, List.set_cons_zero, List.set_cons_succ]
      refine wpAnyH_ready (rs := [0]) (by kernel_rfl) (by simp) ?_
      refine AllReadyH.cons (o := ⟨some 23, _, _, _, _, _⟩) rfl (fun K hK => ?_) AllReadyH.nil
      go_simp
      refine (KR.out _).mono ?_
      rintro e w1 ⟨rfl, hb⟩
      have z3 := Bz.next z2 hb
      have HQ := Lib.hid ((hb.block W0.heap.size (lt_alloc W0.drew _)).trans (heap_alloc_new W0.drew (.cells ruleZ 133)))
      refine hK.out _ _ ((HF.out _ z3).1) (fun hHeld3 => ?_)
      clear hK
      try simp only [Act.put, List.setIfInBounds_toArray, List.set_cons_zero, List.set_cons_succ]
      refine wpAnyH_take (i := 3) (oi := ⟨some 26, _, _, _, _, _⟩) (v := .agg #[.bool p0, .bool p1, .bool p2, .bool b3, .bool b4, .int .i64 g, .int .i64 lo, .int .i64 hi]) rfl (by kernel_rfl) (by kernel_rfl) (by kernel_rfl) (fun _ _ _ h => h) (Or.inl ⟨by rfl, ?_⟩) hHeld3 ?_
      · intro W hW
        go_simp
      try simp only [Act.put, List.setIfInBounds_toArray, List.set_cons_zero, List.set_cons_succ]
      refine wpAnyH_ready (rs := [5]) (by kernel_rfl) (by simp) ?_
      refine AllReadyH.cons (o := ⟨none, _, _, _, _, _⟩) rfl (fun K hK => ?_) AllReadyH.nil
      refine Eq.mpr (if_pos (by kernel_rfl)) ?_
      refine wp_put_rule (.tmp 5) (.tmp 26) rfl W0.heap.size rfl rfl HQ.out ?_
      intro w9 hq9 hb9
      have z9 := hb9 W0 (Nat.le_refl _) z3
      refine hK.out _ _ ((HF.out _ z9).1) (fun hHeld9 => ?_)
      clear hK
      try simp only [Act.put, List.setIfInBounds_toArray, List.set_cons_zero, List.set_cons_succ]
      refine wpAnyH_done (by kernel_rfl) ?_ _
      refine hK0 _ _ (Met.intro (hR0 _ _ ?_))
      (repeat apply Exists.intro)
      refine ⟨?rel, rfl⟩
      case rel => exact ⟨W0.heap.size, rfl, (Nat.le_refl _), z9, hq9⟩
  case rest =>
    obtain ⟨rb, rfl, hrb, zc, hcc⟩ := hcut
    have HK := Lib.hid (show ∀ W, Bz wc W → _ from fun W h => cells8 ((h.b.block rb (lt_of_block hcc)).trans hcc))
    have HB := Lib.hid (show ∀ W, Bz wc W → Bz W0 W from fun W h => zc.next h.b)
    clear hcc hrb kx KR z0 z1 zc
    have y0 : Bz wc wc := ⟨Below.refl _ _⟩
    go_upto_block 1 with fail
    go_cut [] from 23 (fun wx => Bz wc wx ∧ headE d (.mk (j : Int) n s m a o) = 0)
    case first =>
      obtain ⟨q0, q1, q2, q3, q4, q5, q6, q7⟩ := HK.out _ y0
      obtain ⟨c0, c1, c2, c3, c4, c5⟩ := HF.out _ (HB.out _ y0)
      go_wp2_with fail
      refine (KF.out _).mono ?_
      rintro e w1 ⟨rfl, hb1⟩
      have y1 := Bz.next y0 hb1
      clear q0 q1 q2 q3 q4 q5 q6 q7 c0 c1 c2 c3 c4 c5 hb1 KF
      cases f with
      | false =>
        go_wp2
        go_ret
        exact ⟨congrArg (fun v => Ending.returned (.int .i64 v)) (HX.out 5 (by decide) (HH2.out.1 EF.out)).symm, HG0.out _ (HB.out _ y1)⟩
      | true =>
        obtain ⟨q0, q1, q2, q3, q4, q5, q6, q7⟩ := HK.out _ y1
        obtain ⟨c0, c1, c2, c3, c4, c5⟩ := HF.out _ (HB.out _ y1)
        cases p1 with
        | false =>
          obtain rfl : p2 = false := E2.out.symm.trans (HP2.out.2 E1.out)
          cases p0 with
          | false =>
            go_wp2
            go_meet
            case rel => exact ⟨y1, HH2.out.2.2.2.2 EF.out (fun h => by rw [E1.out] at h; cases h) (fun h => by rw [E2.out] at h; cases h) (fun h => by rw [E0.out] at h; cases h)⟩
          | true =>
            by_cases hn0 : n < 0
            · have HN0 := Lib.hid hn0
              go_wp2
              go_ret
              exact ⟨congrArg (fun v => Ending.returned (.int .i64 v)) (HX.out 3 (by decide) (HH2.out.2.2.2.1 EF.out (fun h => by rw [E1.out] at h; cases h) (fun h => by rw [E2.out] at h; cases h) E0.out (.inl HN0.out))).symm, HG0.out _ (HB.out _ y1)⟩
            · have HN0 := Lib.hid hn0
              by_cases hg : g < n
              · have HGN := Lib.hid hg
                go_wp2
                go_ret
                exact ⟨congrArg (fun v => Ending.returned (.int .i64 v)) (HX.out 3 (by decide) (HH2.out.2.2.2.1 EF.out (fun h => by rw [E1.out] at h; cases h) (fun h => by rw [E2.out] at h; cases h) E0.out (.inr HGN.out))).symm, HG0.out _ (HB.out _ y1)⟩
              · have HGN := Lib.hid hg
                go_wp2
                go_meet
                case rel => exact ⟨y1, HH2.out.2.2.2.2 EF.out (fun h => by rw [E1.out] at h; cases h) (fun h => by rw [E2.out] at h; cases h) (fun _ => ⟨HN0.out, HGN.out⟩)⟩
        | true =>
          obtain rfl : p0 = false := E0.out.symm.trans (HP2.out.1 E1.out)
          go_wp2_with fail
          refine (KS.out _ (HWS.out.below (HG0.out _ (HB.out _ y1)))).mono ?_
          rintro e w2 ⟨rfl, hb2⟩
          have y2 := Bz.next y1 hb2
          clear q0 q1 q2 q3 q4 q5 q6 q7 c0 c1 c2 c3 c4 c5 hb2
          obtain ⟨q0, q1, q2, q3, q4, q5, q6, q7⟩ := HK.out _ y2
          obtain ⟨c0, c1, c2, c3, c4, c5⟩ := HF.out _ (HB.out _ y2)
          cases qs with
          | false =>
            go_wp2
            go_ret
            exact ⟨congrArg (fun v => Ending.returned (.int .i64 v)) (HX.out 16 (by decide) (HH2.out.2.1 EF.out E1.out ES.out)).symm, HG0.out _ (HB.out _ y2)⟩
          | true =>
            cases p2 with
            | false =>
              go_wp2
              go_meet
              case rel => exact ⟨y2, HH2.out.2.2.2.2 EF.out (fun _ => ES.out) (fun h => by rw [E2.out] at h; cases h) (fun h => by rw [E0.out] at h; cases h)⟩
            | true =>
              go_wp2_with fail
              refine (KM.out _ (HWS.out.below (HG0.out _ (HB.out _ y2)))).mono ?_
              rintro e w3 ⟨rfl, hb2⟩
              have y3 := Bz.next y2 hb2
              clear q0 q1 q2 q3 q4 q5 q6 q7 c0 c1 c2 c3 c4 c5 hb2
              obtain ⟨q0, q1, q2, q3, q4, q5, q6, q7⟩ := HK.out _ y3
              obtain ⟨c0, c1, c2, c3, c4, c5⟩ := HF.out _ (HB.out _ y3)
              cases qm with
              | false =>
                go_wp2
                go_ret
                exact ⟨congrArg (fun v => Ending.returned (.int .i64 v)) (HX.out 16 (by decide) (HH2.out.2.2.1 EF.out E2.out EM.out)).symm, HG0.out _ (HB.out _ y3)⟩
              | true =>
                go_wp2
                go_meet
                case rel => exact ⟨y3, HH2.out.2.2.2.2 EF.out (fun _ => ES.out) (fun _ => EM.out) (fun h => by rw [E0.out] at h; cases h)⟩
    case rest =>
      obtain ⟨zx, hh0⟩ := hcut
      have zW := HB.out _ zx
      have HEP := Lib.hid (show E = if chkEs (d + 1) a ≠ 0 then chkEs (d + 1) a else chkEs (d + 1) o from HE.out.trans (chkE_parts hh0))
      have HLL := Lib.hid (headE_len hh0)
      clear HK HB zx hh0 HX KF HE HH2 HP2 E0 E1 E2 EF ES EM KS KM
      obtain ⟨-, -, -, -, c4, c5⟩ := HF.out _ zW
      have HG1 := Lib.hid (HG0.out _ zW)
      clear HF HG0 zW
      go_wp2_with fail
      obtain ⟨W1, hW1⟩ : ∃ W1 : World, W1 = wc.alloc (.cells #[.slice A na ca, .slice O no co] 42) := ⟨_, rfl⟩
      have HC := Lib.hid (show ∀ W, Bz W1 W → W.cell? ⟨wc.heap.size, 0, none⟩ = some (.slice A na ca) ∧ W.cell? ⟨wc.heap.size, 1, none⟩ = some (.slice O no co) from fun W h => by
        subst hW1
        exact ⟨cell_of_Bz h (by rw [cell_of_row _ _ _ _ _ _ (heap_alloc_new wc _)]; rfl) (lt_of_block (heap_alloc_new wc _)), cell_of_Bz h (by rw [cell_of_row _ _ _ _ _ _ (heap_alloc_new wc _)]; rfl) (lt_of_block (heap_alloc_new wc _))⟩)
      have HB1 := Lib.hid (show ∀ W, Bz W1 W → Below w.heap.size w W from fun W h => by
        subst hW1
        have hb := HG1.out.alloc HG1.out.size (.cells #[.slice A na ca, .slice O no co] 42)
        exact hb.trans (h.b.mono hb.size))
      rw [← hW1]
      clear hW1 HG1 c4 c5
      have v0 : Bz W1 W1 := ⟨Below.refl _ _⟩
      go_loopw [70] (fun i wr => ∃ k : Nat, k ≤ 2 ∧ i = .int .i64 k ∧ Hid (1 ≤ k → chkEs (d + 1) a = 0) ∧ Hid (2 ≤ k → chkEs (d + 1) o = 0) ∧ Bz W1 wr) (fun i _ => 2 - (intOf i).toNat)
      case atStart => exact ⟨0, by omega, rfl, Lib.hid (fun h => absurd h (by omega)), Lib.hid (fun h => absurd h (by omega)), v0⟩
      case round =>
        clear v0
        obtain ⟨k, hk, rfl, n1, n2, zr⟩ := hrel
        by_cases hlt : k < 2
        · obtain ⟨A', n', c', l', hc, hX, hin, hl4, hbad, hnext⟩ : ∃ (A' : Option Addr) (n' c' : Nat) (l' : List Ex), (∀ W, Bz W1 W → W.cell? ⟨wc.heap.size, k, none⟩ = some (.slice A' n' c')) ∧ XL w S A' n' c' l' ∧ (∀ e ∈ l', WrongAt e) ∧ l'.length ≤ 4 ∧ (∀ v, v ≠ 0 → chkEs (d + 1) l' = v → E = v) ∧ (chkEs (d + 1) l' = 0 → (1 ≤ k + 1 → chkEs (d + 1) a = 0) ∧ (2 ≤ k + 1 → chkEs (d + 1) o = 0)) := by
            rcases (by omega : k = 0 ∨ k = 1) with rfl | rfl
            · refine ⟨A, na, ca, a, fun W h => (HC.out W h).1, HA.out, fun e he => HI.out e (List.mem_append_left _ he), HLL.out.1, fun v h1 h2 => ?_, fun h => ⟨fun _ => h, fun h => absurd h (by omega)⟩⟩
              rw [HEP.out, h2, if_pos h1]
            · refine ⟨O, no, co, o, fun W h => (HC.out W h).2, HO.out, fun e he => HI.out e (List.mem_append_right _ he), HLL.out.2, fun v h1 h2 => ?_, fun h => ⟨fun _ => n1.out (by omega), fun _ => h⟩⟩
              rw [HEP.out, if_neg (by simp [n1.out (by omega)]), h2]
          have HL := Lib.hid hX
          have HIN := Lib.hid hin
          have HBAD := Lib.hid hbad
          have HNEXT := Lib.hid hnext
          have HLEN := Lib.hid hX.1.1
          have HLT := Lib.hid hlt
          have hn4 : (n' : Int) ≤ 4 := by have := hX.1.1; omega
          have hi : (k : Int) < 2 := by omega
          have hcell := hc _ zr
          clear hc hX hin hbad hnext hlt hk n1 n2 hl4
          go_wp2_with fail
          go_loopw [76] (fun i wx => ∃ q : Nat, q ≤ l'.length ∧ i = .int .i64 q ∧ Hid (chkEs (d + 1) (l'.take q) = 0) ∧ Bz W1 wx) (fun i _ => l'.length - (intOf i).toNat)
          case atStart => exact ⟨0, Nat.zero_le _, rfl, Lib.hid (by rw [List.take_zero, chkEs]), zr⟩
          case round =>
            clear zr
            obtain ⟨q, hq, rfl, n3, zq⟩ := hrel
            by_cases hl : q < l'.length
            · have hi2 : (q : Int) < (n' : Int) := by have := HLEN.out; omega
              obtain ⟨x, b, off, cs, hx, rfl, hb, hS, hxv, hrow⟩ := HL.out.at q (by have := HLEN.out; omega)
              have HXV := Lib.hid hxv
              have HQL := Lib.hid hl
              have HXQ := Lib.hid hx
              have HIH := Lib.hid (HIN.out x (List.mem_of_getElem? hx))
              obtain ⟨v, hv⟩ : ∃ v, v = chkE (d + 1) x := ⟨_, rfl⟩
              have HV := Lib.hid hv
              have hrow2 := rangeAt_keep hrow ((HB1.out _ zq).block b hb)
              obtain ⟨xk, xn, xs, xm, xa, xo⟩ := x
              obtain ⟨A2, na2, ca2, O2, no2, co2, rfl, -, -⟩ := hxv.open_
              obtain ⟨e0, e1, e2, e3, e4, e5⟩ := exC_at hrow2
              clear hx hb hS hxv hrow hrow2 hl hq hv
              unfold exC at HXV
              go_wp2_with fail
              have zq1 := Bz.alloc zq (.cells #[.int .i64 xk, .int .i64 xn, .string (bs xs), .string (bs xm), .slice A2 na2 ca2, .slice O2 no2 co2] 44)
              have HC2 := HIH.out (d + 1) _ S _ (by omega) (by omega) (HWS.out.below (HB1.out _ zq1)) (HXV.out.below (HB1.out _ zq1))
              rw [← HV.out] at HC2
              refine HC2.mono ?_
              rintro e' w2 ⟨rfl, hb2⟩
              have zq2 := zq1.next hb2
              clear HC2 hb2 e0 e1 e2 e3 e4 e5 zq zq1 HIH HXV
              by_cases hv0 : v = 0
              · subst hv0
                go_wp2
                go_roundw
                case rel => exact ⟨q + 1, HQL.out, by go_num, Lib.hid (chkEs_take_ok HXQ.out n3.out HV.out.symm), zq2⟩
                case measure => exact meas_up _ _ HQL.out
              · have HV0 := Lib.hid hv0
                have hv1 : (v != 0) = true := by simp [hv0]
                go_wp2
                go_ret
                exact ⟨congrArg (fun v => Ending.returned (.int .i64 v)) (HBAD.out v HV0.out ((chkEs_take_bad HXQ.out n3.out (by rw [← HV.out]; exact HV0.out)).trans HV.out.symm)).symm, HB1.out _ zq2⟩
            · have hi2 : ¬ (q : Int) < (n' : Int) := by have := HLEN.out; omega
              have HQ2 := Lib.hid (show chkEs (d + 1) l' = 0 by rw [← n3.out, List.take_of_length_le (by omega)])
              clear hl hq n3
              go_wp2
              go_roundw
              case rel => exact ⟨k + 1, HLT.out, by go_num, Lib.hid (HNEXT.out HQ2.out).1, Lib.hid (HNEXT.out HQ2.out).2, zq⟩
              case measure => exact meas_up _ _ HLT.out
        · have hi : ¬ (k : Int) < 2 := by omega
          have HK2 := Lib.hid (show 1 ≤ k ∧ 2 ≤ k by omega)
          go_wp2
          go_ret
          refine ⟨congrArg (fun v => Ending.returned (.int .i64 v)) ?_, HB1.out _ zr⟩
          rw [HEP.out, if_neg (by simp [n1.out HK2.out.1]), n2.out HK2.out.2]
theorem exprWrong_any (e : Ex) : WrongAt e := by
  obtain ⟨N, hN⟩ : ∃ N, N = e.size := ⟨_, rfl⟩
  induction N using Nat.strongRecOn generalizing e with
  | _ N ih =>
    intro d w S cs hd0 hdb hw hx
    by_cases hd : 12 < d
    · have h1 : headE d e = 18 := by unfold headE; rw [if_pos hd]
      rw [chkE_head (by rw [h1]; decide), h1]
      exact exprWrong_head e d w S cs hd hx
    · obtain ⟨k, n, s, m, a, o⟩ := e
      by_cases hk : k < 0 ∨ 7 < k
      · have h1 : headE d (.mk k n s m a o) = 2 := by
          unfold headE
          rw [if_neg hd]
          exact if_pos hk
        rw [chkE_head (by rw [h1]; decide), h1]
        exact exprWrong_kind k n s m a o d w S cs hd hk hx
      · obtain ⟨j, rfl⟩ : ∃ j : Nat, k = j := ⟨k.toNat, by omega⟩
        refine exprWrong_mid j (by omega) n s m a o (fun x hx => ih x.size ?_ x rfl) d w S cs hd0 hd hw hx
        rw [hN, Ex.size]
        rcases List.mem_append.1 hx with h | h
        · have := Ex.sizes_mem h; omega
        · have := Ex.sizes_mem h; omega
end Go.Proofs.YthfjkdgaiaokdaaDoor
