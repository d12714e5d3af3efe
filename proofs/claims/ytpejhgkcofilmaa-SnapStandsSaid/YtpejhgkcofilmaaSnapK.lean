/- The walk of the law SnapNew: true. No condition. -/
import Derived.Test.YtpejhgkcofilmaaSnapJ
set_option linter.unusedVariables false
namespace Go.Proofs.Ytpejhgkcofilmaa
open Go.RowKit

/-- A store loaded by a guarded operation that is carried out. -/
theorem get_sto_g {ops : Array Oper} {rest : List Oper} {a : Act} {w : World} {Q : Exit → Act → World → Prop} {o : Oper} {c n : Int} {ml mw : Value} {B : Nat → Bool} {T : Nat → Int} (hw : Region.wanted o (yielded ops a.tmps) = true) (x : Operand) (ho : o.op = .load 57 x) (g : Nat) (hx : a.eval x = .pointer (some ⟨g, 0, none⟩)) {t : TypeId} {fr : Nat × Nat} (hb : w.heap[g]? = some (.cells (stoCells c n ml mw B T) t fr))
    (h : wpList Try.prog ops Q rest (a.put o.dst (sto c n ml mw B T)) w) : wpList Try.prog ops Q (o :: rest) a w :=
  wpList_step fun K hK => by
    rw [if_pos hw]
    unfold Oper.wp execOp
    simp only [ho, hx, Instr.loadAt, Instr.sureAddr, Sem.run_bind, Sem.run_pure, Result.andThen_ok, load_sto w g _ t fr hb rfl]
    exact hK _ _ h
theorem rd_none (T : Nat → Int) : rdL Bf T 8 = [] := by simp [rdL, Bf]

set_option maxRecDepth 100000 in
set_option maxHeartbeats 12800000 in
theorem new_bad (c i : Int) (w : World) (h : c < 1 ∨ (1 ≤ c ∧ 2048 < c)) :
    Calls Try.prog 11 #[.int .i64 c, .int .i64 i] w fun e w' => e = .returned (.bool true) ∧ Below w.heap.size w w' := by
  have C1 := Lib.hid (snew_bad c w h)
  rcases h with h | ⟨h, h'⟩
  all_goals
    go_enter Try.func11, Try.ntmps11
    go_wp2_with fail
    refine C1.out.mono ?_
    rintro e w1 ⟨rfl, hb1⟩
    have HW1 := Lib.hid hb1
    clear hb1 C1
    go_wp2_with (first
      | (with_reducible refine at_alloc_ (t := 57) ?_; refine wpList_alloc_mine rfl 57 rfl _ rfl (stoZ 0) stoZ_zero rfl ?_)
      | (with_reducible refine at_store_ (t := 57) ?_; refine Hid.out ?_))
    refine Lib.hid ?_
    refine put_sto (c := 0) (n := 0) (b1 := none) (b2 := none) (B := Bf) (T := T0) rfl (.tmp 5) (.tmp 15) rfl rfl w1.heap.size rfl rfl (heap_alloc_new _ _) rfl ?_
    rw [setRow_alloc]
    have P0 := Lib.hid fun (o : Obj) => heap_alloc2_old w1 (.cells (stoCells 0 0 (.map none) (.map none) Bf T0) 57) o
    have P1 := Lib.hid (show ((w1.alloc (.cells (stoCells 0 0 (.map none) (.map none) Bf T0) 57)).alloc (.cells (stoZ 0) 57)).heap[(w1.alloc (.cells (stoCells 0 0 (.map none) (.map none) Bf T0) 57)).heap.size]? = some (.cells (stoCells 0 0 (.map none) (.map none) Bf T0) 57 (0, 0)) from heap_alloc_new _ _)
    have HW2 := Lib.hid fun (o : Obj) => (HW1.out.alloc HW1.out.size (.cells (stoCells 0 0 (.map none) (.map none) Bf T0) 57)).alloc (by have := HW1.out.size; simp; omega) o
    go_wp2_with (first
      | (with_reducible refine at_alloc_ (t := 57) ?_; refine wpList_alloc_mine rfl 57 rfl _ rfl (stoZ 0) stoZ_zero rfl ?_)
      | (with_reducible refine at_load_ (t := 57) ?_; refine Hid.out ?_))
    refine Lib.hid ?_
    refine get_sto (c := 0) (n := 0) (ml := .map none) (mw := .map none) (B := Bf) (T := T0) rfl (.tmp 7) rfl _ rfl P1.out ?_
    try simp only [Act.put, List.setIfInBounds_toArray, List.set_cons_zero, List.set_cons_succ]
    go_wp2_with fail
    refine (sread_no (S := fun _ => True) 0 0 none none Bf T0 1 i _ (by decide)).mono ?_
    rintro e w2 ⟨rfl, hb2⟩
    have P2 := Lib.hid ((hb2.block w1.heap.size (by simp; omega)).trans (P0.out _))
    have HW3 := Lib.hid ((HW2.out _).trans (hb2.mono (HW2.out _).size))
    clear hb2 P0 P1 HW2
    go_wp2_with fail
    refine (awake_snap w2).mono ?_
    rintro e w3 ⟨rfl, hb3⟩
    have P3 := Lib.hid ((hb3.block w1.heap.size (lt_of_block P2.out)).trans P2.out)
    have HW4 := Lib.hid (HW3.out.trans (hb3.mono HW3.out.size))
    clear hb3 P2 HW3
    go_wp2_with (with_reducible refine at_load_ (t := 57) ?_; refine Hid.out ?_)
    refine Lib.hid ?_
    refine get_sto_g (by kernel_rfl) (.tmp 5) rfl w1.heap.size rfl P3.out ?_
    try simp only [Act.put, List.setIfInBounds_toArray, List.set_cons_zero, List.set_cons_succ]
    go_wp2_with fail
    refine (snow_any 0 0 none none Bf T0 w3).mono ?_
    rintro e w4 ⟨rfl, hb4⟩
    have HW5 := Lib.hid (HW4.out.trans (hb4.mono HW4.out.size))
    clear hb4
    go_wp2
    go_ret
    exact ⟨rfl, HW5.out⟩

set_option maxRecDepth 100000 in
set_option maxHeartbeats 12800000 in
theorem new_ok (c i : Int) (w : World) (h : 1 ≤ c) (h' : c ≤ 2048) :
    Calls Try.prog 11 #[.int .i64 c, .int .i64 i] w fun e w' => e = .returned (.bool true) ∧ Below w.heap.size w w' := by
  have C1 := Lib.hid (snew_ok c w h h')
  have hlist : listOf c noG i = [(0, 0)] ∨ listOf c noG i = [] := by
    unfold listOf
    split
    · exact .inl rfl
    · exact .inr rfl
  have C2 := Lib.hid fun W => (show Calls Try.prog _ _ W _ from sat_any (S := fun _ => True) c 0 none none Bf T0 noF noG 0 i W (fun _ _ => trivial) (noMap _ _) (noLMap _ _) (by rcases hlist with h | h <;> rw [h] <;> simp [Asc]) (by rcases hlist with h | h <;> rw [h] <;> simp))
  have hV : satV c 0 noG 0 i = 0 := by
    unfold satV
    split
    · rcases hlist with h | h <;> rw [h] <;> decide
    · rfl
  have hcase : (i < 0 ∧ satB c 0 noG 0 i = false) ∨ (0 ≤ i ∧ i < c ∧ satB c 0 noG 0 i = true) ∨ (0 ≤ i ∧ decide (i < c) = false ∧ satB c 0 noG 0 i = false) := by
    unfold satB
    by_cases k1 : 0 ≤ i
    · by_cases k2 : i < c
      · refine .inr (.inl ⟨k1, k2, ?_⟩)
        have hl : listOf c noG i = [(0, 0)] := by unfold listOf; rw [if_pos ⟨k1, k2⟩]; rfl
        rw [hl, decide_eq_true k1, decide_eq_true k2]
        decide
      · exact .inr (.inr ⟨k1, decide_eq_false k2, by rw [decide_eq_false k2]; simp⟩)
    · exact .inl ⟨by omega, by rw [decide_eq_false k1]; simp⟩
  rw [hV] at C2
  clear hV hlist
  generalize satB c 0 noG 0 i = ok at *
  rcases hcase with ⟨k1, rfl⟩ | ⟨k1, k2, rfl⟩ | ⟨k1, k2, rfl⟩
  all_goals
    go_enter Try.func11, Try.ntmps11
    go_wp2_with fail
    refine C1.out.mono ?_
    rintro e w1 ⟨rfl, hb1⟩
    have HW1 := Lib.hid hb1
    clear hb1 C1
    go_wp2_with (first
      | (with_reducible refine at_alloc_ (t := 57) ?_; refine wpList_alloc_mine rfl 57 rfl _ rfl (stoZ 0) stoZ_zero rfl ?_)
      | (with_reducible refine at_store_ (t := 57) ?_; refine Hid.out ?_))
    refine Lib.hid ?_
    refine put_sto (c := c) (n := 0) (b1 := none) (b2 := none) (B := Bf) (T := T0) rfl (.tmp 5) (.tmp 15) rfl rfl w1.heap.size rfl rfl (heap_alloc_new _ _) rfl ?_
    rw [setRow_alloc]
    have P0 := Lib.hid fun (o : Obj) => heap_alloc2_old w1 (.cells (stoCells c 0 (.map none) (.map none) Bf T0) 57) o
    have P1 := Lib.hid (show ((w1.alloc (.cells (stoCells c 0 (.map none) (.map none) Bf T0) 57)).alloc (.cells (stoZ 0) 57)).heap[(w1.alloc (.cells (stoCells c 0 (.map none) (.map none) Bf T0) 57)).heap.size]? = some (.cells (stoCells 0 0 (.map none) (.map none) Bf T0) 57 (0, 0)) from heap_alloc_new _ _)
    have HW2 := Lib.hid fun (o : Obj) => (HW1.out.alloc HW1.out.size (.cells (stoCells c 0 (.map none) (.map none) Bf T0) 57)).alloc (by have := HW1.out.size; simp; omega) o
    go_wp2_with (first
      | (with_reducible refine at_alloc_ (t := 57) ?_; refine wpList_alloc_mine rfl 57 rfl _ rfl (stoZ 0) stoZ_zero rfl ?_)
      | (with_reducible refine at_load_ (t := 57) ?_; refine Hid.out ?_))
    refine Lib.hid ?_
    refine get_sto (c := 0) (n := 0) (ml := .map none) (mw := .map none) (B := Bf) (T := T0) rfl (.tmp 7) rfl _ rfl P1.out ?_
    try simp only [Act.put, List.setIfInBounds_toArray, List.set_cons_zero, List.set_cons_succ]
    go_wp2_with fail
    refine (sread_no (S := fun _ => True) 0 0 none none Bf T0 1 i _ (by decide)).mono ?_
    rintro e w2 ⟨rfl, hb2⟩
    have P2 := Lib.hid ((hb2.block w1.heap.size (by simp; omega)).trans (P0.out _))
    have HW3 := Lib.hid ((HW2.out _).trans (hb2.mono (HW2.out _).size))
    clear hb2 P0 P1 HW2
    go_wp2_with (with_reducible refine at_load_ (t := 57) ?_; refine get_sto rfl _ rfl w1.heap.size rfl P2.out ?_)
    refine (C2.out w2).mono ?_
    rintro e w2' ⟨rfl, hb2'⟩
    have P2' := Lib.hid ((hb2'.block w1.heap.size (lt_of_block P2.out)).trans P2.out)
    have HW3' := Lib.hid (HW3.out.trans (hb2'.mono HW3.out.size))
    clear hb2' P2 HW3
    go_wp2_with fail
    refine (awake_snap w2').mono ?_
    rintro e w3 ⟨rfl, hb3⟩
    have P3 := Lib.hid ((hb3.block w1.heap.size (lt_of_block P2'.out)).trans P2'.out)
    have HW4 := Lib.hid (HW3'.out.trans (hb3.mono HW3'.out.size))
    clear hb3 P2' HW3'
    go_wp2_with (with_reducible refine at_load_ (t := 57) ?_; refine Hid.out ?_)
    refine Lib.hid ?_
    refine get_sto_g (by kernel_rfl) (.tmp 5) rfl w1.heap.size rfl P3.out ?_
    try simp only [Act.put, List.setIfInBounds_toArray, List.set_cons_zero, List.set_cons_succ]
    go_wp2_with fail
    refine (readers_any c 0 none none Bf T0 w3).mono ?_
    rw [rd_none]
    rintro e w4 ⟨v, rfl, ho, hb4⟩
    obtain ⟨As, cs, rfl, g1, g2, g3⟩ := own_reads ho (S := fun _ => True) (fun b hb => trivial)
    have HW5 := Lib.hid (HW4.out.trans (hb4.mono HW4.out.size))
    clear hb4 ho g1 g2 g3
    go_wp2
    go_ret
    exact ⟨rfl, HW5.out⟩
theorem new_any (c i : Int) (w : World) :
    Calls Try.prog 11 #[.int .i64 c, .int .i64 i] w fun e w' => e = .returned (.bool true) ∧ Below w.heap.size w w' := by
  by_cases h : 1 ≤ c
  · by_cases h' : c ≤ 2048
    · exact new_ok c i w h h'
    · exact new_bad c i w (.inr ⟨h, by omega⟩)
  · exact new_bad c i w (.inl (by omega))
end Go.Proofs.Ytpejhgkcofilmaa
