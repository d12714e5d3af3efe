/- The walks of the store's word, At and Read. Conditions: the lists ascend and have at most 2^40 versions. -/
import Derived.Test.YtpejhgkcofilmaaSnapB
set_option linter.unusedVariables false
namespace Go.Proofs.Ytpejhgkcofilmaa
open Go.RowKit

theorem boxed1 {w w1 : World} {A : Obj} (h : Below (w.alloc A).heap.size (w.alloc A) w1) : w1.heap[w.heap.size]? = some A ∧ Below w.heap.size w w1 ∧ w.heap.size + 1 ≤ w1.heap.size := by
  refine ⟨?_, below_new h, by have := h.size; simpa using this⟩
  rw [h.block _ (by simp)]; exact heap_alloc_new w A
theorem boxed2 {w w1 : World} {A R : Obj} (h : Below ((w.alloc A).alloc R).heap.size ((w.alloc A).alloc R) w1) :
    w1.heap[w.heap.size]? = some A ∧ w1.heap[w.heap.size + 1]? = some R ∧ Below w.heap.size w w1 ∧ w.heap.size + 2 ≤ w1.heap.size := by
  refine ⟨?_, ?_, below_new (below_new h), by have := h.size; simpa using this⟩
  · rw [h.block _ (by simp; omega)]; exact heap_alloc2_old w A R
  · rw [h.block _ (by simp)]; exact heap_alloc2_new w A R
theorem IsMap.off {w : World} {S : Nat → Prop} {v : Value} {f : Int → Option Value} (h : IsMap w S v f) (hi : Nat) : IsMap w (Off S w.heap.size hi) v f := h.more fun b hb hS => ⟨hS, .inl hb⟩
theorem LMap.off {w : World} {S : Nat → Prop} {f : Int → Option Value} {g : Int → Option (List (Int × Int))} (h : LMap w S f g) (hi : Nat) : LMap w (Off S w.heap.size hi) f g := h.more fun b hb hS => ⟨hS, .inl hb⟩
theorem not_frozen {w : World} {b : Nat} {cs : Array Value} {t : TypeId} (h : w.heap[b]? = some (.cells cs t (0, 0))) (o : Nat) : w.frozen? ⟨b, o, none⟩ = false := by simp [World.frozen?, h]

theorem setCell_block {w : World} {b i : Nat} {cs : Array Value} {t : TypeId} {fr : Nat × Nat} (h : w.heap[b]? = some (.cells cs t fr)) (v : Value) : (w.setCell ⟨b, i, none⟩ v).heap[b]? = some (.cells (cs.setIfInBounds i v) t fr) := by
  rw [setCell_eq_setRow w b i cs t fr v h]
  exact setRow_heap w b cs _ t fr h
theorem Try.size62 : (Try.prog.info? 62).map (·.size) = some 3 := by kernel_rfl
/-- The numbers of writes behind a map's values. -/
def wmap (W : Int → Option Int) (k : Int) : Option Value := (W k).map (.int .u32)
theorem u32_zero (w : World) : (zeroValue 60).run Try.prog w = .ok (.int .u32 0) w := by simp [go_sem]

set_option maxRecDepth 100000 in
set_option maxHeartbeats 3200000 in
theorem sword_any {S : Nat → Prop} (c n : Int) (b1 b2 : Option Nat) (B : Nat → Bool) (T : Nat → Int) (f : Int → Option Value) (g : Int → Option (List (Int × Int))) (W : Int → Option Int) (i : Int) (w : World) (hS : ∀ b, w.heap.size ≤ b → S b)
    (hm : IsMap w S (.map b1) f) (hg : LMap w S f g) (h2 : IsMap w S (.map b2) (wmap W)) (hl : (listOf c g i).length ≤ 1099511627776) :
    Calls Try.prog 77 #[sto c n (.map b1) (.map b2) B T, .int .i64 i] w fun e w' => e = .returned (.agg #[.int .i64 (lastP (listOf c g i)).2, .int .u32 ((W i).getD 0), .int .u32 0]) ∧ Below w.heap.size w w' := by
  have hbw : ∀ R, Below w.heap.size w ((w.alloc (.cells (stoCells c n (.map b1) (.map b2) B T) 57)).alloc R) := fun R => ((Below.refl _ _).alloc (Nat.le_refl _) _).alloc (by simp) _
  have C1 := Lib.hid fun R => slist_any (S := Off S w.heap.size (w.heap.size + 2)) c n b1 b2 B T f g i _ (by simpa using off_new hS (Nat.le_add_right _ 2) (Nat.le_refl _)) ((hm.off (w.heap.size + 2)).below (hbw R)) ((hg.off (w.heap.size + 2)).below (hbw R))
  have H2 := Lib.hid h2
  have H1 := Lib.hid fun R => heap_alloc2_old w (.cells (stoCells c n (.map b1) (.map b2) B T) 57) R
  clear hm hg h2 hbw hS
  generalize listOf c g i = L at *
  go_enter Try.func77, Try.ntmps77
  go_wp2_with (first
    | (with_reducible refine at_box_ (t := 57) ?_; refine box_sto rfl _ rfl _ rfl (c := c) (n := n) (ml := .map b1) (mw := .map b2) (B := B) (T := T) rfl ?_)
    | (with_reducible refine at_load_ (t := 57) ?_; refine get_sto rfl _ rfl w.heap.size rfl (H1.out _) ?_))
  refine (C1.out _).mono ?_
  rintro e w1 ⟨u, rfl, ⟨A, m, cc, rfl, hc1, hc2, hv⟩, hb1⟩
  obtain ⟨p1, p2, hb, hsz⟩ := boxed2 hb1
  have P1 := Lib.hid p1
  have P2 := Lib.hid p2
  have HB := Lib.hid hb
  have C2 := Lib.hid (last_any A m cc L w1 hv hl)
  have HSZ := Lib.hid hsz
  clear C1 H1 hb1 p1 p2 hb hc1 hc2 hv hl hsz
  go_wp2_with fail
  refine C2.out.mono ?_
  rintro e w2 ⟨rfl, hb2⟩
  have q1 := (hb2.block w.heap.size (by have := HSZ.out; omega)).trans P1.out
  have q2 := (hb2.block (w.heap.size + 1) (by have := HSZ.out; omega)).trans P2.out
  have hbb : Below w.heap.size w w2 := HB.out.trans (hb2.mono (by have := HSZ.out; omega))
  have hm2 := H2.out.below hbb
  have x3 : w2.cell? ⟨w.heap.size, 3, none⟩ = some (.map b2) := by rw [cell_of_row _ _ _ _ _ _ q1]; rfl
  have y0 : w2.cell? ⟨w.heap.size + 1, 0, none⟩ = some (.int .i64 0) := by rw [cell_of_row _ _ _ _ _ _ q2]; rfl
  have y1 : w2.cell? ⟨w.heap.size + 1, 1, none⟩ = some (.int .u32 0) := by rw [cell_of_row _ _ _ _ _ _ q2]; rfl
  have y2 : w2.cell? ⟨w.heap.size + 1, 2, none⟩ = some (.int .u32 0) := by rw [cell_of_row _ _ _ _ _ _ q2]; rfl
  have z := not_frozen q2
  have Q2 := Lib.hid q2
  have HM2 := Lib.hid hm2
  have HBB := Lib.hid hbb
  clear P1 P2 HB C2 H2 HSZ hb2 q1 q2 hm2 hbb
  have hw : wmap W i = (W i).map (.int .u32) := rfl
  have hz : ((W i).map (Value.int .u32)).getD (.int .u32 0) = .int .u32 ((W i).getD 0) := by cases W i <;> rfl
  go_wp2_with (first
    | (at_lookup; refine wpList_lookup_mine rfl _ _ 52 false rfl 67 60 Try.underlying52 Try.underlying67 (.int .u32 0) u32_zero _ _ (wmap W) HM2.out rfl i rfl ?_; rw [hw, hz]; simp only [if_false, Bool.false_eq_true]))
  have e3 := setCell_block (i := 2) (setCell_block (i := 1) (setCell_block (i := 0) Q2.out (.int .i64 (lastP L).2)) (.int .u32 ((W i).getD 0))) (.int .u32 0)
  refine bodyPost_ret (results_cell_row rfl _ _ (w.heap.size + 1) _ _ _ _ rfl e3 Try.underlying62 rfl Try.size62) rfl ⟨rfl, ?_⟩
  exact ((HBB.out.setCell (by simp) _).setCell (by simp) _).setCell (by simp) _

/-- At's answer. -/
def satB (c n : Int) (g : Int → Option (List (Int × Int))) (s i : Int) : Bool := (decide (0 ≤ i) && decide (i < c)) && decide (s ≤ n) && seeB (listOf c g i) s
def satV (c n : Int) (g : Int → Option (List (Int × Int))) (s i : Int) : Int := if ((decide (0 ≤ i) && decide (i < c)) && decide (s ≤ n)) = true then seeV (listOf c g i) s else 0

set_option maxRecDepth 100000 in
set_option maxHeartbeats 3200000 in
theorem sat_any {S : Nat → Prop} (c n : Int) (b1 b2 : Option Nat) (B : Nat → Bool) (T : Nat → Int) (f : Int → Option Value) (g : Int → Option (List (Int × Int))) (s i : Int) (w : World) (hS : ∀ b, w.heap.size ≤ b → S b)
    (hm : IsMap w S (.map b1) f) (hg : LMap w S f g) (ha : Asc (listOf c g i)) (hl : (listOf c g i).length ≤ 1099511627776) :
    Calls Try.prog 37 #[sto c n (.map b1) (.map b2) B T, .int .i64 s, .int .i64 i] w fun e w' => e = .returned (.tuple #[.int .i64 (satV c n g s i), .bool (satB c n g s i)]) ∧ Below w.heap.size w w' := by
  have hbw : ∀ w1, Below (w.alloc (.cells (stoCells c n (.map b1) (.map b2) B T) 57)).heap.size (w.alloc (.cells (stoCells c n (.map b1) (.map b2) B T) 57)) w1 →
      Calls Try.prog 41 #[sto c n (.map b1) (.map b2) B T, .int .i64 i] w1 fun e w' => ∃ u, e = .returned u ∧ VList w' (Off S w.heap.size (w.heap.size + 1)) u (listOf c g i) ∧ Below w1.heap.size w1 w' := by
    intro w1 hb
    obtain ⟨p1, hbb, hsz⟩ := boxed1 hb
    exact slist_any (S := Off S w.heap.size (w.heap.size + 1)) c n b1 b2 B T f g i w1 (off_new hS (Nat.le_add_right _ 1) hsz) ((hm.off (w.heap.size + 1)).below hbb) ((hg.off (w.heap.size + 1)).below hbb)
  have C1 := Lib.hid hbw
  have H1 := Lib.hid (heap_alloc_new w (.cells (stoCells c n (.map b1) (.map b2) B T) 57))
  clear hm hg hbw hS
  have hV : satV c n g s i = if ((decide (0 ≤ i) && decide (i < c)) && decide (s ≤ n)) = true then seeV (listOf c g i) s else 0 := rfl
  have hB : satB c n g s i = ((decide (0 ≤ i) && decide (i < c)) && decide (s ≤ n) && seeB (listOf c g i) s) := rfl
  generalize satV c n g s i = V at *
  generalize satB c n g s i = O at *
  have C0 := Lib.hid (scell_any c n b1 b2 B T i (w.alloc (.cells (stoCells c n (.map b1) (.map b2) B T) 57)))
  generalize (decide (0 ≤ i) && decide (i < c)) = K at *
  generalize listOf c g i = L at *
  cases K with
  | false =>
    obtain rfl : V = 0 := by rw [hV]; rfl
    obtain rfl : O = false := by rw [hB]; rfl
    clear hV hB
    go_enter Try.func37, Try.ntmps37
    go_wp2_with (first
      | (with_reducible refine at_box_ (t := 57) ?_; refine box_sto rfl _ rfl _ rfl (c := c) (n := n) (ml := .map b1) (mw := .map b2) (B := B) (T := T) rfl ?_)
      | (with_reducible refine at_load_ (t := 57) ?_; refine get_sto rfl _ rfl w.heap.size rfl H1.out ?_))
    refine C0.out.mono ?_
    rintro e w1 ⟨rfl, hb1⟩
    have HB := Lib.hid (below_new hb1)
    clear C1 H1 hb1
    go_wp2
    go_ret2
    exact ⟨rfl, HB.out⟩
  | true =>
    by_cases hs : s ≤ n
    · obtain rfl : V = seeV L s := by rw [hV]; simp [hs]
      obtain rfl : O = seeB L s := by rw [hB]; simp [hs]
      clear hV hB
      go_enter Try.func37, Try.ntmps37
      go_wp2_with (first
        | (with_reducible refine at_box_ (t := 57) ?_; refine box_sto rfl _ rfl _ rfl (c := c) (n := n) (ml := .map b1) (mw := .map b2) (B := B) (T := T) rfl ?_)
        | (with_reducible refine at_load_ (t := 57) ?_; refine get_sto rfl _ rfl w.heap.size rfl H1.out ?_))
      refine C0.out.mono ?_
      rintro e w1 ⟨rfl, hb1⟩
      obtain ⟨p1, hb, hsz⟩ := boxed1 hb1
      have C2 := Lib.hid (C1.out w1 hb1)
      have x1 : w1.cell? ⟨w.heap.size, 1, none⟩ = some (.int .i64 n) := by rw [cell_of_row _ _ _ _ _ _ p1]; rfl
      have P1 := Lib.hid p1
      have HB := Lib.hid hb
      clear C0 C1 H1 hb1 hb hsz p1
      go_wp2_with (with_reducible refine at_load_ (t := 57) ?_; refine get_sto rfl _ rfl w.heap.size rfl P1.out ?_)
      refine C2.out.mono ?_
      rintro e w2 ⟨u, rfl, ⟨A, m, cc, rfl, hc1, hc2, hv⟩, hb2⟩
      have C3 := Lib.hid (at_any A m cc L s w2 hv ha hl)
      have HB2 := Lib.hid (HB.out.trans (hb2.mono (by have := HB.out.size; omega)))
      clear x1 hv hb2 C2 HB P1 ha hl
      go_wp2_with fail
      refine C3.out.mono ?_
      rintro e w3 ⟨rfl, hb3⟩
      have HB3 := Lib.hid (HB2.out.trans (hb3.mono (by have := HB2.out.size; omega)))
      clear C3 hb3
      go_wp2
      go_ret2
      exact ⟨rfl, HB3.out⟩
    · obtain rfl : V = 0 := by rw [hV]; simp [hs]
      obtain rfl : O = false := by rw [hB]; simp [hs]
      clear hV hB
      have hs' : n < s := by omega
      go_enter Try.func37, Try.ntmps37
      go_wp2_with (first
        | (with_reducible refine at_box_ (t := 57) ?_; refine box_sto rfl _ rfl _ rfl (c := c) (n := n) (ml := .map b1) (mw := .map b2) (B := B) (T := T) rfl ?_)
        | (with_reducible refine at_load_ (t := 57) ?_; refine get_sto rfl _ rfl w.heap.size rfl H1.out ?_))
      refine C0.out.mono ?_
      rintro e w1 ⟨rfl, hb1⟩
      obtain ⟨p1, hb, hsz⟩ := boxed1 hb1
      have x1 : w1.cell? ⟨w.heap.size, 1, none⟩ = some (.int .i64 n) := by rw [cell_of_row _ _ _ _ _ _ p1]; rfl
      have HB := Lib.hid hb
      clear C0 C1 H1 hb1 hb hsz p1
      go_wp2
      go_ret2
      exact ⟨rfl, HB.out⟩
end Go.Proofs.Ytpejhgkcofilmaa
