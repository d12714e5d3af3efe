/- What an open reader sees stays; the walk of the law SnapStands: true. No condition on the law. -/
import Derived.Test.YtpejhgkcofilmaaRk
import Derived.Test.YtpejhgkcofilmaaPure
set_option linter.unusedVariables false
namespace Go.Proofs.Ytpejhgkcofilmaa
open Go.RowKit

theorem aft_all {l : List (Int × Int)} {t : Int} (h : ∀ p ∈ l, p.1 ≤ t) : aft l t = l.length := by
  unfold aft
  induction l with
  | nil => rfl
  | cons a r ih =>
    rw [List.takeWhile_cons, if_pos (by simpa using h a (.head _)), List.length_cons, List.length_cons, ih fun p hp => h p (.tail _ hp)]
theorem see_last {l : List (Int × Int)} {t : Int} (h : ∀ p ∈ l, p.1 ≤ t) (h0 : 0 < l.length) : seeV l t = (lastP l).2 ∧ seeB l t = true := by
  have ha := aft_all h
  unfold seeV seeB lastP
  rw [ha, if_neg (by omega), List.getLast?_eq_getElem?]
  exact ⟨rfl, by simpa using h0⟩
/-- Reader rn + 1 is open and reads the values v. -/
structure Stand (s : Sn) (rn : Nat) (v : Nat → Int) : Prop where
  hr : rn < 8
  isO : s.B rn = true
  see : ∀ k : Nat, k < 4 → seeV (s.L k) (s.T rn) = v k ∧ seeB (s.L k) (s.T rn) = true
section
variable {s : Sn} {rn : Nat} {v : Nat → Int} (h : Stand s rn v)
include h
theorem Stand.read (hc : s.c = 4) (k : Nat) (hk : k < 4) : s.readV ((rn : Int) + 1) k = v k ∧ s.readE ((rn : Int) + 1) k = 0 := by
  have e1 : ((rn : Int) + 1 - 1).toNat = rn := by omega
  have e : s.readE ((rn : Int) + 1) k = 0 := by
    unfold Sn.readE
    rw [if_pos (show isR s.B ((rn : Int) + 1) = true by unfold isR; rw [decide_eq_true (show (1 : Int) ≤ (rn : Int) + 1 by omega), decide_eq_true (show (rn : Int) + 1 ≤ 8 by have := h.hr; omega), e1, h.isO]; rfl),
      if_pos (show (decide (0 ≤ (k : Int)) && decide ((k : Int) < s.c)) = true by rw [hc, decide_eq_true (show 0 ≤ (k : Int) by omega), decide_eq_true (show (k : Int) < 4 by omega)]; rfl), e1, if_pos (h.see k hk).2]
  refine ⟨?_, e⟩
  unfold Sn.readV
  rw [if_pos e, e1, (h.see k hk).1]
theorem Stand.openS : Stand s.openS rn v := by
  obtain ⟨g1, g2⟩ := find_free s.B
  unfold Sn.openS
  cases hf : freeR s.B with
  | none => exact h
  | some r =>
    obtain ⟨h1, h2, h3⟩ := g1 r hf
    have hne : rn ≠ r := fun e => by rw [← e, h.isO] at h2; cases h2
    refine ⟨h.hr, ?_, fun k hk => ?_⟩
    · show (if rn = r then true else s.B rn) = true
      rw [if_neg hne]; exact h.isO
    · show seeV (s.L k) (if rn = r then s.n else s.T rn) = v k ∧ seeB (s.L k) (if rn = r then s.n else s.T rn) = true
      rw [if_neg hne]; exact h.see k hk
theorem Stand.closeS (i : Int) (hi : i ≠ (rn : Int) + 1) : Stand (s.closeS i) rn v := by
  unfold Sn.closeS
  split
  · rename_i hr
    have hr2 : 1 ≤ i ∧ i ≤ 8 := by unfold isR at hr; simp at hr; omega
    refine ⟨h.hr, ?_, h.see⟩
    show (if rn = (i - 1).toNat then false else s.B rn) = true
    rw [if_neg (by omega)]; exact h.isO
  · exact h
theorem Stand.cut (k t : Int) (ht : t ≤ s.T rn) (hA : ∀ k, Asc (s.L k)) : Stand (s.cut k t) rn v := by
  refine ⟨h.hr, h.isO, fun j hj => ?_⟩
  have hj2 := h.see j hj
  show seeV (if (j : Int) = k ∧ (decide (0 ≤ k) && decide (k < s.c)) = true ∧ t ≤ s.n then (s.L j).drop (aft (s.L j) t - 1) else s.L j) (s.T rn) = v j ∧ seeB (if (j : Int) = k ∧ (decide (0 ≤ k) && decide (k < s.c)) = true ∧ t ≤ s.n then (s.L j).drop (aft (s.L j) t - 1) else s.L j) (s.T rn) = true
  split
  · have := see_cut (s.L j) (hA j) t (s.T rn) ht
    rw [this.1, this.2]; exact hj2
  · exact hj2
section
variable {n : Nat} {d : Rd} {m : Int} (hr : Rel n s d m)
include hr
theorem Stand.com (hm : m ≤ 900) (l : List Ent) : Stand (s.com l) rn v := by
  unfold Sn.com
  split
  · refine ⟨h.hr, h.isO, fun k hk => ?_⟩
    show seeV ((s.commit l).L k) (s.T rn) = v k ∧ seeB ((s.commit l).L k) (s.T rn) = true
    rcases com_L s l k with ⟨e, _⟩ | ⟨x, _, e⟩
    · rw [e]; exact h.see k hk
    · have hadd : addL (s.L k) (s.n + 1) x = s.L k ++ [(s.n + 1, x)] := by unfold addL; rw [if_pos (hr.add hm k)]
      have := see_add (s.L k) (hr.hA k) (s.n + 1) x (s.T rn) (.inr (by have := hr.hT rn h.hr h.isO; have := hr.hR rn h.hr; omega))
      rw [e, ← hadd, this.1, this.2]
      exact h.see k hk
  · exact h
theorem Stand.doF (hm : m ≤ 900) (a : SA) (hno : ¬ (a.kind % 6 = 4 ∧ a.num = (rn : Int) + 1)) : Stand (doS n s d a) rn v := by
  unfold doS
  split
  · exact h.openS
  · split
    · next h4 => exact h.closeS a.num fun e => hno ⟨h4, e⟩
    · exact h.com hr hm _
end
end
theorem stand_open {s : Sn} {d : Rd} {m : Int} (hr : Rel 4 s d m) (hf : s.free < 8) : ∃ v, Stand s.openS s.free v ∧ ∀ k : Nat, k < 4 → s.openS.atV s.openS.n k = v k ∧ s.openS.atB s.openS.n k = true := by
  have hro := hr.openS
  have hcc := hro.hc
  obtain ⟨g1, g2⟩ := find_free s.B
  unfold Sn.openS Sn.free at *
  cases hq : freeR s.B with
  | none => rw [hq] at hf; exact absurd hf (by decide)
  | some r =>
    rw [hq] at hf hro hcc
    obtain ⟨h1, h2, h3⟩ := g1 r hq
    have hsee := fun (k : Nat) (hk : k < 4) => see_last (l := s.L k) (t := s.n) (fun p hp => (hr.hst2 k p hp).2) (hr.hne k hk)
    refine ⟨fun k => (lastP (s.L k)).2, ⟨h1, ?_, fun k hk => ?_⟩, fun k hk => ?_⟩
    · show (if r = r then true else s.B r) = true
      rw [if_pos rfl]
    · show seeV (s.L k) (if r = r then s.n else s.T r) = _ ∧ seeB (s.L k) (if r = r then s.n else s.T r) = true
      rw [if_pos rfl]
      exact hsee k hk
    · have hc : s.c = 4 := hr.hc
      unfold Sn.atV Sn.atB
      dsimp only
      rw [hc, decide_eq_true (show (0 : Int) ≤ (k : Int) by omega), decide_eq_true (show (k : Int) < 4 by omega), decide_eq_true (Int.le_refl s.n)]
      exact ⟨by simpa using (hsee k hk).1, by simpa using (hsee k hk).2⟩
theorem rdI_has (B : Nat → Bool) (T : Nat → Int) (j k : Nat) (hj : j < k) (hB : B j = true) : T j ∈ rdI B T k := by
  induction k with
  | zero => omega
  | succ k ih =>
    show T j ∈ rdI B T k ++ if B k = true then [T k] else []
    by_cases h : j = k
    · subst h; rw [if_pos hB]; simp
    · exact List.mem_append_left _ (ih (by omega))
/-- The four values that were read, in memory. -/
def wasC (v : Nat → Int) (k : Nat) : Array Value := #[.int .i64 (if 0 < k then v 0 else 0), .int .i64 (if 1 < k then v 1 else 0), .int .i64 (if 2 < k then v 2 else 0), .int .i64 (if 3 < k then v 3 else 0)]
theorem was_cell {W : World} {b : Nat} {v : Nat → Int} {k : Nat} {t : TypeId} {fr : Nat × Nat} (h : W.heap[b]? = some (.cells (wasC v k) t fr)) (j : Nat) (hj : j < 4) : W.cell? ⟨b, j, none⟩ = some (.int .i64 (if j < k then v j else 0)) := by
  rw [cell_of_row _ _ _ _ _ _ h]
  obtain rfl | rfl | rfl | rfl : j = 0 ∨ j = 1 ∨ j = 2 ∨ j = 3 := by omega
  all_goals rfl
theorem was_set {w : World} {b : Nat} {v : Nat → Int} {k : Nat} {t : TypeId} {fr : Nat × Nat} (h : w.heap[b]? = some (.cells (wasC v k) t fr)) (hk : k < 4) : (w.setCell ⟨b, k, none⟩ (.int .i64 (v k))).heap[b]? = some (.cells (wasC v (k + 1)) t fr) := by
  rw [setCell_block h _]
  congr 2
  obtain rfl | rfl | rfl | rfl : k = 0 ∨ k = 1 ∨ k = 2 ∨ k = 3 := by omega
  all_goals rfl
theorem touch_cell {w : World} {b i : Nat} {cs : Array Value} {t : TypeId} {fr : Nat × Nat} (h : w.heap[b]? = some (.cells cs t fr)) (u : Value) : Touch b w (w.setCell ⟨b, i, none⟩ u) := ⟨_, setCell_eq_setRow w b i cs t fr u h⟩
def SY (S : Nat → Prop) (q o b : Nat) : Prop := S b ∧ b ≠ q ∧ b ≠ q + 1 ∧ b ≠ o
/-- What the walk keeps: the store, the reference, the array. -/
structure StI (w0 : World) (S : Nat → Prop) (q o : Nat) (s : Sn) (d : Rd) (v : Nat → Int) (k : Nat) (w : World) : Prop where
  p7 : s.At w (SY S q o) q
  p8 : d.At w (SY S q o) (q + 1)
  pw : w.heap[o]? = some (.cells (wasC v k) 89 (0, 0))
  hB : Below w0.heap.size w0 w
  lt : w0.heap.size ≤ q ∧ q + 1 < o
section
variable {w0 w w' wa wb : World} {S S' : Nat → Prop} {q o g : Nat} {s s' : Sn} {d d' : Rd} {v : Nat → Int} {k : Nat} (h : StI w0 S q o s d v k w)
include h
theorem StI.in : o < w.heap.size := lt_of_block h.pw
theorem StI.below (hb : Below w.heap.size w w') : StI w0 S q o s d v k w' where
  p7 := h.p7.below hb
  p8 := h.p8.below hb
  pw := (hb.block _ (lt_of_block h.pw)).trans h.pw
  hB := h.hB.trans (hb.mono h.hB.size)
  lt := h.lt
theorem StI.new (hS : ∀ b, w0.heap.size ≤ b → S b) : ∀ b, w.heap.size ≤ b → SY S q o b := fun b hb => by
  have h1 := h.in
  have h2 := h.lt
  exact ⟨hS b (by omega), by omega, by omega, by omega⟩
theorem StI.cut (t : Touch q w wa) (h7 : s'.At wa (SY S q o) q) : StI w0 S q o s' d v k wa where
  p7 := h7
  p8 := t.rat h.p8 (by omega) (fun h => h.2.1 rfl)
  pw := (t.block (by have := h.lt; omega)).trans h.pw
  hB := t.below h.hB h.lt.1
  lt := h.lt
theorem StI.put (t1 : Touch q w wa) (t2 : Touch (q + 1) wa wb) (h7 : s'.At wa (SY S q o) q) (h8 : d'.At wb (SY S q o) (q + 1)) : StI w0 S q o s' d' v k wb where
  p7 := t2.at h7 (by omega) (fun h => h.2.2.1 rfl)
  p8 := h8
  pw := (t2.block (by have := h.lt; omega)).trans ((t1.block (by have := h.lt; omega)).trans h.pw)
  hB := t2.below (t1.below h.hB h.lt.1) (by have := h.lt; omega)
  lt := h.lt
theorem StI.was (hk : k < 4) : StI w0 S q o s d v (k + 1) (w.setCell ⟨o, k, none⟩ (.int .i64 (v k))) := by
  have t := touch_cell (i := k) h.pw (.int .i64 (v k))
  exact ⟨t.at h.p7 (by have := h.lt; omega) (fun h => h.2.2.2 rfl), t.rat h.p8 (by have := h.lt; omega) (fun h => h.2.2.2 rfl), was_set h.pw hk, t.below h.hB (by have := h.lt; omega), h.lt⟩
theorem StI.cell (j : Nat) (hj : j < 4) : w.cell? ⟨o, j, none⟩ = some (.int .i64 (if j < k then v j else 0)) := was_cell h.pw j hj
/-- A box above the walk's own is written. -/
theorem StI.touch (t : Touch g w w') (hg : o < g) (hS : ¬ S g) : StI w0 S q o s d v k w' where
  p7 := t.at h.p7 (by have := h.lt; omega) (fun h => hS h.1)
  p8 := t.rat h.p8 (by have := h.lt; omega) (fun h => hS h.1)
  pw := (t.block (by omega)).trans h.pw
  hB := t.below h.hB (by have := h.lt; omega)
  lt := h.lt
theorem StI.more (hS : ∀ b, b < w.heap.size → S b → S' b) : StI w0 S' q o s d v k w where
  p7 := h.p7.more fun b hb g => ⟨hS b hb g.1, g.2⟩
  p8 := h.p8.more fun b hb g => ⟨hS b hb g.1, g.2⟩
  pw := h.pw
  hB := h.hB
  lt := h.lt
end
theorem was_zero (w : World) (v : Nat → Int) : (zeroValue 89).run Try.prog w = .ok (.agg (wasC v 0)) w := by
  simp [go_sem, wasC]
section
variable {ops : Array Oper} {rest : List Oper} {a : Act} {w : World} {Q : Exit → Act → World → Prop} {o : Oper}
theorem alloc_was (v : Nat → Int) (hg : o.guard = none) (ho : o.op = .alloc 89) (k : ∀ w', w'.heap[w.heap.size]? = some (.cells (wasC v 0) 89 (0, 0)) → Below w.heap.size w w' → wpList Try.prog ops Q rest (a.put o.dst (.pointer (some ⟨w.heap.size, 0, none⟩))) w') : wpList Try.prog ops Q (o :: rest) a w := by
  refine wpList_alloc_mine hg 89 ho _ rfl (wasC v 0) (fun w => was_zero w v) rfl ?_
  exact k _ (heap_alloc_new _ _) ((Below.refl _ _).alloc (Nat.le_refl _) _)
end
section
variable {a : Act} {w : World} {K : Act → World → Prop} {Q : Exit → Act → World → Prop} {o : Oper} {s : Sn} {S : Nat → Prop}
theorem wp_get_st (x : Operand) (ho : o.op = .load 57 x) (g : Nat) (hx : a.eval x = .pointer (some ⟨g, 0, none⟩)) (h : s.At w S g) (k : ∀ b1 b2, s.Maps w S b1 b2 → K (a.put o.dst (s.val b1 b2)) w) : o.wp Try.prog a w K Q := by
  obtain ⟨b1, b2, h1, h2⟩ := h
  unfold Oper.wp execOp
  simp only [ho, hx, Instr.loadAt, Instr.sureAddr, Sem.run_bind, Sem.run_pure, Result.andThen_ok, load_sto w g _ _ _ h1 rfl]
  exact k b1 b2 h2
end
/-- The bytes of the law. -/
def Byts (w : World) (A : Option Addr) (n : Nat) (l : List Int) : Prop := n = l.length ∧ Reads w (fun _ => True) 1 A n (l.flatMap fun a => [Value.int .u8 a]) ∧ ∀ x ∈ l, 0 ≤ x ∧ x ≤ 255
theorem Byts.cell {w : World} {A : Option Addr} {n : Nat} {l : List Int} (h : Byts w A n l) (k : Nat) (hk : k < l.length) :
    (∃ b o, A = some ⟨b, o, none⟩ ∧ b < w.heap.size ∧ ∀ w', Below w.heap.size w w' → w'.cell? ⟨b, o + k, none⟩ = some (.int .u8 l[k])) ∧ 0 ≤ l[k] ∧ l[k] ≤ 255 := by
  obtain ⟨h0, h1, h2⟩ := h
  refine ⟨?_, h2 _ (List.getElem_mem hk)⟩
  obtain ⟨b, o, e, hb, hS, hh⟩ := h1.2 (by omega)
  refine ⟨b, o, e, hb, fun w' hB => ?_⟩
  rw [hB.cell hb]
  have := hh k (.int .u8 l[k]) (by have := flat_get2 (s := 1) (f := fun a : Int => [Value.int .u8 a]) (fun _ => rfl) l k hk 0 (by omega); rw [Nat.mul_one, Nat.add_zero] at this; exact this.trans rfl)
  exact this

set_option maxRecDepth 100000 in
set_option maxHeartbeats 51200000 in
theorem stands_g1 (A A2 A3 : Option Addr) (n c n2 c2 n3 c3 : Nat) (l l2 : List SA) (bs : List Int) (w : World) (hl : SAs w (fun _ => True) A n l) (hl2 : SAs w (fun _ => True) A2 n2 l2) (h3 : Byts w A3 n3 bs) (hlen : l.length ≤ 9223372036854775807) (hlen2 : l2.length ≤ 9223372036854775807) (hlen3 : n3 ≤ 9223372036854775807) (hf : fewB l = false) :
    Calls Try.prog 12 #[.slice A n c, .slice A2 n2 c2, .slice A3 n3 c3] w fun e w' => e = .returned (.bool true) ∧ Below w.heap.size w w' := by
  have FW := Lib.hid (few28_any A n c l w hl hlen)
  rw [hf] at FW
  clear hl hl2 h3 hlen hlen2 hlen3 hf
  go_enter Try.func12, Try.ntmps12
  go_wp2_with fail
  refine FW.out.mono ?_
  rintro e w1 ⟨rfl, hb⟩
  have HB1 := Lib.hid hb
  clear hb
  clear FW
  go_wp2_with fail
  refine (awake_snap w1).mono ?_
  rintro e wz ⟨rfl, hb⟩
  have HBZ := Lib.hid (HB1.out.trans (hb.mono HB1.out.size))
  clear hb HB1
  go_wp2
  go_ret
  exact ⟨rfl, HBZ.out⟩

set_option maxRecDepth 100000 in
set_option maxHeartbeats 51200000 in
theorem stands_g2 (A A2 A3 : Option Addr) (n c n2 c2 n3 c3 : Nat) (l l2 : List SA) (bs : List Int) (w : World) (hl : SAs w (fun _ => True) A n l) (hl2 : SAs w (fun _ => True) A2 n2 l2) (h3 : Byts w A3 n3 bs) (hlen : l.length ≤ 9223372036854775807) (hlen2 : l2.length ≤ 9223372036854775807) (hlen3 : n3 ≤ 9223372036854775807) (hf : fewB l = true) (hf2 : fewB l2 = false) :
    Calls Try.prog 12 #[.slice A n c, .slice A2 n2 c2, .slice A3 n3 c3] w fun e w' => e = .returned (.bool true) ∧ Below w.heap.size w w' := by
  have FW := Lib.hid (few28_any A n c l w hl hlen)
  rw [hf] at FW
  have FW2 := Lib.hid fun (w1 : World) (hb : Below w.heap.size w w1) => few28_any A2 n2 c2 l2 w1 (hl2.below hb) hlen2
  rw [hf2] at FW2
  clear hl hl2 h3 hlen hlen2 hlen3 hf hf2
  go_enter Try.func12, Try.ntmps12
  go_wp2_with fail
  refine FW.out.mono ?_
  rintro e w1 ⟨rfl, hb⟩
  have HB1 := Lib.hid hb
  clear hb
  clear FW
  go_wp2_with fail
  refine (FW2.out w1 HB1.out).mono ?_
  rintro e w2 ⟨rfl, hb⟩
  have HB2 := Lib.hid (HB1.out.trans (hb.mono HB1.out.size))
  clear hb HB1
  clear FW2
  go_wp2_with fail
  refine (awake_snap w2).mono ?_
  rintro e wz ⟨rfl, hb⟩
  have HBZ := Lib.hid (HB2.out.trans (hb.mono HB2.out.size))
  clear hb HB2
  go_wp2
  go_ret
  exact ⟨rfl, HBZ.out⟩

set_option maxRecDepth 100000 in
set_option maxHeartbeats 51200000 in
theorem stands_g3 (A A2 A3 : Option Addr) (n c n2 c2 n3 c3 : Nat) (l l2 : List SA) (bs : List Int) (w : World) (hl : SAs w (fun _ => True) A n l) (hl2 : SAs w (fun _ => True) A2 n2 l2) (h3 : Byts w A3 n3 bs) (hlen : l.length ≤ 9223372036854775807) (hlen2 : l2.length ≤ 9223372036854775807) (hlen3 : n3 ≤ 9223372036854775807) (hf : fewB l = true) (hf2 : fewB l2 = true) (hn3 : 60 < n3) :
    Calls Try.prog 12 #[.slice A n c, .slice A2 n2 c2, .slice A3 n3 c3] w fun e w' => e = .returned (.bool true) ∧ Below w.heap.size w w' := by
  have FW := Lib.hid (few28_any A n c l w hl hlen)
  rw [hf] at FW
  have FW2 := Lib.hid fun (w1 : World) (hb : Below w.heap.size w w1) => few28_any A2 n2 c2 l2 w1 (hl2.below hb) hlen2
  rw [hf2] at FW2
  have hn3i : (60 : Int) < (n3 : Int) := by omega
  clear hl hl2 h3 hlen hlen2 hlen3 hf hf2 hn3
  go_enter Try.func12, Try.ntmps12
  go_wp2_with fail
  refine FW.out.mono ?_
  rintro e w1 ⟨rfl, hb⟩
  have HB1 := Lib.hid hb
  clear hb
  clear FW
  go_wp2_with fail
  refine (FW2.out w1 HB1.out).mono ?_
  rintro e w2 ⟨rfl, hb⟩
  have HB2 := Lib.hid (HB1.out.trans (hb.mono HB1.out.size))
  clear hb HB1
  clear FW2
  go_wp2_with fail
  refine (awake_snap w2).mono ?_
  rintro e wz ⟨rfl, hb⟩
  have HBZ := Lib.hid (HB2.out.trans (hb.mono HB2.out.size))
  clear hb HB2
  go_wp2
  go_ret
  exact ⟨rfl, HBZ.out⟩

set_option maxRecDepth 100000 in
set_option maxHeartbeats 51200000 in
theorem stands_full (A A2 A3 : Option Addr) (n c n2 c2 n3 c3 : Nat) (l l2 : List SA) (bs : List Int) (w : World) (hl : SAs w (fun _ => True) A n l) (hl2 : SAs w (fun _ => True) A2 n2 l2) (h3 : Byts w A3 n3 bs) (hlen : l.length ≤ 9223372036854775807) (hlen2 : l2.length ≤ 9223372036854775807) (hlen3 : n3 ≤ 9223372036854775807) (hf : fewB l = true) (hf2 : fewB l2 = true) (hn3 : n3 ≤ 60) (hfree : ¬ (playF 4 l).1.free < 8) :
    Calls Try.prog 12 #[.slice A n c, .slice A2 n2 c2, .slice A3 n3 c3] w fun e w' => e = .returned (.bool true) ∧ Below w.heap.size w w' := by
  have FW := Lib.hid (few28_any A n c l w hl hlen)
  rw [hf] at FW
  have FW2 := Lib.hid fun (w1 : World) (hb : Below w.heap.size w w1) => few28_any A2 n2 c2 l2 w1 (hl2.below hb) hlen2
  rw [hf2] at FW2
  obtain ⟨h60, h8⟩ := few_yes hl hf
  obtain ⟨h602, h82⟩ := few_yes hl2 hf2
  have hrel0 := play_rel 4 l (by omega) l.length (Nat.le_refl _)
  rw [List.take_length] at hrel0
  have PL := Lib.hid fun (w1 : World) (hb : Below w.heap.size w w1) => played_any (S := fun _ => True) 4 A n c l w1 (fun _ _ => trivial) (by omega) (by omega) (hl.below hb) h60 h8
  have HL9 := Lib.hid (show (l.length : Int) ≤ 60 by omega)
  have HL2 := Lib.hid hl2
  have H82 := Lib.hid h82
  have H602 := Lib.hid h602
  have H3 := Lib.hid h3
  have hn3i : (n3 : Int) ≤ 60 := by omega
  have hd60 : decide ((60 : Int) < (n3 : Int)) = false := decide_eq_false (by omega)
  generalize playF 4 l = z at *
  obtain ⟨s, d⟩ := z
  dsimp only at hrel0 PL hfree
  have HREL := Lib.hid hrel0
  have hfr := hrel0.free
  have HFR := Lib.hid hfr
  have HST := Lib.hid (show d.st.length ≤ 1000000 by have := hrel0.hst; have := hrel0.hnm; omega)
  have CO := Lib.hid fun (b1 b2 : Option Nat) (w : World) => st_open2 (s := s) (b1 := b1) (b2 := b2) w
  simp only [if_neg hfree] at CO
  clear hl hl2 h3 hlen hlen2 hlen3 hf hf2 h60 h8 h602 h82 hrel0 hfr hn3 hfree
  go_enter Try.func12, Try.ntmps12
  go_wp2_with fail
  refine FW.out.mono ?_
  rintro e w1 ⟨rfl, hb⟩
  have HB1 := Lib.hid hb
  clear hb
  clear FW
  go_wp2_with fail
  refine (FW2.out w1 HB1.out).mono ?_
  rintro e w1b ⟨rfl, hb⟩
  have HB1b := Lib.hid (HB1.out.trans (hb.mono HB1.out.size))
  clear hb HB1
  clear FW2
  go_wp2_with fail
  refine (PL.out w1b HB1b.out).mono ?_
  rintro e w2 ⟨b1, b2, sa, sv, rfl, hm, hd, hb⟩
  have HB2 := Lib.hid (HB1b.out.trans (hb.mono HB1b.out.size))
  have HM2 := Lib.hid (hm.more (S' := fun b => b ≠ w2.heap.size ∧ b ≠ w2.heap.size + 1) fun b hb _ => ⟨by omega, by omega⟩)
  have HD2 := Lib.hid (hd.more (S' := fun b => b ≠ w2.heap.size ∧ b ≠ w2.heap.size + 1) fun b hb _ => ⟨by omega, by omega⟩)
  clear hb hm hd HB1b PL
  go_wp2_with (with_reducible refine at_alloc_ (t := 57) ?_; refine alloc_at (S := fun _ => False) rfl rfl ?_)
  intro w3 hp hb hz
  have X7 := Lib.hid hp
  have HB3 := Lib.hid (HB2.out.trans (hb.mono HB2.out.size))
  have HM3 := Lib.hid (HM2.out.below hb)
  have HD3 := Lib.hid (HD2.out.below hb)
  have HZ := Lib.hid hz
  have HQ := Lib.hid HB2.out.size
  clear hp hb hz HB2 HM2 HD2
  go_wp2_with (with_reducible refine at_alloc_ (t := 80) ?_; refine alloc_rd (S := fun _ => False) rfl rfl ?_)
  intro w4 hp hb hz
  rw [HZ.out] at hp
  rw [HZ.out]
  have X8 := Lib.hid hp
  have X7b := Lib.hid (X7.out.below hb)
  have HB4 := Lib.hid (HB3.out.trans (hb.mono HB3.out.size))
  have HM4 := Lib.hid (HM3.out.below hb)
  have HD4 := Lib.hid (HD3.out.below hb)
  clear hp hb hz HZ X7 HB3 HM3 HD3
  generalize w2.heap.size = q at *
  go_wp2_with (with_reducible refine at_store_ (t := 57) ?_; refine Hid.out ?_)
  refine Lib.hid ?_
  refine put_at rfl (.tmp 7) (.tmp 46) rfl rfl q rfl rfl X7b.out HM4.out (fun h => h.1 rfl) ?_
  intro w5 hp ht
  have Y7 := Lib.hid hp
  have X8b := Lib.hid (ht.rat X8.out (by omega) (fun h => h))
  have HD5 := Lib.hid (ht.mem HD4.out (fun h => h.1 rfl))
  have HB5 := Lib.hid (ht.below HB4.out HQ.out)
  clear hp ht X7b HM4 X8 HD4 HB4
  go_wp2_with (with_reducible refine at_store_ (t := 80) ?_; refine Hid.out ?_)
  refine Lib.hid ?_
  refine put_rd rfl (.tmp 8) (.tmp 47) rfl rfl (q + 1) rfl rfl X8b.out HD5.out (fun h => h.2 rfl) ?_
  intro w6 hp ht
  have Y8 := Lib.hid hp
  have Y7b := Lib.hid (ht.at Y7.out (by omega) (fun h => h.2 rfl))
  have HB6 := Lib.hid (ht.below HB5.out (by have := HQ.out; omega))
  clear hp ht X8b HD5 HB5 Y7
  go_wp2_with (with_reducible refine at_load_ (t := 57) ?_; refine get_at rfl _ rfl q rfl Y7b.out ?_)
  intro b1 b2 hm
  have HM := Lib.hid hm
  clear hm
  try simp only [Act.put, List.setIfInBounds_toArray, List.set_cons_zero, List.set_cons_succ]
  go_wp2_with fail
  refine (CO.out b1 b2 w6).mono ?_
  rintro e w7 ⟨rfl, hb⟩
  have HMo := Lib.hid (Sn.openS_maps (HM.out.below hb))
  have Y7c := Lib.hid (Y7b.out.below hb)
  have Y8c := Lib.hid (Y8.out.below hb)
  have HB7 := Lib.hid (HB6.out.trans (hb.mono HB6.out.size))
  clear hb HM Y7b Y8 HB6 CO
  go_wp2_with (with_reducible refine at_store_ (t := 57) ?_; refine Hid.out ?_)
  refine Lib.hid ?_
  refine put_at rfl (.tmp 7) (.tmp 52) rfl rfl q rfl rfl Y7c.out HMo.out (fun h => h.1 rfl) ?_
  intro w8 hp ht
  have P7 := Lib.hid hp
  have P8 := Lib.hid (ht.rat Y8c.out (by omega) (fun h => h.1 rfl))
  have HB8 := Lib.hid (ht.below HB7.out HQ.out)
  clear hp ht HMo Y7c Y8c HB7
  clear P7 P8
  go_wp2_with fail
  refine (awake_snap w8).mono ?_
  rintro e wz ⟨rfl, hb⟩
  have HBZ := Lib.hid (HB8.out.trans (hb.mono HB8.out.size))
  clear hb HB8
  go_wp2
  go_ret
  exact ⟨rfl, HBZ.out⟩

set_option maxRecDepth 100000 in
set_option maxHeartbeats 51200000 in
theorem stands_ok (A A2 A3 : Option Addr) (n c n2 c2 n3 c3 : Nat) (l l2 : List SA) (bs : List Int) (w : World) (hl : SAs w (fun _ => True) A n l) (hl2 : SAs w (fun _ => True) A2 n2 l2) (h3 : Byts w A3 n3 bs) (hlen : l.length ≤ 9223372036854775807) (hlen2 : l2.length ≤ 9223372036854775807) (hlen3 : n3 ≤ 9223372036854775807) (hf : fewB l = true) (hf2 : fewB l2 = true) (hn3 : n3 ≤ 60) (hfree : (playF 4 l).1.free < 8) :
    Calls Try.prog 12 #[.slice A n c, .slice A2 n2 c2, .slice A3 n3 c3] w fun e w' => e = .returned (.bool true) ∧ Below w.heap.size w w' := by
  have FW := Lib.hid (few28_any A n c l w hl hlen)
  rw [hf] at FW
  have FW2 := Lib.hid fun (w1 : World) (hb : Below w.heap.size w w1) => few28_any A2 n2 c2 l2 w1 (hl2.below hb) hlen2
  rw [hf2] at FW2
  obtain ⟨h60, h8⟩ := few_yes hl hf
  obtain ⟨h602, h82⟩ := few_yes hl2 hf2
  have hrel0 := play_rel 4 l (by omega) l.length (Nat.le_refl _)
  rw [List.take_length] at hrel0
  have PL := Lib.hid fun (w1 : World) (hb : Below w.heap.size w w1) => played_any (S := fun _ => True) 4 A n c l w1 (fun _ _ => trivial) (by omega) (by omega) (hl.below hb) h60 h8
  have HL9 := Lib.hid (show (l.length : Int) ≤ 60 by omega)
  have HL2 := Lib.hid hl2
  have H82 := Lib.hid h82
  have H602 := Lib.hid h602
  have H3 := Lib.hid h3
  have hn3i : (n3 : Int) ≤ 60 := by omega
  have hd60 : decide ((60 : Int) < (n3 : Int)) = false := decide_eq_false (by omega)
  generalize playF 4 l = z at *
  obtain ⟨s, d⟩ := z
  dsimp only at hrel0 PL hfree
  have HREL := Lib.hid hrel0
  have hfr := hrel0.free
  have HFR := Lib.hid hfr
  have HST := Lib.hid (show d.st.length ≤ 1000000 by have := hrel0.hst; have := hrel0.hnm; omega)
  have CO := Lib.hid fun (b1 b2 : Option Nat) (w : World) => st_open2 (s := s) (b1 := b1) (b2 := b2) w
  simp only [if_pos hfree] at CO
  have HFX := Lib.hid hfree
  have HSO := Lib.hid (stand_open hrel0 hfree)
  have HO2 := Lib.hid (show (d.openR s.free).2 = (s.free : Int) + 1 from by unfold Rd.openR; rw [if_pos hfree])
  have hf0 : (s.free : Int) < 8 := by omega
  clear hl hl2 h3 hlen hlen2 hlen3 hf hf2 h60 h8 h602 h82 hrel0 hfr hn3 hfree
  go_enter Try.func12, Try.ntmps12
  go_wp2_with fail
  refine FW.out.mono ?_
  rintro e w1 ⟨rfl, hb⟩
  have HB1 := Lib.hid hb
  clear hb
  clear FW
  go_wp2_with fail
  refine (FW2.out w1 HB1.out).mono ?_
  rintro e w1b ⟨rfl, hb⟩
  have HB1b := Lib.hid (HB1.out.trans (hb.mono HB1.out.size))
  clear hb HB1
  clear FW2
  go_wp2_with fail
  refine (PL.out w1b HB1b.out).mono ?_
  rintro e w2 ⟨b1, b2, sa, sv, rfl, hm, hd, hb⟩
  have HB2 := Lib.hid (HB1b.out.trans (hb.mono HB1b.out.size))
  have HM2 := Lib.hid (hm.more (S' := fun b => b ≠ w2.heap.size ∧ b ≠ w2.heap.size + 1) fun b hb _ => ⟨by omega, by omega⟩)
  have HD2 := Lib.hid (hd.more (S' := fun b => b ≠ w2.heap.size ∧ b ≠ w2.heap.size + 1) fun b hb _ => ⟨by omega, by omega⟩)
  clear hb hm hd HB1b PL
  go_wp2_with (with_reducible refine at_alloc_ (t := 57) ?_; refine alloc_at (S := fun _ => False) rfl rfl ?_)
  intro w3 hp hb hz
  have X7 := Lib.hid hp
  have HB3 := Lib.hid (HB2.out.trans (hb.mono HB2.out.size))
  have HM3 := Lib.hid (HM2.out.below hb)
  have HD3 := Lib.hid (HD2.out.below hb)
  have HZ := Lib.hid hz
  have HQ := Lib.hid HB2.out.size
  clear hp hb hz HB2 HM2 HD2
  go_wp2_with (with_reducible refine at_alloc_ (t := 80) ?_; refine alloc_rd (S := fun _ => False) rfl rfl ?_)
  intro w4 hp hb hz
  rw [HZ.out] at hp
  rw [HZ.out]
  have X8 := Lib.hid hp
  have X7b := Lib.hid (X7.out.below hb)
  have HB4 := Lib.hid (HB3.out.trans (hb.mono HB3.out.size))
  have HM4 := Lib.hid (HM3.out.below hb)
  have HD4 := Lib.hid (HD3.out.below hb)
  clear hp hb hz HZ X7 HB3 HM3 HD3
  generalize w2.heap.size = q at *
  go_wp2_with (with_reducible refine at_store_ (t := 57) ?_; refine Hid.out ?_)
  refine Lib.hid ?_
  refine put_at rfl (.tmp 7) (.tmp 46) rfl rfl q rfl rfl X7b.out HM4.out (fun h => h.1 rfl) ?_
  intro w5 hp ht
  have Y7 := Lib.hid hp
  have X8b := Lib.hid (ht.rat X8.out (by omega) (fun h => h))
  have HD5 := Lib.hid (ht.mem HD4.out (fun h => h.1 rfl))
  have HB5 := Lib.hid (ht.below HB4.out HQ.out)
  clear hp ht X7b HM4 X8 HD4 HB4
  go_wp2_with (with_reducible refine at_store_ (t := 80) ?_; refine Hid.out ?_)
  refine Lib.hid ?_
  refine put_rd rfl (.tmp 8) (.tmp 47) rfl rfl (q + 1) rfl rfl X8b.out HD5.out (fun h => h.2 rfl) ?_
  intro w6 hp ht
  have Y8 := Lib.hid hp
  have Y7b := Lib.hid (ht.at Y7.out (by omega) (fun h => h.2 rfl))
  have HB6 := Lib.hid (ht.below HB5.out (by have := HQ.out; omega))
  clear hp ht X8b HD5 HB5 Y7
  go_wp2_with (with_reducible refine at_load_ (t := 57) ?_; refine get_at rfl _ rfl q rfl Y7b.out ?_)
  intro b1 b2 hm
  have HM := Lib.hid hm
  clear hm
  try simp only [Act.put, List.setIfInBounds_toArray, List.set_cons_zero, List.set_cons_succ]
  go_wp2_with fail
  refine (CO.out b1 b2 w6).mono ?_
  rintro e w7 ⟨rfl, hb⟩
  have HMo := Lib.hid (Sn.openS_maps (HM.out.below hb))
  have Y7c := Lib.hid (Y7b.out.below hb)
  have Y8c := Lib.hid (Y8.out.below hb)
  have HB7 := Lib.hid (HB6.out.trans (hb.mono HB6.out.size))
  clear hb HM Y7b Y8 HB6 CO
  go_wp2_with (with_reducible refine at_store_ (t := 57) ?_; refine Hid.out ?_)
  refine Lib.hid ?_
  refine put_at rfl (.tmp 7) (.tmp 52) rfl rfl q rfl rfl Y7c.out HMo.out (fun h => h.1 rfl) ?_
  intro w8 hp ht
  have P7 := Lib.hid hp
  have P8 := Lib.hid (ht.rat Y8c.out (by omega) (fun h => h.1 rfl))
  have HB8 := Lib.hid (ht.below HB7.out HQ.out)
  clear hp ht HMo Y7c Y8c HB7
  go_wp2_with (with_reducible refine at_load_ (t := 80) ?_; refine get_rat rfl _ rfl (q + 1) rfl P8.out ?_)
  intro sa sv hd1
  have HD1 := Lib.hid hd1
  clear hd1
  try simp only [Act.put, List.setIfInBounds_toArray, List.set_cons_zero, List.set_cons_succ]
  go_wp2_with fail
  refine (ropen_any (S := fun b => b ≠ q ∧ b ≠ q + 1) w8 HD1.out HST.out s.free HFR.out.1 HFR.out.2.1 HFR.out.2.2).mono ?_
  rintro e w9 ⟨sa', sv', rfl, hmd, hb⟩
  rw [HO2.out]
  have HDo := Lib.hid hmd
  have P7b := Lib.hid (P7.out.below hb)
  have P8b := Lib.hid (P8.out.below hb)
  have HB9 := Lib.hid (HB8.out.trans (hb.mono HB8.out.size))
  clear hb hmd P7 P8 HB8 HD1
  go_wp2_with (with_reducible refine at_store_ (t := 80) ?_; refine Hid.out ?_)
  refine Lib.hid ?_
  refine put_rd rfl (.tmp 8) (.tmp 72) rfl rfl (q + 1) rfl rfl P8b.out HDo.out (fun h => h.2 rfl) ?_
  intro wa hp ht
  have P8c := Lib.hid hp
  have P7c := Lib.hid (ht.at P7b.out (by omega) (fun h => h.2 rfl))
  have HBa := Lib.hid (ht.below HB9.out (by have := HQ.out; omega))
  clear hp ht HDo P7b P8b HB9
  have HR1 := Lib.hid HREL.out.openS
  obtain ⟨v, hsd, hat⟩ := HSO.out
  have HSD := Lib.hid hsd
  have HAT := Lib.hid hat
  clear hsd hat HSO HO2 HREL HFR HST
  generalize s.openS = s1 at *
  generalize (d.openR s.free).1 = d1 at *
  generalize s.free = rn at *
  go_wp2_with (with_reducible refine at_alloc_ (t := 89) ?_; refine alloc_was v rfl rfl ?_)
  intro wb hw hb
  have HQo := Lib.hid P8c.out.lt
  have HI := Lib.hid (show StI w (fun _ => True) q wa.heap.size s1 d1 v 0 wb from ⟨(P7c.out.more fun b hb h => ⟨trivial, h.1, h.2, by omega⟩).below hb, (P8c.out.more fun b hb h => ⟨trivial, h.1, h.2, by omega⟩).below hb, hw, HBa.out.trans (hb.mono HBa.out.size), HQ.out, HQo.out⟩)
  clear hw hb P7c P8c HBa HQ HQo
  generalize wa.heap.size = o at *
  go_wp2
  go_loopw [74] (fun i wr => ∃ k : Nat, k ≤ 4 ∧ i = .int .i64 k ∧ Hid (StI w (fun _ => True) q o s1 d1 v k wr)) (fun i _ => 4 - (intOf i).toNat)
  case atStart => exact ⟨0, by omega, rfl, HI⟩
  case round =>
    clear HI
    obtain ⟨k, hk, rfl, HI⟩ := hrel
    by_cases hlt : k < 4
    · skip
      have hki : (k : Int) < 4 := by omega
      have HK := Lib.hid hlt
      clear hk hlt
      have P7 := Lib.hid HI.out.p7
      go_wp2_with (with_reducible refine at_load_ (t := 57) ?_; refine get_at rfl _ rfl q rfl P7.out ?_)
      intro b1 b2 hm
      have HM := Lib.hid hm
      clear hm
      try simp only [Act.put, List.setIfInBounds_toArray, List.set_cons_zero, List.set_cons_succ]
      go_wp2_with fail
      refine (st_read (S := fun _ => True) (s := s1) ((rn : Int) + 1) (k : Int) (fun _ _ => trivial) (HM.out.more fun _ _ _ => trivial) (HR1.out.hA _) (HR1.out.few (by have := HL9.out; omega) _)).mono ?_
      rintro e wc ⟨rfl, hb⟩
      have HI1 := Lib.hid (HI.out.below hb)
      clear hb HM P7 HI
      rw [(HSD.out.read HR1.out.hc k HK.out).1, (HSD.out.read HR1.out.hc k HK.out).2]
      go_wp2_with fail
      obtain ⟨c1, c2, p0, hm0⟩ := HI1.out.p7
      have HM0 := Lib.hid (hm0.more (S' := fun _ => True) fun _ _ _ => trivial)
      refine wp_region_held_drew (S := fun W => W.heap[q]? = some (.cells (stoCells s1.c s1.n (.map c1) (.map c2) s1.B s1.T) 57 (0, 0))) (by kernel_rfl) p0 (fun hHeld => ?_)
      have HHD := Lib.hid hHeld
      have hbd : Below wc.heap.size wc wc.drew := (Below.refl _ _).drew
      have Id := Lib.hid (HI1.out.below hbd)
      have M0d := Lib.hid (HM0.out.below hbd)
      clear HI1 HM0
      clear hHeld hbd p0 hm0
      generalize wc.drew = wd at *
      refine wpAnyH_take (i := 0) (oi := ⟨some 85, _, _, _, _, _⟩) (v := s1.val c1 c2) rfl (by kernel_rfl) (by kernel_rfl) (by kernel_rfl) (fun _ _ _ h => h) (yields_sto (by rfl) _ rfl q rfl 57 (0, 0) (fun _ h => h)) HHD.out ?_
      try simp only [Act.put, List.setIfInBounds_toArray, List.set_cons_zero, List.set_cons_succ]
      refine wpAnyH_take (i := 1) (oi := ⟨some 86, _, _, _, _, _⟩) (v := s1.val c1 c2) rfl (by kernel_rfl) (by kernel_rfl) (by kernel_rfl) (fun _ _ _ h => h) (yields_sto (by rfl) _ rfl q rfl 57 (0, 0) (fun _ h => h)) HHD.out ?_
      try simp only [Act.put, List.setIfInBounds_toArray, List.set_cons_zero, List.set_cons_succ]
      refine wpAnyH_take (i := 3) (oi := ⟨some 88, _, _, _, _, _⟩) (v := .int .i64 k) rfl (by kernel_rfl) (by kernel_rfl) (by kernel_rfl) (fun _ _ _ h => h) (Or.inl ⟨by rfl, ?_⟩) HHD.out ?_
      · intro W' hW
        go_simp
      try simp only [Act.put, List.setIfInBounds_toArray, List.set_cons_zero, List.set_cons_succ]
      refine wpAnyH_ready (rs := [2]) (by kernel_rfl) (by simp) ?_
      refine AllReadyH.cons (o := ⟨some 87, _, _, _, _, _⟩) rfl (fun K hK => ?_) (AllReadyH.nil)
      go_simp
      refine (st_now (s := s1) (b1 := c1) (b2 := c2) wd).mono ?_
      rintro e we ⟨rfl, hb⟩
      have HHE := Lib.hid ((hb.block q (lt_of_block HHD.out)).trans HHD.out)
      have Ie := Lib.hid (Id.out.below hb)
      have M0e := Lib.hid (M0d.out.below hb)
      clear Id M0d HHD
      clear hb
      refine hK.out _ _ HHE.out (fun hHeldq => ?_)
      clear hK hHeldq
      try simp only [Act.put, List.setIfInBounds_toArray, List.set_cons_zero, List.set_cons_succ]
      refine wpAnyH_ready (rs := [4]) (by kernel_rfl) (by simp) ?_
      refine AllReadyH.cons (o := ⟨some 89, _, _, _, _, _⟩) rfl (fun K hK => ?_) (AllReadyH.nil)
      go_simp
      refine (st_at (S := fun _ => True) (s := s1) (b1 := c1) (b2 := c2) s1.n (k : Int) (fun _ _ => trivial) M0e.out (HR1.out.hA _) (HR1.out.few (by have := HL9.out; omega) _)).mono ?_
      rintro e wf ⟨he, hb⟩
      rw [(HAT.out k HK.out).1, (HAT.out k HK.out).2] at he
      subst he
      have HHF := Lib.hid ((hb.block q (lt_of_block HHE.out)).trans HHE.out)
      have If := Lib.hid (Ie.out.below hb)
      have M0f := Lib.hid (M0e.out.below hb)
      clear Ie M0e HHE
      clear hb
      refine hK.out _ _ HHF.out (fun hHeldq => ?_)
      clear hK hHeldq
      try simp only [Act.put, List.setIfInBounds_toArray, List.set_cons_zero, List.set_cons_succ]
      refine wpAnyH_take (i := 5) (oi := ⟨some 84, _, _, _, _, _⟩) (v := .tuple #[.int .i64 (v k), .bool true]) rfl (by kernel_rfl) (by kernel_rfl) (by kernel_rfl) (fun _ _ _ h => h) (Or.inl ⟨by rfl, ?_⟩) HHF.out ?_
      · intro W' hW
        go_simp
      try simp only [Act.put, List.setIfInBounds_toArray, List.set_cons_zero, List.set_cons_succ]
      refine wpAnyH_take (i := 6) (oi := ⟨some 90, _, _, _, _, _⟩) (v := .int .i64 (v k)) rfl (by kernel_rfl) (by kernel_rfl) (by kernel_rfl) (fun _ _ _ h => h) (Or.inl ⟨by rfl, ?_⟩) HHF.out ?_
      · intro W' hW
        go_simp
      try simp only [Act.put, List.setIfInBounds_toArray, List.set_cons_zero, List.set_cons_succ]
      refine wpAnyH_take (i := 7) (oi := ⟨some 91, _, _, _, _, _⟩) (v := .bool true) rfl (by kernel_rfl) (by kernel_rfl) (by kernel_rfl) (fun _ _ _ h => h) (Or.inl ⟨by rfl, ?_⟩) HHF.out ?_
      · intro W' hW
        go_simp
      try simp only [Act.put, List.setIfInBounds_toArray, List.set_cons_zero, List.set_cons_succ]
      refine wpAnyH_take (i := 8) (oi := ⟨some 16, _, _, _, _, _⟩) (v := .int .i64 (v k)) rfl (by kernel_rfl) (by kernel_rfl) (by kernel_rfl) (fun _ _ _ h => h) (Or.inl ⟨by rfl, ?_⟩) HHF.out ?_
      · intro W' hW
        go_simp
      try simp only [Act.put, List.setIfInBounds_toArray, List.set_cons_zero, List.set_cons_succ]
      refine wpAnyH_take (i := 9) (oi := ⟨some 17, _, _, _, _, _⟩) (v := .bool true) rfl (by kernel_rfl) (by kernel_rfl) (by kernel_rfl) (fun _ _ _ h => h) (Or.inl ⟨by rfl, ?_⟩) HHF.out ?_
      · intro W' hW
        go_simp
      try simp only [Act.put, List.setIfInBounds_toArray, List.set_cons_zero, List.set_cons_succ]
      refine wpAnyH_done (by kernel_rfl) ?_ _
      clear HHF M0f
      have w0 := If.out.cell k HK.out
      have hz : ∀ i, wf.frozen? ⟨o, i, none⟩ = false := fun i => not_frozen If.out.pw i
      have HIs := Lib.hid (If.out.was HK.out)
      clear If
      generalize hx : v k = x at *
      have HX := Lib.hid hx
      clear hx
      go_wp2
      go_roundw
      case rel => exact ⟨k + 1, HK.out, by go_num, HIs⟩
      case measure => exact meas_up _ _ HK.out
    · skip
      obtain rfl : k = 4 := by omega
      rw [show ((4 : Nat) : Int) = 4 from rfl]
      clear hk hlt HAT
      have HK2 := Lib.hid HL2.out.1
      have hnn : (n2 : Int) ≤ 60 := by have := HK2.out; have := H602.out; omega
      have HSD0 := HSD
      have HR0 := HR1
      clear HSD HR1
      go_wp2
      go_loopw [109] (fun i wr => ∃ k : Nat, k ≤ l2.length ∧ i = .int .i64 k ∧ ∃ s d, Hid (Rel 4 s d (60 + (k : Int))) ∧ Hid (Stand s rn v) ∧ Hid (StI w (fun _ => True) q o s d v 4 wr)) (fun i _ => l2.length - (intOf i).toNat)
      case atStart => exact ⟨0, by omega, rfl, s1, d1, Lib.hid (HR0.out.upto (by have := HL9.out; omega)), HSD0, HI⟩
      case round =>
        clear HI HSD0 HR0
        obtain ⟨k, hk, rfl, s, d, HREL, HSD, HI⟩ := hrel
        by_cases hlt : k < l2.length
        · skip
          have hi : (k : Int) < (n2 : Int) := by have := HK2.out; omega
          obtain ⟨bw, ow, rfl, hbw, hc⟩ := HL2.out.cell k hlt
          obtain ⟨c0, c1, c2, c3⟩ := hc wr HI.out.hB
          have HK := Lib.hid hlt
          have HK9 := Lib.hid (show 60 + (k : Int) ≤ 900 by have := H602.out; omega)
          have HY8 := Lib.hid (H82.out l2[k] (List.getElem_mem hlt))
          have HY := Lib.hid (((HL2.out.2.2 l2[k] (List.getElem_mem hlt)).more (S' := SY (fun _ => True) q o) fun b hb h => ⟨trivial, by have := HI.out.lt; omega, by have := HI.out.lt; omega, by have := HI.out.lt; omega⟩).below HI.out.hB)
          have hk0 : 0 ≤ l2[k].kind := (HL2.out.2.2 l2[k] (List.getElem_mem hlt)).1.1
          have hk1 : l2[k].kind ≤ 255 := (HL2.out.2.2 l2[k] (List.getElem_mem hlt)).1.2
          clear hc hk hbw
          generalize l2[k] = y at *
          clear hlt
          have hba : Below wr.heap.size wr (wr.alloc (.cells (saC y) 93)) := (Below.refl _ _).alloc (Nat.le_refl _) _
          have HIa := Lib.hid (HI.out.below hba)
          have HYa := Lib.hid (HY.out.below hba)
          have HE := Lib.hid (act_cells (heap_alloc_new wr (.cells (saC y) 93)))
          clear hba HI HY
          unfold saC at HIa HYa HE
          obtain ⟨e0, e1, e2, e3⟩ := HE.out
          clear HE
          have HW := Lib.hid (show (wr.alloc (.cells #[.int .u8 y.kind, .slice y.AW y.mw y.cw, .int .i64 y.num, .slice y.AR y.mr y.cr] 93)).heap.size = wr.heap.size + 1 by simp)
          have hskip : (y.kind % 6 = 4 ∧ y.num = (rn : Int) + 1) ∨ ¬ (y.kind % 6 = 4 ∧ y.num = (rn : Int) + 1) := Decidable.em _
          rcases hskip with ⟨h4, hnum⟩ | hno
          · skip
            have htm : y.kind.tmod 6 = 4 := tmod_u8 hk0 h4
            obtain ⟨kd, nm, AW, mw, cw, ws, AR, mr, cr, raw⟩ := y
            dsimp only at hnum htm h4 c0 c1 c2 c3 e0 e1 e2 e3 HIa
            subst hnum
            clear h4 HYa HY8 hk0 hk1
            go_wp2
            go_roundw
            case rel => exact ⟨k + 1, HK.out, by go_num, s, d, Lib.hid (HREL.out.upto (by omega)), HSD, HIa⟩
            case measure => exact meas_up _ _ HK.out
          · skip
            obtain ⟨r6, hr6⟩ : ∃ r6, y.kind % 6 = r6 := ⟨_, rfl⟩
            have htm : y.kind.tmod 6 = r6 := tmod_u8 hk0 hr6
            have HNO := Lib.hid hno
            by_cases h6 : r6 = 4
            · skip
              subst h6
              have hne : ¬ y.num = (rn : Int) + 1 := fun e => hno ⟨hr6, e⟩
              have hd1 : decide (y.num = (rn : Int) + 1) = false := decide_eq_false hne
              clear hno hr6
              go_wp2_with (with_reducible refine at_load_ (t := 57) ?_; refine Hid.out ?_)
              refine Lib.hid ?_
              clear c0 c1 c2 c3
              generalize wr.alloc (.cells #[.int .u8 y.kind, .slice y.AW y.mw y.cw, .int .i64 y.num, .slice y.AR y.mr y.cr] 93) = wa at *
              refine get_at rfl (.tmp 7) rfl q rfl HIa.out.p7 ?_
              intro b1 b2 hm1
              have HM1 := Lib.hid hm1
              clear hm1
              try simp only [Act.put, List.setIfInBounds_toArray, List.set_cons_zero, List.set_cons_succ]
              go_wp2_with (with_reducible refine at_load_ (t := 80) ?_; refine get_rat rfl _ rfl (q + 1) rfl HIa.out.p8 ?_)
              intro sa sv hd1
              have HD1 := Lib.hid hd1
              clear hd1
              try simp only [Act.put, List.setIfInBounds_toArray, List.set_cons_zero, List.set_cons_succ]
              go_wp2_with fail
              refine (do_any (S := SY (fun _ => True) q o) 4 s d (60 + (k : Int)) y b1 b2 sa sv wa (HIa.out.new fun _ _ => trivial) HREL.out HK9.out (by omega) (by omega) HM1.out HD1.out HYa.out HY8.out.1 HY8.out.2).mono ?_
              rintro e wb ⟨c5, c6, sa', sv', rfl, hm2, hd2, hb⟩
              have HQ := Lib.hid (show o < wb.heap.size from (HIa.out.below hb).in)
              have HIb := Lib.hid ((HIa.out.below hb).more (S' := fun b => True ∧ b ≠ wb.heap.size ∧ b ≠ wb.heap.size + 1) fun b hb h => ⟨h, by omega, by omega⟩)
              have HMo := Lib.hid (hm2.more (S' := fun b => SY (fun _ => True) q o b ∧ b ≠ wb.heap.size ∧ b ≠ wb.heap.size + 1) fun b hb h => ⟨h, by omega, by omega⟩)
              have HDo := Lib.hid (hd2.more (S' := fun b => SY (fun _ => True) q o b ∧ b ≠ wb.heap.size ∧ b ≠ wb.heap.size + 1) fun b hb h => ⟨h, by omega, by omega⟩)
              have HREL2 := Lib.hid (HREL.out.doF HK9.out y)
              have HSD2 := Lib.hid (HSD.out.doF HREL.out HK9.out y HNO.out)
              clear hm2 hd2 hb HIa HYa HM1 HD1 e0 e1 e2 e3 HREL HSD HNO HY8 hk0 hk1
              generalize doS 4 s d y = s2 at *
              generalize doD 4 s d y = d2 at *
              go_wp2_with (with_reducible refine at_alloc_ (t := 57) ?_; refine alloc_at (S := fun _ => False) rfl rfl ?_)
              intro wc hp hb hz
              have X12 := Lib.hid hp
              have HIc := Lib.hid (HIb.out.below hb)
              have HMp := Lib.hid (HMo.out.below hb)
              have HDp := Lib.hid (HDo.out.below hb)
              have HZ := Lib.hid hz
              clear hp hb hz HIb HMo HDo
              go_wp2_with (with_reducible refine at_alloc_ (t := 80) ?_; refine alloc_rd (S := fun _ => False) rfl rfl ?_)
              intro we hp hb hz
              rw [HZ.out] at hp
              rw [HZ.out]
              have X13 := Lib.hid hp
              have X12e := Lib.hid (X12.out.below hb)
              have HIe := Lib.hid (HIc.out.below hb)
              have HMq := Lib.hid (HMp.out.below hb)
              have HDq := Lib.hid (HDp.out.below hb)
              clear hp hb hz HIc HMp HDp X12 HZ
              generalize wb.heap.size = p at *
              go_wp2_with (with_reducible refine at_store_ (t := 57) ?_; refine Hid.out ?_)
              refine Lib.hid ?_
              refine put_at rfl (.tmp 20) (.tmp 129) rfl rfl p rfl rfl X12e.out HMq.out (fun h => h.2.1 rfl) ?_
              intro wf hp ht
              have Y12 := Lib.hid hp
              have Y13 := Lib.hid (ht.rat X13.out (by omega) (fun h => h))
              have HDr := Lib.hid (ht.mem HDq.out (fun h => h.2.1 rfl))
              have HIf := Lib.hid (HIe.out.touch ht HQ.out (fun h => h.2.1 rfl))
              clear hp ht X12e X13 HMq HDq HIe
              go_wp2_with (with_reducible refine at_store_ (t := 80) ?_; refine Hid.out ?_)
              refine Lib.hid ?_
              refine put_rd rfl (.tmp 21) (.tmp 130) rfl rfl (p + 1) rfl rfl Y13.out HDr.out (fun h => h.2.2 rfl) ?_
              intro wg hp ht
              have Z13 := Lib.hid hp
              have Z12 := Lib.hid (ht.at Y12.out (by omega) (fun h => h.2.2 rfl))
              have HIg := Lib.hid ((HIf.out.touch ht (by have := HQ.out; omega) (fun h => h.2.2 rfl)).more (S' := fun _ => True) fun b _ h => trivial)
              clear hp ht Y12 Y13 HDr HIf
              go_wp2_with fail
              obtain ⟨k1, k2, r1, hm1⟩ := Z12.out
              obtain ⟨l1, l3, r2, hm2⟩ := Z13.out
              refine wp_region_held_drew (S := fun W => W.heap[p]? = some (.cells (stoCells s2.c s2.n (.map k1) (.map k2) s2.B s2.T) 57 (0, 0)) ∧ W.heap[p + 1]? = some (.cells (rCells l1 l3 d2.R) 80 (0, 0))) (by kernel_rfl) ⟨r1, r2⟩ (fun hHeld => ?_)
              have HHD := Lib.hid hHeld
              have hbd : Below wg.heap.size wg wg.drew := (Below.refl _ _).drew
              have HMa := Lib.hid (hm1.below hbd)
              have HDa := Lib.hid (hm2.below hbd)
              have HIh := Lib.hid (HIg.out.below hbd)
              clear hHeld hbd r1 r2 hm1 hm2 Z12 Z13 HIg
              generalize wg.drew = wh at *
              refine wpAnyH_take (i := 0) (oi := ⟨some 134, _, _, _, _, _⟩) (v := s2.val k1 k2) rfl (by kernel_rfl) (by kernel_rfl) (by kernel_rfl) (fun _ _ _ h => h) (yields_sto (by rfl) _ rfl p rfl 57 (0, 0) (fun _ h => h.1)) HHD.out ?_
              try simp only [Act.put, List.setIfInBounds_toArray, List.set_cons_zero, List.set_cons_succ]
              refine wpAnyH_take (i := 1) (oi := ⟨some 135, _, _, _, _, _⟩) (v := d2.val l1 l3) rfl (by kernel_rfl) (by kernel_rfl) (by kernel_rfl) (fun _ _ _ h => h) (yields_rd (by rfl) _ rfl (p + 1) rfl 80 (0, 0) (fun _ h => h.2)) HHD.out ?_
              try simp only [Act.put, List.setIfInBounds_toArray, List.set_cons_zero, List.set_cons_succ]
              refine wpAnyH_ready (rs := [2]) (by kernel_rfl) (by simp) ?_
              refine AllReadyH.cons (o := ⟨none, _, _, _, _, _⟩) rfl (fun K hK => ?_) (AllReadyH.nil)
              refine Eq.mpr (if_pos (by kernel_rfl)) ?_
              refine wp_put_st (.tmp 7) (.tmp 134) rfl q rfl rfl HIh.out.p7 HMa.out (fun h => h.1.2.1 rfl) ?_
              intro wi hp ht
              have P7 := Lib.hid hp
              have HHI := Lib.hid (And.intro ((ht.block (by have := HIh.out.lt; have := HQ.out; omega)).trans HHD.out.1) ((ht.block (by have := HIh.out.lt; have := HQ.out; omega)).trans HHD.out.2))
              have HDb := Lib.hid (ht.mem HDa.out (fun h => h.1.2.1 rfl))
              have HT1 := Lib.hid ht
              clear hp ht HHD HMa HDa
              refine hK.out _ _ HHI.out (fun hHeldq => ?_)
              clear hK hHeldq
              try simp only [Act.put]
              refine wpAnyH_ready (rs := [3]) (by kernel_rfl) (by simp) ?_
              refine AllReadyH.cons (o := ⟨none, _, _, _, _, _⟩) rfl (fun K hK => ?_) (AllReadyH.nil)
              refine Eq.mpr (if_pos (by kernel_rfl)) ?_
              refine wp_put_rr (.tmp 8) (.tmp 135) rfl (q + 1) rfl rfl (HT1.out.rat HIh.out.p8 (by omega) (fun h => h.2.1 rfl)) HDb.out (fun h => h.1.2.2.1 rfl) ?_
              intro wj hp ht
              have HIj := Lib.hid (HIh.out.put HT1.out ht (P7.out.more fun b _ h => h.1) (hp.more fun b _ h => h.1))
              have HHJ := Lib.hid (And.intro ((ht.block (by have := HIh.out.lt; have := HQ.out; omega)).trans HHI.out.1) ((ht.block (by have := HIh.out.lt; have := HQ.out; omega)).trans HHI.out.2))
              clear hp ht HT1 P7 HHI HDb HIh
              refine hK.out _ _ HHJ.out (fun hHeldq => ?_)
              clear hK hHeldq
              try simp only [Act.put]
              refine wpAnyH_done (by kernel_rfl) ?_ _
              clear HHJ HQ
              have HRF := Lib.hid (show ∀ k' : Int, (s2.L k').length ≤ 1099511627776 from fun k' => by have := HREL2.out.hlen k'; have := HREL2.out.hnm; have := HK9.out; omega)
              by_cases hk3 : (k : Int) < (n3 : Int)
              · skip
                have hdk : decide (k < n3) = true := decide_eq_true (by omega)
                have P7 := Lib.hid HIj.out.p7
                go_wp2_with (with_reducible refine at_load_ (t := 57) ?_; refine get_at rfl _ rfl q rfl P7.out ?_)
                intro b1 b2 hm
                have HM := Lib.hid hm
                clear hm
                try simp only [Act.put, List.setIfInBounds_toArray, List.set_cons_zero, List.set_cons_succ]
                go_wp2_with fail
                refine (st_now (s := s2) (b1 := b1) (b2 := b2) wj).mono ?_
                rintro e wk ⟨rfl, hb⟩
                have HIk := Lib.hid (HIj.out.below hb)
                clear hb HM P7 HIj
                have P7 := Lib.hid HIk.out.p7
                go_wp2_with (with_reducible refine at_load_ (t := 57) ?_; refine get_at rfl _ rfl q rfl P7.out ?_)
                intro b1 b2 hm
                have HM := Lib.hid hm
                clear hm
                try simp only [Act.put, List.setIfInBounds_toArray, List.set_cons_zero, List.set_cons_succ]
                go_wp2_with fail
                refine (st_readers (s := s2) (b1 := b1) (b2 := b2) wk).mono ?_
                rintro e wl ⟨u, rfl, ho, hb⟩
                obtain ⟨As, cs, rfl, g1, g2, g3⟩ := own_reads ho (S := fun _ => True) (fun b hb => trivial)
                have HIl := Lib.hid (HIk.out.below hb)
                have HI2 := Lib.hid (show Ints wl (fun _ => True) As (rdL s2.B s2.T 8).length (rdI s2.B s2.T 8) from ⟨by rw [rdL_rdI, List.length_map], by have := g3; rw [rdL_rdI] at this ⊢; exact this⟩)
                have HRN := Lib.hid (show (rdL s2.B s2.T 8).length = (rdI s2.B s2.T 8).length by rw [rdL_rdI, List.length_map])
                have hr8 := rdL_le s2.B s2.T 8
                have HTR := Lib.hid (rdI_has s2.B s2.T rn 8 HSD2.out.hr HSD2.out.isO)
                generalize (rdL s2.B s2.T 8).length = mr at *
                generalize rdI s2.B s2.T 8 = rl at *
                have hmr : (mr : Int) ≤ 8 := by omega
                clear hb ho g1 g2 g3 HM P7 HIk hr8
                have hmin := fun (a b : Int) (W : World) => (show Sem.run Try.prog (Builtin.min_ #[2, 2] 2 #[.int .i64 a, .int .i64 b]) W = .ok (.int .i64 (if b < a then b else a)) W from rfl)
                go_wp2
                go_loopw [23, 145] (fun m i wx => ∃ (j : Nat) (x : Int), j ≤ rl.length ∧ i = .int .i64 j ∧ m = .int .i64 x ∧ (∀ z ∈ rl.take j, x ≤ z) ∧ wx = wl) (fun _ i _ => rl.length - (intOf i).toNat)
                case atStart => exact ⟨0, s2.n, by omega, rfl, rfl, fun z hz => by simp at hz, rfl⟩
                case round =>
                  obtain ⟨j, x, hj, rfl, rfl, hv, rfl⟩ := hrel
                  by_cases hjl : j < rl.length
                  · skip
                    have hji : (j : Int) < (mr : Int) := by have := HRN.out; omega
                    obtain ⟨bq, oq, rfl, _, _, hc⟩ := HI2.out.cell j hjl
                    have h2 := hc _ (Below.refl _ _)
                    have HV := Lib.hid (show ∀ z ∈ rl.take (j + 1), (if rl[j] < x then rl[j] else x) ≤ z from fun z hz => by
                      rw [List.take_succ_eq_append_getElem hjl] at hz
                      rcases List.mem_append.1 hz with hz | hz
                      · have := hv z hz; split <;> omega
                      · rw [List.mem_singleton.1 hz]; split <;> omega)
                    have HJ := Lib.hid hjl
                    have hm2 := fun W => hmin x rl[j] W
                    clear hc hv hj hmin
                    generalize rl[j] = y2 at *
                    generalize (if y2 < x then y2 else x) = z at *
                    go_wp2
                    go_roundw
                    case rel => exact ⟨j + 1, z, HJ.out, by go_num, rfl, HV.out, by first | rfl | trivial⟩
                    case measure => exact meas_up _ _ HJ.out
                  · skip
                    obtain rfl : j = rl.length := by omega
                    have hji : (mr : Int) ≤ (rl.length : Int) := by have := HRN.out; omega
                    rw [List.take_length] at hv
                    have HLE := Lib.hid (hv _ HTR.out)
                    clear hv hj hjl hmin HTR HI2 HRN
                    have hkl : k < bs.length := by have := H3.out.1; omega
                    obtain ⟨⟨bc, oc, rfl, hbc, hcc⟩, hc0, hc1⟩ := H3.out.cell k hkl
                    have x3 := hcc _ HIl.out.hB
                    have HBC := Lib.hid (show bc ≠ q by have := HIl.out.lt; omega)
                    clear hcc hbc
                    generalize bs[k] = cb at *
                    clear hkl
                    obtain ⟨r5, hr5⟩ : ∃ r5, cb % 5 = r5 := ⟨_, rfl⟩
                    have htm5 : cb.tmod 5 = r5 := tmod_u8 hc0 hr5
                    have hr50 : 0 ≤ r5 := by omega
                    have hr51 : r5 ≤ 4 := by omega
                    go_wp2_with fail
                    refine wp_region_held_drew (S := fun W => W.cell? ⟨bc, oc + k, none⟩ = some (.int .u8 cb)) (by kernel_rfl) x3 (fun hHeld => ?_)
                    have HHD := Lib.hid hHeld
                    have hbd : Below wr.heap.size wr wr.drew := (Below.refl _ _).drew
                    have HIm := Lib.hid (HIl.out.below hbd)
                    clear hHeld hbd HIl x3
                    generalize wr.drew = wm at *
                    refine wpAnyH_take (i := 1) (oi := ⟨some 154, _, _, _, _, _⟩) (v := .slice (some ⟨bc, oc, none⟩) n3 c3) rfl (by kernel_rfl) (by kernel_rfl) (by kernel_rfl) (fun _ _ _ h => h) (Or.inl ⟨by rfl, ?_⟩) HHD.out ?_
                    · intro W' hW
                      go_simp
                    try simp only [Act.put, List.setIfInBounds_toArray, List.set_cons_zero, List.set_cons_succ]
                    refine wpAnyH_take (i := 2) (oi := ⟨some 155, _, _, _, _, _⟩) (v := .int .i64 k) rfl (by kernel_rfl) (by kernel_rfl) (by kernel_rfl) (fun _ _ _ h => h) (Or.inl ⟨by rfl, ?_⟩) HHD.out ?_
                    · intro W' hW
                      go_simp
                    try simp only [Act.put, List.setIfInBounds_toArray, List.set_cons_zero, List.set_cons_succ]
                    refine wpAnyH_take (i := 3) (oi := ⟨some 156, _, _, _, _, _⟩) (v := .pointer (some ⟨bc, oc + k, none⟩)) rfl (by kernel_rfl) (by kernel_rfl) (by kernel_rfl) (fun _ _ _ h => h) (Or.inl ⟨by rfl, ?_⟩) HHD.out ?_
                    · intro W' hW
                      go_simp
                    try simp only [Act.put, List.setIfInBounds_toArray, List.set_cons_zero, List.set_cons_succ]
                    refine wpAnyH_take (i := 4) (oi := ⟨some 157, _, _, _, _, _⟩) (v := .int .u8 cb) rfl (by kernel_rfl) (by kernel_rfl) (by kernel_rfl) (fun _ _ _ h => h) (Or.inl ⟨by rfl, ?_⟩) HHD.out ?_
                    · intro W' hW
                      have hf := hW
                      go_simp
                    try simp only [Act.put, List.setIfInBounds_toArray, List.set_cons_zero, List.set_cons_succ]
                    refine wpAnyH_take (i := 5) (oi := ⟨some 158, _, _, _, _, _⟩) (v := .int .u8 r5) rfl (by kernel_rfl) (by kernel_rfl) (by kernel_rfl) (fun _ _ _ h => h) (Or.inl ⟨by rfl, ?_⟩) HHD.out ?_
                    · intro W' hW
                      go_simp
                    try simp only [Act.put, List.setIfInBounds_toArray, List.set_cons_zero, List.set_cons_succ]
                    refine wpAnyH_take (i := 6) (oi := ⟨some 159, _, _, _, _, _⟩) (v := .int .i64 r5) rfl (by kernel_rfl) (by kernel_rfl) (by kernel_rfl) (fun _ _ _ h => h) (Or.inl ⟨by rfl, ?_⟩) HHD.out ?_
                    · intro W' hW
                      go_simp
                      simp [IntKind.wrap, IntKind.bits, IntKind.signed]; omega
                    try simp only [Act.put, List.setIfInBounds_toArray, List.set_cons_zero, List.set_cons_succ]
                    refine wpAnyH_take (i := 7) (oi := ⟨some 160, _, _, _, _, _⟩) (v := .int .i64 x) rfl (by kernel_rfl) (by kernel_rfl) (by kernel_rfl) (fun _ _ _ h => h) (Or.inl ⟨by rfl, ?_⟩) HHD.out ?_
                    · intro W' hW
                      go_simp
                    try simp only [Act.put, List.setIfInBounds_toArray, List.set_cons_zero, List.set_cons_succ]
                    refine wpAnyH_ready (rs := [0]) (by kernel_rfl) (by simp) ?_
                    refine AllReadyH.cons (o := ⟨some 153, _, _, _, _, _⟩) rfl (fun K hK => ?_) (AllReadyH.nil)
                    refine Eq.mpr (if_pos (by kernel_rfl)) ?_
                    refine wp_get_st (.tmp 7) rfl q rfl HIm.out.p7 ?_
                    intro c1 c2 hm1
                    have HMm := Lib.hid hm1
                    clear hm1
                    refine hK.out _ _ HHD.out (fun hHeldq => ?_)
                    clear hK hHeldq
                    try simp only [Act.put, List.setIfInBounds_toArray, List.set_cons_zero, List.set_cons_succ]
                    refine wpAnyH_ready (rs := [8]) (by kernel_rfl) (by simp) ?_
                    refine AllReadyH.cons (o := ⟨some 161, _, _, _, _, _⟩) rfl (fun K hK => ?_) (AllReadyH.nil)
                    go_simp
                    refine (st_cut (S := SY (fun _ => True) q o) (s := s2) (b1 := c1) (b2 := c2) (w := wm) r5 x (HIm.out.new fun _ _ => trivial) HMm.out (HREL2.out.hA _) (HRF.out _)).mono ?_
                    rintro e wn ⟨b5, b6, rfl, hm, hb⟩
                    have HHN := Lib.hid ((hb.cell (p := ⟨bc, oc + k, none⟩) (World.block_lt_of_cell? _ _ HHD.out)).trans HHD.out)
                    have HIn := Lib.hid (HIm.out.below hb)
                    have HMn := Lib.hid hm
                    clear hb hm HMm HHD HIm
                    refine hK.out _ _ HHN.out (fun hHeldq => ?_)
                    clear hK hHeldq
                    try simp only [Act.put, List.setIfInBounds_toArray, List.set_cons_zero, List.set_cons_succ]
                    refine wpAnyH_ready (rs := [9]) (by kernel_rfl) (by simp) ?_
                    refine AllReadyH.cons (o := ⟨none, _, _, _, _, _⟩) rfl (fun K hK => ?_) (AllReadyH.nil)
                    refine Eq.mpr (if_pos (by kernel_rfl)) ?_
                    refine wp_put_st (.tmp 7) (.tmp 161) rfl q rfl rfl HIn.out.p7 HMn.out (fun h => h.2.1 rfl) ?_
                    intro wo hp ht
                    have HIo := Lib.hid (HIn.out.cut ht hp)
                    have HREL3 := Lib.hid (HREL2.out.cut r5 x)
                    have HSD3 := Lib.hid (HSD2.out.cut r5 x HLE.out HREL2.out.hA)
                    have HRF3 := Lib.hid (show ∀ k' : Int, ((s2.cut r5 x).L k').length ≤ 1099511627776 from fun k' => by have := HREL3.out.hlen k'; have := HREL3.out.hnm; have := HK9.out; omega)
                    have HHO := Lib.hid ((ht.cell (p := ⟨bc, oc + k, none⟩) HBC.out).trans HHN.out)
                    clear hp ht HIn HMn HREL2 HSD2 HRF HHN HLE HBC
                    refine hK.out _ _ HHO.out (fun hHeldq => ?_)
                    clear hK hHeldq
                    try simp only [Act.put]
                    refine wpAnyH_done (by kernel_rfl) ?_ _
                    clear HHO
                    generalize s2.cut r5 x = s3 at *
                    go_wp2
                    go_loopw [162] (fun i wx => ∃ j : Nat, j ≤ 4 ∧ i = .int .i64 j ∧ Hid (StI w (fun _ => True) q o s3 d2 v 4 wx)) (fun i _ => 4 - (intOf i).toNat)
                    case atStart => exact ⟨0, by omega, rfl, HIo⟩
                    case round =>
                      clear HIo
                      obtain ⟨j, hj, rfl, HI⟩ := hrel
                      by_cases hj4 : j < 4
                      · skip
                        have hji : (j : Int) < 4 := by omega
                        have HJ := Lib.hid hj4
                        clear hj hj4
                        have P7 := Lib.hid HI.out.p7
                        go_wp2_with (with_reducible refine at_load_ (t := 57) ?_; refine get_at rfl _ rfl q rfl P7.out ?_)
                        intro b1 b2 hm
                        have HM := Lib.hid hm
                        clear hm
                        try simp only [Act.put, List.setIfInBounds_toArray, List.set_cons_zero, List.set_cons_succ]
                        go_wp2_with fail
                        refine (st_read (S := fun _ => True) (s := s3) ((rn : Int) + 1) (j : Int) (fun _ _ => trivial) (HM.out.more fun _ _ _ => trivial) (HREL3.out.hA _) (HRF3.out _)).mono ?_
                        rintro e wy ⟨rfl, hb⟩
                        have HI1 := Lib.hid (HI.out.below hb)
                        clear hb HM P7 HI
                        rw [(HSD3.out.read HREL3.out.hc j HJ.out).1, (HSD3.out.read HREL3.out.hc j HJ.out).2]
                        have x4 := HI1.out.cell j HJ.out
                        rw [if_pos HJ.out] at x4
                        generalize v j = xv at *
                        go_wp2
                        go_roundw
                        case rel => exact ⟨j + 1, HJ.out, by go_num, HI1⟩
                        case measure => exact meas_up _ _ HJ.out
                      · skip
                        have hji : (4 : Int) ≤ (j : Int) := by omega
                        clear hj hj4
                        go_wp2
                        go_roundw
                        case rel => exact ⟨k + 1, HK.out, by go_num, s3, d2, HREL3, HSD3, HI⟩
                        case measure => exact meas_up _ _ HK.out
              · skip
                have hdk : decide (k < n3) = false := decide_eq_false (by omega)
                have hk3' : (n3 : Int) ≤ (k : Int) := by omega
                clear hk3
                go_wp2
                go_loopw [162] (fun i wx => ∃ j : Nat, j ≤ 4 ∧ i = .int .i64 j ∧ Hid (StI w (fun _ => True) q o s2 d2 v 4 wx)) (fun i _ => 4 - (intOf i).toNat)
                case atStart => exact ⟨0, by omega, rfl, HIj⟩
                case round =>
                  clear HIj
                  obtain ⟨j, hj, rfl, HI⟩ := hrel
                  by_cases hj4 : j < 4
                  · skip
                    have hji : (j : Int) < 4 := by omega
                    have HJ := Lib.hid hj4
                    clear hj hj4
                    have P7 := Lib.hid HI.out.p7
                    go_wp2_with (with_reducible refine at_load_ (t := 57) ?_; refine get_at rfl _ rfl q rfl P7.out ?_)
                    intro b1 b2 hm
                    have HM := Lib.hid hm
                    clear hm
                    try simp only [Act.put, List.setIfInBounds_toArray, List.set_cons_zero, List.set_cons_succ]
                    go_wp2_with fail
                    refine (st_read (S := fun _ => True) (s := s2) ((rn : Int) + 1) (j : Int) (fun _ _ => trivial) (HM.out.more fun _ _ _ => trivial) (HREL2.out.hA _) (HRF.out _)).mono ?_
                    rintro e wy ⟨rfl, hb⟩
                    have HI1 := Lib.hid (HI.out.below hb)
                    clear hb HM P7 HI
                    rw [(HSD2.out.read HREL2.out.hc j HJ.out).1, (HSD2.out.read HREL2.out.hc j HJ.out).2]
                    have x4 := HI1.out.cell j HJ.out
                    rw [if_pos HJ.out] at x4
                    generalize v j = xv at *
                    go_wp2
                    go_roundw
                    case rel => exact ⟨j + 1, HJ.out, by go_num, HI1⟩
                    case measure => exact meas_up _ _ HJ.out
                  · skip
                    have hji : (4 : Int) ≤ (j : Int) := by omega
                    clear hj hj4
                    go_wp2
                    go_roundw
                    case rel => exact ⟨k + 1, HK.out, by go_num, s2, d2, HREL2, HSD2, HI⟩
                    case measure => exact meas_up _ _ HK.out
            · skip
              have hd0 : decide (r6 = 4) = false := decide_eq_false h6
              clear hno hr6
              go_wp2_with (with_reducible refine at_load_ (t := 57) ?_; refine Hid.out ?_)
              refine Lib.hid ?_
              clear c0 c1 c2 c3
              generalize wr.alloc (.cells #[.int .u8 y.kind, .slice y.AW y.mw y.cw, .int .i64 y.num, .slice y.AR y.mr y.cr] 93) = wa at *
              refine get_at rfl (.tmp 7) rfl q rfl HIa.out.p7 ?_
              intro b1 b2 hm1
              have HM1 := Lib.hid hm1
              clear hm1
              try simp only [Act.put, List.setIfInBounds_toArray, List.set_cons_zero, List.set_cons_succ]
              go_wp2_with (with_reducible refine at_load_ (t := 80) ?_; refine get_rat rfl _ rfl (q + 1) rfl HIa.out.p8 ?_)
              intro sa sv hd1
              have HD1 := Lib.hid hd1
              clear hd1
              try simp only [Act.put, List.setIfInBounds_toArray, List.set_cons_zero, List.set_cons_succ]
              go_wp2_with fail
              refine (do_any (S := SY (fun _ => True) q o) 4 s d (60 + (k : Int)) y b1 b2 sa sv wa (HIa.out.new fun _ _ => trivial) HREL.out HK9.out (by omega) (by omega) HM1.out HD1.out HYa.out HY8.out.1 HY8.out.2).mono ?_
              rintro e wb ⟨c5, c6, sa', sv', rfl, hm2, hd2, hb⟩
              have HQ := Lib.hid (show o < wb.heap.size from (HIa.out.below hb).in)
              have HIb := Lib.hid ((HIa.out.below hb).more (S' := fun b => True ∧ b ≠ wb.heap.size ∧ b ≠ wb.heap.size + 1) fun b hb h => ⟨h, by omega, by omega⟩)
              have HMo := Lib.hid (hm2.more (S' := fun b => SY (fun _ => True) q o b ∧ b ≠ wb.heap.size ∧ b ≠ wb.heap.size + 1) fun b hb h => ⟨h, by omega, by omega⟩)
              have HDo := Lib.hid (hd2.more (S' := fun b => SY (fun _ => True) q o b ∧ b ≠ wb.heap.size ∧ b ≠ wb.heap.size + 1) fun b hb h => ⟨h, by omega, by omega⟩)
              have HREL2 := Lib.hid (HREL.out.doF HK9.out y)
              have HSD2 := Lib.hid (HSD.out.doF HREL.out HK9.out y HNO.out)
              clear hm2 hd2 hb HIa HYa HM1 HD1 e0 e1 e2 e3 HREL HSD HNO HY8 hk0 hk1
              generalize doS 4 s d y = s2 at *
              generalize doD 4 s d y = d2 at *
              go_wp2_with (with_reducible refine at_alloc_ (t := 57) ?_; refine alloc_at (S := fun _ => False) rfl rfl ?_)
              intro wc hp hb hz
              have X12 := Lib.hid hp
              have HIc := Lib.hid (HIb.out.below hb)
              have HMp := Lib.hid (HMo.out.below hb)
              have HDp := Lib.hid (HDo.out.below hb)
              have HZ := Lib.hid hz
              clear hp hb hz HIb HMo HDo
              go_wp2_with (with_reducible refine at_alloc_ (t := 80) ?_; refine alloc_rd (S := fun _ => False) rfl rfl ?_)
              intro we hp hb hz
              rw [HZ.out] at hp
              rw [HZ.out]
              have X13 := Lib.hid hp
              have X12e := Lib.hid (X12.out.below hb)
              have HIe := Lib.hid (HIc.out.below hb)
              have HMq := Lib.hid (HMp.out.below hb)
              have HDq := Lib.hid (HDp.out.below hb)
              clear hp hb hz HIc HMp HDp X12 HZ
              generalize wb.heap.size = p at *
              go_wp2_with (with_reducible refine at_store_ (t := 57) ?_; refine Hid.out ?_)
              refine Lib.hid ?_
              refine put_at rfl (.tmp 20) (.tmp 129) rfl rfl p rfl rfl X12e.out HMq.out (fun h => h.2.1 rfl) ?_
              intro wf hp ht
              have Y12 := Lib.hid hp
              have Y13 := Lib.hid (ht.rat X13.out (by omega) (fun h => h))
              have HDr := Lib.hid (ht.mem HDq.out (fun h => h.2.1 rfl))
              have HIf := Lib.hid (HIe.out.touch ht HQ.out (fun h => h.2.1 rfl))
              clear hp ht X12e X13 HMq HDq HIe
              go_wp2_with (with_reducible refine at_store_ (t := 80) ?_; refine Hid.out ?_)
              refine Lib.hid ?_
              refine put_rd rfl (.tmp 21) (.tmp 130) rfl rfl (p + 1) rfl rfl Y13.out HDr.out (fun h => h.2.2 rfl) ?_
              intro wg hp ht
              have Z13 := Lib.hid hp
              have Z12 := Lib.hid (ht.at Y12.out (by omega) (fun h => h.2.2 rfl))
              have HIg := Lib.hid ((HIf.out.touch ht (by have := HQ.out; omega) (fun h => h.2.2 rfl)).more (S' := fun _ => True) fun b _ h => trivial)
              clear hp ht Y12 Y13 HDr HIf
              go_wp2_with fail
              obtain ⟨k1, k2, r1, hm1⟩ := Z12.out
              obtain ⟨l1, l3, r2, hm2⟩ := Z13.out
              refine wp_region_held_drew (S := fun W => W.heap[p]? = some (.cells (stoCells s2.c s2.n (.map k1) (.map k2) s2.B s2.T) 57 (0, 0)) ∧ W.heap[p + 1]? = some (.cells (rCells l1 l3 d2.R) 80 (0, 0))) (by kernel_rfl) ⟨r1, r2⟩ (fun hHeld => ?_)
              have HHD := Lib.hid hHeld
              have hbd : Below wg.heap.size wg wg.drew := (Below.refl _ _).drew
              have HMa := Lib.hid (hm1.below hbd)
              have HDa := Lib.hid (hm2.below hbd)
              have HIh := Lib.hid (HIg.out.below hbd)
              clear hHeld hbd r1 r2 hm1 hm2 Z12 Z13 HIg
              generalize wg.drew = wh at *
              refine wpAnyH_take (i := 0) (oi := ⟨some 134, _, _, _, _, _⟩) (v := s2.val k1 k2) rfl (by kernel_rfl) (by kernel_rfl) (by kernel_rfl) (fun _ _ _ h => h) (yields_sto (by rfl) _ rfl p rfl 57 (0, 0) (fun _ h => h.1)) HHD.out ?_
              try simp only [Act.put, List.setIfInBounds_toArray, List.set_cons_zero, List.set_cons_succ]
              refine wpAnyH_take (i := 1) (oi := ⟨some 135, _, _, _, _, _⟩) (v := d2.val l1 l3) rfl (by kernel_rfl) (by kernel_rfl) (by kernel_rfl) (fun _ _ _ h => h) (yields_rd (by rfl) _ rfl (p + 1) rfl 80 (0, 0) (fun _ h => h.2)) HHD.out ?_
              try simp only [Act.put, List.setIfInBounds_toArray, List.set_cons_zero, List.set_cons_succ]
              refine wpAnyH_ready (rs := [2]) (by kernel_rfl) (by simp) ?_
              refine AllReadyH.cons (o := ⟨none, _, _, _, _, _⟩) rfl (fun K hK => ?_) (AllReadyH.nil)
              refine Eq.mpr (if_pos (by kernel_rfl)) ?_
              refine wp_put_st (.tmp 7) (.tmp 134) rfl q rfl rfl HIh.out.p7 HMa.out (fun h => h.1.2.1 rfl) ?_
              intro wi hp ht
              have P7 := Lib.hid hp
              have HHI := Lib.hid (And.intro ((ht.block (by have := HIh.out.lt; have := HQ.out; omega)).trans HHD.out.1) ((ht.block (by have := HIh.out.lt; have := HQ.out; omega)).trans HHD.out.2))
              have HDb := Lib.hid (ht.mem HDa.out (fun h => h.1.2.1 rfl))
              have HT1 := Lib.hid ht
              clear hp ht HHD HMa HDa
              refine hK.out _ _ HHI.out (fun hHeldq => ?_)
              clear hK hHeldq
              try simp only [Act.put]
              refine wpAnyH_ready (rs := [3]) (by kernel_rfl) (by simp) ?_
              refine AllReadyH.cons (o := ⟨none, _, _, _, _, _⟩) rfl (fun K hK => ?_) (AllReadyH.nil)
              refine Eq.mpr (if_pos (by kernel_rfl)) ?_
              refine wp_put_rr (.tmp 8) (.tmp 135) rfl (q + 1) rfl rfl (HT1.out.rat HIh.out.p8 (by omega) (fun h => h.2.1 rfl)) HDb.out (fun h => h.1.2.2.1 rfl) ?_
              intro wj hp ht
              have HIj := Lib.hid (HIh.out.put HT1.out ht (P7.out.more fun b _ h => h.1) (hp.more fun b _ h => h.1))
              have HHJ := Lib.hid (And.intro ((ht.block (by have := HIh.out.lt; have := HQ.out; omega)).trans HHI.out.1) ((ht.block (by have := HIh.out.lt; have := HQ.out; omega)).trans HHI.out.2))
              clear hp ht HT1 P7 HHI HDb HIh
              refine hK.out _ _ HHJ.out (fun hHeldq => ?_)
              clear hK hHeldq
              try simp only [Act.put]
              refine wpAnyH_done (by kernel_rfl) ?_ _
              clear HHJ HQ
              have HRF := Lib.hid (show ∀ k' : Int, (s2.L k').length ≤ 1099511627776 from fun k' => by have := HREL2.out.hlen k'; have := HREL2.out.hnm; have := HK9.out; omega)
              by_cases hk3 : (k : Int) < (n3 : Int)
              · skip
                have hdk : decide (k < n3) = true := decide_eq_true (by omega)
                have P7 := Lib.hid HIj.out.p7
                go_wp2_with (with_reducible refine at_load_ (t := 57) ?_; refine get_at rfl _ rfl q rfl P7.out ?_)
                intro b1 b2 hm
                have HM := Lib.hid hm
                clear hm
                try simp only [Act.put, List.setIfInBounds_toArray, List.set_cons_zero, List.set_cons_succ]
                go_wp2_with fail
                refine (st_now (s := s2) (b1 := b1) (b2 := b2) wj).mono ?_
                rintro e wk ⟨rfl, hb⟩
                have HIk := Lib.hid (HIj.out.below hb)
                clear hb HM P7 HIj
                have P7 := Lib.hid HIk.out.p7
                go_wp2_with (with_reducible refine at_load_ (t := 57) ?_; refine get_at rfl _ rfl q rfl P7.out ?_)
                intro b1 b2 hm
                have HM := Lib.hid hm
                clear hm
                try simp only [Act.put, List.setIfInBounds_toArray, List.set_cons_zero, List.set_cons_succ]
                go_wp2_with fail
                refine (st_readers (s := s2) (b1 := b1) (b2 := b2) wk).mono ?_
                rintro e wl ⟨u, rfl, ho, hb⟩
                obtain ⟨As, cs, rfl, g1, g2, g3⟩ := own_reads ho (S := fun _ => True) (fun b hb => trivial)
                have HIl := Lib.hid (HIk.out.below hb)
                have HI2 := Lib.hid (show Ints wl (fun _ => True) As (rdL s2.B s2.T 8).length (rdI s2.B s2.T 8) from ⟨by rw [rdL_rdI, List.length_map], by have := g3; rw [rdL_rdI] at this ⊢; exact this⟩)
                have HRN := Lib.hid (show (rdL s2.B s2.T 8).length = (rdI s2.B s2.T 8).length by rw [rdL_rdI, List.length_map])
                have hr8 := rdL_le s2.B s2.T 8
                have HTR := Lib.hid (rdI_has s2.B s2.T rn 8 HSD2.out.hr HSD2.out.isO)
                generalize (rdL s2.B s2.T 8).length = mr at *
                generalize rdI s2.B s2.T 8 = rl at *
                have hmr : (mr : Int) ≤ 8 := by omega
                clear hb ho g1 g2 g3 HM P7 HIk hr8
                have hmin := fun (a b : Int) (W : World) => (show Sem.run Try.prog (Builtin.min_ #[2, 2] 2 #[.int .i64 a, .int .i64 b]) W = .ok (.int .i64 (if b < a then b else a)) W from rfl)
                go_wp2
                go_loopw [23, 145] (fun m i wx => ∃ (j : Nat) (x : Int), j ≤ rl.length ∧ i = .int .i64 j ∧ m = .int .i64 x ∧ (∀ z ∈ rl.take j, x ≤ z) ∧ wx = wl) (fun _ i _ => rl.length - (intOf i).toNat)
                case atStart => exact ⟨0, s2.n, by omega, rfl, rfl, fun z hz => by simp at hz, rfl⟩
                case round =>
                  obtain ⟨j, x, hj, rfl, rfl, hv, rfl⟩ := hrel
                  by_cases hjl : j < rl.length
                  · skip
                    have hji : (j : Int) < (mr : Int) := by have := HRN.out; omega
                    obtain ⟨bq, oq, rfl, _, _, hc⟩ := HI2.out.cell j hjl
                    have h2 := hc _ (Below.refl _ _)
                    have HV := Lib.hid (show ∀ z ∈ rl.take (j + 1), (if rl[j] < x then rl[j] else x) ≤ z from fun z hz => by
                      rw [List.take_succ_eq_append_getElem hjl] at hz
                      rcases List.mem_append.1 hz with hz | hz
                      · have := hv z hz; split <;> omega
                      · rw [List.mem_singleton.1 hz]; split <;> omega)
                    have HJ := Lib.hid hjl
                    have hm2 := fun W => hmin x rl[j] W
                    clear hc hv hj hmin
                    generalize rl[j] = y2 at *
                    generalize (if y2 < x then y2 else x) = z at *
                    go_wp2
                    go_roundw
                    case rel => exact ⟨j + 1, z, HJ.out, by go_num, rfl, HV.out, by first | rfl | trivial⟩
                    case measure => exact meas_up _ _ HJ.out
                  · skip
                    obtain rfl : j = rl.length := by omega
                    have hji : (mr : Int) ≤ (rl.length : Int) := by have := HRN.out; omega
                    rw [List.take_length] at hv
                    have HLE := Lib.hid (hv _ HTR.out)
                    clear hv hj hjl hmin HTR HI2 HRN
                    have hkl : k < bs.length := by have := H3.out.1; omega
                    obtain ⟨⟨bc, oc, rfl, hbc, hcc⟩, hc0, hc1⟩ := H3.out.cell k hkl
                    have x3 := hcc _ HIl.out.hB
                    have HBC := Lib.hid (show bc ≠ q by have := HIl.out.lt; omega)
                    clear hcc hbc
                    generalize bs[k] = cb at *
                    clear hkl
                    obtain ⟨r5, hr5⟩ : ∃ r5, cb % 5 = r5 := ⟨_, rfl⟩
                    have htm5 : cb.tmod 5 = r5 := tmod_u8 hc0 hr5
                    have hr50 : 0 ≤ r5 := by omega
                    have hr51 : r5 ≤ 4 := by omega
                    go_wp2_with fail
                    refine wp_region_held_drew (S := fun W => W.cell? ⟨bc, oc + k, none⟩ = some (.int .u8 cb)) (by kernel_rfl) x3 (fun hHeld => ?_)
                    have HHD := Lib.hid hHeld
                    have hbd : Below wr.heap.size wr wr.drew := (Below.refl _ _).drew
                    have HIm := Lib.hid (HIl.out.below hbd)
                    clear hHeld hbd HIl x3
                    generalize wr.drew = wm at *
                    refine wpAnyH_take (i := 1) (oi := ⟨some 154, _, _, _, _, _⟩) (v := .slice (some ⟨bc, oc, none⟩) n3 c3) rfl (by kernel_rfl) (by kernel_rfl) (by kernel_rfl) (fun _ _ _ h => h) (Or.inl ⟨by rfl, ?_⟩) HHD.out ?_
                    · intro W' hW
                      go_simp
                    try simp only [Act.put, List.setIfInBounds_toArray, List.set_cons_zero, List.set_cons_succ]
                    refine wpAnyH_take (i := 2) (oi := ⟨some 155, _, _, _, _, _⟩) (v := .int .i64 k) rfl (by kernel_rfl) (by kernel_rfl) (by kernel_rfl) (fun _ _ _ h => h) (Or.inl ⟨by rfl, ?_⟩) HHD.out ?_
                    · intro W' hW
                      go_simp
                    try simp only [Act.put, List.setIfInBounds_toArray, List.set_cons_zero, List.set_cons_succ]
                    refine wpAnyH_take (i := 3) (oi := ⟨some 156, _, _, _, _, _⟩) (v := .pointer (some ⟨bc, oc + k, none⟩)) rfl (by kernel_rfl) (by kernel_rfl) (by kernel_rfl) (fun _ _ _ h => h) (Or.inl ⟨by rfl, ?_⟩) HHD.out ?_
                    · intro W' hW
                      go_simp
                    try simp only [Act.put, List.setIfInBounds_toArray, List.set_cons_zero, List.set_cons_succ]
                    refine wpAnyH_take (i := 4) (oi := ⟨some 157, _, _, _, _, _⟩) (v := .int .u8 cb) rfl (by kernel_rfl) (by kernel_rfl) (by kernel_rfl) (fun _ _ _ h => h) (Or.inl ⟨by rfl, ?_⟩) HHD.out ?_
                    · intro W' hW
                      have hf := hW
                      go_simp
                    try simp only [Act.put, List.setIfInBounds_toArray, List.set_cons_zero, List.set_cons_succ]
                    refine wpAnyH_take (i := 5) (oi := ⟨some 158, _, _, _, _, _⟩) (v := .int .u8 r5) rfl (by kernel_rfl) (by kernel_rfl) (by kernel_rfl) (fun _ _ _ h => h) (Or.inl ⟨by rfl, ?_⟩) HHD.out ?_
                    · intro W' hW
                      go_simp
                    try simp only [Act.put, List.setIfInBounds_toArray, List.set_cons_zero, List.set_cons_succ]
                    refine wpAnyH_take (i := 6) (oi := ⟨some 159, _, _, _, _, _⟩) (v := .int .i64 r5) rfl (by kernel_rfl) (by kernel_rfl) (by kernel_rfl) (fun _ _ _ h => h) (Or.inl ⟨by rfl, ?_⟩) HHD.out ?_
                    · intro W' hW
                      go_simp
                      simp [IntKind.wrap, IntKind.bits, IntKind.signed]; omega
                    try simp only [Act.put, List.setIfInBounds_toArray, List.set_cons_zero, List.set_cons_succ]
                    refine wpAnyH_take (i := 7) (oi := ⟨some 160, _, _, _, _, _⟩) (v := .int .i64 x) rfl (by kernel_rfl) (by kernel_rfl) (by kernel_rfl) (fun _ _ _ h => h) (Or.inl ⟨by rfl, ?_⟩) HHD.out ?_
                    · intro W' hW
                      go_simp
                    try simp only [Act.put, List.setIfInBounds_toArray, List.set_cons_zero, List.set_cons_succ]
                    refine wpAnyH_ready (rs := [0]) (by kernel_rfl) (by simp) ?_
                    refine AllReadyH.cons (o := ⟨some 153, _, _, _, _, _⟩) rfl (fun K hK => ?_) (AllReadyH.nil)
                    refine Eq.mpr (if_pos (by kernel_rfl)) ?_
                    refine wp_get_st (.tmp 7) rfl q rfl HIm.out.p7 ?_
                    intro c1 c2 hm1
                    have HMm := Lib.hid hm1
                    clear hm1
                    refine hK.out _ _ HHD.out (fun hHeldq => ?_)
                    clear hK hHeldq
                    try simp only [Act.put, List.setIfInBounds_toArray, List.set_cons_zero, List.set_cons_succ]
                    refine wpAnyH_ready (rs := [8]) (by kernel_rfl) (by simp) ?_
                    refine AllReadyH.cons (o := ⟨some 161, _, _, _, _, _⟩) rfl (fun K hK => ?_) (AllReadyH.nil)
                    go_simp
                    refine (st_cut (S := SY (fun _ => True) q o) (s := s2) (b1 := c1) (b2 := c2) (w := wm) r5 x (HIm.out.new fun _ _ => trivial) HMm.out (HREL2.out.hA _) (HRF.out _)).mono ?_
                    rintro e wn ⟨b5, b6, rfl, hm, hb⟩
                    have HHN := Lib.hid ((hb.cell (p := ⟨bc, oc + k, none⟩) (World.block_lt_of_cell? _ _ HHD.out)).trans HHD.out)
                    have HIn := Lib.hid (HIm.out.below hb)
                    have HMn := Lib.hid hm
                    clear hb hm HMm HHD HIm
                    refine hK.out _ _ HHN.out (fun hHeldq => ?_)
                    clear hK hHeldq
                    try simp only [Act.put, List.setIfInBounds_toArray, List.set_cons_zero, List.set_cons_succ]
                    refine wpAnyH_ready (rs := [9]) (by kernel_rfl) (by simp) ?_
                    refine AllReadyH.cons (o := ⟨none, _, _, _, _, _⟩) rfl (fun K hK => ?_) (AllReadyH.nil)
                    refine Eq.mpr (if_pos (by kernel_rfl)) ?_
                    refine wp_put_st (.tmp 7) (.tmp 161) rfl q rfl rfl HIn.out.p7 HMn.out (fun h => h.2.1 rfl) ?_
                    intro wo hp ht
                    have HIo := Lib.hid (HIn.out.cut ht hp)
                    have HREL3 := Lib.hid (HREL2.out.cut r5 x)
                    have HSD3 := Lib.hid (HSD2.out.cut r5 x HLE.out HREL2.out.hA)
                    have HRF3 := Lib.hid (show ∀ k' : Int, ((s2.cut r5 x).L k').length ≤ 1099511627776 from fun k' => by have := HREL3.out.hlen k'; have := HREL3.out.hnm; have := HK9.out; omega)
                    have HHO := Lib.hid ((ht.cell (p := ⟨bc, oc + k, none⟩) HBC.out).trans HHN.out)
                    clear hp ht HIn HMn HREL2 HSD2 HRF HHN HLE HBC
                    refine hK.out _ _ HHO.out (fun hHeldq => ?_)
                    clear hK hHeldq
                    try simp only [Act.put]
                    refine wpAnyH_done (by kernel_rfl) ?_ _
                    clear HHO
                    generalize s2.cut r5 x = s3 at *
                    go_wp2
                    go_loopw [162] (fun i wx => ∃ j : Nat, j ≤ 4 ∧ i = .int .i64 j ∧ Hid (StI w (fun _ => True) q o s3 d2 v 4 wx)) (fun i _ => 4 - (intOf i).toNat)
                    case atStart => exact ⟨0, by omega, rfl, HIo⟩
                    case round =>
                      clear HIo
                      obtain ⟨j, hj, rfl, HI⟩ := hrel
                      by_cases hj4 : j < 4
                      · skip
                        have hji : (j : Int) < 4 := by omega
                        have HJ := Lib.hid hj4
                        clear hj hj4
                        have P7 := Lib.hid HI.out.p7
                        go_wp2_with (with_reducible refine at_load_ (t := 57) ?_; refine get_at rfl _ rfl q rfl P7.out ?_)
                        intro b1 b2 hm
                        have HM := Lib.hid hm
                        clear hm
                        try simp only [Act.put, List.setIfInBounds_toArray, List.set_cons_zero, List.set_cons_succ]
                        go_wp2_with fail
                        refine (st_read (S := fun _ => True) (s := s3) ((rn : Int) + 1) (j : Int) (fun _ _ => trivial) (HM.out.more fun _ _ _ => trivial) (HREL3.out.hA _) (HRF3.out _)).mono ?_
                        rintro e wy ⟨rfl, hb⟩
                        have HI1 := Lib.hid (HI.out.below hb)
                        clear hb HM P7 HI
                        rw [(HSD3.out.read HREL3.out.hc j HJ.out).1, (HSD3.out.read HREL3.out.hc j HJ.out).2]
                        have x4 := HI1.out.cell j HJ.out
                        rw [if_pos HJ.out] at x4
                        generalize v j = xv at *
                        go_wp2
                        go_roundw
                        case rel => exact ⟨j + 1, HJ.out, by go_num, HI1⟩
                        case measure => exact meas_up _ _ HJ.out
                      · skip
                        have hji : (4 : Int) ≤ (j : Int) := by omega
                        clear hj hj4
                        go_wp2
                        go_roundw
                        case rel => exact ⟨k + 1, HK.out, by go_num, s3, d2, HREL3, HSD3, HI⟩
                        case measure => exact meas_up _ _ HK.out
              · skip
                have hdk : decide (k < n3) = false := decide_eq_false (by omega)
                have hk3' : (n3 : Int) ≤ (k : Int) := by omega
                clear hk3
                go_wp2
                go_loopw [162] (fun i wx => ∃ j : Nat, j ≤ 4 ∧ i = .int .i64 j ∧ Hid (StI w (fun _ => True) q o s2 d2 v 4 wx)) (fun i _ => 4 - (intOf i).toNat)
                case atStart => exact ⟨0, by omega, rfl, HIj⟩
                case round =>
                  clear HIj
                  obtain ⟨j, hj, rfl, HI⟩ := hrel
                  by_cases hj4 : j < 4
                  · skip
                    have hji : (j : Int) < 4 := by omega
                    have HJ := Lib.hid hj4
                    clear hj hj4
                    have P7 := Lib.hid HI.out.p7
                    go_wp2_with (with_reducible refine at_load_ (t := 57) ?_; refine get_at rfl _ rfl q rfl P7.out ?_)
                    intro b1 b2 hm
                    have HM := Lib.hid hm
                    clear hm
                    try simp only [Act.put, List.setIfInBounds_toArray, List.set_cons_zero, List.set_cons_succ]
                    go_wp2_with fail
                    refine (st_read (S := fun _ => True) (s := s2) ((rn : Int) + 1) (j : Int) (fun _ _ => trivial) (HM.out.more fun _ _ _ => trivial) (HREL2.out.hA _) (HRF.out _)).mono ?_
                    rintro e wy ⟨rfl, hb⟩
                    have HI1 := Lib.hid (HI.out.below hb)
                    clear hb HM P7 HI
                    rw [(HSD2.out.read HREL2.out.hc j HJ.out).1, (HSD2.out.read HREL2.out.hc j HJ.out).2]
                    have x4 := HI1.out.cell j HJ.out
                    rw [if_pos HJ.out] at x4
                    generalize v j = xv at *
                    go_wp2
                    go_roundw
                    case rel => exact ⟨j + 1, HJ.out, by go_num, HI1⟩
                    case measure => exact meas_up _ _ HJ.out
                  · skip
                    have hji : (4 : Int) ≤ (j : Int) := by omega
                    clear hj hj4
                    go_wp2
                    go_roundw
                    case rel => exact ⟨k + 1, HK.out, by go_num, s2, d2, HREL2, HSD2, HI⟩
                    case measure => exact meas_up _ _ HK.out
        · skip
          obtain rfl : k = l2.length := by omega
          have hi : (n2 : Int) ≤ (l2.length : Int) := by have := HK2.out; omega
          have HBr := Lib.hid HI.out.hB
          clear hk hlt HI HREL HSD
          go_wp2_with fail
          refine (awake_snap wr).mono ?_
          rintro e wz ⟨rfl, hb⟩
          have HBZ := Lib.hid (HBr.out.trans (hb.mono HBr.out.size))
          clear hb HBr
          go_wp2
          go_ret
          exact ⟨rfl, HBZ.out⟩

theorem stands_any (A A2 A3 : Option Addr) (n c n2 c2 n3 c3 : Nat) (l l2 : List SA) (bs : List Int) (w : World) (hl : SAs w (fun _ => True) A n l) (hl2 : SAs w (fun _ => True) A2 n2 l2) (h3 : Byts w A3 n3 bs) (hlen : l.length ≤ 9223372036854775807) (hlen2 : l2.length ≤ 9223372036854775807) (hlen3 : n3 ≤ 9223372036854775807) :
    Calls Try.prog 12 #[.slice A n c, .slice A2 n2 c2, .slice A3 n3 c3] w fun e w' => e = .returned (.bool true) ∧ Below w.heap.size w w' := by
  cases hf : fewB l with
  | false => exact stands_g1 A A2 A3 n c n2 c2 n3 c3 l l2 bs w hl hl2 h3 hlen hlen2 hlen3 hf
  | true =>
    cases hf2 : fewB l2 with
    | false => exact stands_g2 A A2 A3 n c n2 c2 n3 c3 l l2 bs w hl hl2 h3 hlen hlen2 hlen3 hf hf2
    | true =>
      by_cases hn3 : n3 ≤ 60
      · by_cases hfree : (playF 4 l).1.free < 8
        · exact stands_ok A A2 A3 n c n2 c2 n3 c3 l l2 bs w hl hl2 h3 hlen hlen2 hlen3 hf hf2 hn3 hfree
        · exact stands_full A A2 A3 n c n2 c2 n3 c3 l l2 bs w hl hl2 h3 hlen hlen2 hlen3 hf hf2 hn3 hfree
      · exact stands_g3 A A2 A3 n c n2 c2 n3 c3 l l2 bs w hl hl2 h3 hlen hlen2 hlen3 hf hf2 (by omega)
end Go.Proofs.Ytpejhgkcofilmaa
