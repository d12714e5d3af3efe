/- The walk of the law's Is: true for a list and the same versions of the reference. Conditions: stamps ascend; at most 2^40 versions. -/
import Derived.Test.YtpejhgkcofilmaaVerF
set_option linter.unusedVariables false
namespace Go.Proofs.Ytpejhgkcofilmaa
open Go.RowKit

theorem aft_self (l : List (Int × Int)) (ha : Asc l) (k : Nat) (hk : k < l.length) : aft l l[k].1 = k + 1 := by
  have h1 := (aft_pos l l[k].1 ha k hk).1 (Int.le_refl _)
  have h2 := aft_le l l[k].1
  rcases Nat.lt_or_ge (k + 1) (aft l l[k].1) with h | h
  · have h3 := (aft_pos l l[k].1 ha (k + 1) (by omega)).2 h
    have h4 := List.pairwise_iff_getElem.1 ha k (k + 1) hk (by omega) (by omega)
    omega
  · omega
theorem see_self (l : List (Int × Int)) (ha : Asc l) (k : Nat) (hk : k < l.length) : seeV l l[k].1 = l[k].2 ∧ seeB l l[k].1 = true := by
  have := aft_self l ha k hk
  constructor
  · simp [seeV, this, hk]
  · simp [seeB, this]
theorem stV_get (l : List (Int × Int)) (k : Nat) (hk : k < l.length) : (stV l)[k]? = some (.int .i64 l[k].1) := by simp [stV, hk]

set_option maxRecDepth 100000 in
set_option maxHeartbeats 3200000 in
theorem is_cons {S S2 : Nat → Prop} (A M : Option Addr) (n c cm : Nat) (l : List (Int × Int)) (w : World) (hl : Ones w S A n l) (hm : Ones w S2 M n l) (ha : Asc l) (hn : l.length ≤ 1099511627776) (m : Nat) (hnm : n = m + 1) :
    Calls Try.prog 57 #[.agg #[.slice A n c], .slice M n cm] w fun e w' => e = .returned (.bool true) ∧ Below w.heap.size w w' := by
  have HL := Lib.hid hl
  have HLEN := Lib.hid hl.1
  have C1 := Lib.hid (stamps_any A n c l _ (show Ones (w.alloc (.cells #[.slice A n c] 27)) S A n l from hl.alloc _) hn)
  have C2 := Lib.hid fun (W : World) (s : Int) (hb : Below w.heap.size w W) => at_any A n c l s W (HL.out.below hb) ha hn
  have C3 := Lib.hid fun (W : World) (hb : Below w.heap.size w W) => last_any A n c l W (HL.out.below hb) hn
  have HM := Lib.hid hm
  have hmn : (m : Int) ≤ 1099511627776 := by have := hl.1; omega
  have HN := Lib.hid hn
  clear hm hl hn
  subst hnm
  go_enter Try.func57, Try.ntmps57
  go_wp2_with fail
  refine C1.out.mono ?_
  rintro e w1 ⟨v, rfl, ho, hb1⟩
  obtain ⟨As, cs, rfl, g1, g2, g3⟩ := own_reads ho (S := fun b => w.heap.size ≤ b) (fun b hb => by simp at hb; omega)
  have hbw : Below w.heap.size w w1 := below_new hb1
  have q0 : w1.cell? ⟨w.heap.size, 0, none⟩ = some (.slice A (m + 1) c) := cell_later hb1 (by rw [World.cell?_alloc_at _ _ _ _ rfl]; rfl)
  clear ho hb1
  have H3 := Lib.hid g3
  clear g3
  go_wp2_with fail
  refine (len_any A (m + 1) c w1).mono ?_
  rintro e w2 ⟨rfl, hb2⟩
  have q1 := cell_later hb2 q0
  have hbw2 : Below w.heap.size w w2 := hbw.trans (hb2.mono hbw.size)
  have H4 := Lib.hid (H3.out.below hb2)
  clear H3 q0 hb2 hbw
  go_wp2
  go_loopw [29] (fun i wr => ∃ k : Nat, k ≤ m + 1 ∧ i = .int .i64 k ∧ Below w2.heap.size w2 wr) (fun i _ => m + 1 - (intOf i).toNat)
  case atStart => exact ⟨0, Nat.zero_le _, rfl, Below.refl _ _⟩
  case round =>
    obtain ⟨k, hk, rfl, hbr⟩ := hrel
    have hbw3 : Below w.heap.size w wr := hbw2.trans (hbr.mono hbw2.size)
    have q2 := cell_later hbr q1
    have q2a := fun o => (World.cell?_alloc_lt wr o _ (World.block_lt_of_cell? wr _ q2)).trans q2
    by_cases hlt : k < m + 1
    · have hkl : k < l.length := by rw [← HLEN.out]; exact hlt
      obtain ⟨b, o, rfl, hbb, hcell⟩ := HM.out.later k hkl
      have h1 := (hcell wr hbw3).1
      have h2 := (hcell wr hbw3).2
      obtain ⟨bs, os, rfl, hbs, _, hsc⟩ := H4.out.2 (by omega)
      have h3 : wr.cell? ⟨bs, os + k, none⟩ = some (.int .i64 l[k].1) := (hbr.cell (p := ⟨bs, os + k, none⟩) hbs).trans (hsc k _ (stV_get l k hkl))
      have C4 := Lib.hid (C2.out ((wr.alloc (.cells #[.int .i64 l[k].1, .int .i64 l[k].2] 35))) l[k].1 (hbw3.alloc hbw3.size _))
      have C5 := Lib.hid (show Calls Try.prog _ _ _ _ by have := C4.out; rw [(see_self l ha k hkl).1, (see_self l ha k hkl).2] at this; exact this)
      clear C4 hcell hsc
      generalize l[k] = p at *
      obtain ⟨x, y⟩ := p
      have hi : (k : Int) < (m : Int) + 1 := by omega
      have hi0 : (0 : Int) ≤ (k : Int) := by omega
      have tx : (x != x) = false := by simp
      have ty : (y != y) = false := by simp
      go_wp2_with fail
      refine C5.out.mono ?_
      rintro e w3 ⟨rfl, hb3⟩
      have q3 : w3.cell? ⟨wr.heap.size, 0, none⟩ = some (.int .i64 x) := cell_later hb3 (by rw [World.cell?_alloc_at _ _ _ _ rfl]; rfl)
      have q4 : w3.cell? ⟨wr.heap.size, 1, none⟩ = some (.int .i64 y) := cell_later hb3 (by rw [World.cell?_alloc_at _ _ _ _ rfl]; rfl)
      have hbr3 : Below w2.heap.size w2 w3 := hbr.trans ((below_new hb3).mono hbr.size)
      have q5 := cell_later hb3 (q2a _)
      have h4 : w3.cell? ⟨bs, os + k, none⟩ = some (.int .i64 x) := cell_later (below_new hb3) h3
      clear h1 h2 h3 q2 q2a hb3 q1
      go_wp2
      go_quiet (fail)
      go_wp2
      go_roundw
      case rel => exact ⟨k + 1, by omega, by go_num, below_drewN hbr3 _⟩
      case measure => simp [intOf]; omega
    · obtain rfl : k = m + 1 := by omega
      have C4 := C3.out wr hbw3
      obtain ⟨hkl, hP⟩ := lastP_get l m (by rw [← HLEN.out])
      obtain ⟨b, o, rfl, hbb, hcell⟩ := HM.out.later m hkl
      have C5 : Calls Try.prog _ _ _ _ := C4
      rw [hP, show (!l.isEmpty) = true by rw [isEmpty_no l (by rw [← HLEN.out]; omega)]; rfl] at C5
      have C6 := Lib.hid C5
      clear C4 C5 hP hlt hk H4 HM
      generalize l[m] = p at *
      obtain ⟨x, y⟩ := p
      have HC := Lib.hid hcell
      clear hcell hkl
      go_wp2_with fail
      refine C6.out.mono ?_
      rintro e w3 ⟨rfl, hb3⟩
      have hbw4 := hbw3.trans (hb3.mono hbw3.size)
      have h1 := (HC.out w3 hbw4).1
      have h2 := (HC.out w3 hbw4).2
      have t0 : ((m : Int) + 1 == 0) = false := by simp; omega
      have tx : (x == x) = true := by simp
      have ty : (y == y) = true := by simp
      clear q1 q2 q2a
      go_wp2
      go_ret
      exact ⟨rfl, hbw4⟩

set_option maxRecDepth 100000 in
set_option maxHeartbeats 1600000 in
theorem is_nil {S S2 : Nat → Prop} (A M : Option Addr) (c cm : Nat) (w : World) (hl : Ones w S A 0 []) (hm : Ones w S2 M 0 []) :
    Calls Try.prog 57 #[.agg #[.slice A 0 c], .slice M 0 cm] w fun e w' => e = .returned (.bool true) ∧ Below w.heap.size w w' := by
  have HL := Lib.hid hl
  have C1 := Lib.hid (stamps_any A 0 c [] _ (show Ones (w.alloc (.cells #[.slice A 0 c] 27)) S A 0 [] from hl.alloc _) (by simp))
  have C3 := Lib.hid fun (W : World) (hb : Below w.heap.size w W) => last_any A 0 c [] W (HL.out.below hb) (by simp)
  clear hm hl
  go_enter Try.func57, Try.ntmps57
  go_wp2_with fail
  refine C1.out.mono ?_
  rintro e w1 ⟨v, rfl, ho, hb1⟩
  obtain ⟨As, cs, rfl, g1, g2, g3⟩ := own_reads ho (S := fun b => w.heap.size ≤ b) (fun b hb => by simp at hb; omega)
  have hbw : Below w.heap.size w w1 := below_new hb1
  have q0 : w1.cell? ⟨w.heap.size, 0, none⟩ = some (.slice A 0 c) := cell_later hb1 (by rw [World.cell?_alloc_at _ _ _ _ rfl]; rfl)
  clear ho hb1 g3
  go_wp2_with fail
  refine (len_any A 0 c w1).mono ?_
  rintro e w2 ⟨rfl, hb2⟩
  have q1 := cell_later hb2 q0
  have hbw2 : Below w.heap.size w w2 := hbw.trans (hb2.mono hbw.size)
  clear q0 hb2 hbw
  go_wp2
  refine wp_loop_rounds 1 ?_
  rw [rounds_succ]
  go_wp2_with fail
  refine (C3.out w2 hbw2).mono ?_
  rintro e w3 ⟨rfl, hb3⟩
  have hbw4 := hbw2.trans (hb3.mono hbw2.size)
  go_wp2
  go_ret
  exact ⟨rfl, hbw4⟩

theorem is_any {S S2 : Nat → Prop} (A M : Option Addr) (n n2 c cm : Nat) (l : List (Int × Int)) (w : World) (hl : Ones w S A n l) (hm : Ones w S2 M n2 l) (ha : Asc l) (hn : l.length ≤ 1099511627776) :
    Calls Try.prog 57 #[.agg #[.slice A n c], .slice M n2 cm] w fun e w' => e = .returned (.bool true) ∧ Below w.heap.size w w' := by
  obtain rfl : n = n2 := by rw [hl.1, hm.1]
  rcases Nat.eq_zero_or_pos n with h0 | h0
  · obtain rfl : l = [] := List.eq_nil_of_length_eq_zero (by rw [← hl.1]; exact h0)
    subst h0
    exact is_nil A M c cm w hl hm
  · exact is_cons A M n c cm l w hl hm ha hn (n - 1) (by omega)
end Go.Proofs.Ytpejhgkcofilmaa
