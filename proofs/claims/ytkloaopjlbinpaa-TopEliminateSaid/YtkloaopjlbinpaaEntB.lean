/- The walks of entry.Check and of slices.ContainsFunc, slices.IndexFunc as it calls them. Conditions: the entries' numbers are of their kinds; fewer than 2^40 entries. -/
import Derived.Test.YtkloaopjlbinpaaEntA
set_option linter.unusedVariables false
namespace Go.Proofs.Ytkloaopjlbinpaa
open Go.RowKit

set_option maxRecDepth 100000 in
set_option maxHeartbeats 1600000 in
theorem same_any (y x : Ent) (bx : Nat) (w : World) (hx : EBox w bx x) :
    Calls Try.prog 49 #[entV y, .pointer (some ⟨bx, 0, none⟩)] w fun e w' => e = .returned (.bool (y.loc == x.loc)) ∧ Below w.heap.size w w' := by
  have f0 := hx.all.1
  have g0 := fun o => (hx.alloc o).all.1
  obtain ⟨y0, y1, y2, y3, y4, y5⟩ := y
  obtain ⟨x0, x1, x2, x3, x4, x5⟩ := x
  unfold entV
  dsimp only at f0 g0 ⊢
  clear hx
  go_enter Try.func49, Try.ntmps49
  go_wp2
  go_ret
  exact ⟨rfl, (Below.refl _ _).alloc (Nat.le_refl _) _⟩

set_option maxRecDepth 100000 in
set_option maxHeartbeats 1600000 in
theorem idx_any {S : Nat → Prop} (A : Option Addr) (n c : Nat) (l : List Ent) (x : Ent) (bx : Nat) (w : World) (hl : Ents w S A n l) (hx : EBox w bx x) (hn : n ≤ 1099511627776) :
    Calls Try.prog 53 #[.slice A n c, .func (.func 49) #[] #[.pointer (some ⟨bx, 0, none⟩)]] w fun e w' =>
      ∃ r : Int, e = .returned (.int .i64 r) ∧ decide (0 ≤ r) = (l.any fun y => y.loc == x.loc) ∧ Below w.heap.size w w' := by
  have HLN := Lib.hid hl.1
  have HL := Lib.hid fun k hk => hl.at k hk
  have HX := Lib.hid hx
  clear hl hx
  go_enter Try.func53, Try.ntmps53
  go_wp2
  go_loopw [8] (fun i wr => ∃ k : Nat, k ≤ n ∧ i = .int .i64 k ∧ (∀ j y, l[j]? = some y → j < k → (y.loc == x.loc) = false) ∧ Below w.heap.size w wr) (fun i _ => n - (intOf i).toNat)
  case atStart => exact ⟨0, by omega, rfl, fun j _ _ h => absurd h (by omega), Below.refl _ _⟩
  case round =>
    obtain ⟨k, hk, rfl, hno, hb⟩ := hrel
    by_cases hlt : k < n
    · obtain ⟨y, b, o, hy, rfl, hbb, hSb, hcell⟩ := HL.out k hlt
      obtain ⟨f0, f1, f2, f3, f4, f5⟩ := hcell wr hb
      have C := Lib.hid (same_any y x bx wr (HX.out.below hb))
      have HN := Lib.hid hno
      have HB := Lib.hid hb
      have hi0 : (0 : Int) ≤ (k : Int) := by omega
      have hi1 : (k : Int) < (n : Int) := by omega
      have HY := Lib.hid hy
      unfold entV at C
      clear hy hcell hno hb
      cases hq : (y.loc == x.loc) with
      | false =>
        rw [hq] at C
        have HQ := Lib.hid hq
        clear hq
        go_wp2_with fail
        refine C.out.mono ?_
        rintro e w1 ⟨rfl, hb1⟩
        go_wp2
        go_roundw
        case rel =>
          refine ⟨k + 1, by omega, by go_num, fun j z hj h => ?_, HB.out.trans (hb1.mono HB.out.size)⟩
          by_cases hjk : j = k
          · subst hjk; rw [HY.out] at hj; cases hj; exact HQ.out
          · exact HN.out j z hj (by omega)
        case measure => simp [intOf]; omega
      | true =>
        rw [hq] at C
        have HQ := Lib.hid hq
        clear hq
        go_wp2_with fail
        refine C.out.mono ?_
        rintro e w1 ⟨rfl, hb1⟩
        go_wp2
        go_ret
        refine ⟨k, rfl, ?_, HB.out.trans (hb1.mono HB.out.size)⟩
        rw [decide_eq_true (by omega : (0 : Int) ≤ (k : Int))]
        symm
        rw [List.any_eq_true]
        exact ⟨y, List.mem_of_getElem? HY.out, HQ.out⟩
    · have hkn : ¬ ((k : Int) < (n : Int)) := by omega
      go_wp2
      go_ret
      refine ⟨-1, rfl, ?_, hb⟩
      rw [decide_eq_false (by omega : ¬ (0 : Int) ≤ -1)]
      symm
      rw [List.any_eq_false]
      intro y hy
      obtain ⟨j, hj, hjy⟩ := List.getElem_of_mem hy
      rw [hno j y (by rw [List.getElem?_eq_getElem hj, hjy]) (by have := HLN.out; omega)]
      simp

set_option maxRecDepth 100000 in
set_option maxHeartbeats 1600000 in
theorem has_any {S : Nat → Prop} (A : Option Addr) (n c : Nat) (l : List Ent) (x : Ent) (bx : Nat) (w : World) (hl : Ents w S A n l) (hx : EBox w bx x) (hn : n ≤ 1099511627776) :
    Calls Try.prog 48 #[.slice A n c, .func (.func 49) #[] #[.pointer (some ⟨bx, 0, none⟩)]] w fun e w' =>
      e = .returned (.bool (l.any fun y => y.loc == x.loc)) ∧ Below w.heap.size w w' := by
  have C := Lib.hid (idx_any A n c l x bx w hl hx hn)
  clear hl hx hn
  go_enter Try.func48, Try.ntmps48
  go_wp2_with fail
  refine C.out.mono ?_
  rintro e w1 ⟨r, rfl, hr, hb⟩
  have HR := Lib.hid hr
  clear hr
  go_wp2
  go_ret
  exact ⟨by rw [← HR.out]; rfl, hb⟩
end Go.Proofs.Ytkloaopjlbinpaa
