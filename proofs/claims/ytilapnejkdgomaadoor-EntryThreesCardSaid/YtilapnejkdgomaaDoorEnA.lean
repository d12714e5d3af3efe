/- The walks of entry.Writes, Kind, Same and of the reference's Writes and Kind, of the law's alike. Conditions: fewer than 2^40 entries. -/
import Derived.Test.YtilapnejkdgomaaDoorMgL
set_option linter.unusedVariables false
set_option linter.unusedSimpArgs false
namespace Go.Proofs.YtilapnejkdgomaaDoor
open Go.RowKit

/-- The number of written entries. -/
def wrs (l : List Ent) : Nat := (l.filter fun e => e.wr).length
theorem wrs_le (l : List Ent) : wrs l ≤ l.length := List.length_filter_le _ _
theorem wrs_step {l : List Ent} {k : Nat} {y : Ent} (h : l[k]? = some y) : wrs (l.take (k + 1)) = wrs (l.take k) + (if y.wr = true then 1 else 0) := by
  unfold wrs
  rw [List.take_add_one, h, List.filter_append, List.length_append]
  cases hb : y.wr <;> simp [hb]
theorem take_le (l : List Ent) (k : Nat) : wrs (l.take k) ≤ k := Nat.le_trans (wrs_le _) (List.length_take_le _ _)

set_option maxRecDepth 100000 in
set_option maxHeartbeats 3200000 in
theorem writes_any {S : Nat → Prop} (A : Option Addr) (n c : Nat) (l : List Ent) (w : World) (hl : Ents w S A n l) (hn : n ≤ 1099511627776) :
    Calls Tryd.prog 19 #[.slice A n c] w fun e w' => e = .returned (.int .i64 (wrs l : Int)) ∧ Below w.heap.size w w' := by
  have HLN := Lib.hid hl.1
  have HL := Lib.hid hl
  clear hl
  go_enter Tryd.func19, Tryd.ntmps19
  go_wp2
  go_loopw [3, 8] (fun m i wr => ∃ k : Nat, k ≤ n ∧ i = .int .i64 k ∧ m = .int .i64 (wrs (l.take k) : Int) ∧ Below w.heap.size w wr) (fun _ i _ => n - (intOf i).toNat)
  case atStart => exact ⟨0, by omega, rfl, rfl, Below.refl _ _⟩
  case round =>
    obtain ⟨k, hk, rfl, rfl, hb⟩ := hrel
    have HB := Lib.hid hb
    clear hb
    by_cases hlt : k < n
    · obtain ⟨y, b, o, hy, rfl, hbb, hSb, hcell⟩ := HL.out.at k hlt
      obtain ⟨f0, f1, f2, f3, f4, f5⟩ := hcell wr HB.out
      have HS := Lib.hid (wrs_step hy)
      have hi1 : (k : Int) < (n : Int) := by omega
      have hq := take_le l k
      have HB2 := Lib.hid (show Below w.heap.size w (wr.alloc (entO y)) from HB.out.alloc HB.out.size _)
      obtain ⟨q, hqe⟩ : ∃ q, q = wrs (l.take k) := ⟨_, rfl⟩
      rw [← hqe] at hq HS ⊢
      have hqi : (q : Int) ≤ 1099511627776 := by omega
      clear hqe hy hcell
      obtain ⟨y0, y1, y2, y3, y4, y5⟩ := y
      dsimp only at f0 f1 f2 f3 f4 f5 HS
      unfold entO at HB2
      dsimp only at HB2
      cases y5 with
      | true =>
        go_wp2
        go_roundw
        case rel => exact ⟨k + 1, by omega, by go_num, by rw [HS.out]; go_num, HB2.out⟩
        case measure => simp [intOf]; omega
      | false =>
        go_wp2
        go_roundw
        case rel => exact ⟨k + 1, by omega, by go_num, by rw [HS.out]; go_num, HB2.out⟩
        case measure => simp [intOf]; omega
    · have hkn : ¬ ((k : Int) < (n : Int)) := by omega
      have HF := Lib.hid (show l.take k = l from List.take_of_length_le (by have := HLN.out; omega))
      go_wp2
      go_ret
      exact ⟨by rw [HF.out]; rfl, HB.out⟩
set_option maxRecDepth 100000 in
set_option maxHeartbeats 3200000 in
theorem rwrites_any {S : Nat → Prop} (A : Option Addr) (n c : Nat) (l : List Ent) (w : World) (hl : Ents w S A n l) (hn : n ≤ 1099511627776) :
    Calls Tryd.prog 22 #[.slice A n c] w fun e w' => e = .returned (.int .i64 (wrs l : Int)) ∧ w = w' := by
  have HLN := Lib.hid hl.1
  have HL := Lib.hid hl
  clear hl
  go_enter Tryd.func22, Tryd.ntmps22
  go_wp2
  go_loop [3, 4] (fun m i => ∃ k : Nat, k ≤ n ∧ i = .int .i64 k ∧ m = .int .i64 (wrs (l.take k) : Int)) (fun _ i => n - (intOf i).toNat)
  case atStart => exact ⟨0, by omega, rfl, rfl⟩
  case round =>
    obtain ⟨k, hk, rfl, rfl⟩ := hrel
    by_cases hlt : k < n
    · obtain ⟨y, b, o, hy, rfl, hbb, hSb, hcell⟩ := HL.out.at k hlt
      obtain ⟨f0, f1, f2, f3, f4, f5⟩ := hcell w (Below.refl _ _)
      have HS := Lib.hid (wrs_step hy)
      have hi1 : (k : Int) < (n : Int) := by omega
      have hq := take_le l k
      obtain ⟨q, hqe⟩ : ∃ q, q = wrs (l.take k) := ⟨_, rfl⟩
      rw [← hqe] at hq HS ⊢
      have hqi : (q : Int) ≤ 1099511627776 := by omega
      clear hqe hy hcell
      obtain ⟨y0, y1, y2, y3, y4, y5⟩ := y
      dsimp only at f0 f1 f2 f3 f4 f5 HS
      cases y5 with
      | true =>
        go_wp2
        go_round
        case rel => exact ⟨k + 1, by omega, by go_num, by rw [HS.out]; go_num⟩
        case measure => simp [intOf]; omega
      | false =>
        go_wp2
        go_round
        case rel => exact ⟨k + 1, by omega, by go_num, by rw [HS.out]; go_num⟩
        case measure => simp [intOf]; omega
    · have hkn : ¬ ((k : Int) < (n : Int)) := by omega
      have HF := Lib.hid (show l.take k = l from List.take_of_length_le (by have := HLN.out; omega))
      go_wp2
      go_ret
      exact ⟨by rw [HF.out]; rfl, rfl⟩
/-- The kind of a list. -/
def knd (l : List Ent) : Int := if l.length = 0 then 0 else if wrs l = 0 then 1 else if l.length = 1 then 2 else 3
set_option maxRecDepth 100000 in
set_option maxHeartbeats 3200000 in
theorem kindE_any {S : Nat → Prop} (A : Option Addr) (n c : Nat) (l : List Ent) (w : World) (hl : Ents w S A n l) (hn : n ≤ 1099511627776) :
    Calls Tryd.prog 20 #[.slice A n c] w fun e w' => e = .returned (.int .i64 (knd l)) ∧ Below w.heap.size w w' := by
  have HW := Lib.hid (writes_any A n c l w hl hn)
  have hln := hl.1
  obtain ⟨r, hr⟩ : ∃ r, r = knd l := ⟨_, rfl⟩
  rw [← hr]
  unfold knd at hr
  rw [← hln] at hr
  generalize wrs l = q at *
  clear hl hln
  by_cases h0 : n = 0
  · obtain rfl : r = 0 := by rw [hr]; rw [if_pos h0]
    subst h0
    clear hr hn
    go_enter Tryd.func20, Tryd.ntmps20
    go_wp2_with fail
    refine HW.out.mono ?_
    rintro e w1 ⟨rfl, hb⟩
    have HB := Lib.hid hb
    clear hb
    go_wp2
    go_ret
    exact ⟨rfl, HB.out⟩
  have k0 : ((n : Int) == 0) = false := beq_eq_false_iff_ne.2 (by omega)
  by_cases hq : q = 0
  · obtain rfl : r = 1 := by rw [hr]; rw [if_neg h0, if_pos hq]
    subst hq
    clear hr h0
    go_enter Tryd.func20, Tryd.ntmps20
    go_wp2_with fail
    refine HW.out.mono ?_
    rintro e w1 ⟨rfl, hb⟩
    have HB := Lib.hid hb
    clear hb
    go_wp2
    go_ret
    exact ⟨rfl, HB.out⟩
  have k1 : ((q : Int) == 0) = false := beq_eq_false_iff_ne.2 (by omega)
  by_cases h1 : n = 1
  · obtain rfl : r = 2 := by rw [hr]; rw [if_neg h0, if_neg hq, if_pos h1]
    subst h1
    clear hr h0 hq
    go_enter Tryd.func20, Tryd.ntmps20
    go_wp2_with fail
    refine HW.out.mono ?_
    rintro e w1 ⟨rfl, hb⟩
    have HB := Lib.hid hb
    clear hb
    go_wp2
    go_ret
    exact ⟨rfl, HB.out⟩
  have k2 : ((n : Int) == 1) = false := beq_eq_false_iff_ne.2 (by omega)
  · obtain rfl : r = 3 := by rw [hr]; rw [if_neg h0, if_neg hq, if_neg h1]
    clear hr h0 hq h1
    go_enter Tryd.func20, Tryd.ntmps20
    go_wp2_with fail
    refine HW.out.mono ?_
    rintro e w1 ⟨rfl, hb⟩
    have HB := Lib.hid hb
    clear hb
    go_wp2
    go_ret
    exact ⟨rfl, HB.out⟩
set_option maxRecDepth 100000 in
set_option maxHeartbeats 3200000 in
theorem rkind_any {S : Nat → Prop} (A : Option Addr) (n c : Nat) (l : List Ent) (w : World) (hl : Ents w S A n l) (hn : n ≤ 1099511627776) :
    Calls Tryd.prog 21 #[.slice A n c] w fun e w' => e = .returned (.int .i64 (knd l)) ∧ w = w' := by
  have HW := Lib.hid (rwrites_any A n c l w hl hn)
  have hln := hl.1
  obtain ⟨r, hr⟩ : ∃ r, r = knd l := ⟨_, rfl⟩
  rw [← hr]
  unfold knd at hr
  rw [← hln] at hr
  generalize wrs l = q at *
  clear hl hln
  by_cases h0 : n = 0
  · obtain rfl : r = 0 := by rw [hr]; rw [if_pos h0]
    subst h0
    clear hr hn
    go_enter Tryd.func21, Tryd.ntmps21
    go_wp2
    go_ret
    exact ⟨rfl, rfl⟩
  have k0 : ((n : Int) == 0) = false := beq_eq_false_iff_ne.2 (by omega)
  by_cases hq : q = 0
  · obtain rfl : r = 1 := by rw [hr]; rw [if_neg h0, if_pos hq]
    subst hq
    clear hr h0
    go_enter Tryd.func21, Tryd.ntmps21
    go_wp2_with fail
    refine HW.out.mono ?_
    rintro e w1 ⟨rfl, rfl⟩
    go_wp2
    go_ret
    exact ⟨rfl, rfl⟩
  have k1 : ((q : Int) == 0) = false := beq_eq_false_iff_ne.2 (by omega)
  by_cases h1 : n = 1
  · obtain rfl : r = 2 := by rw [hr]; rw [if_neg h0, if_neg hq, if_pos h1]
    subst h1
    clear hr h0 hq
    go_enter Tryd.func21, Tryd.ntmps21
    go_wp2_with fail
    refine HW.out.mono ?_
    rintro e w1 ⟨rfl, rfl⟩
    go_wp2
    go_ret
    exact ⟨rfl, rfl⟩
  have k2 : ((n : Int) == 1) = false := beq_eq_false_iff_ne.2 (by omega)
  · obtain rfl : r = 3 := by rw [hr]; rw [if_neg h0, if_neg hq, if_neg h1]
    clear hr h0 hq h1
    go_enter Tryd.func21, Tryd.ntmps21
    go_wp2_with fail
    refine HW.out.mono ?_
    rintro e w1 ⟨rfl, rfl⟩
    go_wp2
    go_ret
    exact ⟨rfl, rfl⟩
end Go.Proofs.YtilapnejkdgomaaDoor
