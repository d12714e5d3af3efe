/- The walks of slices.Equal over entries, of entry.Same, of the law's alike. Conditions: fewer than 2^40 entries. -/
import Derived.Test.YtilapnejkdgomaaDoorEnA
set_option linter.unusedVariables false
set_option linter.unusedSimpArgs false
namespace Go.Proofs.YtilapnejkdgomaaDoor
open Go.RowKit

instance : DecidableEq Ent := fun a b => by
  obtain ⟨a0, a1, a2, a3, a4, a5⟩ := a
  obtain ⟨b0, b1, b2, b3, b4, b5⟩ := b
  exact decidable_of_iff (a0 = b0 ∧ a1 = b1 ∧ a2 = b2 ∧ a3 = b3 ∧ a4 = b4 ∧ a5 = b5) ⟨fun ⟨h0, h1, h2, h3, h4, h5⟩ => by subst h0 h1 h2 h3 h4 h5; rfl, fun h => by cases h; exact ⟨rfl, rfl, rfl, rfl, rfl, rfl⟩⟩
/-- Whether two lists are equal. -/
def eqE (l m : List Ent) : Bool := decide (l = m)

set_option maxRecDepth 100000 in
set_option maxHeartbeats 3200000 in
theorem equal_any {S T : Nat → Prop} (A B : Option Addr) (n c m d : Nat) (l k : List Ent) (w : World) (hl : Ents w S A n l) (hk : Ents w T B m k) (hn : n ≤ 1099511627776) (hm : m ≤ 1099511627776) (hc : n ≤ c) (hd : m ≤ d) :
    Calls Tryd.prog 43 #[.slice A n c, .slice B m d] w fun e w' => e = .returned (.bool (eqE l k)) ∧ Below w.heap.size w w' := by
  have HL := Lib.hid hl
  have HK := Lib.hid hk
  obtain ⟨r, hr⟩ : ∃ r, r = eqE l k := ⟨_, rfl⟩
  rw [← hr]
  unfold eqE at hr
  have e1 := hl.1
  have e2 := hk.1
  by_cases hnm : n = m
  · subst hnm
    have HR := Lib.hid hr
    have HLN := Lib.hid (show l.length = n from e1.symm)
    have HKN := Lib.hid (show k.length = n from e2.symm)
    have kz : ((n : Int) != (n : Int)) = false := by simp
    have hci : (n : Int) ≤ (c : Int) := by omega
    have hdi : (n : Int) ≤ (d : Int) := by omega
    clear hl hk hr e1 e2
    go_enter Tryd.func43, Tryd.ntmps43
    go_wp2
    go_loopw [13] (fun i wr => ∃ j : Nat, j ≤ n ∧ i = .int .i64 j ∧ Hid (l.take j = k.take j) ∧ Hid (Below w.heap.size w wr)) (fun i _ => n - (intOf i).toNat)
    case atStart => exact ⟨0, by omega, rfl, Lib.hid rfl, Lib.hid (Below.refl _ _)⟩
    case round =>
      obtain ⟨j, hj, rfl, HE, HB⟩ := hrel
      by_cases hlt : j < n
      · obtain ⟨x, b, o, hx, rfl, hbb, hSb, hcell⟩ := HL.out.at j hlt
        obtain ⟨f0, f1, f2, f3, f4, f5⟩ := hcell wr HB.out
        obtain ⟨y, b', o', hy, rfl, hbb', hSb', hcell'⟩ := HK.out.at j hlt
        obtain ⟨g0, g1, g2, g3, g4, g5⟩ := hcell' wr HB.out
        have hi1 : (j : Int) < (n : Int) := by omega
        have HX := Lib.hid hx
        have HY := Lib.hid hy
        have HB2 := Lib.hid (fun k => (show Below w.heap.size w (wr.drewN k) from ⟨HB.out.os, HB.out.tape, HB.out.output, HB.out.size, HB.out.block⟩))
        clear hx hy hcell hcell' hbb hSb hbb' hSb'
        by_cases hxy : x = y
        · subst hxy
          obtain ⟨y0, y1, y2, y3, y4, y5⟩ := x
          dsimp only at f0 f1 f2 f3 f4 f5 g0 g1 g2 g3 g4 g5
          go_wp2
          go_quiet (fail)
          go_wp2
          go_roundw
          case rel => exact ⟨j + 1, by omega, by go_num, Lib.hid (by rw [List.take_add_one, List.take_add_one, HE.out, HX.out, HY.out]), HB2.out _⟩
          case measure => simp [intOf]; omega
        · have HF := Lib.hid (show r = false by
            rw [HR.out]
            refine decide_eq_false fun e => hxy ?_
            have h1 := HX.out
            rw [e, HY.out] at h1
            exact (Option.some.inj h1).symm)
          obtain ⟨y0, y1, y2, y3, y4, y5⟩ := x
          obtain ⟨z0, z1, z2, z3, z4, z5⟩ := y
          dsimp only at f0 f1 f2 f3 f4 f5 g0 g1 g2 g3 g4 g5
          have HH := Lib.hid (show y0 = z0 → y1 = z1 → y2 = z2 → y3 = z3 → y4 = z4 → ¬ y5 = z5 from fun h0 h1 h2 h3 h4 h5 => hxy (by rw [h0, h1, h2, h3, h4, h5]))
          have hne : ∀ W : World, (Op.equalIn 10000 46 (.agg #[.int .i64 y0, .int .i64 y1, .int .u32 y2, .int .u32 y3, .int .i64 y4, .bool y5]) (.agg #[.int .i64 z0, .int .i64 z1, .int .u32 z2, .int .u32 z3, .int .i64 z4, .bool z5])).run Tryd.prog W = .ok false W := fun W => by
            go_simp
            exact HH.out
          clear hxy HX HY HE HR
          go_wp2
          go_quiet (fail)
          go_wp2
          go_ret
          exact ⟨by rw [HF.out]; rfl, HB2.out _⟩
      · have hkn : ¬ ((j : Int) < (n : Int)) := by omega
        have HF := Lib.hid (show r = true by
          rw [HR.out]
          have h := HE.out
          rw [List.take_of_length_le (by have := HLN.out; omega), List.take_of_length_le (by have := HKN.out; omega)] at h
          exact decide_eq_true h)
        clear HR HE
        go_wp2
        go_ret
        exact ⟨by rw [HF.out]; rfl, HB.out⟩
  · have HF := Lib.hid (show r = false by
      rw [hr]
      refine decide_eq_false fun e => hnm ?_
      rw [e1, e2, e])
    have kz : ((n : Int) == (m : Int)) = false := beq_eq_false_iff_ne.2 (by omega)
    have kz2 : ((n : Int) != (m : Int)) = true := by rw [bne, kz]; rfl
    have kz3 : (n == m) = false := beq_eq_false_iff_ne.2 hnm
    clear hr hnm e1 e2 hl hk
    go_enter Tryd.func43, Tryd.ntmps43
    go_wp2
    go_ret
    exact ⟨by rw [HF.out]; rfl, Below.refl _ _⟩
set_option maxRecDepth 100000 in
set_option maxHeartbeats 3200000 in
theorem alike_any {S T : Nat → Prop} (A B : Option Addr) (n c m d : Nat) (l k : List Ent) (w : World) (hl : Ents w S A n l) (hk : Ents w T B m k) (hn : n ≤ 1099511627776) (hm : m ≤ 1099511627776) (hc : n ≤ c) (hd : m ≤ d) :
    Calls Tryd.prog 17 #[.slice A n c, .slice B m d] w fun e w' => e = .returned (.bool (eqE l k)) ∧ Below w.heap.size w w' := by
  have HL := Lib.hid hl
  have HK := Lib.hid hk
  obtain ⟨r, hr⟩ : ∃ r, r = eqE l k := ⟨_, rfl⟩
  rw [← hr]
  unfold eqE at hr
  have e1 := hl.1
  have e2 := hk.1
  by_cases hnm : n = m
  · subst hnm
    have HR := Lib.hid hr
    have HLN := Lib.hid (show l.length = n from e1.symm)
    have HKN := Lib.hid (show k.length = n from e2.symm)
    have kz : ((n : Int) != (n : Int)) = false := by simp
    have hci : (n : Int) ≤ (c : Int) := by omega
    have hdi : (n : Int) ≤ (d : Int) := by omega
    clear hl hk hr e1 e2
    go_enter Tryd.func17, Tryd.ntmps17
    go_wp2
    go_loopw [13] (fun i wr => ∃ j : Nat, j ≤ n ∧ i = .int .i64 j ∧ Hid (l.take j = k.take j) ∧ Hid (Below w.heap.size w wr)) (fun i _ => n - (intOf i).toNat)
    case atStart => exact ⟨0, by omega, rfl, Lib.hid rfl, Lib.hid (Below.refl _ _)⟩
    case round =>
      obtain ⟨j, hj, rfl, HE, HB⟩ := hrel
      by_cases hlt : j < n
      · obtain ⟨x, b, o, hx, rfl, hbb, hSb, hcell⟩ := HL.out.at j hlt
        obtain ⟨f0, f1, f2, f3, f4, f5⟩ := hcell wr HB.out
        obtain ⟨y, b', o', hy, rfl, hbb', hSb', hcell'⟩ := HK.out.at j hlt
        obtain ⟨g0, g1, g2, g3, g4, g5⟩ := hcell' wr HB.out
        have hi1 : (j : Int) < (n : Int) := by omega
        have HX := Lib.hid hx
        have HY := Lib.hid hy
        have HB2 := Lib.hid (fun k => (show Below w.heap.size w (wr.drewN k) from ⟨HB.out.os, HB.out.tape, HB.out.output, HB.out.size, HB.out.block⟩))
        clear hx hy hcell hcell' hbb hSb hbb' hSb'
        by_cases hxy : x = y
        · subst hxy
          obtain ⟨y0, y1, y2, y3, y4, y5⟩ := x
          dsimp only at f0 f1 f2 f3 f4 f5 g0 g1 g2 g3 g4 g5
          go_wp2
          go_quiet (fail)
          go_wp2
          go_roundw
          case rel => exact ⟨j + 1, by omega, by go_num, Lib.hid (by rw [List.take_add_one, List.take_add_one, HE.out, HX.out, HY.out]), HB2.out _⟩
          case measure => simp [intOf]; omega
        · have HF := Lib.hid (show r = false by
            rw [HR.out]
            refine decide_eq_false fun e => hxy ?_
            have h1 := HX.out
            rw [e, HY.out] at h1
            exact (Option.some.inj h1).symm)
          obtain ⟨y0, y1, y2, y3, y4, y5⟩ := x
          obtain ⟨z0, z1, z2, z3, z4, z5⟩ := y
          dsimp only at f0 f1 f2 f3 f4 f5 g0 g1 g2 g3 g4 g5
          have HH := Lib.hid (show y0 = z0 → y1 = z1 → y2 = z2 → y3 = z3 → y4 = z4 → ¬ y5 = z5 from fun h0 h1 h2 h3 h4 h5 => hxy (by rw [h0, h1, h2, h3, h4, h5]))
          have hne : ∀ W : World, (Op.equalIn 10000 46 (.agg #[.int .i64 y0, .int .i64 y1, .int .u32 y2, .int .u32 y3, .int .i64 y4, .bool y5]) (.agg #[.int .i64 z0, .int .i64 z1, .int .u32 z2, .int .u32 z3, .int .i64 z4, .bool z5])).run Tryd.prog W = .ok false W := fun W => by
            go_simp
            exact HH.out
          clear hxy HX HY HE HR
          go_wp2
          go_quiet (fail)
          go_wp2
          go_ret
          exact ⟨by rw [HF.out]; rfl, HB2.out _⟩
      · have hkn : ¬ ((j : Int) < (n : Int)) := by omega
        have HF := Lib.hid (show r = true by
          rw [HR.out]
          have h := HE.out
          rw [List.take_of_length_le (by have := HLN.out; omega), List.take_of_length_le (by have := HKN.out; omega)] at h
          exact decide_eq_true h)
        clear HR HE
        go_wp2
        go_ret
        exact ⟨by rw [HF.out]; rfl, HB.out⟩
  · have HF := Lib.hid (show r = false by
      rw [hr]
      refine decide_eq_false fun e => hnm ?_
      rw [e1, e2, e])
    have kz : ((n : Int) == (m : Int)) = false := beq_eq_false_iff_ne.2 (by omega)
    have kz2 : ((n : Int) != (m : Int)) = true := by rw [bne, kz]; rfl
    have kz3 : (n == m) = false := beq_eq_false_iff_ne.2 hnm
    clear hr hnm e1 e2 hl hk
    go_enter Tryd.func17, Tryd.ntmps17
    go_wp2
    go_ret
    exact ⟨by rw [HF.out]; rfl, Below.refl _ _⟩
set_option maxRecDepth 100000 in
set_option maxHeartbeats 3200000 in
theorem same_all {S T : Nat → Prop} (A B : Option Addr) (n c m d : Nat) (l k : List Ent) (w : World) (hl : Ents w S A n l) (hk : Ents w T B m k) (hn : n ≤ 1099511627776) (hm : m ≤ 1099511627776) (hc : n ≤ c) (hd : m ≤ d) :
    Calls Tryd.prog 25 #[.slice A n c, .slice B m d] w fun e w' => e = .returned (.bool (eqE l k)) ∧ Below w.heap.size w w' := by
  have C := Lib.hid (equal_any A B n c m d l k w hl hk hn hm hc hd)
  generalize eqE l k = r at *
  clear hl hk hn hm hc hd
  go_enter Tryd.func25, Tryd.ntmps25
  go_wp2_with fail
  refine C.out.mono ?_
  rintro e w1 ⟨rfl, hb⟩
  have HB := Lib.hid hb
  clear hb
  go_wp2
  go_ret
  exact ⟨rfl, HB.out⟩
end Go.Proofs.YtilapnejkdgomaaDoor
