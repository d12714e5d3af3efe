/- The walk of the reference's Check. Conditions: the entries' numbers are of their kinds; fewer than 2^40 entries. -/
import Derived.Test.YtilapnejkdgomaaDoorEnB
set_option linter.unusedVariables false
set_option linter.unusedSimpArgs false
namespace Go.Proofs.YtilapnejkdgomaaDoor
open Go.RowKit

theorem any_step {l : List Ent} {j : Nat} {z y : Ent} (h : l[j]? = some z) (h0 : ((l.take j).any fun a => a.loc == y.loc) = false) (hz : z.loc ≠ y.loc) : ((l.take (j + 1)).any fun a => a.loc == y.loc) = false := by
  rw [List.take_add_one, h, List.any_append, h0]
  simpa using hz
theorem any_at {l : List Ent} {j k : Nat} {z y : Ent} (h : l[j]? = some z) (hj : j < k) (hz : z.loc = y.loc) : ((l.take k).any fun a => a.loc == y.loc) = true := by
  refine List.any_eq_true.2 ⟨z, ?_, by simpa using hz⟩
  refine List.mem_of_getElem? (i := j) ?_
  rw [List.getElem?_take, if_pos hj, h]
theorem below_drew_n {B : Nat} {w w' : World} (h : Below B w w') (n : Nat) : Below B w (w'.drewN n) := ⟨h.os, h.tape, h.output, h.size, h.block⟩

set_option maxRecDepth 100000 in
set_option maxHeartbeats 12800000 in
theorem rcheck_any {S : Nat → Prop} (A : Option Addr) (n c : Nat) (l : List Ent) (w : World) (hl : Ents w S A n l) (hn : n ≤ 1099511627776) (hc : n ≤ c) :
    Calls Tryd.prog 12 #[.slice A n c] w fun e w' => e = .returned (.int .i64 (chk l)) ∧ Below w.heap.size w w' := by
  have HLN := Lib.hid hl.1
  obtain ⟨r, hr⟩ : ∃ r, r = chk l := ⟨_, rfl⟩
  rw [← hr]
  by_cases h0 : n = 0
  · obtain rfl : r = 8 := by rw [hr]; unfold chk; rw [if_pos (by have := HLN.out; omega)]
    subst h0
    clear hl hr HLN
    go_enter Tryd.func12, Tryd.ntmps12
    go_wp2
    go_ret
    exact ⟨rfl, Below.refl _ _⟩
  by_cases h1 : 32 < n
  · obtain rfl : r = 15 := by rw [hr]; unfold chk; rw [if_neg (by have := HLN.out; omega), if_pos (by have := HLN.out; omega)]
    have k0 : ((n : Int) == 0) = false := beq_eq_false_iff_ne.2 (by omega)
    have k1 : (32 : Int) < (n : Int) := by omega
    clear hl hr HLN h0 h1
    go_enter Tryd.func12, Tryd.ntmps12
    go_wp2
    go_ret
    exact ⟨rfl, Below.refl _ _⟩
  · have e1 : r = chkL [] l := by rw [hr]; unfold chk; rw [if_neg (by have := HLN.out; omega), if_neg (by have := HLN.out; omega)]
    have k0 : ((n : Int) == 0) = false := beq_eq_false_iff_ne.2 (by omega)
    have k1 : ¬ (32 : Int) < (n : Int) := by omega
    have hci : (n : Int) ≤ (c : Int) := by omega
    have HR := Lib.hid e1
    have HL := Lib.hid hl
    clear hl hr h1 e1
    go_enter Tryd.func12, Tryd.ntmps12
    go_wp2
    go_loopw [3] (fun i wr => ∃ k : Nat, k ≤ n ∧ i = .int .i64 k ∧ Hid (r = chkL (l.take k) (l.drop k)) ∧ Hid (Below w.heap.size w wr)) (fun i _ => n - (intOf i).toNat)
    case atStart => exact ⟨0, by omega, rfl, HR, Lib.hid (Below.refl _ _)⟩
    case round =>
      clear HR
      obtain ⟨k, hk, rfl, HR, HB⟩ := hrel
      obtain ⟨wo, rfl⟩ : ∃ wo : World, wo = wr := ⟨_, rfl⟩
      by_cases hlt : k < n
      · obtain ⟨y, b, o, hy, rfl, hbb, hSb, hcell⟩ := HL.out.at k hlt
        obtain ⟨f0, f1, f2, f3, f4, f5⟩ := hcell wo HB.out
        have HY := Lib.hid hy
        have HS := Lib.hid (show r = if entE y ≠ 0 then entE y else if ((l.take k).any fun z => z.loc == y.loc) = true then 11 else chkL (l.take (k + 1)) (l.drop (k + 1)) from HR.out.trans (chk_step hy))
        have hi0 : (0 : Int) ≤ (k : Int) := by omega
        have hi1 : (k : Int) < (n : Int) := by omega
        have HB1 := Lib.hid (show Below w.heap.size w (wo.alloc (entO y)) from HB.out.alloc HB.out.size _)
        have HX1 := Lib.hid (show EBox (wo.alloc (entO y)) wo.heap.size y from EBox.new)
        clear hy hcell HR hbb hSb
        obtain ⟨y0, y1, y2, y3, y4, y5⟩ := y
        dsimp only at f0 f1 f2 f3 f4 f5
        unfold entO at HB1 HX1
        dsimp only at HB1 HX1
        have bad : ∀ E, entE ⟨y0, y1, y2, y3, y4, y5⟩ = E → E ≠ 0 → r = E := fun E h1 h2 => by rw [HS.out, if_pos (by rw [h1]; exact h2), h1]
        by_cases q1 : y0 < 0
        · obtain rfl : r = 3 := bad 3 (by unfold entE; rw [if_pos (.inl q1)]) (by decide)
          clear bad HS HY
          go_wp2
          go_ret
          exact ⟨rfl, HB1.out⟩
        by_cases q2 : 4096 ≤ y0
        · obtain rfl : r = 3 := bad 3 (by unfold entE; rw [if_pos (.inr q2)]) (by decide)
          clear bad HS HY
          go_wp2
          go_ret
          exact ⟨rfl, HB1.out⟩
        have q3 : ¬ (y0 < 0 ∨ 4096 ≤ y0) := by omega
        by_cases q4 : y3 = 0
        · subst q4
          have HQ := Lib.hid q3
          cases y5 with
          | true =>
            by_cases q5 : y2 = 4294967295
            · obtain rfl : r = 9 := bad 9 (by unfold entE; rw [if_neg q3, if_neg (by simp), if_pos ⟨rfl, q5⟩]) (by decide)
              subst q5
              clear bad HS HY q3 HQ
              go_wp2
              go_ret
              exact ⟨rfl, HB1.out⟩
            · have h5 : (y2 == 4294967295) = false := beq_eq_false_iff_ne.2 q5
              have HS2 := Lib.hid (show r = if ((l.take k).any fun z => z.loc == y0) = true then 11 else chkL (l.take (k + 1)) (l.drop (k + 1)) by
                rw [HS.out, if_neg (by unfold entE; rw [if_neg HQ.out, if_neg (by simp), if_neg (fun h => q5 h.2), if_neg (by simp)]; simp)])
              clear bad HS q3 HQ q5
              go_wp2
              go_loopw [5] (fun i2 w2 => ∃ j : Nat, j ≤ k ∧ i2 = .int .i64 j ∧ Hid (((l.take j).any fun z => z.loc == y0) = false) ∧ Hid (EBox w2 wo.heap.size ⟨y0, y1, y2, 0, y4, true⟩) ∧ Hid (Below w.heap.size w w2)) (fun i2 _ => k - (intOf i2).toNat)
              case atStart => exact ⟨0, by omega, rfl, Lib.hid rfl, HX1, HB1⟩
              case round =>
                obtain ⟨j, hj, rfl, HA, HX, HB2⟩ := hrel
                by_cases hjk : j < k
                · obtain ⟨z, b2, o2, hz, he, hbb2, hSb2, hcell2⟩ := HL.out.at j (by omega)
                  injection he with he
                  injection he with he1 he2
                  subst he1 he2
                  obtain ⟨g0, g1, g2, g3, g4, g5⟩ := hcell2 wr HB2.out
                  obtain ⟨e0, _⟩ := HX.out.all
                  dsimp only at e0
                  have HZ := Lib.hid hz
                  have hj0 : (0 : Int) ≤ (j : Int) := by omega
                  have hj1 : (j : Int) < (k : Int) := by omega
                  have hj2 : (j : Int) < (n : Int) := by omega
                  have HD := Lib.hid (fun q => below_drew_n HB2.out q)
                  clear hz hcell2 hbb2 hSb2
                  by_cases hzy : z.loc = y0
                  · have HF := Lib.hid (show r = 11 by rw [HS2.out, if_pos (any_at (y := ⟨y0, y1, y2, 0, y4, true⟩) HZ.out hjk hzy)])
                    clear HS2 HA HX
                    have hb1 : (z.loc == y0) = true := by simpa using hzy
                    clear hzy
                    go_wp2
                    go_quiet (fail)
                    go_wp2
                    go_ret
                    exact ⟨by rw [HF.out]; rfl, HD.out _⟩
                  · have hb1 : (z.loc == y0) = false := beq_eq_false_iff_ne.2 hzy
                    have HA2 := Lib.hid (any_step (y := ⟨y0, y1, y2, 0, y4, true⟩) HZ.out HA.out hzy)
                    clear hzy HA
                    go_wp2
                    go_quiet (fail)
                    go_wp2
                    go_roundw
                    case rel => exact ⟨j + 1, by omega, by go_num, HA2, HX, HD.out _⟩
                    case measure => simp [intOf]; omega
                · have hjk2 : ¬ ((j : Int) < (k : Int)) := by omega
                  obtain rfl : j = k := by omega
                  have HS3 := Lib.hid (show r = chkL (l.take (j + 1)) (l.drop (j + 1)) by rw [HS2.out, if_neg (by rw [HA.out]; simp)])
                  clear HS2 HA HX
                  go_wp2
                  go_roundw
                  case rel => exact ⟨j + 1, by omega, by go_num, HS3, HB2⟩
                  case measure => simp [intOf]; omega
          | false =>
            by_cases q5 : y4 = y1
            · subst q5
              have HS2 := Lib.hid (show r = if ((l.take k).any fun z => z.loc == y0) = true then 11 else chkL (l.take (k + 1)) (l.drop (k + 1)) by
                rw [HS.out, if_neg (by unfold entE; rw [if_neg HQ.out, if_neg (by simp), if_neg (by simp), if_neg (by simp)]; simp)])
              clear bad HS q3 HQ
              go_wp2
              go_loopw [5] (fun i2 w2 => ∃ j : Nat, j ≤ k ∧ i2 = .int .i64 j ∧ Hid (((l.take j).any fun z => z.loc == y0) = false) ∧ Hid (EBox w2 wo.heap.size ⟨y0, y4, y2, 0, y4, false⟩) ∧ Hid (Below w.heap.size w w2)) (fun i2 _ => k - (intOf i2).toNat)
              case atStart => exact ⟨0, by omega, rfl, Lib.hid rfl, HX1, HB1⟩
              case round =>
                obtain ⟨j, hj, rfl, HA, HX, HB2⟩ := hrel
                by_cases hjk : j < k
                · obtain ⟨z, b2, o2, hz, he, hbb2, hSb2, hcell2⟩ := HL.out.at j (by omega)
                  injection he with he
                  injection he with he1 he2
                  subst he1 he2
                  obtain ⟨g0, g1, g2, g3, g4, g5⟩ := hcell2 wr HB2.out
                  obtain ⟨e0, _⟩ := HX.out.all
                  dsimp only at e0
                  have HZ := Lib.hid hz
                  have hj0 : (0 : Int) ≤ (j : Int) := by omega
                  have hj1 : (j : Int) < (k : Int) := by omega
                  have hj2 : (j : Int) < (n : Int) := by omega
                  have HD := Lib.hid (fun q => below_drew_n HB2.out q)
                  clear hz hcell2 hbb2 hSb2
                  by_cases hzy : z.loc = y0
                  · have HF := Lib.hid (show r = 11 by rw [HS2.out, if_pos (any_at (y := ⟨y0, y4, y2, 0, y4, false⟩) HZ.out hjk hzy)])
                    clear HS2 HA HX
                    have hb1 : (z.loc == y0) = true := by simpa using hzy
                    clear hzy
                    go_wp2
                    go_quiet (fail)
                    go_wp2
                    go_ret
                    exact ⟨by rw [HF.out]; rfl, HD.out _⟩
                  · have hb1 : (z.loc == y0) = false := beq_eq_false_iff_ne.2 hzy
                    have HA2 := Lib.hid (any_step (y := ⟨y0, y4, y2, 0, y4, false⟩) HZ.out HA.out hzy)
                    clear hzy HA
                    go_wp2
                    go_quiet (fail)
                    go_wp2
                    go_roundw
                    case rel => exact ⟨j + 1, by omega, by go_num, HA2, HX, HD.out _⟩
                    case measure => simp [intOf]; omega
                · have hjk2 : ¬ ((j : Int) < (k : Int)) := by omega
                  obtain rfl : j = k := by omega
                  have HS3 := Lib.hid (show r = chkL (l.take (j + 1)) (l.drop (j + 1)) by rw [HS2.out, if_neg (by rw [HA.out]; simp)])
                  clear HS2 HA HX
                  go_wp2
                  go_roundw
                  case rel => exact ⟨j + 1, by omega, by go_num, HS3, HB2⟩
                  case measure => simp [intOf]; omega
            · obtain rfl : r = 4 := bad 4 (by unfold entE; rw [if_neg q3, if_neg (by simp), if_neg (by simp), if_pos ⟨rfl, q5⟩]) (by decide)
              have h5 : (y4 == y1) = false := beq_eq_false_iff_ne.2 q5
              have h6 : (y4 != y1) = true := by rw [bne, h5]; rfl
              clear bad HS HY q3 HQ q5
              go_wp2
              go_ret
              exact ⟨rfl, HB1.out⟩
        · obtain rfl : r = 13 := bad 13 (by unfold entE; rw [if_neg q3, if_pos q4]) (by decide)
          have h5 : (y3 == 0) = false := beq_eq_false_iff_ne.2 q4
          have h6 : (y3 != 0) = true := by rw [bne, h5]; rfl
          clear bad HS HY q3 q4
          go_wp2
          go_ret
          exact ⟨rfl, HB1.out⟩
      · have hkn : ¬ ((k : Int) < (n : Int)) := by omega
        have HF := Lib.hid (show r = 0 by
          have h1 := HLN.out
          rw [HR.out, List.drop_eq_nil_of_le (by omega)]
          cases l.take k <;> rfl)
        clear HR
        go_wp2
        go_ret
        exact ⟨by rw [HF.out]; rfl, HB.out⟩
end Go.Proofs.YtilapnejkdgomaaDoor
