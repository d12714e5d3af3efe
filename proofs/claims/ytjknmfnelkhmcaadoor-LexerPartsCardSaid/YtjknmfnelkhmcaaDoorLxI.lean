/- The walk of the law LexerParts: true. Condition: the package's tables are laid (LxW). -/
import Derived.Test.YtjknmfnelkhmcaaDoorLxH
set_option linter.unusedVariables false
set_option linter.unusedSimpArgs false
namespace Go.Proofs.YtjknmfnelkhmcaaDoor
open Go.RowKit


set_option maxRecDepth 100000 in
set_option maxHeartbeats 6400000 in
theorem parts_long (l : List UInt8) (w : World) (hw : LxW w) (hmax : l.length ≤ 9223372036854775807) (h2 : 2000 < l.length) :
    Calls Tryd.prog 4 #[.string (bs l)] w fun e w' => e = .returned (.bool true) ∧ Below w.heap.size w w' := by
  have hsz := bs_size l
  have h2i : (2000 : Int) < (l.length : Int) := by omega
  have HW := Lib.hid hw
  have HB0 := Lib.hid (Below.refl w.heap.size w)
  clear hw h2
  go_enter Tryd.func4, Tryd.ntmps4
  go_wp2_with fail
  refine (awake_any w HW.out).mono ?_
  rintro e wz ⟨rfl, hb⟩
  have HBz := Lib.hid (HB0.out.trans (hb.mono HB0.out.size))
  clear hb HB0 HW
  go_wp2
  go_ret
  exact ⟨by first | rfl | simp, HBz.out⟩

set_option maxRecDepth 100000 in
set_option maxHeartbeats 6400000 in
theorem parts_err (l : List UInt8) (w : World) (hw : LxW w) (hmax : l.length ≤ 9223372036854775807) (h2 : ¬ 2000 < l.length) (p : Nat × Int) (hR : scanR l = .error p) :
    Calls Tryd.prog 4 #[.string (bs l)] w fun e w' => e = .returned (.bool true) ∧ Below w.heap.size w w' := by
  have hsz := bs_size l
  have h2i : (l.length : Int) ≤ 2000 := by omega
  have HW := Lib.hid hw
  have HSC := Lib.hid (scan_any l w hw hmax)
  rw [show scanL l = ([], p.1, p.2) by unfold scanL; rw [if_neg (by omega), hR]] at HSC
  have hp := scanG_err _ _ _ p hR
  generalize p.2 = pe at *
  generalize p.1 = pk at *
  clear hw h2 hR hmax
  go_enter Tryd.func4, Tryd.ntmps4
  go_wp2_with fail
  refine HSC.out.mono ?_
  rintro e w1 ⟨v, rfl, ho, hb⟩
  obtain ⟨A, c, rfl, _, _, _⟩ := own_reads ho (S := fun _ => True) (fun b hb => trivial)
  have HB1 := Lib.hid hb
  have HW1 := Lib.hid (HW.out.below hb)
  clear ho hb HW HSC
  go_wp2_with fail
  refine (awake_any w1 HW1.out).mono ?_
  rintro e wz ⟨rfl, hb⟩
  have HBz := Lib.hid (HB1.out.trans (hb.mono HB1.out.size))
  clear hb HB1 HW1
  go_wp2
  go_ret
  exact ⟨by first | rfl | simp, HBz.out⟩

set_option maxRecDepth 100000 in
set_option maxHeartbeats 6400000 in
theorem parts_yes (l : List UInt8) (w : World) (hw : LxW w) (hmax : l.length ≤ 9223372036854775807) (h2 : ¬ 2000 < l.length) (ts : List Tok) (hR : scanR l = .ok ts) :
    Calls Tryd.prog 4 #[.string (bs l)] w fun e w' => e = .returned (.bool true) ∧ Below w.heap.size w w' := by
  have hsz := bs_size l
  have h2i : (l.length : Int) ≤ 2000 := by omega
  have HW := Lib.hid hw
  have HSC := Lib.hid (scan_any l w hw hmax)
  rw [show scanL l = (ts ++ [⟨0, [], l.length⟩], 0, 0) by unfold scanL; rw [if_neg (by omega), hR]] at HSC
  have HP := Lib.hid fun i hi => scan_ok_parts (l := l) (by omega) hR i hi
  have HL2 := Lib.hid (show l.length ≤ 2000 by omega)
  have HLN := Lib.hid (show (ts ++ [(⟨0, [], l.length⟩ : Tok)]).length = ts.length + 1 by simp)
  have HLST := Lib.hid (show (ts ++ [(⟨0, [], l.length⟩ : Tok)]).getD ts.length ⟨0, [], 0⟩ = ⟨0, [], l.length⟩ by rw [List.getD_eq_getElem?_getD, List.getElem?_append_right (Nat.le_refl _)]; simp)
  clear hw h2 hR
  dsimp only at HSC
  rw [HLN.out] at HSC
  generalize ts ++ [(⟨0, [], l.length⟩ : Tok)] = L at *
  go_enter Tryd.func4, Tryd.ntmps4
  go_wp2_with fail
  refine HSC.out.mono ?_
  rintro e w1 ⟨v, rfl, ho, hb⟩
  have HB1 := Lib.hid hb
  have HW1 := Lib.hid (HW.out.below hb)
  rw [← HLN.out] at ho
  obtain ⟨g, c, rfl, hg, _, hc⟩ := toks_at ho (by rw [HLN.out]; omega)
  rw [HLN.out]
  have HC := Lib.hid hc
  have HG := Lib.hid hg
  clear ho hb HW HSC hc hg
  have hn1 := HLN.out
  have HTB := Lib.hid (show ts.length ≤ 2000 from parts_count HP.out HLN.out HL2.out)
  have htb : (ts.length : Int) ≤ 2000 := by have := HTB.out; omega
  clear hn1
  go_wp2
  go_loopw [6, 32] (fun a6 i wr => ∃ k : Nat, k ≤ ts.length + 1 ∧ i = .int .i64 k ∧ a6 = .int .i64 (atB 0 L k) ∧ Hid (Below w.heap.size w wr) ∧ Hid (Below w1.heap.size w1 wr)) (fun _ i _ => ts.length + 1 - (intOf i).toNat)
  case atStart => exact ⟨0, by omega, rfl, rfl, HB1, Lib.hid (Below.refl _ _)⟩
  case round =>
    obtain ⟨k, hk, rfl, rfl, HB, HS⟩ := hrel
    by_cases hlt : k < ts.length + 1
    · skip
      have hki : (k : Int) < (ts.length : Int) + 1 := by omega
      have HK := Lib.hid hlt
      have hkL : k < L.length := by rw [HLN.out]; exact hlt
      obtain ⟨c0, c1, c2⟩ := HC.out wr HS.out k hkL
      have hP := HP.out k hkL
      have HNX := Lib.hid (atB_succ 0 L k hkL)
      generalize hT : L[k] = t at *
      obtain ⟨tk, tx, to⟩ := t
      clear hT
      dsimp only at c0 c1 c2 HNX
      obtain ⟨p1, p2, p3, p4, p5⟩ := hP
      dsimp only at p1 p2 p3 p4 p5
      generalize atB 0 L k = a at *
      have HGAP := Lib.hid p5
      have HTX := Lib.hid (show (bs l).extract to (to + tx.length) = bs tx by rw [bs_extract, Nat.add_sub_cancel_left, p3])
      have hsg : (bs l).extract a to = bs ((l.drop a).take (to - a)) := bs_extract l a to
      have q1 : ¬ (to : Int) < (a : Int) := by omega
      have q2 : ¬ (l.length : Int) < (to : Int) + (tx.length : Int) := by omega
      have q3 : (to : Int) + (tx.length : Int) ≤ 2000 := by omega
      have q4 : (to : Int) ≤ ((bs l).size : Int) := by omega
      have q5 : (a : Int) ≤ (to : Int) := by omega
      have hxs : (bs tx).size = tx.length := bs_size tx
      have htl : (bs tx).toList = tx := bs_toList tx
      have htx := HTX.out
      clear HTX
      have he : tx.isEmpty = decide (k = ts.length) := p4
      have HP2 := Lib.hid p2
      have hto : to ≤ l.length := by omega
      have HTO := Lib.hid hto
      clear p1 p2 p3 p4 p5 hkL hk hlt hto
      generalize tx.length = n at *
      have d1 : decide (to < a) = false := decide_eq_false (by omega)
      have d2 : decide (l.length < to + n) = false := decide_eq_false (by omega)
      have d3 : decide ((l.length : Int) < (to : Int) + (n : Int)) = false := decide_eq_false q2
      have w1 : IntKind.i64.wrap ((to : Int) + (n : Int)) = (to : Int) + (n : Int) := by simp [IntKind.wrap, IntKind.bits, IntKind.signed]; omega
      have w2 : IntKind.i64.wrap ((ts.length : Int) + 1 - 1) = (ts.length : Int) := by simp [IntKind.wrap, IntKind.bits, IntKind.signed]; omega
      have hbx : Box (wr.alloc (.cells #[.int .i64 tk, .string (bs tx), .int .i64 to] 33)) wr.heap.size (.int .i64 tk) (.string (bs tx)) (.int .i64 to) := heap_alloc_new _ _
      have HBa := Lib.hid (HB.out.alloc HB.out.size (.cells #[.int .i64 tk, .string (bs tx), .int .i64 to] 33))
      have HSa := Lib.hid (HS.out.alloc HS.out.size (.cells #[.int .i64 tk, .string (bs tx), .int .i64 to] 33))
      obtain ⟨e0, e1, e2⟩ := hbx.cells
      have hseg : ((l.drop a).take (to - a)).length ≤ 2000 := by rw [List.length_take, List.length_drop]; have := HL2.out; omega
      have HBq := Lib.hid fun nn => below_drewN HBa.out nn
      have HSq := Lib.hid fun nn => below_drewN HSa.out nn
      have HSX := Lib.hid fun nn => scan_any ((l.drop a).take (to - a)) ((wr.alloc (.cells #[.int .i64 tk, .string (bs tx), .int .i64 to] 33)).drewN nn) (HW1.out.below (HSq.out nn)) (by omega)
      rw [HGAP.out] at HSX
      dsimp only [List.length_singleton] at HSX
      have E1q := Lib.hid fun nn => (show ((wr.alloc (.cells #[.int .i64 tk, .string (bs tx), .int .i64 to] 33)).drewN nn).cell? ⟨wr.heap.size, 1, none⟩ = some (.string (bs tx)) from e1)
      have E2q := Lib.hid fun nn => (show ((wr.alloc (.cells #[.int .i64 tk, .string (bs tx), .int .i64 to] 33)).drewN nn).cell? ⟨wr.heap.size, 2, none⟩ = some (.int .i64 to) from e2)
      have HLQ := Lib.hid fun (nn : Nat) => (show wr.heap.size < ((wr.alloc (.cells #[.int .i64 tk, .string (bs tx), .int .i64 to] 33)).drewN nn).heap.size from lt_of_block (show ((wr.alloc (.cells #[.int .i64 tk, .string (bs tx), .int .i64 to] 33)).drewN nn).heap[wr.heap.size]? = _ from hbx))
      clear hbx HB HS hseg HBa HSa
      by_cases hlast : k = ts.length
      · skip
        subst hlast
        rw [decide_eq_true rfl] at he
        go_wp2_with fail
        go_quiet (fail)
        go_wp2_with fail
        refine (HSX.out _).mono ?_
        rintro e wy ⟨v2, rfl, ho, hb⟩
        obtain ⟨A2, cc2, rfl, _, _, _⟩ := own_reads ho (S := fun _ => True) (fun b hb => trivial)
        have HBy := Lib.hid ((HBq.out _).trans (hb.mono (HBq.out _).size))
        have HSy := Lib.hid ((HSq.out _).trans (hb.mono (HSq.out _).size))
        have y1 := (hb.cell (p := ⟨wr.heap.size, 1, none⟩) (HLQ.out _)).trans (E1q.out _)
        have y2 := (hb.cell (p := ⟨wr.heap.size, 2, none⟩) (HLQ.out _)).trans (E2q.out _)
        clear ho hb HSX HBq HSq E1q E2q HLQ e0 e1 e2 htx hsg
        go_wp2
        go_roundw
        case rel => exact ⟨ts.length + 1, HK.out, by go_num, by rw [HNX.out]; go_num, HBy, HSy⟩
        case measure => exact meas_up _ _ HK.out
      · skip
        have hne : ¬ (k : Int) = (ts.length : Int) := by omega
        have hnd : decide (k = ts.length) = false := decide_eq_false hlast
        rw [hnd] at he
        go_wp2_with fail
        go_quiet (fail)
        go_wp2_with fail
        refine (HSX.out _).mono ?_
        rintro e wy ⟨v2, rfl, ho, hb⟩
        obtain ⟨A2, cc2, rfl, _, _, _⟩ := own_reads ho (S := fun _ => True) (fun b hb => trivial)
        have HBy := Lib.hid ((HBq.out _).trans (hb.mono (HBq.out _).size))
        have HSy := Lib.hid ((HSq.out _).trans (hb.mono (HSq.out _).size))
        have y1 := (hb.cell (p := ⟨wr.heap.size, 1, none⟩) (HLQ.out _)).trans (E1q.out _)
        have y2 := (hb.cell (p := ⟨wr.heap.size, 2, none⟩) (HLQ.out _)).trans (E2q.out _)
        clear ho hb HSX HBq HSq E1q E2q HLQ e0 e1 e2 htx hsg
        go_wp2
        go_roundw
        case rel => exact ⟨k + 1, HK.out, by go_num, by rw [HNX.out]; go_num, HBy, HSy⟩
        case measure => exact meas_up _ _ HK.out
    · skip
      obtain rfl : k = ts.length + 1 := by omega
      have hki : ¬ (((ts.length + 1 : Nat) : Int)) < (ts.length : Int) + 1 := by omega
      rw [show (((ts.length + 1 : Nat) : Int)) = (ts.length : Int) + 1 by omega]
      have HE := Lib.hid (show atB 0 L (ts.length + 1) = l.length by show (L.getD ts.length ⟨0, [], 0⟩).off + (L.getD ts.length ⟨0, [], 0⟩).text.length = _; rw [HLST.out]; rfl)
      rw [HE.out]
      have hkL : ts.length < L.length := by rw [HLN.out]; omega
      have HC2 := Lib.hid fun wz (hz : Below w1.heap.size w1 wz) => (HC.out wz hz ts.length hkL).1
      have HK0 := HLST.out
      rw [List.getD_eq_getElem?_getD, List.getElem?_eq_getElem hkL] at HK0
      have HK1 := Lib.hid (show L[ts.length].kind = 0 by rw [show L[ts.length] = (some L[ts.length]).getD ⟨0, [], 0⟩ from rfl, HK0])
      rw [HK1.out] at HC2
      have HW2 := Lib.hid (HW1.out.below HS.out)
      have w2 : IntKind.i64.wrap ((ts.length : Int) + 1 - 1) = (ts.length : Int) := by simp [IntKind.wrap, IntKind.bits, IntKind.signed]; omega
      clear hk hlt HK0 HK1 hkL
      go_wp2_with fail
      refine (awake_any wr HW2.out).mono ?_
      rintro e wz ⟨rfl, hb⟩
      have HBz := Lib.hid (HB.out.trans (hb.mono HB.out.size))
      have z0 := HC2.out wz (HS.out.trans (hb.mono HS.out.size))
      clear hb HB HS HC2 HC HW2
      go_wp2
      go_ret
      exact ⟨by first | rfl | simp, HBz.out⟩
theorem parts_any (l : List UInt8) (w : World) (hw : LxW w) (hmax : l.length ≤ 9223372036854775807) :
    Calls Tryd.prog 4 #[.string (bs l)] w fun e w' => e = .returned (.bool true) ∧ Below w.heap.size w w' := by
  by_cases h2 : 2000 < l.length
  · exact parts_long l w hw hmax h2
  · cases hR : scanR l with
    | error p => exact parts_err l w hw hmax h2 p hR
    | ok ts => exact parts_yes l w hw hmax h2 ts hR
theorem parts_str (s : ByteArray) (w : World) (hw : LxW w) (hmax : s.size ≤ 9223372036854775807) :
    Calls Tryd.prog 4 #[.string s] w fun e w' => e = .returned (.bool true) ∧ Below w.heap.size w w' := by
  have h := parts_any s.data.toList w hw (by rw [← bs_size, bs_eta]; exact hmax)
  rwa [bs_eta] at h
end Go.Proofs.YtjknmfnelkhmcaaDoor
