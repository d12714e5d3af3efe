/- The walk of speedStack. Conditions: at most 20 values. -/
import Derived.Test.YtkloaopjlbinpaaTeN
import Derived.Test.YtkloaopjlbinpaaTeG
set_option linter.unusedVariables false
set_option linter.unusedSimpArgs false
namespace Go.Proofs.Ytkloaopjlbinpaa
open Go.RowKit Go.MapKept

set_option maxRecDepth 100000 in
set_option maxHeartbeats 6400000 in
theorem stack_do (w W : World) (sb vb ob : Nat) (A : Option Addr) (n c : Nat) (l : List Int) (hl : l.length = n) (hn : n ≤ 20) (hA : Reads w (fun _ => True) 1 A n (l.map (.int .i64))) (hv : HB 22 w vb #[.slice A n c]) (ho : HB 4 w ob #[.bool true])
    (hb : Below w.heap.size w W) (hs : SpE W (fun b => w.heap.size ≤ b) w.heap.size sb zeroM []) :
    Calls Try.prog 18 #[.pointer (some ⟨sb, 0, none⟩), .pointer (some ⟨vb, 0, none⟩), .pointer (some ⟨ob, 0, none⟩)] W fun e W' => e = .returned (.tuple #[]) ∧ ∃ P', SpE W' (fun b => w.heap.size ≤ b) w.heap.size sb zeroM P' ∧ P'.length ≤ 80000 ∧ KX (fun b => w.heap.size ≤ b) W W' ∧ ∃ nh, StkI (cur zeroM P') l.reverse nh ∧ nh ≤ n := by
  have HL := Lib.hid hl
  have HN := Lib.hid hn
  have HA := Lib.hid hA
  have HV := Lib.hid hv
  have HO := Lib.hid ho
  have HB0 := Lib.hid hb
  have S0 := Lib.hid hs
  have hn6 : (n : Int) ≤ 20 := by omega
  have c1 : W.cell? ⟨vb, 0, none⟩ = some (.slice A n c) := (hv.below hb).cell 0
  clear hl hn hA hv ho hb hs
  go_enter Try.func18, Try.ntmps18
  go_wp2_with fail
  clear c1
  go_loopw [8] (fun v8 wr => ∃ (j : Nat) (P : List (Int × Int)) (nh : Nat), v8 = .int .i64 j ∧ j ≤ n ∧ SpE wr (fun b => w.heap.size ≤ b) w.heap.size sb zeroM P ∧ StkI (cur zeroM P) (l.take j).reverse nh ∧ nh ≤ j ∧ P.length ≤ 7 * j ∧ KX (fun b => w.heap.size ≤ b) W wr) (fun v8 _ => n - (intOf v8).toNat)
  case atStart => exact ⟨0, [], 0, rfl, Nat.zero_le _, S0.out, stk_zero fun _ => rfl, Nat.le_refl _, Nat.le_refl _, KX.refl _ _⟩
  case round =>
    clear S0
    obtain ⟨j, P, nh, rfl, hj, hs, hk, hnh, hp, hkx⟩ := hrel
    have S := Lib.hid hs
    have K := Lib.hid hk
    have NH := Lib.hid (And.intro hnh hp)
    have KW := Lib.hid hkx
    have CK := Lib.hid (show ∀ b, b < w.heap.size → wr.heap[b]? = w.heap[b]? from fun b hb => (hkx.block b (Nat.lt_of_lt_of_le hb HB0.out.size) (by omega)).trans (HB0.out.block b hb))
    clear hs hk hnh hp hkx
    by_cases hlt : j < n
    · have hi2 : (j : Int) < (n : Int) := by omega
      obtain ⟨x, hx⟩ : ∃ x, l[j]? = some x := ⟨_, List.getElem?_eq_getElem (by have := HL.out; omega)⟩
      obtain ⟨b, q, rfl, hbl, -, hc⟩ := HA.out.2 (by omega)
      have d0 : wr.cell? ⟨b, q + j, none⟩ = some (.int .i64 x) := (World.cell?_of_block (a := ⟨b, q + j, none⟩) (CK.out b hbl)).trans (hc j _ (by rw [List.getElem?_map, hx]; rfl))
      have c2 : wr.cell? ⟨ob, 0, none⟩ = some (.bool true) := (World.cell?_of_block (a := ⟨ob, 0, none⟩) (CK.out ob HO.out.lt)).trans (HO.out.cell 0)
      have TK := Lib.hid (show (l.take (j + 1)).reverse = x :: (l.take j).reverse from by rw [List.take_add_one, hx]; simp)
      have HLT := Lib.hid hlt
      clear hx hbl hc hlt hj
      go_wp2_with fail
      refine (pool_any _).mono ?_
      rintro e w2 ⟨rfl, hb2⟩
      have S2 := Lib.hid (S.out.below hb2)
      have K2 := Lib.hid (KW.out.trans (KX.of_below hb2))
      clear hb2 d0 c2
      go_wp2_with fail
      refine (root_any _).mono ?_
      rintro e w3 ⟨rfl, hb3⟩
      have S3 := Lib.hid (S2.out.below hb3)
      have K3 := Lib.hid (K2.out.trans (KX.of_below hb3))
      have X3 := Lib.hid (show ∀ b, w3.heap.size ≤ b → w.heap.size ≤ b from fun b hb => Nat.le_trans (Nat.le_trans HB0.out.size K3.out.size) hb)
      clear hb3 S K2 S2 KW
      have hf1 : ∀ (x y : Value) (W : World), (Instr.field 46 (.agg #[x, y]) 1).run Try.prog W = .ok y W := fun _ _ _ => by kernel_rfl
      go_wp2_with fail
      refine (stk_push S3.out X3.out (by have := NH.out; have := HN.out; have := HLT.out; omega) K.out (by have := NH.out; have := HN.out; have := HLT.out; omega) x).mono ?_
      rintro e w4 ⟨rfl, hk4, P4, nh4, hs4, hst4, hnh4, hp4⟩
      have K4 := Lib.hid (K3.out.trans hk4)
      have S4 := Lib.hid hs4
      have ST4 := Lib.hid (show StkI (cur zeroM P4) (l.take (j + 1)).reverse nh4 from by rw [TK.out]; exact hst4)
      have N4 := Lib.hid (And.intro hnh4 hp4)
      have HO4 : HB 4 w4 ob #[.bool true] := ((K4.out.block ob (Nat.lt_of_lt_of_le HO.out.lt HB0.out.size) (by have := HO.out.lt; omega)).trans (HB0.out.block ob HO.out.lt)).trans HO.out
      have c4 : w4.cell? ⟨ob, 0, none⟩ = some (.bool true) := HO4.cell 0
      have f4 : w4.frozen? ⟨ob, 0, none⟩ = false := HO4.free 0
      have hsame := setCell_same HO4 0 (.bool true) rfl
      clear hk4 hs4 hst4 hnh4 hp4 HO4
      go_wp2
      go_roundw
      case rel => exact ⟨j + 1, P4, nh4, by go_num, HLT.out, S4.out, ST4.out, by have := N4.out; have := NH.out; omega, by have := N4.out; have := NH.out; omega, K4.out⟩
      case measure =>
        have := HLT.out
        show n - ((j + 1 : Nat) : Int).toNat < n - (j : Int).toNat
        omega
    · have hi2 : ¬ (j : Int) < (n : Int) := by omega
      have TK := Lib.hid (show l.take j = l from List.take_of_length_le (by have := HL.out; omega))
      have KF := Lib.hid (show StkI (cur zeroM P) l.reverse nh from by have := K.out; rw [TK.out] at this; exact this)
      have LE := Lib.hid hj
      clear hlt hj
      go_wp2
      go_end0
      exact ⟨rfl, P, S.out, by have := NH.out; have := HN.out; have := LE.out; omega, KW.out, nh, KF.out, by have := NH.out; have := LE.out; omega⟩
end Go.Proofs.Ytkloaopjlbinpaa
