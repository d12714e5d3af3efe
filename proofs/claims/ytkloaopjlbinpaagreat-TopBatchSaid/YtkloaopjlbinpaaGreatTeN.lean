/- The walks of law33's Fresh, of the laws' pool and root. No condition. -/
import Derived.Test.YtkloaopjlbinpaaGreatTeM
set_option linter.unusedVariables false
set_option linter.unusedSimpArgs false
namespace Go.Proofs.YtkloaopjlbinpaaGreat
open Go.RowKit Go.MapKept

def zeroM : Mem := ⟨fun _ => 0, fun _ => 0⟩
def zj (j : Nat) : Int → Option Value := fun k => if 0 ≤ k ∧ k < (j : Int) then some (wdV 0 0) else none
theorem zj_zero : zj 0 = fun _ => none := by
  funext k
  unfold zj
  rw [if_neg (by omega)]
theorem zj_step (j : Nat) : upd (zj j) (j : Int) (.agg #[.int .i64 0, .int .u32 0, .int .u32 0]) = zj (j + 1) := by
  funext k
  unfold upd zj
  by_cases h : k = j
  · rw [if_pos h, if_pos (by omega)]; rfl
  · rw [if_neg h]
    by_cases h2 : 0 ≤ k ∧ k < (j : Int)
    · rw [if_pos h2, if_pos (by omega)]
    · rw [if_neg h2, if_neg (by omega)]
theorem zj_all : zj 1120 = zeroM.at := by
  funext k
  unfold zj Mem.at inM zeroM
  rfl
theorem zero_fits : zeroM.Fits 0 := fun k _ => ⟨Int.le_refl _, Int.le_refl _⟩
set_option maxRecDepth 100000 in
set_option maxHeartbeats 6400000 in
theorem fresh_any (w : World) : Calls Tryz.prog 14 #[.int .i64 1120] w fun e w' => e = .returned (.map (some w.heap.size)) ∧ IntMap w' w.heap.size zeroM.at ∧ Below w.heap.size w w' := by
  have hmm := @run_makeMap Tryz.prog
  obtain ⟨W1, hW1⟩ : ∃ W, W = w.alloc (.map #[] 0) := ⟨_, rfl⟩
  have b1 : Below w.heap.size w W1 := by rw [hW1]; exact below_alloc _ _
  have M1 := Lib.hid (show IntMap W1 w.heap.size (zj 0) from by rw [hW1, zj_zero]; exact IntMap.made w)
  have B1 := Lib.hid b1
  clear b1
  go_enter Tryz.func14, Tryz.ntmps14
  go_upto_region 2 with fail
  rw [← hW1]
  clear hW1 hmm
  go_wp2_with fail
  go_loopw [7] (fun v7 wr => ∃ j : Nat, v7 = .int .i64 j ∧ j ≤ 1120 ∧ IntMap wr w.heap.size (zj j) ∧ Below w.heap.size w wr) (fun v7 _ => 1120 - (intOf v7).toNat)
  case atStart => exact ⟨0, rfl, Nat.zero_le _, M1.out, B1.out⟩
  case round =>
    clear M1 B1
    obtain ⟨j, rfl, hj, hm, hb⟩ := hrel
    have M := Lib.hid hm
    have B := Lib.hid hb
    clear hm hb
    by_cases hlt : j < 1120
    · have hi2 : (j : Int) < 1120 := by omega
      have HLT := Lib.hid hlt
      clear hlt hj
      go_wp2_with (at_mapUpdate; refine Hid.out ?_)
      refine Lib.hid ?_
      refine wpList_mapUpdate_mine rfl (.tmp 10) (.tmp 11) (.tmp 12) 35 rfl 51 96 Tryz.underlying35 Tryz.underlying51 w.heap.size _ M.out rfl j rfl (.agg #[.int .i64 0, .int .u32 0, .int .u32 0]) rfl (fun w2 hm hg hs => ?_)
      rw [zj_step] at hm
      have FM := Lib.hid hm
      have FB := Lib.hid (show Below w.heap.size w w2 from B.out.trans ((KX.of_grown (X := fun b => b = w.heap.size) hg fun k e => (Option.some.inj e).symm).below B.out.size (fun b hb => by omega)))
      clear hm hg hs
      go_wp2
      go_roundw
      case rel => exact ⟨j + 1, by go_num, HLT.out, FM.out, FB.out⟩
      case measure =>
        have := HLT.out
        show 1120 - ((j + 1 : Nat) : Int).toNat < 1120 - (j : Int).toNat
        omega
    · have hi2 : ¬ (j : Int) < 1120 := by omega
      obtain rfl : j = 1120 := by omega
      have FM := Lib.hid (show IntMap wr w.heap.size zeroM.at from by rw [← zj_all]; exact M.out)
      go_wp2
      go_ret
      exact ⟨rfl, FM.out, B.out⟩
theorem rt_size : (Tryz.prog.info? 56).map (·.size) = some 2 := by kernel_rfl
theorem po_size : (Tryz.prog.info? 53).map (·.size) = some 3 := by kernel_rfl
set_option maxRecDepth 100000 in
set_option maxHeartbeats 6400000 in
theorem root_any (w : World) : Calls Tryz.prog 13 #[.int .i64 1] w fun e w' => e = .returned (.agg #[.int .i64 1, .int .i64 16]) ∧ Below w.heap.size w w' := by
  obtain ⟨W0, hW0⟩ : ∃ W, W = w.alloc (.cells #[.int .i64 0, .int .i64 0] 56) := ⟨_, rfl⟩
  have R0 := Lib.hid (show HB 56 W0 w.heap.size #[.int .i64 0, .int .i64 0] from by rw [hW0]; exact HB.new _ _ _)
  have B0 := Lib.hid (show Below w.heap.size w W0 by rw [hW0]; exact below_alloc _ _)
  have HK := Lib.hid (show HB 56 ((W0.setCell ⟨w.heap.size, 0, none⟩ (.int .i64 1)).setCell ⟨w.heap.size, 1, none⟩ (.int .i64 16)) w.heap.size #[.int .i64 1, .int .i64 16] from ((R0.out.set 0 (.int .i64 1)).set 1 (.int .i64 16)))
  have BK := Lib.hid (show Below w.heap.size w ((W0.setCell ⟨w.heap.size, 0, none⟩ (.int .i64 1)).setCell ⟨w.heap.size, 1, none⟩ (.int .i64 16)) from ((B0.out.setCell (Nat.le_refl _) _).setCell (Nat.le_refl _) _))
  have c0 : W0.cell? ⟨w.heap.size, 0, none⟩ = some (.int .i64 0) := R0.out.cell 0
  have f0 : W0.frozen? ⟨w.heap.size, 0, none⟩ = false := R0.out.free 0
  have c1 : W0.cell? ⟨w.heap.size, 1, none⟩ = some (.int .i64 0) := R0.out.cell 1
  have f1 : W0.frozen? ⟨w.heap.size, 1, none⟩ = false := R0.out.free 1
  go_enter Tryz.func13, Tryz.ntmps13
  go_upto_region 1 with fail
  rw [← hW0]
  clear hW0
  go_wp2
  refine bodyPost_ret (results_cell_row rfl _ _ w.heap.size _ _ _ _ rfl HK.out Tryz.underlying56 rfl rt_size) rfl ?_
  exact ⟨rfl, BK.out⟩
set_option maxRecDepth 100000 in
set_option maxHeartbeats 6400000 in
theorem pool_any (w : World) : Calls Tryz.prog 12 #[] w fun e w' => e = .returned (.agg #[.int .i64 1, .int .i64 96, .int .i64 128]) ∧ Below w.heap.size w w' := by
  obtain ⟨W0, hW0⟩ : ∃ W, W = w.alloc (.cells #[.int .i64 0, .int .i64 0, .int .i64 0] 53) := ⟨_, rfl⟩
  have R0 := Lib.hid (show HB 53 W0 w.heap.size #[.int .i64 0, .int .i64 0, .int .i64 0] from by rw [hW0]; exact HB.new _ _ _)
  have B0 := Lib.hid (show Below w.heap.size w W0 by rw [hW0]; exact below_alloc _ _)
  have HK := Lib.hid (show HB 53 (((W0.setCell ⟨w.heap.size, 0, none⟩ (.int .i64 1)).setCell ⟨w.heap.size, 1, none⟩ (.int .i64 96)).setCell ⟨w.heap.size, 2, none⟩ (.int .i64 128)) w.heap.size #[.int .i64 1, .int .i64 96, .int .i64 128] from (((R0.out.set 0 (.int .i64 1)).set 1 (.int .i64 96)).set 2 (.int .i64 128)))
  have BK := Lib.hid (show Below w.heap.size w (((W0.setCell ⟨w.heap.size, 0, none⟩ (.int .i64 1)).setCell ⟨w.heap.size, 1, none⟩ (.int .i64 96)).setCell ⟨w.heap.size, 2, none⟩ (.int .i64 128)) from (((B0.out.setCell (Nat.le_refl _) _).setCell (Nat.le_refl _) _).setCell (Nat.le_refl _) _))
  have c0 : W0.cell? ⟨w.heap.size, 0, none⟩ = some (.int .i64 0) := R0.out.cell 0
  have f0 : W0.frozen? ⟨w.heap.size, 0, none⟩ = false := R0.out.free 0
  have c1 : W0.cell? ⟨w.heap.size, 1, none⟩ = some (.int .i64 0) := R0.out.cell 1
  have f1 : W0.frozen? ⟨w.heap.size, 1, none⟩ = false := R0.out.free 1
  have c2 : W0.cell? ⟨w.heap.size, 2, none⟩ = some (.int .i64 0) := R0.out.cell 2
  have f2 : W0.frozen? ⟨w.heap.size, 2, none⟩ = false := R0.out.free 2
  go_enter Tryz.func12, Tryz.ntmps12
  go_upto_region 1 with fail
  rw [← hW0]
  clear hW0
  go_wp2
  refine bodyPost_ret (results_cell_row rfl _ _ w.heap.size _ _ _ _ rfl HK.out Tryz.underlying53 rfl po_size) rfl ?_
  exact ⟨rfl, BK.out⟩
end Go.Proofs.YtkloaopjlbinpaaGreat
