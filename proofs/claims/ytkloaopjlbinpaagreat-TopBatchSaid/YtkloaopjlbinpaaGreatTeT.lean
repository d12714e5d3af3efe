/- The walk of speedDone. Conditions: at most 100 nodes, versions up to 1000. -/
import Derived.Test.YtkloaopjlbinpaaGreatTeR
set_option linter.unusedVariables false
set_option linter.unusedSimpArgs false
namespace Go.Proofs.YtkloaopjlbinpaaGreat
open Go.RowKit Go.MapKept

theorem done_hcf (args : Array Value) (W : World) : (callFunc 30 args).run Tryz.prog W = .ok (.enter 30 args) W := by kernel_rfl
theorem an_size : (Tryz.prog.info? 46).map (·.size) = some 2 := by kernel_rfl
theorem results_tct {P : Program} {fn : Func} {t p u : Tmp} {ty : TypeId} (h : fn.results = #[.tmp t, .cell p ty, .tmp u]) (tmps : Array Value) (w : World) (g : Nat) (tt : TypeId) (cs : Array Value) (fr : Nat × Nat) (d : TypeDesc)
    (hp : tmps.getD p undef = .pointer (some ⟨g, 0, none⟩)) (hg : w.heap[g]? = some (.cells cs tt fr))
    (hu : P.underlying ty = some d) (hd : (match d with | .struct _ | .array _ _ => true | _ => false) = true) (hi : (P.info? ty).map (·.size) = some cs.size) :
    (results fn tmps).run P w = .ok (.tuple #[tmps.getD t undef, .agg cs, tmps.getD u undef]) w := by
  have hp' : tmps[p]?.getD undef = .pointer (some ⟨g, 0, none⟩) := by simpa using hp
  simp [results, h, hp', asAddr, run_loadVar_row w g tt ty cs fr d hg hu hd hi, Sem.run_bind]
theorem all_do (w W : World) (sb b3 b7 b8 : Nat) (th v : Int) (pu : Bool) (g : Mem) (l : List Int) (nh : Nat) (h3 : HB 39 w b3 #[.int .i64 th, .bool pu, .int .i64 v]) (h7 : HB 51 w b7 #[.int .i64 16]) (h8 : HB 46 w b8 #[.int .i64 0, .int .i64 0]) (n3 : b3 ≠ b8) (n7 : b7 ≠ b8) (hst : StkI g.val l nh) (hnh : nh ≤ 100)
    (hb : Below w.heap.size w W) (hs : SpE W (fun b => w.heap.size ≤ b) w.heap.size sb g []) :
    Calls Tryz.prog 30 #[.pointer (some ⟨sb, 0, none⟩), .pointer (some ⟨b3, 0, none⟩), .pointer (some ⟨b7, 0, none⟩), .pointer (some ⟨b8, 0, none⟩)] W fun e W' => e = .returned (.tuple #[]) ∧ ∃ P', SpE W' (fun b => w.heap.size ≤ b) w.heap.size sb g P' ∧ P'.length ≤ 80000 ∧ KX (fun b => b = b8 ∨ w.heap.size ≤ b) W W' ∧ (∃ nh', StkI (cur g P') (stL pu v l) nh' ∧ nh' ≤ nh + 1) ∧ HB 46 W' b8 #[.int .i64 (stE pu l), .int .i64 (stV pu v l)] := by
  cases pu with
  | true => exact push_do w W sb b3 b7 b8 th v g l nh h3 h7 h8 n3 n7 hst hnh hb hs
  | false => exact pop_do w W sb b3 b7 b8 th v g l nh h3 h7 h8 n3 n7 hst hnh hb hs
set_option maxRecDepth 100000 in
set_option maxHeartbeats 6400000 in
theorem sdone_any (w : World) (kb : Nat) (g : Mem) (hm : IntMap w kb g.at) (hf : g.Fits 1000) (th v : Int) (pu : Bool) (l : List Int) (nh : Nat) (hst : StkI g.val l nh) (hnh : nh ≤ 100) :
    Calls Tryz.prog 11 #[.map (some kb), .agg #[.int .i64 th, .bool pu, .int .i64 v]] w fun e w' => ∃ (nb nh' : Nat) (g' : Mem), e = .returned (.tuple #[.map (some nb), .agg #[.int .i64 (stE pu l), .int .i64 (stV pu v l)], .bool true]) ∧ w.heap.size ≤ nb ∧ IntMap w' nb g'.at ∧ StkI g'.val (stL pu v l) nh' ∧ nh' ≤ nh + 1 ∧ (∀ n, g.Fits n → g'.Fits (n + 1)) ∧ Below w.heap.size w w' := by
  obtain ⟨W0, hW0⟩ : ∃ W, W = w.alloc (.cells #[.int .i64 th, .bool pu, .int .i64 v] 39) := ⟨_, rfl⟩
  obtain ⟨W1, hW1⟩ : ∃ W, W = W0.alloc (.cells #[.int .i64 0, .int .i64 0] 46) := ⟨_, rfl⟩
  have hb0 : Below w.heap.size w W0 := by rw [hW0]; exact below_alloc _ _
  have hb1 : Below W0.heap.size W0 W1 := by rw [hW1]; exact below_alloc _ _
  have s0 : W0.heap.size = w.heap.size + 1 := by rw [hW0]; exact World.size_alloc ..
  have s1 : W1.heap.size = w.heap.size + 2 := by rw [hW1, World.size_alloc, s0]
  have B1 := Lib.hid (show Below w.heap.size w W1 from hb0.trans (hb1.mono hb0.size))
  have OB := Lib.hid (show HB 39 W1 w.heap.size #[.int .i64 th, .bool pu, .int .i64 v] from HB.below (by rw [hW0]; exact HB.new _ _ _) hb1)
  have RB := Lib.hid (show HB 46 W1 (w.heap.size + 1) #[.int .i64 0, .int .i64 0] from by rw [hW1, ← s0]; exact HB.new _ _ _)
  have SZ1 := Lib.hid s1
  have M1 := Lib.hid (hm.below B1.out)
  have MLT := Lib.hid hm.lt
  have HF := Lib.hid hf
  have ST := Lib.hid hst
  have NH := Lib.hid hnh
  rw [hW0] at hW1
  clear hb0 hb1 s0 s1 hW0 hm hf hst hnh
  go_enter Tryz.func11, Tryz.ntmps11
  go_upto_region 1 with fail
  rw [← hW1]
  clear hW1
  go_wp2_with fail
  refine (root_any _).mono ?_
  rintro e w2 ⟨rfl, hb2⟩
  obtain ⟨W3, hW3⟩ : ∃ W, W = w2.alloc (.cells #[.int .i64 16] 51) := ⟨_, rfl⟩
  obtain ⟨W4, hW4⟩ : ∃ W, W = W3.alloc (.cells #[.int .i64 0, .int .i64 0] 46) := ⟨_, rfl⟩
  have hb3 : Below w2.heap.size w2 W3 := by rw [hW3]; exact below_alloc _ _
  have hb4 : Below W3.heap.size W3 W4 := by rw [hW4]; exact below_alloc _ _
  have s3 : W3.heap.size = w2.heap.size + 1 := by rw [hW3]; exact World.size_alloc ..
  have s4 : W4.heap.size = w2.heap.size + 2 := by rw [hW4, World.size_alloc, s3]
  have hb14 : Below W1.heap.size W1 W4 := hb2.trans ((hb3.trans (hb4.mono hb3.size)).mono hb2.size)
  have B4 := Lib.hid (show Below w.heap.size w W4 from B1.out.trans (hb14.mono B1.out.size))
  have OB4 := Lib.hid (OB.out.below hb14)
  have RB4 := Lib.hid (RB.out.below hb14)
  have M4 := Lib.hid (M1.out.below hb14)
  have LB4 := Lib.hid (show HB 51 W4 w2.heap.size #[.int .i64 16] from HB.below (by rw [hW3]; exact HB.new _ _ _) hb4)
  have AB4 := Lib.hid (show HB 46 W4 (w2.heap.size + 1) #[.int .i64 0, .int .i64 0] from by rw [hW4, ← s3]; exact HB.new _ _ _)
  have SZ := Lib.hid (show w.heap.size + 2 ≤ w2.heap.size ∧ W4.heap.size = w2.heap.size + 2 from ⟨by have := hb2.size; have := SZ1.out; omega, s4⟩)
  rw [hW3] at hW4
  have hf1 : ∀ (x y : Value) (W : World), (Instr.field 56 (.agg #[x, y]) 1).run Tryz.prog W = .ok y W := fun _ _ _ => by kernel_rfl
  clear hb2 hb3 hb4 hb14 s3 s4 hW3 OB RB M1 SZ1 B1
  go_upto_region 3 with fail
  rw [← hW4]
  clear hW4 hf1
  have KD := Lib.hid (done_any 30 #[.pointer (some ⟨w.heap.size, 0, none⟩), .pointer (some ⟨w2.heap.size, 0, none⟩), .pointer (some ⟨w2.heap.size + 1, 0, none⟩)] done_hcf W4 kb g M4.out (fun k hk => ⟨(HF.out k hk).1, Int.le_trans (HF.out k hk).2 (by decide)⟩) (fun b => b = w2.heap.size + 1) (fun P' W' => (∃ nh', StkI (cur g P') (stL pu v l) nh' ∧ nh' ≤ nh + 1) ∧ HB 46 W' (w2.heap.size + 1) #[.int .i64 (stE pu l), .int .i64 (stV pu v l)]) (fun h => by have := MLT.out; have := SZ.out; omega) (fun _ _ _ h hk => ⟨h.1, h.2.kx hk (fun h => by have := SZ.out; omega)⟩) (fun W sb hb _ hs => all_do W4 W sb w.heap.size w2.heap.size (w2.heap.size + 1) th v pu g l nh OB4.out LB4.out AB4.out (by have := SZ.out; omega) (by omega) ST.out NH.out hb hs))
  go_wp2_with fail
  refine KD.out.mono ?_
  rintro e w5 ⟨nb, ev, P', rfl, hnb, hm, ⟨⟨nh', hst, hnh⟩, h8⟩, hk⟩
  have M5 := Lib.hid hm
  have ST5 := Lib.hid (And.intro hst hnh)
  have RB5 := Lib.hid (RB4.out.kx hk (fun h => by have := SZ.out; omega))
  have B5 := Lib.hid (show Below w.heap.size w w5 from B4.out.trans (hk.below B4.out.size (fun b hb h => by have := SZ.out; omega)))
  have NB := Lib.hid (show w2.heap.size + 2 ≤ nb from by have := SZ.out; omega)
  have E8 := Lib.hid h8
  have c80 : _ = some (Value.int .i64 (stE pu l)) := h8.cell 0
  have c81 : _ = some (Value.int .i64 (stV pu v l)) := h8.cell 1
  have r0 : _ = some (Value.int .i64 0) := RB5.out.cell 0
  have r1 : _ = some (Value.int .i64 0) := RB5.out.cell 1
  have f0 := RB5.out.free 0
  have f1 := RB5.out.free 1
  clear hm hst hnh h8 hk hnb KD M4 OB4 RB4 LB4 AB4 B4
  go_wp2_with fail
  have hk5 : KX (fun b => b = w.heap.size + 1) w5.drew ((w5.drew.setCell ⟨w.heap.size + 1, 0, none⟩ (.int .i64 (stE pu l))).setCell ⟨w.heap.size + 1, 1, none⟩ (.int .i64 (stV pu v l))) := (KX.of_grown (gr_put _ _ _ _) fun k e => (Option.some.inj e).symm).trans (KX.of_grown (gr_put _ _ _ _) fun k e => (Option.some.inj e).symm)
  have HK5 := Lib.hid hk5
  have RR := Lib.hid (show HB 46 ((w5.drew.setCell ⟨w.heap.size + 1, 0, none⟩ (.int .i64 (stE pu l))).setCell ⟨w.heap.size + 1, 1, none⟩ (.int .i64 (stV pu v l))) (w.heap.size + 1) #[.int .i64 (stE pu l), .int .i64 (stV pu v l)] from HB.set (HB.set (u := #[.int .i64 0, .int .i64 0]) RB5.out 0 (.int .i64 (stE pu l))) 1 (.int .i64 (stV pu v l)))
  clear hk5
  go_region
  all_goals
    go_wp2
    refine bodyPost_ret (results_tct rfl _ _ (w.heap.size + 1) _ _ _ _ rfl RR.out Tryz.underlying46 rfl an_size) rfl ?_
    exact ⟨nb, nh', nextM g P', rfl, by have := SZ.out; have := NB.out; omega, IntMap.keep M5.out (HK5.out.block nb M5.out.lt (fun h => by have := SZ.out; have := NB.out; omega)), ST5.out.1, ST5.out.2, fun n h => nextM_fits h, B5.out.drew.trans (HK5.out.below B5.out.size (fun b hb h => by omega))⟩
end Go.Proofs.YtkloaopjlbinpaaGreat
