/- The walk of the function that speedDone hands to Done. Conditions: at most 100 nodes. -/
import Derived.Test.YtkloaopjlbinpaaGreatQC
set_option linter.unusedVariables false
set_option linter.unusedSimpArgs false
namespace Go.Proofs.YtkloaopjlbinpaaGreat
open Go.RowKit Go.MapKept

def stL (pu : Bool) (v : Int) (l : List Int) : List Int := if pu then v :: l else l.tail
def stE (pu : Bool) (l : List Int) : Int := if pu then 0 else match l with | [] => 8 | _ => 0
def stV (pu : Bool) (v : Int) (l : List Int) : Int := if pu then v else l.headD 0
theorem pop_all {X : Nat → Prop} {w : World} {base sb : Nat} {g : Mem} (h : SpE w X base sb g []) (hX : ∀ b, w.heap.size ≤ b → X b) {l : List Int} {nh : Nat} (hs : StkI g.val l nh) :
    Calls Tryz.prog 31 #[.pointer (some ⟨sb, 0, none⟩), .agg #[.int .i64 1, .int .i64 96, .int .i64 128], .int .i64 16] w fun e w' => e = .returned (.tuple #[.int .i64 (stV false 0 l), .int .i64 (stE false l)]) ∧ KX X w w' ∧ ∃ P', SpE w' X base sb g P' ∧ StkI (cur g P') l.tail nh ∧ P'.length ≤ 7 := by
  cases l with
  | nil => exact (stk_none h hX hs).mono fun e w' h => ⟨h.1, h.2.2, [], h.2.1, hs, by simp⟩
  | cons v l =>
    refine (stk_pop h hX (by simp) hs).mono fun e w' h => ?_
    obtain ⟨rfl, hk, P', h1, h2, h3⟩ := h
    exact ⟨rfl, hk, P', h1, h2, by simpa using h3⟩
set_option maxRecDepth 100000 in
set_option maxHeartbeats 6400000 in
theorem push_do (w W : World) (sb b3 b7 b8 : Nat) (th v : Int) (g : Mem) (l : List Int) (nh : Nat) (h3 : HB 39 w b3 #[.int .i64 th, .bool true, .int .i64 v]) (h7 : HB 51 w b7 #[.int .i64 16]) (h8 : HB 46 w b8 #[.int .i64 0, .int .i64 0]) (n3 : b3 ≠ b8) (n7 : b7 ≠ b8) (hst : StkI g.val l nh) (hnh : nh ≤ 100)
    (hb : Below w.heap.size w W) (hs : SpE W (fun b => w.heap.size ≤ b) w.heap.size sb g []) :
    Calls Tryz.prog 30 #[.pointer (some ⟨sb, 0, none⟩), .pointer (some ⟨b3, 0, none⟩), .pointer (some ⟨b7, 0, none⟩), .pointer (some ⟨b8, 0, none⟩)] W fun e W' => e = .returned (.tuple #[]) ∧ ∃ P', SpE W' (fun b => w.heap.size ≤ b) w.heap.size sb g P' ∧ P'.length ≤ 80000 ∧ KX (fun b => b = b8 ∨ w.heap.size ≤ b) W W' ∧ (∃ nh', StkI (cur g P') (stL true v l) nh' ∧ nh' ≤ nh + 1) ∧ HB 46 W' b8 #[.int .i64 (stE true l), .int .i64 (stV true v l)] := by
  have NN := Lib.hid (And.intro n3 n7)
  have LE := Lib.hid (show b3 < w.heap.size ∧ b7 < w.heap.size ∧ b8 < w.heap.size from ⟨h3.lt, h7.lt, h8.lt⟩)
  have BSZ := Lib.hid hb.size
  have B3 := Lib.hid (h3.below hb)
  have B7 := Lib.hid (h7.below hb)
  have B8 := Lib.hid (h8.below hb)
  have ST := Lib.hid hst
  have NH := Lib.hid hnh
  have S0 := Lib.hid hs
  clear h3 h7 h8 hst hnh hb hs n3 n7
  have c1 : W.cell? ⟨b3, 1, none⟩ = some (.bool true) := B3.out.cell 1
  go_enter Tryz.func30, Tryz.ntmps30
  go_upto_region 1 with fail
  clear c1
  have hd := (Below.refl W.heap.size W).drew
  refine wp_region_held_drew (S := (fun W => HB 39 W b3 #[.int .i64 th, .bool true, .int .i64 v] ∧ HB 51 W b7 #[.int .i64 16])) (by kernel_rfl) ⟨B3.out.below hd, B7.out.below hd⟩ (fun hHeld => ?_)
  have SW := Lib.hid hHeld
  have SQ := Lib.hid (S0.out.below hd)
  have Q8 := Lib.hid (B8.out.below hd)
  have KQ := Lib.hid (KX.of_below (X := fun b => w.heap.size ≤ b) hd)
  clear hHeld hd B3 B7 B8 S0
  have QSZ := Lib.hid (Nat.le_trans BSZ.out KQ.out.size)
  generalize W.drew = wq at *
  refine wpAnyH_take (i := 0) (oi := ⟨some 7, _, _, _, _, _⟩) (v := .pointer (some ⟨sb, 0, none⟩)) rfl (by kernel_rfl) (by kernel_rfl) (by kernel_rfl) (fun _ _ _ h => h) (Or.inl ⟨by rfl, ?_⟩) SW.out ?_
  · intro W' hW
    go_simp
  try simp only [Act.put, List.setIfInBounds_toArray, List.set_cons_zero, List.set_cons_succ]
  refine wpAnyH_take (i := 2) (oi := ⟨some 9, _, _, _, _, _⟩) (v := .int .i64 16) rfl (by kernel_rfl) (by kernel_rfl) (by kernel_rfl) (fun _ _ _ h => h) (Or.inl ⟨by rfl, ?_⟩) SW.out ?_
  · intro W' hW
    have c9 := HB.cell hW.2 0
    go_simp
  try simp only [Act.put, List.setIfInBounds_toArray, List.set_cons_zero, List.set_cons_succ]
  refine wpAnyH_take (i := 3) (oi := ⟨some 10, _, _, _, _, _⟩) (v := .pointer (some ⟨b3, 2, none⟩)) rfl (by kernel_rfl) (by kernel_rfl) (by kernel_rfl) (fun _ _ _ h => h) (Or.inl ⟨by rfl, ?_⟩) SW.out ?_
  · intro W' hW
    go_simp
  try simp only [Act.put, List.setIfInBounds_toArray, List.set_cons_zero, List.set_cons_succ]
  refine wpAnyH_take (i := 4) (oi := ⟨some 11, _, _, _, _, _⟩) (v := .int .i64 v) rfl (by kernel_rfl) (by kernel_rfl) (by kernel_rfl) (fun _ _ _ h => h) (Or.inl ⟨by rfl, ?_⟩) SW.out ?_
  · intro W' hW
    have c9 := HB.cell hW.1 2
    go_simp
  try simp only [Act.put, List.setIfInBounds_toArray, List.set_cons_zero, List.set_cons_succ]
  refine wpAnyH_take (i := 6) (oi := ⟨some 13, _, _, _, _, _⟩) (v := .pointer (some ⟨b3, 2, none⟩)) rfl (by kernel_rfl) (by kernel_rfl) (by kernel_rfl) (fun _ _ _ h => h) (Or.inl ⟨by rfl, ?_⟩) SW.out ?_
  · intro W' hW
    go_simp
  try simp only [Act.put, List.setIfInBounds_toArray, List.set_cons_zero, List.set_cons_succ]
  refine wpAnyH_take (i := 7) (oi := ⟨some 14, _, _, _, _, _⟩) (v := .int .i64 v) rfl (by kernel_rfl) (by kernel_rfl) (by kernel_rfl) (fun _ _ _ h => h) (Or.inl ⟨by rfl, ?_⟩) SW.out ?_
  · intro W' hW
    have c9 := HB.cell hW.1 2
    go_simp
  try simp only [Act.put, List.setIfInBounds_toArray, List.set_cons_zero, List.set_cons_succ]
  refine wpAnyH_ready (rs := [1]) (by kernel_rfl) (by simp) ?_
  refine AllReadyH.cons (o := ⟨some 8, _, _, _, _, _⟩) rfl (fun K hK => ?_) AllReadyH.nil
  go_simp
  refine (pool_any _).mono ?_
  rintro e w2 ⟨rfl, hb2⟩
  have S2 := Lib.hid (SQ.out.below hb2)
  have E2 := Lib.hid (Q8.out.below hb2)
  have K2 := Lib.hid (KQ.out.trans (KX.of_below hb2))
  have Z2 := Lib.hid (Nat.le_trans QSZ.out hb2.size)
  have SW2 := Lib.hid (show (fun W => HB 39 W b3 #[.int .i64 th, .bool true, .int .i64 v] ∧ HB 51 W b7 #[.int .i64 16]) w2 from ⟨SW.out.1.below hb2, SW.out.2.below hb2⟩)
  clear hb2 SQ Q8 KQ QSZ
  refine hK.out _ _ SW2.out (fun hHeld => ?_)
  clear hK hHeld
  try simp only [Act.put, List.setIfInBounds_toArray, List.set_cons_zero, List.set_cons_succ]
  refine wpAnyH_ready (rs := [5]) (by kernel_rfl) (by simp) ?_
  refine AllReadyH.cons (o := ⟨some 12, _, _, _, _, _⟩) rfl (fun K hK => ?_) AllReadyH.nil
  go_simp
  refine (stk_push S2.out (fun b h => Nat.le_trans Z2.out h) (by simp) ST.out (by have := NH.out; omega) v).mono ?_
  rintro e w3 ⟨rfl, hk3, P3, nh3, hs3, hst3, hnh3, hp3⟩
  have S3 := Lib.hid hs3
  have E3 := Lib.hid (E2.out.kx hk3 (fun h => by have := LE.out; omega))
  have K3 := Lib.hid (K2.out.trans hk3)
  have SW3 := Lib.hid (show (fun W => HB 39 W b3 #[.int .i64 th, .bool true, .int .i64 v] ∧ HB 51 W b7 #[.int .i64 16]) w3 from ⟨SW2.out.1.kx hk3 (fun h => by have := LE.out; omega), SW2.out.2.kx hk3 (fun h => by have := LE.out; omega)⟩)
  have ST3 := Lib.hid hst3
  have N3 := Lib.hid (And.intro hnh3 hp3)
  clear hk3 hs3 hst3 hnh3 hp3 S2 E2 K2 Z2
  refine hK.out _ _ SW3.out (fun hHeld => ?_)
  clear hK hHeld
  try simp only [Act.put, List.setIfInBounds_toArray, List.set_cons_zero, List.set_cons_succ]
  refine wpAnyH_take (i := 8) (oi := ⟨some 15, _, _, _, _, _⟩) (v := .agg #[.int .i64 0, .int .i64 v]) rfl (by kernel_rfl) (by kernel_rfl) (by kernel_rfl) (fun _ _ _ h => h) (Or.inl ⟨by rfl, ?_⟩) SW3.out ?_
  · intro W' hW
    go_simp
  try simp only [Act.put, List.setIfInBounds_toArray, List.set_cons_zero, List.set_cons_succ]
  have c80 : _ = some (Value.int .i64 0) := E3.out.cell 0
  have c81 : _ = some (Value.int .i64 0) := E3.out.cell 1
  have f80 := E3.out.free 0
  have f81 := E3.out.free 1
  refine wpAnyH_ready (rs := [9]) (by kernel_rfl) (by simp) ?_
  refine AllReadyH.cons (o := ⟨none, _, _, _, _, _⟩) rfl (fun K hK => ?_) AllReadyH.nil
  go_simp
  have hk5 : KX (fun b => b = b8) w3 ((w3.setCell ⟨b8, 0, none⟩ (.int .i64 0)).setCell ⟨b8, 1, none⟩ (.int .i64 v)) := (KX.of_grown (gr_put _ _ _ _) fun k e => (Option.some.inj e).symm).trans (KX.of_grown (gr_put _ _ _ _) fun k e => (Option.some.inj e).symm)
  have E5 := Lib.hid (show HB 46 ((w3.setCell ⟨b8, 0, none⟩ (.int .i64 0)).setCell ⟨b8, 1, none⟩ (.int .i64 v)) b8 #[.int .i64 0, .int .i64 v] from (E3.out.set 0 (.int .i64 0)).set 1 (.int .i64 v))
  generalize (w3.setCell ⟨b8, 0, none⟩ (.int .i64 0)).setCell ⟨b8, 1, none⟩ (.int .i64 v) = w5 at *
  have SW5 := Lib.hid (show (fun W => HB 39 W b3 #[.int .i64 th, .bool true, .int .i64 v] ∧ HB 51 W b7 #[.int .i64 16]) w5 from ⟨SW3.out.1.kx hk5 NN.out.1, SW3.out.2.kx hk5 NN.out.2⟩)
  have S5 := Lib.hid (S3.out.kx hk5 (fun b _ h e => by have := LE.out; omega))
  have K5 := Lib.hid ((K3.out.mono (Y := fun b => b = b8 ∨ w.heap.size ≤ b) fun b _ h => .inr h).trans (hk5.mono fun b _ h => .inl h))
  clear hk5 SW3 S3 K3 E3
  refine hK.out _ _ SW5.out (fun hHeld => ?_)
  clear hK hHeld
  try simp only [Act.put, List.setIfInBounds_toArray, List.set_cons_zero, List.set_cons_succ]
  clear SW SW2
  refine wpAnyH_done (by kernel_rfl) ?_ _
  go_wp2_with fail
  refine bodyPost_ret (results_none rfl _ _ _) rfl ?_
  exact ⟨rfl, P3, S5.out, by have h9 : P3.length ≤ 0 + 7 := N3.out.2; omega, K5.out, ⟨nh3, ST3.out, N3.out.1⟩, E5.out⟩
set_option maxRecDepth 100000 in
set_option maxHeartbeats 6400000 in
theorem pop_do (w W : World) (sb b3 b7 b8 : Nat) (th v : Int) (g : Mem) (l : List Int) (nh : Nat) (h3 : HB 39 w b3 #[.int .i64 th, .bool false, .int .i64 v]) (h7 : HB 51 w b7 #[.int .i64 16]) (h8 : HB 46 w b8 #[.int .i64 0, .int .i64 0]) (n3 : b3 ≠ b8) (n7 : b7 ≠ b8) (hst : StkI g.val l nh) (hnh : nh ≤ 100)
    (hb : Below w.heap.size w W) (hs : SpE W (fun b => w.heap.size ≤ b) w.heap.size sb g []) :
    Calls Tryz.prog 30 #[.pointer (some ⟨sb, 0, none⟩), .pointer (some ⟨b3, 0, none⟩), .pointer (some ⟨b7, 0, none⟩), .pointer (some ⟨b8, 0, none⟩)] W fun e W' => e = .returned (.tuple #[]) ∧ ∃ P', SpE W' (fun b => w.heap.size ≤ b) w.heap.size sb g P' ∧ P'.length ≤ 80000 ∧ KX (fun b => b = b8 ∨ w.heap.size ≤ b) W W' ∧ (∃ nh', StkI (cur g P') (stL false v l) nh' ∧ nh' ≤ nh + 1) ∧ HB 46 W' b8 #[.int .i64 (stE false l), .int .i64 (stV false v l)] := by
  have NN := Lib.hid (And.intro n3 n7)
  have LE := Lib.hid (show b3 < w.heap.size ∧ b7 < w.heap.size ∧ b8 < w.heap.size from ⟨h3.lt, h7.lt, h8.lt⟩)
  have BSZ := Lib.hid hb.size
  have B3 := Lib.hid (h3.below hb)
  have B7 := Lib.hid (h7.below hb)
  have B8 := Lib.hid (h8.below hb)
  have ST := Lib.hid hst
  have NH := Lib.hid hnh
  have S0 := Lib.hid hs
  clear h3 h7 h8 hst hnh hb hs n3 n7
  have c1 : W.cell? ⟨b3, 1, none⟩ = some (.bool false) := B3.out.cell 1
  go_enter Tryz.func30, Tryz.ntmps30
  go_upto_region 2 with fail
  clear c1
  have hd := (Below.refl W.heap.size W).drew
  refine wp_region_held_drew (S := (fun W => HB 39 W b3 #[.int .i64 th, .bool false, .int .i64 v] ∧ HB 51 W b7 #[.int .i64 16])) (by kernel_rfl) ⟨B3.out.below hd, B7.out.below hd⟩ (fun hHeld => ?_)
  have SW := Lib.hid hHeld
  have SQ := Lib.hid (S0.out.below hd)
  have Q8 := Lib.hid (B8.out.below hd)
  have KQ := Lib.hid (KX.of_below (X := fun b => w.heap.size ≤ b) hd)
  clear hHeld hd B3 B7 B8 S0
  have QSZ := Lib.hid (Nat.le_trans BSZ.out KQ.out.size)
  generalize W.drew = wq at *
  refine wpAnyH_take (i := 0) (oi := ⟨some 17, _, _, _, _, _⟩) (v := .pointer (some ⟨sb, 0, none⟩)) rfl (by kernel_rfl) (by kernel_rfl) (by kernel_rfl) (fun _ _ _ h => h) (Or.inl ⟨by rfl, ?_⟩) SW.out ?_
  · intro W' hW
    go_simp
  try simp only [Act.put, List.setIfInBounds_toArray, List.set_cons_zero, List.set_cons_succ]
  refine wpAnyH_take (i := 2) (oi := ⟨some 19, _, _, _, _, _⟩) (v := .int .i64 16) rfl (by kernel_rfl) (by kernel_rfl) (by kernel_rfl) (fun _ _ _ h => h) (Or.inl ⟨by rfl, ?_⟩) SW.out ?_
  · intro W' hW
    have c9 := HB.cell hW.2 0
    go_simp
  try simp only [Act.put, List.setIfInBounds_toArray, List.set_cons_zero, List.set_cons_succ]
  refine wpAnyH_ready (rs := [1]) (by kernel_rfl) (by simp) ?_
  refine AllReadyH.cons (o := ⟨some 18, _, _, _, _, _⟩) rfl (fun K hK => ?_) AllReadyH.nil
  go_simp
  refine (pool_any _).mono ?_
  rintro e w2 ⟨rfl, hb2⟩
  have S2 := Lib.hid (SQ.out.below hb2)
  have E2 := Lib.hid (Q8.out.below hb2)
  have K2 := Lib.hid (KQ.out.trans (KX.of_below hb2))
  have Z2 := Lib.hid (Nat.le_trans QSZ.out hb2.size)
  have SW2 := Lib.hid (show (fun W => HB 39 W b3 #[.int .i64 th, .bool false, .int .i64 v] ∧ HB 51 W b7 #[.int .i64 16]) w2 from ⟨SW.out.1.below hb2, SW.out.2.below hb2⟩)
  clear hb2 SQ Q8 KQ QSZ
  refine hK.out _ _ SW2.out (fun hHeld => ?_)
  clear hK hHeld
  try simp only [Act.put, List.setIfInBounds_toArray, List.set_cons_zero, List.set_cons_succ]
  refine wpAnyH_ready (rs := [3]) (by kernel_rfl) (by simp) ?_
  refine AllReadyH.cons (o := ⟨some 20, _, _, _, _, _⟩) rfl (fun K hK => ?_) AllReadyH.nil
  go_simp
  refine (pop_all S2.out (fun b h => Nat.le_trans Z2.out h) ST.out).mono ?_
  rintro e w3 ⟨rfl, hk3, P3, hs3, hst3, hp3⟩
  have S3 := Lib.hid hs3
  have E3 := Lib.hid (E2.out.kx hk3 (fun h => by have := LE.out; omega))
  have K3 := Lib.hid (K2.out.trans hk3)
  have SW3 := Lib.hid (show (fun W => HB 39 W b3 #[.int .i64 th, .bool false, .int .i64 v] ∧ HB 51 W b7 #[.int .i64 16]) w3 from ⟨SW2.out.1.kx hk3 (fun h => by have := LE.out; omega), SW2.out.2.kx hk3 (fun h => by have := LE.out; omega)⟩)
  have ST3 := Lib.hid hst3
  have N3 := Lib.hid hp3
  clear hk3 hs3 hst3 hp3 S2 E2 K2 Z2
  refine hK.out _ _ SW3.out (fun hHeld => ?_)
  clear hK hHeld
  try simp only [Act.put, List.setIfInBounds_toArray, List.set_cons_zero, List.set_cons_succ]
  refine wpAnyH_take (i := 4) (oi := ⟨some 16, _, _, _, _, _⟩) (v := .tuple #[.int .i64 (stV false 0 l), .int .i64 (stE false l)]) rfl (by kernel_rfl) (by kernel_rfl) (by kernel_rfl) (fun _ _ _ h => h) (Or.inl ⟨by rfl, ?_⟩) SW3.out ?_
  · intro W' hW
    go_simp
  try simp only [Act.put, List.setIfInBounds_toArray, List.set_cons_zero, List.set_cons_succ]
  refine wpAnyH_take (i := 5) (oi := ⟨some 21, _, _, _, _, _⟩) (v := .int .i64 (stV false 0 l)) rfl (by kernel_rfl) (by kernel_rfl) (by kernel_rfl) (fun _ _ _ h => h) (Or.inl ⟨by rfl, ?_⟩) SW3.out ?_
  · intro W' hW
    go_simp
  try simp only [Act.put, List.setIfInBounds_toArray, List.set_cons_zero, List.set_cons_succ]
  refine wpAnyH_take (i := 6) (oi := ⟨some 22, _, _, _, _, _⟩) (v := .int .i64 (stE false l)) rfl (by kernel_rfl) (by kernel_rfl) (by kernel_rfl) (fun _ _ _ h => h) (Or.inl ⟨by rfl, ?_⟩) SW3.out ?_
  · intro W' hW
    go_simp
  try simp only [Act.put, List.setIfInBounds_toArray, List.set_cons_zero, List.set_cons_succ]
  refine wpAnyH_take (i := 7) (oi := ⟨some 23, _, _, _, _, _⟩) (v := .pointer (some ⟨b8, 1, none⟩)) rfl (by kernel_rfl) (by kernel_rfl) (by kernel_rfl) (fun _ _ _ h => h) (Or.inl ⟨by rfl, ?_⟩) SW3.out ?_
  · intro W' hW
    go_simp
  try simp only [Act.put, List.setIfInBounds_toArray, List.set_cons_zero, List.set_cons_succ]
  have c81 : _ = some (Value.int .i64 0) := E3.out.cell 1
  have f81 := E3.out.free 1
  refine wpAnyH_ready (rs := [8]) (by kernel_rfl) (by simp) ?_
  refine AllReadyH.cons (o := ⟨none, _, _, _, _, _⟩) rfl (fun K hK => ?_) AllReadyH.nil
  go_simp
  have hk4 : KX (fun b => b = b8) w3 (w3.setCell ⟨b8, 1, none⟩ (.int .i64 (stV false 0 l))) := KX.of_grown (gr_put _ _ _ _) fun k e => (Option.some.inj e).symm
  have E4 := Lib.hid (show HB 46 (w3.setCell ⟨b8, 1, none⟩ (.int .i64 (stV false 0 l))) b8 #[.int .i64 0, .int .i64 (stV false 0 l)] from E3.out.set 1 (.int .i64 (stV false 0 l)))
  generalize w3.setCell ⟨b8, 1, none⟩ (.int .i64 (stV false 0 l)) = w4 at *
  have SW4 := Lib.hid (show (fun W => HB 39 W b3 #[.int .i64 th, .bool false, .int .i64 v] ∧ HB 51 W b7 #[.int .i64 16]) w4 from ⟨SW3.out.1.kx hk4 NN.out.1, SW3.out.2.kx hk4 NN.out.2⟩)
  have S4 := Lib.hid (S3.out.kx hk4 (fun b _ h e => by have := LE.out; omega))
  have K4 := Lib.hid ((K3.out.mono (Y := fun b => b = b8 ∨ w.heap.size ≤ b) fun b _ h => .inr h).trans (hk4.mono fun b _ h => .inl h))
  clear hk4 SW3 S3 K3 E3 c81 f81
  refine hK.out _ _ SW4.out (fun hHeld => ?_)
  clear hK hHeld
  try simp only [Act.put, List.setIfInBounds_toArray, List.set_cons_zero, List.set_cons_succ]
  refine wpAnyH_take (i := 9) (oi := ⟨some 24, _, _, _, _, _⟩) (v := .pointer (some ⟨b8, 0, none⟩)) rfl (by kernel_rfl) (by kernel_rfl) (by kernel_rfl) (fun _ _ _ h => h) (Or.inl ⟨by rfl, ?_⟩) SW4.out ?_
  · intro W' hW
    go_simp
  try simp only [Act.put, List.setIfInBounds_toArray, List.set_cons_zero, List.set_cons_succ]
  have c80 : _ = some (Value.int .i64 0) := E4.out.cell 0
  have f80 := E4.out.free 0
  refine wpAnyH_ready (rs := [10]) (by kernel_rfl) (by simp) ?_
  refine AllReadyH.cons (o := ⟨none, _, _, _, _, _⟩) rfl (fun K hK => ?_) AllReadyH.nil
  go_simp
  have hk5 : KX (fun b => b = b8) w4 (w4.setCell ⟨b8, 0, none⟩ (.int .i64 (stE false l))) := KX.of_grown (gr_put _ _ _ _) fun k e => (Option.some.inj e).symm
  have E5 := Lib.hid (show HB 46 (w4.setCell ⟨b8, 0, none⟩ (.int .i64 (stE false l))) b8 #[.int .i64 (stE false l), .int .i64 (stV false 0 l)] from E4.out.set 0 (.int .i64 (stE false l)))
  generalize w4.setCell ⟨b8, 0, none⟩ (.int .i64 (stE false l)) = w5 at *
  have SW5 := Lib.hid (show (fun W => HB 39 W b3 #[.int .i64 th, .bool false, .int .i64 v] ∧ HB 51 W b7 #[.int .i64 16]) w5 from ⟨SW4.out.1.kx hk5 NN.out.1, SW4.out.2.kx hk5 NN.out.2⟩)
  have S5 := Lib.hid (S4.out.kx hk5 (fun b _ h e => by have := LE.out; omega))
  have K5 := Lib.hid (K4.out.trans (hk5.mono fun b _ h => .inl h))
  clear hk5 SW4 S4 K4 E4 c80 f80
  refine hK.out _ _ SW5.out (fun hHeld => ?_)
  clear hK hHeld
  try simp only [Act.put, List.setIfInBounds_toArray, List.set_cons_zero, List.set_cons_succ]
  clear SW SW2
  refine wpAnyH_done (by kernel_rfl) ?_ _
  go_wp2_with fail
  go_end0
  exact ⟨rfl, P3, S5.out, by have := N3.out; omega, K5.out, ⟨nh, ST3.out, Nat.le_succ _⟩, E5.out⟩
end Go.Proofs.YtkloaopjlbinpaaGreat
