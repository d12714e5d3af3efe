/- The walk of the function that TopEliminate hands to Done. Condition: a stack lies in the words. -/
import Derived.Test.YtkloaopjlbinpaaTfD
set_option linter.unusedVariables false
set_option linter.unusedSimpArgs false
namespace Go.Proofs.Ytkloaopjlbinpaa
open Go.RowKit Go.MapKept

theorem top_hcf (args : Array Value) (W : World) : (callFunc 12 args).run Try.prog W = .ok (.enter 12 args) W := by kernel_rfl
set_option maxRecDepth 100000 in
set_option maxHeartbeats 6400000 in
theorem top_do (w W : World) (sb br bv be : Nat) (g : Mem) (l : List Int) (nh : Nat) (h3 : HB 44 w br #[.int .i64 16]) (h7 : HB 22 w bv #[.slice none 0 0]) (h8 : HB 34 w be #[.int .i64 0]) (n1 : br ≠ bv) (n2 : br ≠ be) (n3 : bv ≠ be) (hst : StkI g.val l nh)
    (hb : Below w.heap.size w W) (hs : SpE W (fun b => w.heap.size ≤ b) w.heap.size sb g []) :
    Calls Try.prog 12 #[.pointer (some ⟨sb, 0, none⟩), .pointer (some ⟨br, 0, none⟩), .pointer (some ⟨bv, 0, none⟩), .pointer (some ⟨be, 0, none⟩)] W fun e W' => e = .returned (.tuple #[]) ∧ ∃ v, SpE W' (fun b => w.heap.size ≤ b ∧ v.ownBlock ≠ some b) w.heap.size sb g [] ∧ KX (fun b => b = bv ∨ w.heap.size ≤ b) W W' ∧ HB 22 W' bv #[v] ∧ HB 34 W' be #[.int .i64 0] ∧ W'.ownsRow w.heap.size 2 1 v l.length (l.map (.int .i64)) := by
  have NN := Lib.hid (And.intro n1 (And.intro n2 n3))
  have LE := Lib.hid (show br < w.heap.size ∧ bv < w.heap.size ∧ be < w.heap.size from ⟨h3.lt, h7.lt, h8.lt⟩)
  have BSZ := Lib.hid hb.size
  have B3 := Lib.hid (h3.below hb)
  have B7 := Lib.hid (h7.below hb)
  have B8 := Lib.hid (h8.below hb)
  have ST := Lib.hid hst
  have S0 := Lib.hid hs
  clear h3 h7 h8 hst hb hs n1 n2 n3
  go_enter Try.func12, Try.ntmps12
  have hd := (Below.refl W.heap.size W).drew
  refine wp_region_held_drew (S := (fun W => HB 44 W br #[.int .i64 16])) (by kernel_rfl) (B3.out.below hd) (fun hHeld => ?_)
  have SW := Lib.hid hHeld
  have SQ := Lib.hid (S0.out.below hd)
  have Q7 := Lib.hid (B7.out.below hd)
  have Q8 := Lib.hid (B8.out.below hd)
  have KQ := Lib.hid (KX.of_below (X := fun b => w.heap.size ≤ b) hd)
  clear hHeld hd B3 B7 B8 S0
  have QSZ := Lib.hid (Nat.le_trans BSZ.out KQ.out.size)
  generalize W.drew = wq at *
  refine wpAnyH_take (i := 0) (oi := ⟨some 6, _, _, _, _, _⟩) (v := .pointer (some ⟨sb, 0, none⟩)) rfl (by kernel_rfl) (by kernel_rfl) (by kernel_rfl) (fun _ _ _ h => h) (Or.inl ⟨by rfl, ?_⟩) SW.out ?_
  · intro W' hW
    go_simp
  try simp only [Act.put, List.setIfInBounds_toArray, List.set_cons_zero, List.set_cons_succ]
  refine wpAnyH_take (i := 2) (oi := ⟨some 8, _, _, _, _, _⟩) (v := .int .i64 16) rfl (by kernel_rfl) (by kernel_rfl) (by kernel_rfl) (fun _ _ _ h => h) (Or.inl ⟨by rfl, ?_⟩) SW.out ?_
  · intro W' hW
    have c9 := HB.cell hW 0
    go_simp
  try simp only [Act.put, List.setIfInBounds_toArray, List.set_cons_zero, List.set_cons_succ]
  refine wpAnyH_ready (rs := [1]) (by kernel_rfl) (by simp) ?_
  refine AllReadyH.cons (o := ⟨some 7, _, _, _, _, _⟩) rfl (fun K hK => ?_) AllReadyH.nil
  go_simp
  refine (pool_any _).mono ?_
  rintro e w2 ⟨rfl, hb2⟩
  have S2 := Lib.hid (SQ.out.below hb2)
  have E7 := Lib.hid (Q7.out.below hb2)
  have E8 := Lib.hid (Q8.out.below hb2)
  have K2 := Lib.hid (KQ.out.trans (KX.of_below hb2))
  have Z2 := Lib.hid (Nat.le_trans QSZ.out hb2.size)
  have SW2 := Lib.hid (show (fun W => HB 44 W br #[.int .i64 16]) w2 from SW.out.below hb2)
  clear hb2 SQ Q7 Q8 KQ QSZ
  refine hK.out _ _ SW2.out (fun hHeld => ?_)
  clear hK hHeld
  try simp only [Act.put, List.setIfInBounds_toArray, List.set_cons_zero, List.set_cons_succ]
  refine wpAnyH_ready (rs := [3]) (by kernel_rfl) (by simp) ?_
  refine AllReadyH.cons (o := ⟨some 9, _, _, _, _, _⟩) rfl (fun K hK => ?_) AllReadyH.nil
  go_simp
  refine (walk_any S2.out (fun b h => Nat.le_trans Z2.out h) (by simp) (l := l) (nh := nh) ST.out).mono ?_
  rintro e w3 ⟨v, rfl, ho3, hs3, hk3⟩
  obtain ⟨A, c, rfl, -, -, -⟩ := own_reads (S := fun _ => True) ho3 (fun _ _ => trivial)
  obtain ⟨n, hn⟩ : ∃ n, n = l.length := ⟨_, rfl⟩
  rw [← hn] at ho3 hs3
  have HN := Lib.hid hn
  have O3 := Lib.hid ho3
  have S3 := Lib.hid hs3
  have F7 := Lib.hid (E7.out.kx hk3 (fun h => by have := LE.out; omega))
  have F8 := Lib.hid (E8.out.kx hk3 (fun h => by have := LE.out; omega))
  have K3 := Lib.hid (K2.out.trans hk3)
  have SW3 := Lib.hid (show (fun W => HB 44 W br #[.int .i64 16]) w3 from SW2.out.kx hk3 (fun h => by have := LE.out; omega))
  rw [← hn]
  clear ho3 hs3 hk3 S2 E7 E8 K2 hn
  refine hK.out _ _ SW3.out (fun hHeld => ?_)
  clear hK hHeld
  try simp only [Act.put, List.setIfInBounds_toArray, List.set_cons_zero, List.set_cons_succ]
  refine wpAnyH_take (i := 4) (oi := ⟨some 5, _, _, _, _, _⟩) (v := .tuple #[.slice A n c, .int .i64 0]) rfl (by kernel_rfl) (by kernel_rfl) (by kernel_rfl) (fun _ _ _ h => h) (Or.inl ⟨by rfl, ?_⟩) SW3.out ?_
  · intro W' hW
    go_simp
  try simp only [Act.put, List.setIfInBounds_toArray, List.set_cons_zero, List.set_cons_succ]
  refine wpAnyH_take (i := 5) (oi := ⟨some 10, _, _, _, _, _⟩) (v := .slice A n c) rfl (by kernel_rfl) (by kernel_rfl) (by kernel_rfl) (fun _ _ _ h => h) (Or.inl ⟨by rfl, ?_⟩) SW3.out ?_
  · intro W' hW
    go_simp
  try simp only [Act.put, List.setIfInBounds_toArray, List.set_cons_zero, List.set_cons_succ]
  refine wpAnyH_take (i := 6) (oi := ⟨some 11, _, _, _, _, _⟩) (v := .int .i64 0) rfl (by kernel_rfl) (by kernel_rfl) (by kernel_rfl) (fun _ _ _ h => h) (Or.inl ⟨by rfl, ?_⟩) SW3.out ?_
  · intro W' hW
    go_simp
  try simp only [Act.put, List.setIfInBounds_toArray, List.set_cons_zero, List.set_cons_succ]
  have c70 : _ = some (Value.slice none 0 0) := F7.out.cell 0
  have f70 := F7.out.free 0
  refine wpAnyH_ready (rs := [7]) (by kernel_rfl) (by simp) ?_
  refine AllReadyH.cons (o := ⟨none, _, _, _, _, _⟩) rfl (fun K hK => ?_) AllReadyH.nil
  go_simp
  have hk4 : KX (fun b => b = bv) w3 (w3.setCell ⟨bv, 0, none⟩ (.slice A n c)) := KX.of_grown (gr_put _ _ _ _) fun k e => (Option.some.inj e).symm
  have G7 := Lib.hid (show HB 22 (w3.setCell ⟨bv, 0, none⟩ (.slice A n c)) bv #[.slice A n c] from F7.out.set 0 (.slice A n c))
  generalize w3.setCell ⟨bv, 0, none⟩ (.slice A n c) = w4 at *
  have G8 := Lib.hid (F8.out.kx hk4 (fun e => NN.out.2.2 e.symm))
  have SW4 := Lib.hid (show (fun W => HB 44 W br #[.int .i64 16]) w4 from SW3.out.kx hk4 (fun e => NN.out.1 e))
  have S4 := Lib.hid (S3.out.kx hk4 (fun b _ h e => by have := LE.out; have := h.1; omega))
  have O4 := Lib.hid (own_kx O3.out hk4 (fun b h e => by have := (O3.out.lt b h).1; have := LE.out; have := Z2.out; omega))
  have K4 := Lib.hid ((K3.out.mono (Y := fun b => b = bv ∨ w.heap.size ≤ b) fun b _ h => .inr h).trans (hk4.mono fun b _ h => .inl h))
  clear hk4 SW3 S3 K3 F7 F8 O3 c70 f70
  refine hK.out _ _ SW4.out (fun hHeld => ?_)
  clear hK hHeld
  try simp only [Act.put, List.setIfInBounds_toArray, List.set_cons_zero, List.set_cons_succ]
  have c80 : _ = some (Value.int .i64 0) := G8.out.cell 0
  have f80 := G8.out.free 0
  have hsm := setCell_same G8.out 0 (.int .i64 0) rfl
  refine wpAnyH_ready (rs := [8]) (by kernel_rfl) (by simp) ?_
  refine AllReadyH.cons (o := ⟨none, _, _, _, _, _⟩) rfl (fun K hK => ?_) AllReadyH.nil
  go_simp
  refine hK.out _ _ SW4.out (fun hHeld => ?_)
  clear hK hHeld
  try simp only [Act.put, List.setIfInBounds_toArray, List.set_cons_zero, List.set_cons_succ]
  clear SW SW2 hsm c80 f80
  refine wpAnyH_done (by kernel_rfl) ?_ _
  go_wp2_with fail
  go_end0
  exact ⟨rfl, .slice A n c, S4.out, K4.out, G7.out, G8.out, by rw [← HN.out]; exact own_base O4.out Z2.out⟩
end Go.Proofs.Ytkloaopjlbinpaa
