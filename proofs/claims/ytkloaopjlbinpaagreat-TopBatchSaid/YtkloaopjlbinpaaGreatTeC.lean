/- The walks of the pool's Check, Node, add, Take, Give at the pool of the laws. Condition: at most 90000 writes. -/
import Derived.Test.YtkloaopjlbinpaaGreatTeB
set_option linter.unusedVariables false
set_option linter.unusedSimpArgs false
namespace Go.Proofs.YtkloaopjlbinpaaGreat
open Go.RowKit Go.MapKept

/-- A space, its read set left out. -/
def SpE (w : World) (X : Nat → Prop) (base sb : Nat) (g : Mem) (P : List (Int × Int)) : Prop := ∃ R, Sp w X base sb g R P
section
variable {X Y : Nat → Prop} {w w' : World} {base sb : Nat} {g : Mem} {P : List (Int × Int)}
theorem SpE.kx (h : SpE w X base sb g P) (hk : KX Y w w') (hx : ∀ b, b < w.heap.size → X b → ¬ Y b) : SpE w' X base sb g P := by
  obtain ⟨R, h⟩ := h; exact ⟨R, h.kx hk hx⟩
theorem SpE.below (h : SpE w X base sb g P) (hb : Below w.heap.size w w') : SpE w' X base sb g P := by
  obtain ⟨R, h⟩ := h; exact ⟨R, h.below hb⟩
theorem SpE.more (h : SpE w X base sb g P) (hx : ∀ b, b < w.heap.size → X b → Y b) : SpE w Y base sb g P := by
  obtain ⟨R, h⟩ := h; exact ⟨R, h.more hx⟩
end
theorem cur_app (g : Mem) (P Q : List (Int × Int)) : cur g (P ++ Q) = Q.foldl (fun f p => setI f p.1 p.2) (cur g P) := List.foldl_append
theorem sget {X : Nat → Prop} {w : World} {base sb : Nat} {g : Mem} {P : List (Int × Int)} (h : SpE w X base sb g P) (hn : P.length ≤ 100000) (a v : Int) (ha : inM a) (hv : cur g P a = v) :
    Calls Tryz.prog 35 #[.pointer (some ⟨sb, 0, none⟩), .int .i64 a] w fun e w' => e = .returned (.int .i64 v) ∧ SpE w' X base sb g P ∧ KX X w w' := by
  obtain ⟨R, h⟩ := h
  subst hv
  exact (get_any h hn a ha).mono fun e w' h => ⟨h.1, ⟨_, h.2.1⟩, h.2.2⟩
theorem sput {X : Nat → Prop} {w : World} {base sb : Nat} {g : Mem} {P : List (Int × Int)} (h : SpE w X base sb g P) (hX : ∀ b, w.heap.size ≤ b → X b) (hn : P.length ≤ 100000) (a v : Int) (ha : inM a) :
    Calls Tryz.prog 43 #[.pointer (some ⟨sb, 0, none⟩), .int .i64 a, .int .i64 v] w fun e w' => e = .returned (.tuple #[]) ∧ SpE w' X base sb g (P ++ [(a, v)]) ∧ KX X w w' := by
  obtain ⟨R, h⟩ := h
  exact (put_any h hX hn a v ha).mono fun e w' h => ⟨h.1, ⟨_, h.2.1⟩, h.2.2⟩
set_option maxRecDepth 100000 in
set_option maxHeartbeats 6400000 in
theorem pcheck_any (w : World) : Calls Tryz.prog 73 #[.agg #[.int .i64 1, .int .i64 96, .int .i64 128]] w fun e w' => e = .returned (.int .i64 0) ∧ Below w.heap.size w w' := by
  obtain ⟨W0, hW0⟩ : ∃ W, W = w.alloc (.cells #[.int .i64 1, .int .i64 96, .int .i64 128] 53) := ⟨_, rfl⟩
  have hb : Below w.heap.size w W0 := by rw [hW0]; exact below_alloc _ _
  have h1 : HB 53 W0 w.heap.size #[.int .i64 1, .int .i64 96, .int .i64 128] := by rw [hW0]; exact HB.new _ _ _
  have c0 : W0.cell? ⟨w.heap.size, 0, none⟩ = some (.int .i64 1) := h1.cell 0
  have c1 : W0.cell? ⟨w.heap.size, 1, none⟩ = some (.int .i64 96) := h1.cell 1
  have c2 : W0.cell? ⟨w.heap.size, 2, none⟩ = some (.int .i64 128) := h1.cell 2
  have HB0 := Lib.hid hb
  clear h1 hb
  go_enter Tryz.func73, Tryz.ntmps73
  go_upto_region 1 with fail
  rw [← hW0]
  clear hW0
  go_wp2
  go_ret
  exact ⟨rfl, HB0.out⟩
set_option maxRecDepth 100000 in
set_option maxHeartbeats 6400000 in
theorem node_any (k : Nat) (hk : k < 128) (a : Int) (ha : a = 96 + 8 * (k : Int)) (w : World) : Calls Tryz.prog 60 #[.agg #[.int .i64 1, .int .i64 96, .int .i64 128], .int .i64 a] w fun e w' => e = .returned (.tuple #[.int .i64 k, .bool true]) ∧ Below w.heap.size w w' := by
  obtain ⟨W0, hW0⟩ : ∃ W, W = w.alloc (.cells #[.int .i64 1, .int .i64 96, .int .i64 128] 53) := ⟨_, rfl⟩
  have hb : Below w.heap.size w W0 := by rw [hW0]; exact below_alloc _ _
  have PB := Lib.hid (show HB 53 W0 w.heap.size #[.int .i64 1, .int .i64 96, .int .i64 128] from by rw [hW0]; exact HB.new _ _ _)
  have B := Lib.hid hb
  have h1 : ¬ a < 96 := by omega
  have h2 : IntKind.i64.wrap (a - 96) = 8 * (k : Int) := by rw [wrap_i64 _ (by omega) (by omega)]; omega
  have h3 : (8 * (k : Int)).tmod 8 = 0 := Int.mul_tmod_right ..
  have h4 : (8 * (k : Int)).tdiv 8 = k := Int.mul_tdiv_cancel_left _ (by decide)
  have h5 : ¬ (128 : Int) ≤ (k : Int) := by omega
  have h6 : IntKind.i64.wrap (k : Int) = k := wrap_i64 _ (by omega) (by omega)
  have h7 : IntKind.i64.wrap (0 : Int) = 0 := wrap_i64 _ (by omega) (by omega)
  have HKK := Lib.hid (And.intro hk ha)
  clear hb hk ha
  go_enter Tryz.func60, Tryz.ntmps60
  go_upto_region 1 with fail
  rw [← hW0]
  clear hW0
  have p0 : _ = some (Value.int .i64 1) := PB.out.cell 0
  have p1 : _ = some (Value.int .i64 96) := PB.out.cell 1
  have p2 : _ = some (Value.int .i64 128) := PB.out.cell 2
  go_wp2_with fail
  refine (pcheck_any _).mono ?_
  rintro e w1 ⟨rfl, hb⟩
  have q0 : _ = some (Value.int .i64 1) := (PB.out.below hb).cell 0
  have q1 : _ = some (Value.int .i64 96) := (PB.out.below hb).cell 1
  have q2 : _ = some (Value.int .i64 128) := (PB.out.below hb).cell 2
  have B1 := Lib.hid (B.out.trans (hb.mono B.out.size))
  clear hb p0 p1 p2
  go_wp2
  go_ret2
  exact ⟨rfl, B1.out⟩
theorem node_zero (w : World) : Calls Tryz.prog 60 #[.agg #[.int .i64 1, .int .i64 96, .int .i64 128], .int .i64 0] w fun e w' => e = .returned (.tuple #[.int .i64 0, .bool false]) ∧ Below w.heap.size w w' := by
  obtain ⟨W0, hW0⟩ : ∃ W, W = w.alloc (.cells #[.int .i64 1, .int .i64 96, .int .i64 128] 53) := ⟨_, rfl⟩
  have hb : Below w.heap.size w W0 := by rw [hW0]; exact below_alloc _ _
  have PB := Lib.hid (show HB 53 W0 w.heap.size #[.int .i64 1, .int .i64 96, .int .i64 128] from by rw [hW0]; exact HB.new _ _ _)
  have B := Lib.hid hb
  clear hb
  go_enter Tryz.func60, Tryz.ntmps60
  go_upto_region 1 with fail
  rw [← hW0]
  clear hW0
  have p0 : _ = some (Value.int .i64 1) := PB.out.cell 0
  have p1 : _ = some (Value.int .i64 96) := PB.out.cell 1
  have p2 : _ = some (Value.int .i64 128) := PB.out.cell 2
  go_wp2_with fail
  refine (pcheck_any _).mono ?_
  rintro e w1 ⟨rfl, hb⟩
  have q0 : _ = some (Value.int .i64 1) := (PB.out.below hb).cell 0
  have q1 : _ = some (Value.int .i64 96) := (PB.out.below hb).cell 1
  have q2 : _ = some (Value.int .i64 128) := (PB.out.below hb).cell 2
  have B1 := Lib.hid (B.out.trans (hb.mono B.out.size))
  clear hb p0 p1 p2
  go_wp2
  go_ret2
  exact ⟨rfl, B1.out⟩
set_option maxRecDepth 100000 in
set_option maxHeartbeats 6400000 in
theorem padd_any {X : Nat → Prop} {w : World} {base sb : Nat} {g : Mem} {P : List (Int × Int)} (h : SpE w X base sb g P) (hX : ∀ b, w.heap.size ≤ b → X b) (hn : P.length ≤ 99000) (c n v a : Int) (hc : 1 + c = a) (ha : inM a) (hv : cur g P a = v) :
    Calls Tryz.prog 74 #[.agg #[.int .i64 1, .int .i64 96, .int .i64 128], .pointer (some ⟨sb, 0, none⟩), .int .i64 c, .int .i64 n] w fun e w' => e = .returned (.tuple #[]) ∧ SpE w' X base sb g (P ++ [(a, IntKind.i64.wrap (v + n))]) ∧ KX X w w' := by
  obtain ⟨W0, hW0⟩ : ∃ W, W = w.alloc (.cells #[.int .i64 1, .int .i64 96, .int .i64 128] 53) := ⟨_, rfl⟩
  have hb : Below w.heap.size w W0 := by rw [hW0]; exact below_alloc _ _
  have PB := Lib.hid (show HB 53 W0 w.heap.size #[.int .i64 1, .int .i64 96, .int .i64 128] from by rw [hW0]; exact HB.new _ _ _)
  have X1H := Lib.hid (show ∀ b, W0.heap.size ≤ b → X b ∧ b ≠ w.heap.size from fun b hb2 => by
    have e : W0.heap.size = w.heap.size + 1 := by rw [hW0]; exact World.size_alloc ..
    exact ⟨hX b (by omega), by omega⟩)
  have S0 := Lib.hid (((h).more (Y := fun b => X b ∧ b ≠ w.heap.size) fun b hb2 hx => ⟨hx, by omega⟩).below hb)
  have B := Lib.hid (KX.of_below (X := X) hb)
  clear hb
  have WA : IntKind.i64.wrap (1 + c) = a := by rw [wrap_i64 _ (by have := ha.1; omega) (by have := ha.2; omega)]; exact hc
  have HN := Lib.hid hn
  have HA := Lib.hid ha
  have HV := Lib.hid hv
  obtain ⟨r, hr⟩ : ∃ r, r = IntKind.i64.wrap (v + n) := ⟨_, rfl⟩
  rw [← hr]
  have WR : IntKind.i64.wrap (v + n) = r := hr.symm
  clear h hX hn hc ha hv hr
  go_enter Tryz.func74, Tryz.ntmps74
  go_upto_region 1 with fail
  rw [← hW0]
  clear hW0
  refine wp_region_held_drew (S := fun W => HB 53 W w.heap.size #[.int .i64 1, .int .i64 96, .int .i64 128]) (by kernel_rfl) (show HB 53 W0.drew w.heap.size #[.int .i64 1, .int .i64 96, .int .i64 128] from PB.out) (fun hHeld => ?_)
  have SW := Lib.hid hHeld
  have KD : KX (fun _ => False) W0 W0.drew := ⟨rfl, rfl, rfl, Nat.le_refl _, fun _ _ _ => rfl⟩
  obtain h0 := S0.out
  clear S0
  have S0 := Lib.hid (h0.kx KD fun _ _ _ h => h)
  clear h0
  obtain h0 := B.out
  clear B
  have B := Lib.hid (h0.trans (KD.mono fun _ _ h => h.elim))
  clear h0
  have X1D := Lib.hid (show ∀ b, W0.drew.heap.size ≤ b → X b ∧ b ≠ w.heap.size from X1H.out)
  clear X1H hHeld KD
  have X1H := X1D
  clear X1D
  generalize W0.drew = wq at *
  refine wpAnyH_take (i := 0) (oi := ⟨some 8, _, _, _, _, _⟩) (v := .pointer (some ⟨sb, 0, none⟩)) rfl (by kernel_rfl) (by kernel_rfl) (by kernel_rfl) (fun _ _ _ h => h) (Or.inl ⟨by rfl, ?_⟩) SW.out ?_
  · intro W' hW
    go_simp
  try simp only [Act.put, List.setIfInBounds_toArray, List.set_cons_zero, List.set_cons_succ]
  refine wpAnyH_take (i := 1) (oi := ⟨some 9, _, _, _, _, _⟩) (v := .pointer (some ⟨w.heap.size, 0, none⟩)) rfl (by kernel_rfl) (by kernel_rfl) (by kernel_rfl) (fun _ _ _ h => h) (Or.inl ⟨by rfl, ?_⟩) SW.out ?_
  · intro W' hW
    go_simp
  try simp only [Act.put, List.setIfInBounds_toArray, List.set_cons_zero, List.set_cons_succ]
  refine wpAnyH_take (i := 2) (oi := ⟨some 10, _, _, _, _, _⟩) (v := .int .i64 1) rfl (by kernel_rfl) (by kernel_rfl) (by kernel_rfl) (fun _ _ _ h => h) (Or.inl ⟨by rfl, ?_⟩) SW.out ?_
  · intro W' hW
    have c9 : _ = some (Value.int .i64 1) := HB.cell hW 0
    go_simp
  try simp only [Act.put, List.setIfInBounds_toArray, List.set_cons_zero, List.set_cons_succ]
  refine wpAnyH_take (i := 3) (oi := ⟨some 11, _, _, _, _, _⟩) (v := .int .i64 c) rfl (by kernel_rfl) (by kernel_rfl) (by kernel_rfl) (fun _ _ _ h => h) (Or.inl ⟨by rfl, ?_⟩) SW.out ?_
  · intro W' hW
    go_simp
  try simp only [Act.put, List.setIfInBounds_toArray, List.set_cons_zero, List.set_cons_succ]
  refine wpAnyH_take (i := 4) (oi := ⟨some 12, _, _, _, _, _⟩) (v := .int .i64 a) rfl (by kernel_rfl) (by kernel_rfl) (by kernel_rfl) (fun _ _ _ h => h) (Or.inl ⟨by rfl, ?_⟩) SW.out ?_
  · intro W' hW
    go_simp
  try simp only [Act.put, List.setIfInBounds_toArray, List.set_cons_zero, List.set_cons_succ]
  refine wpAnyH_take (i := 5) (oi := ⟨some 13, _, _, _, _, _⟩) (v := .pointer (some ⟨sb, 0, none⟩)) rfl (by kernel_rfl) (by kernel_rfl) (by kernel_rfl) (fun _ _ _ h => h) (Or.inl ⟨by rfl, ?_⟩) SW.out ?_
  · intro W' hW
    go_simp
  try simp only [Act.put, List.setIfInBounds_toArray, List.set_cons_zero, List.set_cons_succ]
  refine wpAnyH_take (i := 6) (oi := ⟨some 14, _, _, _, _, _⟩) (v := .pointer (some ⟨w.heap.size, 0, none⟩)) rfl (by kernel_rfl) (by kernel_rfl) (by kernel_rfl) (fun _ _ _ h => h) (Or.inl ⟨by rfl, ?_⟩) SW.out ?_
  · intro W' hW
    go_simp
  try simp only [Act.put, List.setIfInBounds_toArray, List.set_cons_zero, List.set_cons_succ]
  refine wpAnyH_take (i := 7) (oi := ⟨some 15, _, _, _, _, _⟩) (v := .int .i64 1) rfl (by kernel_rfl) (by kernel_rfl) (by kernel_rfl) (fun _ _ _ h => h) (Or.inl ⟨by rfl, ?_⟩) SW.out ?_
  · intro W' hW
    have c9 : _ = some (Value.int .i64 1) := HB.cell hW 0
    go_simp
  try simp only [Act.put, List.setIfInBounds_toArray, List.set_cons_zero, List.set_cons_succ]
  refine wpAnyH_take (i := 8) (oi := ⟨some 16, _, _, _, _, _⟩) (v := .int .i64 c) rfl (by kernel_rfl) (by kernel_rfl) (by kernel_rfl) (fun _ _ _ h => h) (Or.inl ⟨by rfl, ?_⟩) SW.out ?_
  · intro W' hW
    go_simp
  try simp only [Act.put, List.setIfInBounds_toArray, List.set_cons_zero, List.set_cons_succ]
  refine wpAnyH_take (i := 9) (oi := ⟨some 17, _, _, _, _, _⟩) (v := .int .i64 a) rfl (by kernel_rfl) (by kernel_rfl) (by kernel_rfl) (fun _ _ _ h => h) (Or.inl ⟨by rfl, ?_⟩) SW.out ?_
  · intro W' hW
    go_simp
  try simp only [Act.put, List.setIfInBounds_toArray, List.set_cons_zero, List.set_cons_succ]
  refine wpAnyH_take (i := 11) (oi := ⟨some 19, _, _, _, _, _⟩) (v := .int .i64 n) rfl (by kernel_rfl) (by kernel_rfl) (by kernel_rfl) (fun _ _ _ h => h) (Or.inl ⟨by rfl, ?_⟩) SW.out ?_
  · intro W' hW
    go_simp
  try simp only [Act.put, List.setIfInBounds_toArray, List.set_cons_zero, List.set_cons_succ]
  refine wpAnyH_ready (rs := [10]) (by kernel_rfl) (by simp) ?_
  refine AllReadyH.cons (o := ⟨some 18, _, _, _, _, _⟩) rfl (fun K hK => ?_) AllReadyH.nil
  go_simp
  refine (sget S0.out (by have := HN.out; omega) a v HA.out HV.out).mono ?_
  rintro e w1 ⟨rfl, hs, hk⟩
  have S1 := Lib.hid hs
  obtain h0 := B.out
  clear B
  have B := Lib.hid (h0.trans (hk.mono fun b _ hb => hb.1))
  clear h0
  obtain h0 := SW.out
  clear SW
  have SW := Lib.hid (HB.kx h0 hk (fun hb => hb.2 rfl))
  clear h0
  obtain h0 := X1H.out
  clear X1H
  have X1H := Lib.hid (fun b hb => h0 b (Nat.le_trans hk.size hb))
  clear h0
  clear hs hk
  refine hK.out _ _ SW.out (fun hHeld => ?_)
  clear hK hHeld
  try simp only [Act.put, List.setIfInBounds_toArray, List.set_cons_zero, List.set_cons_succ]
  refine wpAnyH_take (i := 12) (oi := ⟨some 20, _, _, _, _, _⟩) (v := .int .i64 r) rfl (by kernel_rfl) (by kernel_rfl) (by kernel_rfl) (fun _ _ _ h => h) (Or.inl ⟨by rfl, ?_⟩) SW.out ?_
  · intro W' hW
    go_simp
  try simp only [Act.put, List.setIfInBounds_toArray, List.set_cons_zero, List.set_cons_succ]
  refine wpAnyH_ready (rs := [13]) (by kernel_rfl) (by simp) ?_
  refine AllReadyH.cons (o := ⟨some 21, _, _, _, _, _⟩) rfl (fun K hK => ?_) AllReadyH.nil
  go_simp
  refine (sput S1.out X1H.out (by have := HN.out; omega) a r HA.out).mono ?_
  rintro e w2 ⟨rfl, hs, hk⟩
  have S2 := Lib.hid hs
  obtain h0 := B.out
  clear B
  have B := Lib.hid (h0.trans (hk.mono fun b _ hb => hb.1))
  clear h0
  obtain h0 := SW.out
  clear SW
  have SW := Lib.hid (HB.kx h0 hk (fun hb => hb.2 rfl))
  clear h0
  obtain h0 := X1H.out
  clear X1H
  have X1H := Lib.hid (fun b hb => h0 b (Nat.le_trans hk.size hb))
  clear h0
  clear hs hk
  refine hK.out _ _ SW.out (fun hHeld => ?_)
  clear hK hHeld
  try simp only [Act.put, List.setIfInBounds_toArray, List.set_cons_zero, List.set_cons_succ]
  refine wpAnyH_done (by kernel_rfl) ?_ _
  go_wp2
  go_end0
  exact ⟨rfl, S2.out.more fun b _ h => h.1, B.out⟩
end Go.Proofs.YtkloaopjlbinpaaGreat
