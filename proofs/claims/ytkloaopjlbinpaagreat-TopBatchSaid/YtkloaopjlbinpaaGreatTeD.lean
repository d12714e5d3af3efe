/- The walks of the pool's Take and Give and of the stack's more. Condition: at most 90000 writes. -/
import Derived.Test.YtkloaopjlbinpaaGreatTeC
set_option linter.unusedVariables false
set_option linter.unusedSimpArgs false
namespace Go.Proofs.YtkloaopjlbinpaaGreat
open Go.RowKit Go.MapKept

set_option maxRecDepth 100000 in
set_option maxHeartbeats 6400000 in
theorem take_new {X : Nat → Prop} {w : World} {base sb : Nat} {g : Mem} {P : List (Int × Int)} (h : SpE w X base sb g P) (hX : ∀ b, w.heap.size ≤ b → X b) (hn : P.length ≤ 90000) (k : Nat) (hk : k < 128) (h1 : cur g P 1 = 0) (h2 : cur g P 2 = k) :
    Calls Tryz.prog 57 #[.agg #[.int .i64 1, .int .i64 96, .int .i64 128], .pointer (some ⟨sb, 0, none⟩)] w fun e w' => e = .returned (.tuple #[.int .i64 (96 + 8 * (k : Int)), .int .i64 0]) ∧ SpE w' X base sb g (P ++ [(2, (k : Int) + 1)]) ∧ KX X w w' := by
  obtain ⟨W0, hW0⟩ : ∃ W, W = w.alloc (.cells #[.int .i64 1, .int .i64 96, .int .i64 128] 53) := ⟨_, rfl⟩
  have hb : Below w.heap.size w W0 := by rw [hW0]; exact below_alloc _ _
  have PB := Lib.hid (show HB 53 W0 w.heap.size #[.int .i64 1, .int .i64 96, .int .i64 128] from by rw [hW0]; exact HB.new _ _ _)
  have X1H := Lib.hid (show ∀ b, W0.heap.size ≤ b → X b ∧ b ≠ w.heap.size from fun b hb2 => by
    have e : W0.heap.size = w.heap.size + 1 := by rw [hW0]; exact World.size_alloc ..
    exact ⟨hX b (by omega), by omega⟩)
  have S0 := Lib.hid (((h).more (Y := fun b => X b ∧ b ≠ w.heap.size) fun b hb2 hx => ⟨hx, by omega⟩).below hb)
  have B := Lib.hid (KX.of_below (X := X) hb)
  clear hb
  have HN := Lib.hid hn
  have HK := Lib.hid hk
  have H1 := Lib.hid h1
  have H2 := Lib.hid h2
  have q1 : ¬ (k : Int) < 0 := by omega
  have q2 : ¬ (128 : Int) ≤ (k : Int) := by omega
  have W1 : IntKind.i64.wrap (1 + 1) = 2 := by decide
  have W2 : IntKind.i64.wrap ((k : Int) + 1) = (k : Int) + 1 := wrap_i64 _ (by omega) (by omega)
  have W3 : IntKind.i64.wrap (8 * (k : Int)) = 8 * (k : Int) := wrap_i64 _ (by omega) (by omega)
  have W4 : IntKind.i64.wrap (96 + 8 * (k : Int)) = 96 + 8 * (k : Int) := wrap_i64 _ (by omega) (by omega)
  clear h hX hn hk h1 h2
  go_enter Tryz.func57, Tryz.ntmps57
  go_upto_region 1 with fail
  rw [← hW0]
  clear hW0
  have p0 : _ = some (Value.int .i64 1) := PB.out.cell 0
  have p1 : _ = some (Value.int .i64 96) := PB.out.cell 1
  have p2 : _ = some (Value.int .i64 128) := PB.out.cell 2
  go_wp2_with fail
  refine (pcheck_any _).mono ?_
  rintro e w1 ⟨rfl, hb⟩
  clear p0 p1 p2
  obtain h0 := S0.out
  clear S0
  have S0 := Lib.hid (h0.below hb)
  clear h0
  obtain h0 := B.out
  clear B
  have B := Lib.hid (h0.trans (KX.of_below hb))
  clear h0
  obtain h0 := PB.out
  clear PB
  have PB := Lib.hid (h0.below hb)
  clear h0
  obtain h0 := X1H.out
  clear X1H
  have X1H := Lib.hid (fun b hb2 => h0 b (Nat.le_trans hb.size hb2))
  clear h0
  clear hb
  have p0 : _ = some (Value.int .i64 1) := PB.out.cell 0
  have p1 : _ = some (Value.int .i64 96) := PB.out.cell 1
  have p2 : _ = some (Value.int .i64 128) := PB.out.cell 2
  go_wp2_with fail
  refine (sget S0.out (by have := HN.out; omega) 1 0 (by decide) H1.out).mono ?_
  rintro e w2 ⟨rfl, hs, hk⟩
  have S1 := Lib.hid hs
  obtain h0 := B.out
  clear B
  have B := Lib.hid (h0.trans (hk.mono fun b _ hb => hb.1))
  clear h0
  obtain h0 := PB.out
  clear PB
  have PB := Lib.hid (h0.kx hk (fun hb => hb.2 rfl))
  clear h0
  obtain h0 := X1H.out
  clear X1H
  have X1H := Lib.hid (fun b hb => h0 b (Nat.le_trans hk.size hb))
  clear h0
  clear hs hk
  clear p0 p1 p2
  have p0 : _ = some (Value.int .i64 1) := PB.out.cell 0
  have p1 : _ = some (Value.int .i64 96) := PB.out.cell 1
  have p2 : _ = some (Value.int .i64 128) := PB.out.cell 2
  go_wp2_with fail
  refine (sget S1.out (by have := HN.out; omega) 2 k (by decide) H2.out).mono ?_
  rintro e w3 ⟨rfl, hs, hk⟩
  have S2 := Lib.hid hs
  obtain h0 := B.out
  clear B
  have B := Lib.hid (h0.trans (hk.mono fun b _ hb => hb.1))
  clear h0
  obtain h0 := PB.out
  clear PB
  have PB := Lib.hid (h0.kx hk (fun hb => hb.2 rfl))
  clear h0
  obtain h0 := X1H.out
  clear X1H
  have X1H := Lib.hid (fun b hb => h0 b (Nat.le_trans hk.size hb))
  clear h0
  clear hs hk
  clear p0 p1 p2
  have p0 : _ = some (Value.int .i64 1) := PB.out.cell 0
  have p1 : _ = some (Value.int .i64 96) := PB.out.cell 1
  have p2 : _ = some (Value.int .i64 128) := PB.out.cell 2
  go_wp2_with fail
  refine (sput S2.out X1H.out (by have := HN.out; omega) 2 ((k : Int) + 1) (by decide)).mono ?_
  rintro e w4 ⟨rfl, hs, hk⟩
  have S3 := Lib.hid hs
  obtain h0 := B.out
  clear B
  have B := Lib.hid (h0.trans (hk.mono fun b _ hb => hb.1))
  clear h0
  obtain h0 := PB.out
  clear PB
  have PB := Lib.hid (h0.kx hk (fun hb => hb.2 rfl))
  clear h0
  obtain h0 := X1H.out
  clear X1H
  have X1H := Lib.hid (fun b hb => h0 b (Nat.le_trans hk.size hb))
  clear h0
  clear hs hk
  clear p0 p1 p2
  have p0 : _ = some (Value.int .i64 1) := PB.out.cell 0
  have p1 : _ = some (Value.int .i64 96) := PB.out.cell 1
  have p2 : _ = some (Value.int .i64 128) := PB.out.cell 2
  go_wp2
  go_ret2
  exact ⟨rfl, S3.out.more fun b _ h => h.1, B.out⟩
set_option maxRecDepth 100000 in
set_option maxHeartbeats 6400000 in
theorem take_free {X : Nat → Prop} {w : World} {base sb : Nat} {g : Mem} {P : List (Int × Int)} (h : SpE w X base sb g P) (hX : ∀ b, w.heap.size ≤ b → X b) (hn : P.length ≤ 90000) (k : Nat) (hk : k < 128) (a x f : Int) (ha : a = 96 + 8 * (k : Int)) (h1 : cur g P 1 = a) (h2 : cur g P a = x) (h3 : cur g P 3 = f) :
    Calls Tryz.prog 57 #[.agg #[.int .i64 1, .int .i64 96, .int .i64 128], .pointer (some ⟨sb, 0, none⟩)] w fun e w' => e = .returned (.tuple #[.int .i64 a, .int .i64 0]) ∧ SpE w' X base sb g (P ++ [(1, x), (3, IntKind.i64.wrap (f + -1))]) ∧ KX X w w' := by
  obtain ⟨W0, hW0⟩ : ∃ W, W = w.alloc (.cells #[.int .i64 1, .int .i64 96, .int .i64 128] 53) := ⟨_, rfl⟩
  have hb : Below w.heap.size w W0 := by rw [hW0]; exact below_alloc _ _
  have PB := Lib.hid (show HB 53 W0 w.heap.size #[.int .i64 1, .int .i64 96, .int .i64 128] from by rw [hW0]; exact HB.new _ _ _)
  have X1H := Lib.hid (show ∀ b, W0.heap.size ≤ b → X b ∧ b ≠ w.heap.size from fun b hb2 => by
    have e : W0.heap.size = w.heap.size + 1 := by rw [hW0]; exact World.size_alloc ..
    exact ⟨hX b (by omega), by omega⟩)
  have S0 := Lib.hid (((h).more (Y := fun b => X b ∧ b ≠ w.heap.size) fun b hb2 hx => ⟨hx, by omega⟩).below hb)
  have B := Lib.hid (KX.of_below (X := X) hb)
  clear hb
  have HN := Lib.hid hn
  have HK := Lib.hid hk
  have H1 := Lib.hid h1
  have H2 := Lib.hid h2
  have H3 := Lib.hid h3
  have HA := Lib.hid ha
  have HIN := Lib.hid (show inM a from by unfold inM; omega)
  have q1 : (a != 0) = true := by simp; omega
  have q2 : decide (a = 0) = false := by simp; omega
  clear h hX hn hk h1 h2 h3 ha
  go_enter Tryz.func57, Tryz.ntmps57
  go_upto_region 1 with fail
  rw [← hW0]
  clear hW0
  have p0 : _ = some (Value.int .i64 1) := PB.out.cell 0
  have p1 : _ = some (Value.int .i64 96) := PB.out.cell 1
  have p2 : _ = some (Value.int .i64 128) := PB.out.cell 2
  go_wp2_with fail
  refine (pcheck_any _).mono ?_
  rintro e w1 ⟨rfl, hb⟩
  clear p0 p1 p2
  obtain h0 := S0.out
  clear S0
  have S0 := Lib.hid (h0.below hb)
  clear h0
  obtain h0 := B.out
  clear B
  have B := Lib.hid (h0.trans (KX.of_below hb))
  clear h0
  obtain h0 := PB.out
  clear PB
  have PB := Lib.hid (h0.below hb)
  clear h0
  obtain h0 := X1H.out
  clear X1H
  have X1H := Lib.hid (fun b hb2 => h0 b (Nat.le_trans hb.size hb2))
  clear h0
  clear hb
  have p0 : _ = some (Value.int .i64 1) := PB.out.cell 0
  have p1 : _ = some (Value.int .i64 96) := PB.out.cell 1
  have p2 : _ = some (Value.int .i64 128) := PB.out.cell 2
  go_wp2_with fail
  refine (sget S0.out (by have := HN.out; omega) 1 a (by decide) H1.out).mono ?_
  rintro e w2 ⟨rfl, hs, hk⟩
  have S1 := Lib.hid hs
  obtain h0 := B.out
  clear B
  have B := Lib.hid (h0.trans (hk.mono fun b _ hb => hb.1))
  clear h0
  obtain h0 := PB.out
  clear PB
  have PB := Lib.hid (h0.kx hk (fun hb => hb.2 rfl))
  clear h0
  obtain h0 := X1H.out
  clear X1H
  have X1H := Lib.hid (fun b hb => h0 b (Nat.le_trans hk.size hb))
  clear h0
  clear hs hk
  clear p0 p1 p2
  have p0 : _ = some (Value.int .i64 1) := PB.out.cell 0
  have p1 : _ = some (Value.int .i64 96) := PB.out.cell 1
  have p2 : _ = some (Value.int .i64 128) := PB.out.cell 2
  go_wp2_with fail
  refine (node_any k HK.out a HA.out _).mono ?_
  rintro e w3 ⟨rfl, hb⟩
  clear p0 p1 p2
  obtain h0 := S1.out
  clear S1
  have S1 := Lib.hid (h0.below hb)
  clear h0
  obtain h0 := B.out
  clear B
  have B := Lib.hid (h0.trans (KX.of_below hb))
  clear h0
  obtain h0 := PB.out
  clear PB
  have PB := Lib.hid (h0.below hb)
  clear h0
  obtain h0 := X1H.out
  clear X1H
  have X1H := Lib.hid (fun b hb2 => h0 b (Nat.le_trans hb.size hb2))
  clear h0
  clear hb
  go_upto_region 10 with fail
  refine wp_region_held_drew (S := fun W => HB 53 W w.heap.size #[.int .i64 1, .int .i64 96, .int .i64 128]) (by kernel_rfl) (show HB 53 w3.drew w.heap.size #[.int .i64 1, .int .i64 96, .int .i64 128] from PB.out) (fun hHeld => ?_)
  have SW := Lib.hid hHeld
  have KD : KX (fun _ => False) w3 w3.drew := ⟨rfl, rfl, rfl, Nat.le_refl _, fun _ _ _ => rfl⟩
  obtain h0 := S1.out
  clear S1
  have S1 := Lib.hid (h0.kx KD fun _ _ _ h => h)
  clear h0
  obtain h0 := B.out
  clear B
  have B := Lib.hid (h0.trans (KD.mono fun _ _ h => h.elim))
  clear h0
  have X1D := Lib.hid (show ∀ b, w3.drew.heap.size ≤ b → X b ∧ b ≠ w.heap.size from X1H.out)
  clear X1H hHeld KD PB
  have X1H := X1D
  clear X1D
  generalize w3.drew = wq at *
  refine wpAnyH_take (i := 0) (oi := ⟨some 32, _, _, _, _, _⟩) (v := .pointer (some ⟨sb, 0, none⟩)) rfl (by kernel_rfl) (by kernel_rfl) (by kernel_rfl) (fun _ _ _ h => h) (Or.inl ⟨by rfl, ?_⟩) SW.out ?_
  · intro W' hW
    go_simp
  try simp only [Act.put, List.setIfInBounds_toArray, List.set_cons_zero, List.set_cons_succ]
  refine wpAnyH_take (i := 1) (oi := ⟨some 33, _, _, _, _, _⟩) (v := .pointer (some ⟨w.heap.size, 0, none⟩)) rfl (by kernel_rfl) (by kernel_rfl) (by kernel_rfl) (fun _ _ _ h => h) (Or.inl ⟨by rfl, ?_⟩) SW.out ?_
  · intro W' hW
    go_simp
  try simp only [Act.put, List.setIfInBounds_toArray, List.set_cons_zero, List.set_cons_succ]
  refine wpAnyH_take (i := 2) (oi := ⟨some 34, _, _, _, _, _⟩) (v := .int .i64 1) rfl (by kernel_rfl) (by kernel_rfl) (by kernel_rfl) (fun _ _ _ h => h) (Or.inl ⟨by rfl, ?_⟩) SW.out ?_
  · intro W' hW
    have c9 : _ = some (Value.int .i64 1) := HB.cell hW 0
    go_simp
  try simp only [Act.put, List.setIfInBounds_toArray, List.set_cons_zero, List.set_cons_succ]
  refine wpAnyH_take (i := 3) (oi := ⟨some 35, _, _, _, _, _⟩) (v := .pointer (some ⟨sb, 0, none⟩)) rfl (by kernel_rfl) (by kernel_rfl) (by kernel_rfl) (fun _ _ _ h => h) (Or.inl ⟨by rfl, ?_⟩) SW.out ?_
  · intro W' hW
    go_simp
  try simp only [Act.put, List.setIfInBounds_toArray, List.set_cons_zero, List.set_cons_succ]
  refine wpAnyH_take (i := 4) (oi := ⟨some 36, _, _, _, _, _⟩) (v := .int .i64 a) rfl (by kernel_rfl) (by kernel_rfl) (by kernel_rfl) (fun _ _ _ h => h) (Or.inl ⟨by rfl, ?_⟩) SW.out ?_
  · intro W' hW
    go_simp
  try simp only [Act.put, List.setIfInBounds_toArray, List.set_cons_zero, List.set_cons_succ]
  refine wpAnyH_ready (rs := [5]) (by kernel_rfl) (by simp) ?_
  refine AllReadyH.cons (o := ⟨some 37, _, _, _, _, _⟩) rfl (fun K hK => ?_) AllReadyH.nil
  go_simp
  refine (sget S1.out (by have := HN.out; omega) a x HIN.out H2.out).mono ?_
  rintro e w4 ⟨rfl, hs, hk⟩
  have S2 := Lib.hid hs
  obtain h0 := B.out
  clear B
  have B := Lib.hid (h0.trans (hk.mono fun b _ hb => hb.1))
  clear h0
  obtain h0 := SW.out
  clear SW
  have SW := Lib.hid (HB.kx h0 hk (fun hb => hb.2 rfl))
  clear h0
  obtain h0 := X1H.out
  clear X1H
  have X1H := Lib.hid (fun b hb => h0 b (Nat.le_trans hk.size hb))
  clear h0
  clear hs hk
  refine hK.out _ _ SW.out (fun hHeld => ?_)
  clear hK hHeld
  try simp only [Act.put, List.setIfInBounds_toArray, List.set_cons_zero, List.set_cons_succ]
  refine wpAnyH_ready (rs := [6]) (by kernel_rfl) (by simp) ?_
  refine AllReadyH.cons (o := ⟨some 38, _, _, _, _, _⟩) rfl (fun K hK => ?_) AllReadyH.nil
  go_simp
  refine (sput S2.out X1H.out (by have := HN.out; omega) 1 x (by decide)).mono ?_
  rintro e w5 ⟨rfl, hs, hk⟩
  have S3 := Lib.hid hs
  obtain h0 := B.out
  clear B
  have B := Lib.hid (h0.trans (hk.mono fun b _ hb => hb.1))
  clear h0
  obtain h0 := SW.out
  clear SW
  have SW := Lib.hid (HB.kx h0 hk (fun hb => hb.2 rfl))
  clear h0
  obtain h0 := X1H.out
  clear X1H
  have X1H := Lib.hid (fun b hb => h0 b (Nat.le_trans hk.size hb))
  clear h0
  clear hs hk
  refine hK.out _ _ SW.out (fun hHeld => ?_)
  clear hK hHeld
  try simp only [Act.put, List.setIfInBounds_toArray, List.set_cons_zero, List.set_cons_succ]
  refine wpAnyH_done (by kernel_rfl) ?_ _
  have PB := SW
  clear SW
  have p0 : _ = some (Value.int .i64 1) := PB.out.cell 0
  have p1 : _ = some (Value.int .i64 96) := PB.out.cell 1
  have p2 : _ = some (Value.int .i64 128) := PB.out.cell 2
  go_wp2_with fail
  refine (padd_any S3.out X1H.out (by have := HN.out; simp; omega) 2 (-1) f 3 (by decide) (by decide) (by rw [cur_push]; unfold setI; rw [if_neg (by decide)]; exact H3.out)).mono ?_
  rintro e w6 ⟨rfl, hs, hk⟩
  have S4 := Lib.hid hs
  obtain h0 := B.out
  clear B
  have B := Lib.hid (h0.trans (hk.mono fun b _ hb => hb.1))
  clear h0
  obtain h0 := PB.out
  clear PB
  have PB := Lib.hid (h0.kx hk (fun hb => hb.2 rfl))
  clear h0
  obtain h0 := X1H.out
  clear X1H
  have X1H := Lib.hid (fun b hb => h0 b (Nat.le_trans hk.size hb))
  clear h0
  clear hs hk
  clear p0 p1 p2
  obtain h0 := S4.out
  clear S4
  rw [List.append_assoc] at h0
  have S4 := Lib.hid h0
  clear h0
  go_wp2
  go_ret2
  exact ⟨rfl, S4.out.more fun b _ h => h.1, B.out⟩
set_option maxRecDepth 100000 in
set_option maxHeartbeats 6400000 in
theorem give_any {X : Nat → Prop} {w : World} {base sb : Nat} {g : Mem} {P : List (Int × Int)} (h : SpE w X base sb g P) (hX : ∀ b, w.heap.size ≤ b → X b) (hn : P.length ≤ 90000) (k : Nat) (hk : k < 128) (a x f : Int) (ha : a = 96 + 8 * (k : Int)) (h1 : cur g P 1 = x) (h3 : cur g P 3 = f) :
    Calls Tryz.prog 61 #[.agg #[.int .i64 1, .int .i64 96, .int .i64 128], .pointer (some ⟨sb, 0, none⟩), .int .i64 a] w fun e w' => e = .returned (.int .i64 0) ∧ SpE w' X base sb g (P ++ [(a, x), (1, a), (3, IntKind.i64.wrap (f + 1))]) ∧ KX X w w' := by
  obtain ⟨W0, hW0⟩ : ∃ W, W = w.alloc (.cells #[.int .i64 1, .int .i64 96, .int .i64 128] 53) := ⟨_, rfl⟩
  have hb : Below w.heap.size w W0 := by rw [hW0]; exact below_alloc _ _
  have PB := Lib.hid (show HB 53 W0 w.heap.size #[.int .i64 1, .int .i64 96, .int .i64 128] from by rw [hW0]; exact HB.new _ _ _)
  have X1H := Lib.hid (show ∀ b, W0.heap.size ≤ b → X b ∧ b ≠ w.heap.size from fun b hb2 => by
    have e : W0.heap.size = w.heap.size + 1 := by rw [hW0]; exact World.size_alloc ..
    exact ⟨hX b (by omega), by omega⟩)
  have S0 := Lib.hid (((h).more (Y := fun b => X b ∧ b ≠ w.heap.size) fun b hb2 hx => ⟨hx, by omega⟩).below hb)
  have B := Lib.hid (KX.of_below (X := X) hb)
  clear hb
  have HN := Lib.hid hn
  have HK := Lib.hid hk
  have H1 := Lib.hid h1
  have H3 := Lib.hid h3
  have HA := Lib.hid ha
  have HIN := Lib.hid (show inM a from by unfold inM; omega)
  clear h hX hn hk h1 h3 ha
  go_enter Tryz.func61, Tryz.ntmps61
  go_upto_region 1 with fail
  rw [← hW0]
  clear hW0
  have p0 : _ = some (Value.int .i64 1) := PB.out.cell 0
  have p1 : _ = some (Value.int .i64 96) := PB.out.cell 1
  have p2 : _ = some (Value.int .i64 128) := PB.out.cell 2
  go_wp2_with fail
  refine (node_any k HK.out a HA.out _).mono ?_
  rintro e w1 ⟨rfl, hb⟩
  clear p0 p1 p2
  obtain h0 := S0.out
  clear S0
  have S0 := Lib.hid (h0.below hb)
  clear h0
  obtain h0 := B.out
  clear B
  have B := Lib.hid (h0.trans (KX.of_below hb))
  clear h0
  obtain h0 := PB.out
  clear PB
  have PB := Lib.hid (h0.below hb)
  clear h0
  obtain h0 := X1H.out
  clear X1H
  have X1H := Lib.hid (fun b hb2 => h0 b (Nat.le_trans hb.size hb2))
  clear h0
  clear hb
  have p0 : _ = some (Value.int .i64 1) := PB.out.cell 0
  have p1 : _ = some (Value.int .i64 96) := PB.out.cell 1
  have p2 : _ = some (Value.int .i64 128) := PB.out.cell 2
  go_wp2_with fail
  refine (sget S0.out (by have := HN.out; omega) 1 x (by decide) H1.out).mono ?_
  rintro e w2 ⟨rfl, hs, hk⟩
  have S1 := Lib.hid hs
  obtain h0 := B.out
  clear B
  have B := Lib.hid (h0.trans (hk.mono fun b _ hb => hb.1))
  clear h0
  obtain h0 := PB.out
  clear PB
  have PB := Lib.hid (h0.kx hk (fun hb => hb.2 rfl))
  clear h0
  obtain h0 := X1H.out
  clear X1H
  have X1H := Lib.hid (fun b hb => h0 b (Nat.le_trans hk.size hb))
  clear h0
  clear hs hk
  clear p0 p1 p2
  have p0 : _ = some (Value.int .i64 1) := PB.out.cell 0
  have p1 : _ = some (Value.int .i64 96) := PB.out.cell 1
  have p2 : _ = some (Value.int .i64 128) := PB.out.cell 2
  go_wp2_with fail
  refine (sput S1.out X1H.out (by have := HN.out; omega) a x HIN.out).mono ?_
  rintro e w3 ⟨rfl, hs, hk⟩
  have S2 := Lib.hid hs
  obtain h0 := B.out
  clear B
  have B := Lib.hid (h0.trans (hk.mono fun b _ hb => hb.1))
  clear h0
  obtain h0 := PB.out
  clear PB
  have PB := Lib.hid (h0.kx hk (fun hb => hb.2 rfl))
  clear h0
  obtain h0 := X1H.out
  clear X1H
  have X1H := Lib.hid (fun b hb => h0 b (Nat.le_trans hk.size hb))
  clear h0
  clear hs hk
  clear p0 p1 p2
  have p0 : _ = some (Value.int .i64 1) := PB.out.cell 0
  have p1 : _ = some (Value.int .i64 96) := PB.out.cell 1
  have p2 : _ = some (Value.int .i64 128) := PB.out.cell 2
  go_wp2_with fail
  refine (sput S2.out X1H.out (by have := HN.out; simp; omega) 1 a (by decide)).mono ?_
  rintro e w4 ⟨rfl, hs, hk⟩
  have S3 := Lib.hid hs
  obtain h0 := B.out
  clear B
  have B := Lib.hid (h0.trans (hk.mono fun b _ hb => hb.1))
  clear h0
  obtain h0 := PB.out
  clear PB
  have PB := Lib.hid (h0.kx hk (fun hb => hb.2 rfl))
  clear h0
  obtain h0 := X1H.out
  clear X1H
  have X1H := Lib.hid (fun b hb => h0 b (Nat.le_trans hk.size hb))
  clear h0
  clear hs hk
  clear p0 p1 p2
  have p0 : _ = some (Value.int .i64 1) := PB.out.cell 0
  have p1 : _ = some (Value.int .i64 96) := PB.out.cell 1
  have p2 : _ = some (Value.int .i64 128) := PB.out.cell 2
  go_wp2_with fail
  refine (padd_any S3.out X1H.out (by have := HN.out; simp; omega) 2 1 f 3 (by decide) (by decide) (by rw [cur_push, cur_push]; unfold setI; rw [if_neg (by decide), if_neg (by have := HA.out; omega)]; exact H3.out)).mono ?_
  rintro e w5 ⟨rfl, hs, hk⟩
  have S4 := Lib.hid hs
  obtain h0 := B.out
  clear B
  have B := Lib.hid (h0.trans (hk.mono fun b _ hb => hb.1))
  clear h0
  obtain h0 := PB.out
  clear PB
  have PB := Lib.hid (h0.kx hk (fun hb => hb.2 rfl))
  clear h0
  obtain h0 := X1H.out
  clear X1H
  have X1H := Lib.hid (fun b hb => h0 b (Nat.le_trans hk.size hb))
  clear h0
  clear hs hk
  clear p0 p1 p2
  obtain h0 := S4.out
  clear S4
  rw [List.append_assoc, List.append_assoc] at h0
  have S4 := Lib.hid h0
  clear h0
  go_wp2
  go_ret
  exact ⟨rfl, S4.out.more fun b _ h => h.1, B.out⟩
set_option maxRecDepth 100000 in
set_option maxHeartbeats 6400000 in
theorem more_any {X : Nat → Prop} {w : World} {base sb : Nat} {g : Mem} {P : List (Int × Int)} (h : SpE w X base sb g P) (hX : ∀ b, w.heap.size ≤ b → X b) (hn : P.length ≤ 90000) (n s z : Int) (h1 : cur g P 17 = s) (h2 : cur g P 23 = z) :
    Calls Tryz.prog 58 #[.pointer (some ⟨sb, 0, none⟩), .int .i64 16, .int .i64 n] w fun e w' => e = .returned (.tuple #[]) ∧ SpE w' X base sb g (P ++ [(17, IntKind.i64.wrap (s + n)), (23, IntKind.i64.wrap (z + n))]) ∧ KX X w w' := by
  have S0 := Lib.hid h
  have X1H := Lib.hid hX
  have B := Lib.hid (KX.refl X w)
  have HN := Lib.hid hn
  have H1 := Lib.hid h1
  have H2 := Lib.hid h2
  obtain ⟨r, hr⟩ : ∃ r, r = IntKind.i64.wrap (s + n) := ⟨_, rfl⟩
  obtain ⟨q, hq⟩ : ∃ r, r = IntKind.i64.wrap (z + n) := ⟨_, rfl⟩
  rw [← hr, ← hq]
  have WR : IntKind.i64.wrap (s + n) = r := hr.symm
  have WQ : IntKind.i64.wrap (z + n) = q := hq.symm
  have W1 : IntKind.i64.wrap (16 + 1) = 17 := by decide
  have W7 : IntKind.i64.wrap (16 + 7) = 23 := by decide
  clear h hX hn h1 h2 hr hq
  go_enter Tryz.func58, Tryz.ntmps58
  go_wp2_with fail
  refine (sget S0.out (by have := HN.out; omega) 17 s (by decide) H1.out).mono ?_
  rintro e w1 ⟨rfl, hs, hk⟩
  have S1 := Lib.hid hs
  obtain h0 := B.out
  clear B
  have B := Lib.hid (h0.trans hk)
  clear h0
  obtain h0 := X1H.out
  clear X1H
  have X1H := Lib.hid (fun b hb => h0 b (Nat.le_trans hk.size hb))
  clear h0
  clear hs hk
  go_wp2_with fail
  refine (sput S1.out X1H.out (by have := HN.out; omega) 17 r (by decide)).mono ?_
  rintro e w2 ⟨rfl, hs, hk⟩
  have S2 := Lib.hid hs
  obtain h0 := B.out
  clear B
  have B := Lib.hid (h0.trans hk)
  clear h0
  obtain h0 := X1H.out
  clear X1H
  have X1H := Lib.hid (fun b hb => h0 b (Nat.le_trans hk.size hb))
  clear h0
  clear hs hk
  go_wp2_with fail
  refine (sget S2.out (by have := HN.out; simp; omega) 23 z (by decide) (by rw [cur_push]; unfold setI; rw [if_neg (by decide)]; exact H2.out)).mono ?_
  rintro e w3 ⟨rfl, hs, hk⟩
  have S3 := Lib.hid hs
  obtain h0 := B.out
  clear B
  have B := Lib.hid (h0.trans hk)
  clear h0
  obtain h0 := X1H.out
  clear X1H
  have X1H := Lib.hid (fun b hb => h0 b (Nat.le_trans hk.size hb))
  clear h0
  clear hs hk
  go_wp2_with fail
  refine (sput S3.out X1H.out (by have := HN.out; simp; omega) 23 q (by decide)).mono ?_
  rintro e w4 ⟨rfl, hs, hk⟩
  have S4 := Lib.hid hs
  obtain h0 := B.out
  clear B
  have B := Lib.hid (h0.trans hk)
  clear h0
  obtain h0 := X1H.out
  clear X1H
  have X1H := Lib.hid (fun b hb => h0 b (Nat.le_trans hk.size hb))
  clear h0
  clear hs hk
  go_wp2
  go_end0
  obtain h0 := S4.out
  rw [List.append_assoc] at h0
  exact ⟨rfl, h0, B.out⟩
end Go.Proofs.YtkloaopjlbinpaaGreat
