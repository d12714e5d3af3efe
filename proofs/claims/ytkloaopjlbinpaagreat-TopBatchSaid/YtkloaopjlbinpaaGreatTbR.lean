/- The walk of the trie's Walk: the keys in their order and their values. Condition: at most 80000 writes; at most 128 nodes. -/
import Derived.Test.YtkloaopjlbinpaaGreatQH
set_option linter.unusedVariables false
set_option linter.unusedSimpArgs false
namespace Go.Proofs.YtkloaopjlbinpaaGreat
open Go.RowKit Go.MapKept

theorem pairs_len {t : Tr} (h : t.ok 0) : t.pairs.length ≤ 10 := by
  have hm : ∀ p, p ∈ t.pairs ↔ p ∈ prsOf fun k => t.get k 0 := by
    intro p
    rw [prsOf_mem, Tr.get_pairs p.1 p.2 t 0 h]
    exact ⟨fun hp => ⟨Tr.pairs_key t 0 h p hp, hp⟩, fun hp => hp.2⟩
  have hn1 : t.pairs.Nodup := List.Pairwise.imp (fun hne e => hne (by rw [e])) (Tr.pairs_nd t 0 h)
  have hn2 : (prsOf fun k => t.get k 0).Nodup := List.Pairwise.imp (fun hlt e => by rw [e] at hlt; omega) (prsOf_sorted _)
  rw [((List.perm_ext_iff_of_nodup hn1 hn2).2 hm).length_eq]
  exact prsOf_len _
theorem Two.below {E : TypeId} {X Y : Nat → Prop} {w w' : World} {base n : Nat} {v1 v2 : Value} {xs1 xs2 : List Value} (h : Two E X Y w base v1 v2 n xs1 xs2) (hb : Below w.heap.size w w') : Two E X Y w' base v1 v2 n xs1 xs2 := h.step (KX.of_below hb)
def ksV (l : List (Int × Int)) : List Value := l.map fun p => .int .i64 p.1
def vsV (l : List (Int × Int)) : List Value := l.map fun p => .int .i64 p.2
theorem own_ne_own {w : World} {base base' sz sz' n n' : Nat} {E E' : TypeId} {v v' : Value} {xs xs' : List Value} (h : w.ownsRow base E sz v n xs) (h' : w.ownsRow base' E' sz' v' n' xs') (hE : E ≠ E') : ∀ b, v.ownBlock = some b → v'.ownBlock ≠ some b := by
  intro b hb hb'
  rcases h.2 with ⟨rfl, -⟩ | ⟨g, cap, cur, rfl, -, hc, -⟩
  · cases hb
  rcases h'.2 with ⟨rfl, -⟩ | ⟨g', cap', cur', rfl, -, hc', -⟩
  · cases hb'
  obtain rfl : g = b := Option.some.inj hb
  obtain rfl : g' = g := Option.some.inj hb'
  have := hc.symm.trans hc'
  injection this with this
  injection this with _ this
  exact hE this
theorem own_base' {w : World} {base base' sz n : Nat} {E : TypeId} {v : Value} {xs : List Value} (h : w.ownsRow base E sz v n xs) (hb : base' ≤ base) : w.ownsRow base' E sz v n xs := by
  refine ⟨h.1, ?_⟩
  rcases h.2 with e | ⟨g, cap, cur, rfl, hg, hr⟩
  · exact .inl e
  · exact .inr ⟨g, cap, cur, rfl, Nat.le_trans hb hg, hr⟩
set_option maxRecDepth 100000 in
set_option maxHeartbeats 6400000 in
theorem tWalk_any {X : Nat → Prop} {w : World} {base sb : Nat} {g : Mem} {P : List (Int × Int)} (h : SpE w X base sb g P) (hX : ∀ b, w.heap.size ≤ b → X b) (hn : P.length ≤ 80000) {t : Tr} {nh : Nat} (hT : TI (cur g P) t nh) (hnh : nh ≤ 128) :
    Calls Tryz.prog 21 #[.agg #[.iface 50 (.agg #[]), .int .i64 1, .int .i64 96, .int .i64 128, .int .i64 40], .pointer (some ⟨sb, 0, none⟩)] w fun e w' => ∃ (A B : Option Addr) (n c d : Nat) (Y : Nat → Prop), e = .returned (.tuple #[.slice A n c, .slice B n d, .int .i64 0]) ∧ n = (prsOf fun k => t.get k 0).length ∧
      SpE w' Y base sb g P ∧ KX X w w' ∧ Two 2 X Y w' w.heap.size (.slice A n c) (.slice B n d) n (ksV (prsOf fun k => t.get k 0)) (vsV (prsOf fun k => t.get k 0)) ∧ ∀ b, Y b → X b := by
  obtain ⟨W0, hW0⟩ : ∃ W, W = w.alloc (.cells #[.iface 50 (.agg #[]), .int .i64 1, .int .i64 96, .int .i64 128, .int .i64 40] 61) := ⟨_, rfl⟩
  obtain ⟨Y0, hY0⟩ : ∃ Y : Nat → Prop, Y = fun b => X b ∧ b ≠ w.heap.size := ⟨_, rfl⟩
  have e0 : W0.heap.size = w.heap.size + 1 := by rw [hW0, World.size_alloc]
  have F0 : Fr X Y0 w W0 := by rw [hW0, hY0]; exact (Fr.start hX).new _
  have S0 : SpE W0 Y0 base sb g P := by rw [hW0, hY0]; exact h.new _
  have T0 : Bx 61 X Y0 W0 (w.heap.size) #[.iface 50 (.agg #[]), .int .i64 1, .int .i64 96, .int .i64 128, .int .i64 40] := by rw [hW0, hY0]; exact Bx.new (Fr.start hX) _ _
  have F := Lib.hid F0
  have S := Lib.hid S0
  have T := Lib.hid T0
  clear hY0 F0 S0 T0 e0
  have HN := Lib.hid hn
  have HTI := Lib.hid hT
  have HNH := Lib.hid hnh
  have HPL := Lib.hid (pairs_len hT.ok)
  clear h hX hn hT hnh
  go_enter Tryz.func21, Tryz.ntmps21
  go_upto_region 1 with fail
  rw [← hW0]
  clear hW0
  have pT0 : _ = some (Value.iface 50 (.agg #[])) := T.out.hb.cell 0
  have pT1 : _ = some (Value.int .i64 1) := T.out.hb.cell 1
  have pT2 : _ = some (Value.int .i64 96) := T.out.hb.cell 2
  have pT3 : _ = some (Value.int .i64 128) := T.out.hb.cell 3
  have pT4 : _ = some (Value.int .i64 40) := T.out.hb.cell 4
  obtain ⟨lb, hlb⟩ : ∃ n, n = W0.heap.size := ⟨_, rfl⟩
  obtain ⟨w1, hw1⟩ : ∃ W, W = W0.alloc (.cells #[.int .i64 128] 3) := ⟨_, rfl⟩
  obtain ⟨Y1, hY1⟩ : ∃ Y' : Nat → Prop, Y' = fun b => Y0 b ∧ b ≠ W0.heap.size := ⟨_, rfl⟩
  have L := Lib.hid (show Bx 3 X Y1 w1 lb #[.int .i64 128] from by rw [hw1, hY1, hlb]; exact Bx.new F.out _ _)
  obtain h0 := T.out
  clear T
  have T := Lib.hid (show Bx 61 X Y1 w1 w.heap.size #[.iface 50 (.agg #[]), .int .i64 1, .int .i64 96, .int .i64 128, .int .i64 40] from by rw [hw1, hY1]; exact h0.old _)
  clear h0
  obtain h0 := F.out
  clear F
  have F := Lib.hid (show Fr X Y1 w w1 from by rw [hw1, hY1]; exact h0.new _)
  clear h0
  obtain h0 := S.out
  clear S
  have S := Lib.hid (show SpE w1 Y1 base sb g P from by rw [hw1, hY1]; exact h0.new _)
  clear h0
  clear hY1
  go_upto_region 2 with fail
  rw [← hw1, ← hlb]
  clear hw1 hlb
  have htl := T.out.hb.ne_of L.out.hb (by decide)
  have HTL := Lib.hid htl
  clear htl
  have pT0 : _ = some (Value.iface 50 (.agg #[])) := T.out.hb.cell 0
  have pT1 : _ = some (Value.int .i64 1) := T.out.hb.cell 1
  have pT2 : _ = some (Value.int .i64 96) := T.out.hb.cell 2
  have pT3 : _ = some (Value.int .i64 128) := T.out.hb.cell 3
  have pT4 : _ = some (Value.int .i64 40) := T.out.hb.cell 4
  go_wp2_with fail
  refine (twalk_any g P t 0 Y1 w1 base sb lb 128 40 S.out F.out.yn L.out.hb L.out.ny HTI.out.tree (by decide) HTI.out.ok (fun n hn => by have := HTI.out.lt n hn; have := HNH.out; omega) (by have := HTI.out.cnt; have := HNH.out; omega) (Nat.le_refl _) (by omega) HN.out).mono ?_
  rintro e w2 ⟨v, rfl, hs, hk, hl, ho⟩
  clear pT0 pT1 pT2 pT3 pT4
  obtain ⟨A0, c0, rfl, -, -, -⟩ := own_reads (S := fun _ => True) ho (fun _ _ => trivial)
  have HLO := Lib.hid (fun b (hb : (Value.slice A0 t.pairs.length c0).ownBlock = some b) => ho.lt b hb)
  obtain ⟨Y2, hY2⟩ : ∃ Z : Nat → Prop, Z = fun b => Y1 b ∧ (Value.slice A0 t.pairs.length c0).ownBlock ≠ some b := ⟨_, rfl⟩
  have F2 := Lib.hid (show Fr X Y2 w w2 from by
    rw [hY2]
    exact ⟨F.out.k.trans (hk.mono fun b _ hb => hb.elim (F.out.yx b) fun e => by rw [e]; exact L.out.xb), fun b hb => F.out.yx b hb.1, fun b hb => ⟨F.out.yn b (Nat.le_trans hk.size hb), fun e => by have := (HLO.out b e).2; omega⟩⟩)
  have S2 := Lib.hid (show SpE w2 Y2 base sb g P from by rw [hY2]; exact hs)
  have T2 := Lib.hid (show Bx 61 X Y2 w2 w.heap.size #[.iface 50 (.agg #[]), .int .i64 1, .int .i64 96, .int .i64 128, .int .i64 40] from by rw [hY2]; exact ⟨T.out.hb.kx hk fun h => h.elim T.out.ny HTL.out, T.out.xb, fun hy => T.out.ny hy.1⟩)
  have R2 := Lib.hid (show Ro 130 2 X Y2 w2 w.heap.size (.slice A0 t.pairs.length c0) t.pairs.length (t.pairs.flatMap putC) from by
    rw [hY2]
    exact ⟨own_base' ho F.out.k.size, fun b hb => ⟨F.out.yx b (F.out.yn b (HLO.out b hb).1), fun hy => hy.2 hb⟩, Nat.le_trans F.out.k.size hk.size⟩)
  clear F S T L HTL HLO hs hk hl ho hY2
  have F := F2
  have S := S2
  have T := T2
  have R := R2
  clear F2 S2 T2 R2
  go_wp2_with fail
  refine (sortP_any R.out.o (by have := HPL.out; omega)).mono ?_
  rintro e w3 ⟨rfl, l, hp, hso, ho, hk⟩
  have EQ := Lib.hid (prsOf_uniq HTI.out.ok hp hso)
  have LEN := Lib.hid (show l.length = t.pairs.length from hp.length_eq)
  have F3 := Lib.hid (show Fr X Y2 w w3 from ⟨F.out.k.trans (hk.mono fun b _ hb => (R.out.bk b hb).1), F.out.yx, fun b hb => F.out.yn b (Nat.le_trans hk.size hb)⟩)
  have S3 := Lib.hid (S.out.kx hk fun b _ hb e => (R.out.bk b e).2 hb)
  have T3 := Lib.hid (show Bx 61 X Y2 w3 w.heap.size #[.iface 50 (.agg #[]), .int .i64 1, .int .i64 96, .int .i64 128, .int .i64 40] from ⟨T.out.hb.kx hk fun e => own_ne2 R.out.o T.out.hb (by decide) e, T.out.xb, T.out.ny⟩)
  have R3 := Lib.hid (show Ro 130 2 X Y2 w3 w.heap.size (.slice A0 t.pairs.length c0) t.pairs.length (l.flatMap putC) from ⟨ho, R.out.bk, Nat.le_trans R.out.hb hk.size⟩)
  clear F S T R hp hso ho hk
  have F := F3
  have S := S3
  have T := T3
  have R := R3
  clear F3 S3 T3 R3
  obtain ⟨n, hnn⟩ : ∃ z, z = t.pairs.length := ⟨_, rfl⟩
  rw [← hnn] at R LEN HPL ⊢
  clear hnn
  have hn10 : (n : Int) ≤ 10 := by have := HPL.out; omega
  go_wp2_with fail
  go_loopw [10, 11, 33] (fun v10 v11 v33 wr => ∃ (j cA cB : Nat) (Y : Nat → Prop) (A B : Option Addr), v33 = .int .i64 j ∧ v10 = .slice A j cA ∧ v11 = .slice B j cB ∧ j ≤ n ∧ Fr X Y w wr ∧ SpE wr Y base sb g P ∧ Bx 61 X Y wr w.heap.size #[.iface 50 (.agg #[]), .int .i64 1, .int .i64 96, .int .i64 128, .int .i64 40] ∧ Ro 130 2 X Y wr w.heap.size (.slice A0 n c0) n (l.flatMap putC) ∧ Two 2 X Y wr w.heap.size (.slice A j cA) (.slice B j cB) j (ksV (l.take j)) (vsV (l.take j))) (fun _ _ v33 _ => n - (intOf v33).toNat)
  case atStart => exact ⟨0, 0, 0, Y2, none, none, rfl, rfl, rfl, Nat.zero_le _, F.out, S.out, T.out, R.out, two_none F.out.k.size⟩
  case round =>
    obtain ⟨j, cA, cB, Y, A, B, rfl, rfl, rfl, hj, hF, hS, hTb, hR, h2⟩ := hrel
    clear F S T R
    have F := Lib.hid hF
    have S := Lib.hid hS
    have T := Lib.hid hTb
    have R := Lib.hid hR
    have W2 := Lib.hid h2
    have HJ := Lib.hid hj
    clear hF hS hTb hR h2 hj
    by_cases hlt : j < n
    · have hi3 : (j : Int) < (n : Int) := by omega
      have HLT := Lib.hid hlt
      obtain ⟨p, hp⟩ : ∃ p, l[j]? = some p := ⟨_, List.getElem?_eq_getElem (by have := LEN.out; omega)⟩
      obtain ⟨b, q, hA0, hbl, -, hc⟩ := (Reads.of_own R.out.o (S := fun _ => True) (fun _ _ => trivial)).2 (by omega)
      subst hA0
      have z0 : wr.cell? ⟨b, q + j * 2, none⟩ = some (.int .i64 p.1) := hc (j * 2 + 0) _ (flat_get 2 putC (fun _ => rfl) l j p hp 0 (by omega))
      have z1 : wr.cell? ⟨b, q + j * 2 + 1, none⟩ = some (.int .i64 p.2) := by
        have := hc (j * 2 + 1) _ (flat_get 2 putC (fun _ => rfl) l j p hp 1 (by omega))
        rw [← Nat.add_assoc] at this
        exact this
      obtain ⟨pk, hpk⟩ : ∃ z, z = p.1 := ⟨_, rfl⟩
      obtain ⟨pv, hpv⟩ : ∃ z, z = p.2 := ⟨_, rfl⟩
      rw [← hpk] at z0
      rw [← hpv] at z1
      have TK := Lib.hid (show ksV (l.take (j + 1)) = ksV (l.take j) ++ [.int .i64 pk] ∧ vsV (l.take (j + 1)) = vsV (l.take j) ++ [.int .i64 pv] from by
        rw [List.take_add_one, hp, hpk, hpv]
        unfold ksV vsV
        exact ⟨by rw [List.map_append]; rfl, by rw [List.map_append]; rfl⟩)
      clear hc hbl hp hpk hpv hlt
      obtain ⟨pb, hpb⟩ : ∃ n, n = wr.heap.size := ⟨_, rfl⟩
      obtain ⟨w5, hw5⟩ : ∃ W, W = wr.alloc (.cells #[.int .i64 pk, .int .i64 pv] 130) := ⟨_, rfl⟩
      obtain ⟨Y5, hY5⟩ : ∃ Z : Nat → Prop, Z = fun b => Y b ∧ b ≠ wr.heap.size := ⟨_, rfl⟩
      have PBX := Lib.hid (show Bx 130 X Y5 w5 pb #[.int .i64 pk, .int .i64 pv] from by rw [hw5, hY5, hpb]; exact Bx.new F.out _ _)
      have F5 := Lib.hid (show Fr X Y5 w w5 from by rw [hw5, hY5]; exact F.out.new _)
      have S5 := Lib.hid (show SpE w5 Y5 base sb g P from by rw [hw5, hY5]; exact S.out.new _)
      have T5 := Lib.hid (show Bx 61 X Y5 w5 w.heap.size #[.iface 50 (.agg #[]), .int .i64 1, .int .i64 96, .int .i64 128, .int .i64 40] from by rw [hw5, hY5]; exact T.out.old _)
      have R5 := Lib.hid (show Ro 130 2 X Y5 w5 w.heap.size (.slice (some ⟨b, q, none⟩) n c0) n (l.flatMap putC) from by rw [hw5, hY5]; exact R.out.old _)
      have W5 := Lib.hid (show Two 2 X Y5 w5 w.heap.size (.slice A j cA) (.slice B j cB) j (ksV (l.take j)) (vsV (l.take j)) from by rw [hw5, hY5]; exact W2.out.old _)
      have hbne := (show wr.heap.size ≠ b from by have := (R.out.o.lt b rfl).2; omega)
      have RNE := Lib.hid (show (Value.slice (some ⟨b, q, none⟩) n c0).ownBlock ≠ some pb from by rw [hpb]; exact fun e => hbne (Option.some.inj e).symm)
      clear F S T R W2 hbne hY5
      have F := F5
      have S := S5
      have T := T5
      have R := R5
      have W2 := W5
      clear F5 S5 T5 R5 W5
      go_upto_region 11 with fail
      rw [← hw5, ← hpb]
      clear hw5 hpb z0 z1
      have pT0 : _ = some (Value.iface 50 (.agg #[])) := T.out.hb.cell 0
      have pT1 : _ = some (Value.int .i64 1) := T.out.hb.cell 1
      have pT2 : _ = some (Value.int .i64 96) := T.out.hb.cell 2
      have pT3 : _ = some (Value.int .i64 128) := T.out.hb.cell 3
      have pT4 : _ = some (Value.int .i64 40) := T.out.hb.cell 4
      have pPBX0 : _ = some (Value.int .i64 pk) := PBX.out.hb.cell 0
      have pPBX1 : _ = some (Value.int .i64 pv) := PBX.out.hb.cell 1
      go_wp2_with fail
      refine (ikey_any pk _).mono ?_
      rintro e w6 ⟨rfl, hb⟩
      clear pT0 pT1 pT2 pT3 pT4 pPBX0 pPBX1
      obtain h0 := S.out
      clear S
      have S := Lib.hid (h0.below hb)
      clear h0
      obtain h0 := F.out
      clear F
      have F := Lib.hid (h0.below hb)
      clear h0
      obtain h0 := T.out
      clear T
      have T := Lib.hid (h0.below hb)
      clear h0
      obtain h0 := PBX.out
      clear PBX
      have PBX := Lib.hid (h0.below hb)
      clear h0
      obtain h0 := R.out
      clear R
      have R := Lib.hid (h0.below hb)
      clear h0
      obtain h0 := W2.out
      clear W2
      have W2 := Lib.hid (h0.below hb)
      clear h0
      clear hb
      go_upto_region 14 with fail
      refine wp_region_held_drew (S := fun W => HB 130 W pb #[.int .i64 pk, .int .i64 pv]) (by kernel_rfl) (show HB 130 w6.drew pb #[.int .i64 pk, .int .i64 pv] from PBX.out.hb) (fun hHeld => ?_)
      have SW := Lib.hid hHeld
      clear hHeld
      obtain h0 := F.out
      clear F
      have F := Lib.hid (h0.drew)
      clear h0
      obtain h0 := S.out
      clear S
      have S := Lib.hid (h0.drew)
      clear h0
      obtain h0 := T.out
      clear T
      have T := Lib.hid (h0.drew)
      clear h0
      obtain h0 := PBX.out
      clear PBX
      have PBX := Lib.hid (h0.drew)
      clear h0
      obtain h0 := W2.out
      clear W2
      have W2 := Lib.hid (h0.drew)
      clear h0
      obtain h0 := R.out
      clear R
      have R := Lib.hid (h0.step (kx_drew _ _))
      clear h0
      generalize w6.drew = wq at *
      refine wpAnyH_take (i := 0) (oi := ⟨some 47, _, _, _, _, _⟩) (v := .slice A j cA) rfl (by kernel_rfl) (by kernel_rfl) (by kernel_rfl) (fun _ _ _ h => h) (Or.inl ⟨by rfl, ?_⟩) SW.out ?_
      · intro W' hW
        go_simp
      try simp only [Act.put, List.setIfInBounds_toArray, List.set_cons_zero, List.set_cons_succ]
      refine wpAnyH_take (i := 1) (oi := ⟨some 48, _, _, _, _, _⟩) (v := .int .i64 pk) rfl (by kernel_rfl) (by kernel_rfl) (by kernel_rfl) (fun _ _ _ h => h) (Or.inl ⟨by rfl, ?_⟩) SW.out ?_
      · intro W' hW
        go_simp
      try simp only [Act.put, List.setIfInBounds_toArray, List.set_cons_zero, List.set_cons_succ]
      refine wpAnyH_take (i := 4) (oi := ⟨some 51, _, _, _, _, _⟩) (v := .slice B j cB) rfl (by kernel_rfl) (by kernel_rfl) (by kernel_rfl) (fun _ _ _ h => h) (Or.inl ⟨by rfl, ?_⟩) SW.out ?_
      · intro W' hW
        go_simp
      try simp only [Act.put, List.setIfInBounds_toArray, List.set_cons_zero, List.set_cons_succ]
      refine wpAnyH_take (i := 5) (oi := ⟨some 52, _, _, _, _, _⟩) (v := .pointer (some ⟨pb, 1, none⟩)) rfl (by kernel_rfl) (by kernel_rfl) (by kernel_rfl) (fun _ _ _ h => h) (Or.inl ⟨by rfl, ?_⟩) SW.out ?_
      · intro W' hW
        go_simp
      try simp only [Act.put, List.setIfInBounds_toArray, List.set_cons_zero, List.set_cons_succ]
      refine wpAnyH_take (i := 6) (oi := ⟨some 53, _, _, _, _, _⟩) (v := .int .i64 pv) rfl (by kernel_rfl) (by kernel_rfl) (by kernel_rfl) (fun _ _ _ h => h) (Or.inl ⟨by rfl, ?_⟩) SW.out ?_
      · intro W' hW
        have c9 : _ = some (Value.int .i64 pv) := HB.cell hW 1
        go_simp
      try simp only [Act.put, List.setIfInBounds_toArray, List.set_cons_zero, List.set_cons_succ]
      refine wpAnyH_ready (rs := [2, 7]) (by kernel_rfl) (by simp) ?_
      refine AllReadyH.cons (o := ⟨some 49, _, _, _, _, _⟩) rfl (fun K hK => ?_) (AllReadyH.cons (o := ⟨some 54, _, _, _, _, _⟩) rfl (fun K hK => ?_) AllReadyH.nil)
      · obtain ⟨wa, hwout⟩ : ∃ W, W = wq.alloc (.cells #[.int .i64 pk] 2) := ⟨_, rfl⟩
        have bwa : Below wq.heap.size wq wa := by rw [hwout]; exact below_alloc _ _
        have hs1 : HB 2 wa wq.heap.size #[.int .i64 pk] := by rw [hwout]; exact HB.new _ _ _
        have SWwa := Lib.hid (SW.out.below bwa)
        go_simp
        rw [← hwout]
        clear hwout
        refine hK.out _ _ SWwa.out (fun hHeld => ?_)
        clear hK hHeld
        try simp only [Act.put, List.setIfInBounds_toArray, List.set_cons_zero, List.set_cons_succ]
        refine wpAnyH_ready (rs := [3, 7]) (by kernel_rfl) (by simp) ?_
        refine AllReadyH.cons (o := ⟨some 50, _, _, _, _, _⟩) rfl (fun K hK => ?_) (AllReadyH.cons (o := ⟨some 54, _, _, _, _, _⟩) rfl (fun K hK => ?_) AllReadyH.nil)
        · obtain ⟨A3, q3, wb, run1, M1, hk1⟩ := two_first one_i64 W2.out (by have := HJ.out; have := HPL.out; omega) bwa rfl hs1 26
          have RUN1 := Lib.hid run1
          clear run1
          have MM := Lib.hid M1
          have SWwb := Lib.hid (SWwa.out.kx hk1 (fun e => own_ne W2.out.o1 PBX.out.hb (by decide) e))
          refine step_app (.tmp 47) (.tmp 49) 26 rfl (.slice A j cA) _ _ wb rfl rfl RUN1.out ?_
          refine hK.out _ _ SWwb.out (fun hHeld => ?_)
          clear hK hHeld
          try simp only [Act.put, List.setIfInBounds_toArray, List.set_cons_zero, List.set_cons_succ]
          refine wpAnyH_ready (rs := [7]) (by kernel_rfl) (by simp) ?_
          refine AllReadyH.cons (o := ⟨some 54, _, _, _, _, _⟩) rfl (fun K hK => ?_) AllReadyH.nil
          obtain ⟨wc, hwout⟩ : ∃ W, W = wb.alloc (.cells #[.int .i64 pv] 2) := ⟨_, rfl⟩
          have bwc : Below wb.heap.size wb wc := by rw [hwout]; exact below_alloc _ _
          have hs2 : HB 2 wc wb.heap.size #[.int .i64 pv] := by rw [hwout]; exact HB.new _ _ _
          have SWwc := Lib.hid (SWwb.out.below bwc)
          go_simp
          rw [← hwout]
          clear hwout
          refine hK.out _ _ SWwc.out (fun hHeld => ?_)
          clear hK hHeld
          try simp only [Act.put, List.setIfInBounds_toArray, List.set_cons_zero, List.set_cons_succ]
          refine wpAnyH_ready (rs := [8]) (by kernel_rfl) (by simp) ?_
          refine AllReadyH.cons (o := ⟨some 55, _, _, _, _, _⟩) rfl (fun K hK => ?_) AllReadyH.nil
          obtain ⟨A4, q4, wd, run2, hE, hk2⟩ := two_second one_i64 F.out W2.out MM.out (by have := HJ.out; have := HPL.out; omega) bwc rfl hs2 26
          have RUN2 := Lib.hid run2
          clear run2
          have EE := Lib.hid hE
          clear hE
          have SWwd := Lib.hid (SWwc.out.kx hk2 (fun e => own_ne W2.out.o2 PBX.out.hb (by decide) e))
          refine step_app (.tmp 51) (.tmp 54) 26 rfl (.slice B j cB) _ _ wd rfl rfl RUN2.out ?_
          refine hK.out _ _ SWwd.out (fun hHeld => ?_)
          clear hK hHeld
          try simp only [Act.put, List.setIfInBounds_toArray, List.set_cons_zero, List.set_cons_succ]
          clear hk1 hk2 M1
          obtain ⟨Y', F', R', hS', hB', kz, yz⟩ := EE.out.ex
          have t1 := hB' _ _ _ (by decide) T.out
          have s1 := hS' _ _ _ _ S.out
          have r1 : Ro 130 2 X Y' wd w.heap.size (.slice (some ⟨b, q, none⟩) n c0) n (l.flatMap putC) := ⟨own_kx R.out.o kz fun b hb e => e.elim (fun e => own_ne_own R.out.o W2.out.o1 (by decide) b hb e) fun e => own_ne_own R.out.o W2.out.o2 (by decide) b hb e, fun b hb => ⟨(R.out.bk b hb).1, fun hy => (R.out.bk b hb).2 (yz b hy)⟩, Nat.le_trans R.out.hb kz.size⟩
          rw [← TK.out.1, ← TK.out.2] at R'
          have REL1 := Lib.hid (And.intro F' (And.intro s1 (And.intro t1 (And.intro r1 R'))))
          clear F' R' hS' hB' kz yz t1 s1 r1
          refine wpAnyH_take (i := 9) (oi := ⟨some 10, _, _, _, _, _⟩) (v := .slice A3 (j + 1) q3) rfl (by kernel_rfl) (by kernel_rfl) (by kernel_rfl) (fun _ _ _ h => h) (Or.inl ⟨by rfl, ?_⟩) SWwd.out ?_
          · intro W' hW
            go_simp
          try simp only [Act.put, List.setIfInBounds_toArray, List.set_cons_zero, List.set_cons_succ]
          refine wpAnyH_take (i := 10) (oi := ⟨some 11, _, _, _, _, _⟩) (v := .slice A4 (j + 1) q4) rfl (by kernel_rfl) (by kernel_rfl) (by kernel_rfl) (fun _ _ _ h => h) (Or.inl ⟨by rfl, ?_⟩) SWwd.out ?_
          · intro W' hW
            go_simp
          try simp only [Act.put, List.setIfInBounds_toArray, List.set_cons_zero, List.set_cons_succ]
          refine wpAnyH_done (by kernel_rfl) ?_ _
          clear RUN1 RUN2 MM EE SWwd F S T R W2 PBX
          go_wp2_with fail
          go_roundw
          case rel => exact ⟨j + 1, q3, q4, Y', A3, A4, by go_num, rfl, rfl, HLT.out, REL1.out⟩
          case measure =>
            have := HLT.out
            show n - ((j + 1 : Nat) : Int).toNat < n - (j : Int).toNat
            omega
        · obtain ⟨wc, hwout⟩ : ∃ W, W = wa.alloc (.cells #[.int .i64 pv] 2) := ⟨_, rfl⟩
          have bwc : Below wa.heap.size wa wc := by rw [hwout]; exact below_alloc _ _
          have hs2 : HB 2 wc wa.heap.size #[.int .i64 pv] := by rw [hwout]; exact HB.new _ _ _
          have SWwc := Lib.hid (SWwa.out.below bwc)
          go_simp
          rw [← hwout]
          clear hwout
          refine hK.out _ _ SWwc.out (fun hHeld => ?_)
          clear hK hHeld
          try simp only [Act.put, List.setIfInBounds_toArray, List.set_cons_zero, List.set_cons_succ]
          refine wpAnyH_ready (rs := [3]) (by kernel_rfl) (by simp) ?_
          refine AllReadyH.cons (o := ⟨some 50, _, _, _, _, _⟩) rfl (fun K hK => ?_) AllReadyH.nil
          obtain ⟨A3, q3, wb, run1, M1, hk1⟩ := two_first one_i64 W2.out (by have := HJ.out; have := HPL.out; omega) (bwa.trans (bwc.mono bwa.size)) rfl (hs1.below bwc) 26
          have RUN1 := Lib.hid run1
          clear run1
          have MM := Lib.hid M1
          have SWwb := Lib.hid (SWwc.out.kx hk1 (fun e => own_ne W2.out.o1 PBX.out.hb (by decide) e))
          refine step_app (.tmp 47) (.tmp 49) 26 rfl (.slice A j cA) _ _ wb rfl rfl RUN1.out ?_
          refine hK.out _ _ SWwb.out (fun hHeld => ?_)
          clear hK hHeld
          try simp only [Act.put, List.setIfInBounds_toArray, List.set_cons_zero, List.set_cons_succ]
          refine wpAnyH_ready (rs := [8]) (by kernel_rfl) (by simp) ?_
          refine AllReadyH.cons (o := ⟨some 55, _, _, _, _, _⟩) rfl (fun K hK => ?_) AllReadyH.nil
          have hsz := bwa.size
          obtain ⟨A4, q4, wd, run2, hE, hk2⟩ := two_second one_i64 F.out W2.out MM.out (by have := HJ.out; have := HPL.out; omega) (Below.refl _ _) rfl (hs2.kx hk1 (fun e => by have := (W2.out.o1.lt _ e).2; omega)) 26
          have RUN2 := Lib.hid run2
          clear run2
          have EE := Lib.hid hE
          clear hE
          have SWwd := Lib.hid (SWwb.out.kx hk2 (fun e => own_ne W2.out.o2 PBX.out.hb (by decide) e))
          refine step_app (.tmp 51) (.tmp 54) 26 rfl (.slice B j cB) _ _ wd rfl rfl RUN2.out ?_
          refine hK.out _ _ SWwd.out (fun hHeld => ?_)
          clear hK hHeld
          try simp only [Act.put, List.setIfInBounds_toArray, List.set_cons_zero, List.set_cons_succ]
          clear hk1 hk2 M1
          obtain ⟨Y', F', R', hS', hB', kz, yz⟩ := EE.out.ex
          have t1 := hB' _ _ _ (by decide) T.out
          have s1 := hS' _ _ _ _ S.out
          have r1 : Ro 130 2 X Y' wd w.heap.size (.slice (some ⟨b, q, none⟩) n c0) n (l.flatMap putC) := ⟨own_kx R.out.o kz fun b hb e => e.elim (fun e => own_ne_own R.out.o W2.out.o1 (by decide) b hb e) fun e => own_ne_own R.out.o W2.out.o2 (by decide) b hb e, fun b hb => ⟨(R.out.bk b hb).1, fun hy => (R.out.bk b hb).2 (yz b hy)⟩, Nat.le_trans R.out.hb kz.size⟩
          rw [← TK.out.1, ← TK.out.2] at R'
          have REL1 := Lib.hid (And.intro F' (And.intro s1 (And.intro t1 (And.intro r1 R'))))
          clear F' R' hS' hB' kz yz t1 s1 r1
          refine wpAnyH_take (i := 9) (oi := ⟨some 10, _, _, _, _, _⟩) (v := .slice A3 (j + 1) q3) rfl (by kernel_rfl) (by kernel_rfl) (by kernel_rfl) (fun _ _ _ h => h) (Or.inl ⟨by rfl, ?_⟩) SWwd.out ?_
          · intro W' hW
            go_simp
          try simp only [Act.put, List.setIfInBounds_toArray, List.set_cons_zero, List.set_cons_succ]
          refine wpAnyH_take (i := 10) (oi := ⟨some 11, _, _, _, _, _⟩) (v := .slice A4 (j + 1) q4) rfl (by kernel_rfl) (by kernel_rfl) (by kernel_rfl) (fun _ _ _ h => h) (Or.inl ⟨by rfl, ?_⟩) SWwd.out ?_
          · intro W' hW
            go_simp
          try simp only [Act.put, List.setIfInBounds_toArray, List.set_cons_zero, List.set_cons_succ]
          refine wpAnyH_done (by kernel_rfl) ?_ _
          clear RUN1 RUN2 MM EE SWwd F S T R W2 PBX
          go_wp2_with fail
          go_roundw
          case rel => exact ⟨j + 1, q3, q4, Y', A3, A4, by go_num, rfl, rfl, HLT.out, REL1.out⟩
          case measure =>
            have := HLT.out
            show n - ((j + 1 : Nat) : Int).toNat < n - (j : Int).toNat
            omega
      · obtain ⟨wc, hwout⟩ : ∃ W, W = wq.alloc (.cells #[.int .i64 pv] 2) := ⟨_, rfl⟩
        have bwc : Below wq.heap.size wq wc := by rw [hwout]; exact below_alloc _ _
        have hs2 : HB 2 wc wq.heap.size #[.int .i64 pv] := by rw [hwout]; exact HB.new _ _ _
        have SWwc := Lib.hid (SW.out.below bwc)
        go_simp
        rw [← hwout]
        clear hwout
        refine hK.out _ _ SWwc.out (fun hHeld => ?_)
        clear hK hHeld
        try simp only [Act.put, List.setIfInBounds_toArray, List.set_cons_zero, List.set_cons_succ]
        refine wpAnyH_ready (rs := [2]) (by kernel_rfl) (by simp) ?_
        refine AllReadyH.cons (o := ⟨some 49, _, _, _, _, _⟩) rfl (fun K hK => ?_) AllReadyH.nil
        obtain ⟨wa, hwout⟩ : ∃ W, W = wc.alloc (.cells #[.int .i64 pk] 2) := ⟨_, rfl⟩
        have bwa : Below wc.heap.size wc wa := by rw [hwout]; exact below_alloc _ _
        have hs1 : HB 2 wa wc.heap.size #[.int .i64 pk] := by rw [hwout]; exact HB.new _ _ _
        have SWwa := Lib.hid (SWwc.out.below bwa)
        go_simp
        rw [← hwout]
        clear hwout
        refine hK.out _ _ SWwa.out (fun hHeld => ?_)
        clear hK hHeld
        try simp only [Act.put, List.setIfInBounds_toArray, List.set_cons_zero, List.set_cons_succ]
        refine wpAnyH_ready (rs := [3]) (by kernel_rfl) (by simp) ?_
        refine AllReadyH.cons (o := ⟨some 50, _, _, _, _, _⟩) rfl (fun K hK => ?_) AllReadyH.nil
        obtain ⟨A3, q3, wb, run1, M1, hk1⟩ := two_first one_i64 W2.out (by have := HJ.out; have := HPL.out; omega) (bwc.trans (bwa.mono bwc.size)) rfl hs1 26
        have RUN1 := Lib.hid run1
        clear run1
        have MM := Lib.hid M1
        have SWwb := Lib.hid (SWwa.out.kx hk1 (fun e => own_ne W2.out.o1 PBX.out.hb (by decide) e))
        refine step_app (.tmp 47) (.tmp 49) 26 rfl (.slice A j cA) _ _ wb rfl rfl RUN1.out ?_
        refine hK.out _ _ SWwb.out (fun hHeld => ?_)
        clear hK hHeld
        try simp only [Act.put, List.setIfInBounds_toArray, List.set_cons_zero, List.set_cons_succ]
        refine wpAnyH_ready (rs := [8]) (by kernel_rfl) (by simp) ?_
        refine AllReadyH.cons (o := ⟨some 55, _, _, _, _, _⟩) rfl (fun K hK => ?_) AllReadyH.nil
        obtain ⟨A4, q4, wd, run2, hE, hk2⟩ := two_second one_i64 F.out W2.out MM.out (by have := HJ.out; have := HPL.out; omega) (Below.refl _ _) rfl ((hs2.below bwa).kx hk1 (fun e => by have := (W2.out.o1.lt _ e).2; omega)) 26
        have RUN2 := Lib.hid run2
        clear run2
        have EE := Lib.hid hE
        clear hE
        have SWwd := Lib.hid (SWwb.out.kx hk2 (fun e => own_ne W2.out.o2 PBX.out.hb (by decide) e))
        refine step_app (.tmp 51) (.tmp 54) 26 rfl (.slice B j cB) _ _ wd rfl rfl RUN2.out ?_
        refine hK.out _ _ SWwd.out (fun hHeld => ?_)
        clear hK hHeld
        try simp only [Act.put, List.setIfInBounds_toArray, List.set_cons_zero, List.set_cons_succ]
        clear hk1 hk2 M1
        obtain ⟨Y', F', R', hS', hB', kz, yz⟩ := EE.out.ex
        have t1 := hB' _ _ _ (by decide) T.out
        have s1 := hS' _ _ _ _ S.out
        have r1 : Ro 130 2 X Y' wd w.heap.size (.slice (some ⟨b, q, none⟩) n c0) n (l.flatMap putC) := ⟨own_kx R.out.o kz fun b hb e => e.elim (fun e => own_ne_own R.out.o W2.out.o1 (by decide) b hb e) fun e => own_ne_own R.out.o W2.out.o2 (by decide) b hb e, fun b hb => ⟨(R.out.bk b hb).1, fun hy => (R.out.bk b hb).2 (yz b hy)⟩, Nat.le_trans R.out.hb kz.size⟩
        rw [← TK.out.1, ← TK.out.2] at R'
        have REL1 := Lib.hid (And.intro F' (And.intro s1 (And.intro t1 (And.intro r1 R'))))
        clear F' R' hS' hB' kz yz t1 s1 r1
        refine wpAnyH_take (i := 9) (oi := ⟨some 10, _, _, _, _, _⟩) (v := .slice A3 (j + 1) q3) rfl (by kernel_rfl) (by kernel_rfl) (by kernel_rfl) (fun _ _ _ h => h) (Or.inl ⟨by rfl, ?_⟩) SWwd.out ?_
        · intro W' hW
          go_simp
        try simp only [Act.put, List.setIfInBounds_toArray, List.set_cons_zero, List.set_cons_succ]
        refine wpAnyH_take (i := 10) (oi := ⟨some 11, _, _, _, _, _⟩) (v := .slice A4 (j + 1) q4) rfl (by kernel_rfl) (by kernel_rfl) (by kernel_rfl) (fun _ _ _ h => h) (Or.inl ⟨by rfl, ?_⟩) SWwd.out ?_
        · intro W' hW
          go_simp
        try simp only [Act.put, List.setIfInBounds_toArray, List.set_cons_zero, List.set_cons_succ]
        refine wpAnyH_done (by kernel_rfl) ?_ _
        clear RUN1 RUN2 MM EE SWwd F S T R W2 PBX
        go_wp2_with fail
        go_roundw
        case rel => exact ⟨j + 1, q3, q4, Y', A3, A4, by go_num, rfl, rfl, HLT.out, REL1.out⟩
        case measure =>
          have := HLT.out
          show n - ((j + 1 : Nat) : Int).toNat < n - (j : Int).toNat
          omega
    · have hi3 : ¬ (j : Int) < (n : Int) := by omega
      have ej : j = n := by have := HJ.out; omega
      subst ej
      have e2 : l.take j = l := List.take_of_length_le (by have := LEN.out; omega)
      have W3 := Lib.hid (show Two 2 X Y wr w.heap.size (.slice A j cA) (.slice B j cB) j (ksV l) (vsV l) from by have h0 := W2.out; rw [e2] at h0; exact h0)
      clear hlt e2
      go_wp2
      go_ret3
      refine ⟨A, B, j, cA, cB, rfl, ?_, Y, S.out, F.out.k, ?_, F.out.yx⟩
      · rw [← EQ.out]; exact LEN.out.symm
      · rw [← EQ.out]; exact W3.out
end Go.Proofs.YtkloaopjlbinpaaGreat
