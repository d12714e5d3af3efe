/- The walk of the trie's split. Condition: at most 70000 writes; the key is one of 0 to 9; at most 120 nodes. -/
import Derived.Test.YtkloaopjlbinpaaGreatQG
set_option linter.unusedVariables false
set_option linter.unusedSimpArgs false
namespace Go.Proofs.YtkloaopjlbinpaaGreat
open Go.RowKit Go.MapKept

theorem div_dg' (k : Int) (d : Nat) : (hs k : Int) / 2 ^ (3 * d) = ((hs k / 8 ^ d : Nat) : Int) := by
  have e8 : 8 ^ d = 2 ^ (3 * d) := by rw [Nat.pow_mul]
  rw [e8, Int.natCast_ediv, Int.natCast_pow]
  rfl
theorem div_dg (k : Int) (d : Nat) : (hs k : Int) / 2 ^ (3 * (d : Int)).toNat = ((hs k / 8 ^ d : Nat) : Int) := by
  rw [show (3 * (d : Int)).toNat = 3 * d by omega]
  exact div_dg' k d
/-- What the split keeps: the trie shows the same values; the key's path ends at no leaf of its own. -/
structure SpI (g : Mem) (P P1 : List (Int × Int)) (t t1 : Tr) (n n1 : Nat) (k : Int) : Prop where
  ti : TI (cur g P1) t1 n1
  bot : t1.bot k 0 = .e ∨ ∃ a k0 v0, t1.bot k 0 = .l a k0 v0 ∧ k0 ≠ k
  get : ∀ k', t1.get k' 0 = t.get k' 0
  nn : n1 + t.dep k 0 ≤ n + t1.dep k 0
  len : P1.length + 20 * t.dep k 0 ≤ P.length + 20 * t1.dep k 0
theorem SpI.next {g : Mem} {P P1 : List (Int × Int)} {t t1 : Tr} {n n1 a : Nat} {k k0 v0 : Int} (h : SpI g P P1 t t1 n n1 k) (hk : key k) (hb : t1.bot k 0 = .l a k0 v0) (hne : k0 ≠ k) :
    SpI g P (P1 ++ spP n1 (adr n1 + (dg (t1.dep k 0) k0 : Int)) (adr a) (t1.cell k 0 40)) t (Tr.repl k (brn n1 a k0 v0 (t1.dep k 0)) t1 0) n (n1 + 1) k ∧
      (Tr.repl k (brn n1 a k0 v0 (t1.dep k 0)) t1 0).cell k 0 40 = adr n1 + (dg (t1.dep k 0) k : Int) ∧ (Tr.repl k (brn n1 a k0 v0 (t1.dep k 0)) t1 0).dep k 0 = t1.dep k 0 + 1 := by
  obtain ⟨h1, h2, h3, h4, h5⟩ := h.ti.splitP hk hb hne
  refine ⟨⟨h1, ?_, fun k' => (h5 k').trans (h.get k'), ?_, ?_⟩, h3, h4⟩
  · rw [h2]
    split
    · exact .inr ⟨a, k0, v0, rfl, hne⟩
    · exact .inl rfl
  · rw [h4]; have := h.nn; omega
  · rw [h4, List.length_append]
    have : (spP n1 (adr n1 + (dg (t1.dep k 0) k0 : Int)) (adr a) (t1.cell k 0 40)).length = 12 := by unfold spP; rw [List.length_append, List.length_append, tkP_len]; rfl
    have := h.len
    omega
theorem ttake_tk {X : Nat → Prop} {w : World} {base sb : Nat} {g : Mem} {P : List (Int × Int)} (h : SpE w X base sb g P) (hX : ∀ b, w.heap.size ≤ b → X b) (hn : P.length ≤ 80000) (n : Nat) (hnn : n < 128) (h1 : cur g P 1 = 0) (h2 : cur g P 2 = n) (h47 : cur g P 47 = n) (A : Option Addr) (c : Nat) (L : List Int) (nl : Nat) (hl : L.length = nl) (hl8 : nl ≤ 8) (hA : Reads w (fun b => ¬ X b) 1 A nl (L.map (.int .i64))) :
    Calls Tryz.prog 45 #[.agg #[.iface 50 (.agg #[]), .int .i64 1, .int .i64 96, .int .i64 128, .int .i64 40], .pointer (some ⟨sb, 0, none⟩), .slice A nl c] w fun e w' => e = .returned (.tuple #[.int .i64 (adr n), .int .i64 0]) ∧ SpE w' X base sb g (P ++ tkP n L) ∧ KX X w w' := by
  refine (ttake_any h hX hn n hnn h1 h2 h47 A c L nl hl hl8 hA).mono fun e w' hh => ⟨hh.1, ?_, hh.2.2⟩
  unfold tkP
  rw [← List.append_assoc, ← List.append_assoc]
  exact hh.2.1
set_option maxRecDepth 100000 in
set_option maxHeartbeats 6400000 in
theorem split_any {X : Nat → Prop} {w : World} {base sb : Nat} {g : Mem} {P : List (Int × Int)} (h : SpE w X base sb g P) (hX : ∀ b, w.heap.size ≤ b → X b) (hn : P.length ≤ 70000) {t : Tr} {nh : Nat} (hT : TI (cur g P) t nh) (hnh : nh ≤ 120) (k : Int) (hk : key k) (hbot : t.bot k 0 = .e ∨ ∃ a k0 v0, t.bot k 0 = .l a k0 v0 ∧ k0 ≠ k) (A B : Option Addr) (q m c d : Nat) :
    Calls Tryz.prog 44 #[.agg #[.iface 50 (.agg #[]), .int .i64 1, .int .i64 96, .int .i64 128, .int .i64 40], .pointer (some ⟨sb, 0, none⟩), .agg #[.slice A q c, .slice B m d, .int .i64 (t.cell k 0 40), .int .i64 (t.dep k 0)], .int .u64 (hs k)] w fun e w' => ∃ (P' : List (Int × Int)) (t' : Tr) (n' : Nat), e = .returned (.tuple #[.agg #[.slice A q c, .slice B m d, .int .i64 (t'.cell k 0 40), .int .i64 (t'.dep k 0)], .int .i64 0]) ∧ SpE w' X base sb g P' ∧ KX X w w' ∧ TI (cur g P') t' n' ∧ t'.bot k 0 = .e ∧ (∀ k', t'.get k' 0 = t.get k' 0) ∧ n' ≤ nh + 2 ∧ P'.length ≤ P.length + 40 := by
  obtain ⟨W0, hW0⟩ : ∃ W, W = w.alloc (.cells #[.iface 50 (.agg #[]), .int .i64 1, .int .i64 96, .int .i64 128, .int .i64 40] 61) := ⟨_, rfl⟩
  obtain ⟨Y0, hY0⟩ : ∃ Y : Nat → Prop, Y = fun b => X b ∧ b ≠ w.heap.size := ⟨_, rfl⟩
  have e0 : W0.heap.size = w.heap.size + 1 := by rw [hW0, World.size_alloc]
  have F0 : Fr X Y0 w W0 := by rw [hW0, hY0]; exact (Fr.start hX).new _
  have S0 : SpE W0 Y0 base sb g P := by rw [hW0, hY0]; exact h.new _
  have T0 : Bx 61 X Y0 W0 (w.heap.size) #[.iface 50 (.agg #[]), .int .i64 1, .int .i64 96, .int .i64 128, .int .i64 40] := by rw [hW0, hY0]; exact Bx.new (Fr.start hX) _ _
  obtain ⟨W1, hW1⟩ : ∃ W, W = W0.alloc (.cells #[.slice A q c, .slice B m d, .int .i64 (t.cell k 0 40), .int .i64 (t.dep k 0)] 108) := ⟨_, rfl⟩
  obtain ⟨Y1, hY1⟩ : ∃ Y : Nat → Prop, Y = fun b => Y0 b ∧ b ≠ W0.heap.size := ⟨_, rfl⟩
  have e1 : W1.heap.size = w.heap.size + 2 := by rw [hW1, World.size_alloc, e0]
  have F1 : Fr X Y1 w W1 := by rw [hW1, hY1]; exact F0.new _
  have S1 : SpE W1 Y1 base sb g P := by rw [hW1, hY1]; exact S0.new _
  have T1 : Bx 61 X Y1 W1 (w.heap.size) #[.iface 50 (.agg #[]), .int .i64 1, .int .i64 96, .int .i64 128, .int .i64 40] := by rw [hW1, hY1]; exact T0.old _
  have BY1 : Bx 108 X Y1 W1 (w.heap.size + 1) #[.slice A q c, .slice B m d, .int .i64 (t.cell k 0 40), .int .i64 (t.dep k 0)] := by rw [hW1, hY1, ← e0]; exact Bx.new F0 _ _
  obtain ⟨W2, hW2⟩ : ∃ W, W = W1.alloc (.cells #[.slice none 0 0, .slice none 0 0, .int .i64 0, .int .i64 0] 108) := ⟨_, rfl⟩
  obtain ⟨Y2, hY2⟩ : ∃ Y : Nat → Prop, Y = fun b => Y1 b ∧ b ≠ W1.heap.size := ⟨_, rfl⟩
  have e2 : W2.heap.size = w.heap.size + 3 := by rw [hW2, World.size_alloc, e1]
  have F2 : Fr X Y2 w W2 := by rw [hW2, hY2]; exact F1.new _
  have S2 : SpE W2 Y2 base sb g P := by rw [hW2, hY2]; exact S1.new _
  have T2 : Bx 61 X Y2 W2 (w.heap.size) #[.iface 50 (.agg #[]), .int .i64 1, .int .i64 96, .int .i64 128, .int .i64 40] := by rw [hW2, hY2]; exact T1.old _
  have BY2 : Bx 108 X Y2 W2 (w.heap.size + 1) #[.slice A q c, .slice B m d, .int .i64 (t.cell k 0 40), .int .i64 (t.dep k 0)] := by rw [hW2, hY2]; exact BY1.old _
  have Z2 : Bx 108 X Y2 W2 (w.heap.size + 2) #[.slice none 0 0, .slice none 0 0, .int .i64 0, .int .i64 0] := by rw [hW2, hY2, ← e1]; exact Bx.new F1 _ _
  rw [hW0] at hW1
  rw [hW1] at hW2
  have F := Lib.hid F2
  have S := Lib.hid S2
  have T := Lib.hid T2
  have BY := Lib.hid BY2
  have Z := Lib.hid Z2
  clear hY0 hY1 hY2 F0 F1 F2 S0 S1 S2 T0 T1 BY1 T2 BY2 Z2 e0 e1 e2 hW0 hW1
  have HN := Lib.hid (And.intro hn hnh)
  have HK := Lib.hid hk
  have HD0 := Lib.hid (Tr.dep_le k t 0 hT.ok (by omega))
  have SI0 := Lib.hid (show SpI g P P t t nh nh k from ⟨hT, hbot, fun _ => rfl, by omega, by omega⟩)
  clear h hX hn hT hnh hk hbot
  go_enter Tryz.func44, Tryz.ntmps44
  go_upto_region 1 with fail
  rw [← hW2]
  clear hW2
  go_loopg [10] (2 - t.dep k 0) (fun gk v10 wr => ∃ (Y : Nat → Prop) (P1 : List (Int × Int)) (t1 : Tr) (n1 : Nat), Fr X Y w wr ∧ SpE wr Y base sb g P1 ∧ Bx 61 X Y wr w.heap.size #[.iface 50 (.agg #[]), .int .i64 1, .int .i64 96, .int .i64 128, .int .i64 40] ∧ Bx 108 X Y wr (w.heap.size + 1) #[.slice A q c, .slice B m d, .int .i64 (t1.cell k 0 40), .int .i64 (t1.dep k 0)] ∧ Bx 108 X Y wr (w.heap.size + 2) #[.slice none 0 0, .slice none 0 0, .int .i64 0, .int .i64 0] ∧ SpI g P P1 t t1 nh n1 k ∧ t1.dep k 0 + gk = 2)
  case atStart => exact ⟨Y2, P, t, nh, F.out, S.out, T.out, BY.out, Z.out, SI0.out, by have := HD0.out; omega⟩
  case round =>
    obtain ⟨Y, P1, t1, n1, hF, hS, hTb, hB, hZ, hI, hg⟩ := hrel
    clear F S T BY Z SI0
    have F := Lib.hid hF
    have S := Lib.hid hS
    have T := Lib.hid hTb
    have BY := Lib.hid hB
    have Z := Lib.hid hZ
    have SI := Lib.hid hI
    have HG := Lib.hid hg
    have HN1 := Lib.hid (show P1.length ≤ 70040 ∧ n1 ≤ 122 from by have := hI.nn; have := hI.len; have := HN.out; omega)
    obtain ⟨ce, hce⟩ : ∃ z, z = t1.cell k 0 40 := ⟨_, rfl⟩
    obtain ⟨de, hde⟩ : ∃ z, z = t1.dep k 0 := ⟨_, rfl⟩
    have hd3 : (de : Int) < 4 := by omega
    rw [← hce, ← hde] at BY
    have HCE := Lib.hid (show ce = t1.cell k 0 40 ∧ inM ce from ⟨hce, by rw [hce]; exact hI.ti.cell_in (by have := HN1.out; omega) k⟩)
    have HDE := Lib.hid hde
    have hat := Tr.bot_at k t1 0 40 hI.ti.tree
    rw [← hce] at hat
    clear hF hS hTb hB hZ hg hce hde
    rcases hI.bot with hb | ⟨a, k0, v0, hb, hne⟩
    · rw [hb] at hat
      have H0 := Lib.hid (show cur g P1 ce = 0 from hat)
      have HB0 := Lib.hid hb
      clear hat hb hI
      have pBY0 : _ = some (Value.slice A q c) := BY.out.hb.cell 0
      have pBY1 : _ = some (Value.slice B m d) := BY.out.hb.cell 1
      have pBY2 : _ = some (Value.int .i64 ce) := BY.out.hb.cell 2
      have pBY3 : _ = some (Value.int .i64 (de : Int)) := BY.out.hb.cell 3
      have pZ0 : _ = some (Value.slice none 0 0) := Z.out.hb.cell 0
      have pZ1 : _ = some (Value.slice none 0 0) := Z.out.hb.cell 1
      have pZ2 : _ = some (Value.int .i64 0) := Z.out.hb.cell 2
      have pZ3 : _ = some (Value.int .i64 0) := Z.out.hb.cell 3
      go_wp2_with fail
      refine (sget S.out (by have := HN1.out; omega) ce 0 HCE.out.2 H0.out).mono ?_
      rintro e w1 ⟨rfl, hs, hk⟩
      clear S
      have S := Lib.hid hs
      clear pBY0 pBY1 pBY2 pBY3 pZ0 pZ1 pZ2 pZ3
      obtain h0 := F.out
      clear F
      have F := Lib.hid (h0.step hk)
      clear h0
      obtain h0 := T.out
      clear T
      have T := Lib.hid (h0.step hk)
      clear h0
      obtain h0 := BY.out
      clear BY
      have BY := Lib.hid (h0.step hk)
      clear h0
      obtain h0 := Z.out
      clear Z
      have Z := Lib.hid (h0.step hk)
      clear h0
      clear hs hk
      have pBY0 : _ = some (Value.slice A q c) := BY.out.hb.cell 0
      have pBY1 : _ = some (Value.slice B m d) := BY.out.hb.cell 1
      have pBY2 : _ = some (Value.int .i64 ce) := BY.out.hb.cell 2
      have pBY3 : _ = some (Value.int .i64 (de : Int)) := BY.out.hb.cell 3
      have pZ0 : _ = some (Value.slice none 0 0) := Z.out.hb.cell 0
      have pZ1 : _ = some (Value.slice none 0 0) := Z.out.hb.cell 1
      have pZ2 : _ = some (Value.int .i64 0) := Z.out.hb.cell 2
      have pZ3 : _ = some (Value.int .i64 0) := Z.out.hb.cell 3
      have fz := Z.out.hb.free
      have fz0 := fz 0
      have fz1 := fz 1
      have fz2 := fz 2
      have fz3 := fz 3
      clear fz
      go_wp2
      obtain ⟨z1, z2, z3⟩ := set4 F.out Z.out (.slice A q c) (.slice B m d) (.int .i64 ce) (.int .i64 (de : Int))
      refine bodyPost_ret (results_ct rfl _ _ (w.heap.size + 2) _ _ _ _ rfl z2.hb Tryz.underlying108 rfl way_size) rfl ?_
      refine ⟨P1, t1, n1, ?_, (z3 _ _ _ _ S.out).back z1, z1.k, SI.out.ti, HB0.out, SI.out.get, ?_, ?_⟩
      · rw [← HCE.out.1, ← HDE.out]
        rfl
      · have := SI.out.nn; have := HG.out; omega
      · have := SI.out.len; have := HG.out; omega
    · have hal := hI.ti.lt a (Tr.bot_nodes k t1 0 a (by rw [hb]; exact List.mem_singleton.2 rfl))
      have hok := Tr.bot_ok k t1 0 hI.ti.ok
      rw [hb] at hat hok
      have hsplit := hI.next HK.out hb hne
      have hd2 : de < 2 := by
        have := HG.out
        have := Tr.dep_le k _ 0 hsplit.1.ti.ok (by omega)
        rw [hsplit.2.2, ← HDE.out] at this
        omega
      rw [← HDE.out, ← HCE.out.1] at hsplit
      have NX := Lib.hid hsplit
      obtain ⟨x, hx⟩ : ∃ z, z = adr a := ⟨_, rfl⟩
      have HX := Lib.hid (show x = adr a ∧ a < 128 ∧ inM x from ⟨hx, by have := HN1.out; omega, by rw [hx]; unfold inM adr; have := HN1.out; omega⟩)
      have HV := Lib.hid (show cur g P1 ce = x ∧ cur g P1 x = k0 from ⟨by rw [hx]; exact hat.1, by rw [hx]; exact hat.2.1⟩)
      have HK0 := Lib.hid (show key k0 from hok)
      have HD2 := Lib.hid hd2
      have qx : (x != 0) = true := by simp; unfold adr at hx; omega
      have qx1 : ¬ x = 0 := by unfold adr at hx; omega
      clear hat hok hsplit hx hal hb hne hd2 hI
      have pBY0 : _ = some (Value.slice A q c) := BY.out.hb.cell 0
      have pBY1 : _ = some (Value.slice B m d) := BY.out.hb.cell 1
      have pBY2 : _ = some (Value.int .i64 ce) := BY.out.hb.cell 2
      have pBY3 : _ = some (Value.int .i64 (de : Int)) := BY.out.hb.cell 3
      go_wp2_with fail
      refine (sget S.out (by have := HN1.out; omega) ce x HCE.out.2 HV.out.1).mono ?_
      rintro e w1 ⟨rfl, hs, hk⟩
      clear S
      have S := Lib.hid hs
      clear pBY0 pBY1 pBY2 pBY3
      obtain h0 := F.out
      clear F
      have F := Lib.hid (h0.step hk)
      clear h0
      obtain h0 := T.out
      clear T
      have T := Lib.hid (h0.step hk)
      clear h0
      obtain h0 := BY.out
      clear BY
      have BY := Lib.hid (h0.step hk)
      clear h0
      obtain h0 := Z.out
      clear Z
      have Z := Lib.hid (h0.step hk)
      clear h0
      clear hs hk
      have pBY0 : _ = some (Value.slice A q c) := BY.out.hb.cell 0
      have pBY1 : _ = some (Value.slice B m d) := BY.out.hb.cell 1
      have pBY2 : _ = some (Value.int .i64 ce) := BY.out.hb.cell 2
      have pBY3 : _ = some (Value.int .i64 (de : Int)) := BY.out.hb.cell 3
      go_wp2_with fail
      refine (sget S.out (by have := HN1.out; omega) ce x HCE.out.2 HV.out.1).mono ?_
      rintro e w2 ⟨rfl, hs, hk⟩
      clear S
      have S := Lib.hid hs
      clear pBY0 pBY1 pBY2 pBY3
      obtain h0 := F.out
      clear F
      have F := Lib.hid (h0.step hk)
      clear h0
      obtain h0 := T.out
      clear T
      have T := Lib.hid (h0.step hk)
      clear h0
      obtain h0 := BY.out
      clear BY
      have BY := Lib.hid (h0.step hk)
      clear h0
      obtain h0 := Z.out
      clear Z
      have Z := Lib.hid (h0.step hk)
      clear h0
      clear hs hk
      have pT0 : _ = some (Value.iface 50 (.agg #[])) := T.out.hb.cell 0
      have pT1 : _ = some (Value.int .i64 1) := T.out.hb.cell 1
      have pT2 : _ = some (Value.int .i64 96) := T.out.hb.cell 2
      have pT3 : _ = some (Value.int .i64 128) := T.out.hb.cell 3
      have pT4 : _ = some (Value.int .i64 40) := T.out.hb.cell 4
      have pBY0 : _ = some (Value.slice A q c) := BY.out.hb.cell 0
      have pBY1 : _ = some (Value.slice B m d) := BY.out.hb.cell 1
      have pBY2 : _ = some (Value.int .i64 ce) := BY.out.hb.cell 2
      have pBY3 : _ = some (Value.int .i64 (de : Int)) := BY.out.hb.cell 3
      go_wp2_with fail
      refine (tnode_any a HX.out.2.1 x HX.out.1 _).mono ?_
      rintro e w3 ⟨rfl, hb⟩
      clear pT0 pT1 pT2 pT3 pT4 pBY0 pBY1 pBY2 pBY3
      obtain h0 := S.out
      clear S
      have S := Lib.hid (h0.below hb)
      clear h0
      obtain h0 := F.out
      clear F
      have F := Lib.hid (h0.below hb)
      clear h0
      obtain h0 := T.out
      clear T
      have T := Lib.hid (h0.below hb)
      clear h0
      obtain h0 := BY.out
      clear BY
      have BY := Lib.hid (h0.below hb)
      clear h0
      obtain h0 := Z.out
      clear Z
      have Z := Lib.hid (h0.below hb)
      clear h0
      clear hb
      go_upto_region 6 with fail
      refine wp_region_held_drew (S := fun W => HB 61 W w.heap.size #[.iface 50 (.agg #[]), .int .i64 1, .int .i64 96, .int .i64 128, .int .i64 40]) (by kernel_rfl) (show HB 61 w3.drew w.heap.size #[.iface 50 (.agg #[]), .int .i64 1, .int .i64 96, .int .i64 128, .int .i64 40] from T.out.hb) (fun hHeld => ?_)
      have SW := Lib.hid hHeld
      clear hHeld
      obtain h0 := F.out
      clear F
      have F := Lib.hid (h0.drew)
      clear h0
      obtain h0 := S.out
      clear S
      have S := Lib.hid (h0.drew)
      clear h0
      obtain h0 := T.out
      clear T
      have T := Lib.hid (h0.drew)
      clear h0
      obtain h0 := BY.out
      clear BY
      have BY := Lib.hid (h0.drew)
      clear h0
      obtain h0 := Z.out
      clear Z
      have Z := Lib.hid (h0.drew)
      clear h0
      generalize w3.drew = wq at *
      refine wpAnyH_take (i := 0) (oi := ⟨some 40, _, _, _, _, _⟩) (v := .pointer (some ⟨w.heap.size, 0, none⟩)) rfl (by kernel_rfl) (by kernel_rfl) (by kernel_rfl) (fun _ _ _ h => h) (Or.inl ⟨by rfl, ?_⟩) SW.out ?_
      · intro W' hW
        go_simp
      try simp only [Act.put, List.setIfInBounds_toArray, List.set_cons_zero, List.set_cons_succ]
      refine wpAnyH_take (i := 1) (oi := ⟨some 41, _, _, _, _, _⟩) (v := .iface 50 (.agg #[])) rfl (by kernel_rfl) (by kernel_rfl) (by kernel_rfl) (fun _ _ _ h => h) (Or.inl ⟨by rfl, ?_⟩) SW.out ?_
      · intro W' hW
        have c0 : _ = some (Value.iface 50 (.agg #[])) := HB.cell hW 0
        go_simp
      try simp only [Act.put, List.setIfInBounds_toArray, List.set_cons_zero, List.set_cons_succ]
      refine wpAnyH_take (i := 2) (oi := ⟨some 42, _, _, _, _, _⟩) (v := .pointer (some ⟨sb, 0, none⟩)) rfl (by kernel_rfl) (by kernel_rfl) (by kernel_rfl) (fun _ _ _ h => h) (Or.inl ⟨by rfl, ?_⟩) SW.out ?_
      · intro W' hW
        go_simp
      try simp only [Act.put, List.setIfInBounds_toArray, List.set_cons_zero, List.set_cons_succ]
      refine wpAnyH_take (i := 3) (oi := ⟨some 43, _, _, _, _, _⟩) (v := .int .i64 x) rfl (by kernel_rfl) (by kernel_rfl) (by kernel_rfl) (fun _ _ _ h => h) (Or.inl ⟨by rfl, ?_⟩) SW.out ?_
      · intro W' hW
        go_simp
      try simp only [Act.put, List.setIfInBounds_toArray, List.set_cons_zero, List.set_cons_succ]
      refine wpAnyH_take (i := 5) (oi := ⟨some 45, _, _, _, _, _⟩) (v := .iface 50 (.agg #[])) rfl (by kernel_rfl) (by kernel_rfl) (by kernel_rfl) (fun _ _ _ h => h) (Or.inl ⟨by rfl, ?_⟩) SW.out ?_
      · intro W' hW
        go_simp
      try simp only [Act.put, List.setIfInBounds_toArray, List.set_cons_zero, List.set_cons_succ]
      refine wpAnyH_take (i := 6) (oi := ⟨some 46, _, _, _, _, _⟩) (v := .iface 50 (.agg #[])) rfl (by kernel_rfl) (by kernel_rfl) (by kernel_rfl) (fun _ _ _ h => h) (Or.inl ⟨by rfl, ?_⟩) SW.out ?_
      · intro W' hW
        go_simp
      try simp only [Act.put, List.setIfInBounds_toArray, List.set_cons_zero, List.set_cons_succ]
      refine wpAnyH_ready (rs := [4]) (by kernel_rfl) (by simp) ?_
      refine AllReadyH.cons (o := ⟨some 44, _, _, _, _, _⟩) rfl (fun K hK => ?_) AllReadyH.nil
      go_simp
      refine (sget S.out (by have := HN1.out; omega) x k0 HX.out.2.2 HV.out.2).mono ?_
      rintro e w4 ⟨rfl, hs, hk⟩
      clear S SW
      have S := Lib.hid hs
      obtain h0 := F.out
      clear F
      have F := Lib.hid (h0.step hk)
      clear h0
      obtain h0 := T.out
      clear T
      have T := Lib.hid (h0.step hk)
      clear h0
      obtain h0 := BY.out
      clear BY
      have BY := Lib.hid (h0.step hk)
      clear h0
      obtain h0 := Z.out
      clear Z
      have Z := Lib.hid (h0.step hk)
      clear h0
      clear hs hk
      have SW := Lib.hid (T.out.hb)
      refine hK.out _ _ SW.out (fun hHeld => ?_)
      clear hK hHeld
      try simp only [Act.put, List.setIfInBounds_toArray, List.set_cons_zero, List.set_cons_succ]
      refine wpAnyH_ready (rs := [7]) (by kernel_rfl) (by simp) ?_
      refine AllReadyH.cons (o := ⟨some 47, _, _, _, _, _⟩) rfl (fun K hK => ?_) AllReadyH.nil
      go_simp
      refine (ikey_any k0 _).mono ?_
      rintro e w5 ⟨rfl, hb⟩
      clear SW
      obtain h0 := S.out
      clear S
      have S := Lib.hid (h0.below hb)
      clear h0
      obtain h0 := F.out
      clear F
      have F := Lib.hid (h0.below hb)
      clear h0
      obtain h0 := T.out
      clear T
      have T := Lib.hid (h0.below hb)
      clear h0
      obtain h0 := BY.out
      clear BY
      have BY := Lib.hid (h0.below hb)
      clear h0
      obtain h0 := Z.out
      clear Z
      have Z := Lib.hid (h0.below hb)
      clear h0
      clear hb
      have SW := Lib.hid (T.out.hb)
      refine hK.out _ _ SW.out (fun hHeld => ?_)
      clear hK hHeld
      try simp only [Act.put, List.setIfInBounds_toArray, List.set_cons_zero, List.set_cons_succ]
      refine wpAnyH_take (i := 8) (oi := ⟨some 39, _, _, _, _, _⟩) (v := .tuple #[.int .i64 k0, .bool true]) rfl (by kernel_rfl) (by kernel_rfl) (by kernel_rfl) (fun _ _ _ h => h) (Or.inl ⟨by rfl, ?_⟩) SW.out ?_
      · intro W' hW
        go_simp
      try simp only [Act.put, List.setIfInBounds_toArray, List.set_cons_zero, List.set_cons_succ]
      refine wpAnyH_take (i := 9) (oi := ⟨some 48, _, _, _, _, _⟩) (v := .int .i64 k0) rfl (by kernel_rfl) (by kernel_rfl) (by kernel_rfl) (fun _ _ _ h => h) (Or.inl ⟨by rfl, ?_⟩) SW.out ?_
      · intro W' hW
        go_simp
      try simp only [Act.put, List.setIfInBounds_toArray, List.set_cons_zero, List.set_cons_succ]
      refine wpAnyH_take (i := 10) (oi := ⟨some 49, _, _, _, _, _⟩) (v := .bool true) rfl (by kernel_rfl) (by kernel_rfl) (by kernel_rfl) (fun _ _ _ h => h) (Or.inl ⟨by rfl, ?_⟩) SW.out ?_
      · intro W' hW
        go_simp
      try simp only [Act.put, List.setIfInBounds_toArray, List.set_cons_zero, List.set_cons_succ]
      refine wpAnyH_take (i := 11) (oi := ⟨some 13, _, _, _, _, _⟩) (v := .int .i64 k0) rfl (by kernel_rfl) (by kernel_rfl) (by kernel_rfl) (fun _ _ _ h => h) (Or.inl ⟨by rfl, ?_⟩) SW.out ?_
      · intro W' hW
        go_simp
      try simp only [Act.put, List.setIfInBounds_toArray, List.set_cons_zero, List.set_cons_succ]
      refine wpAnyH_take (i := 12) (oi := ⟨some 12, _, _, _, _, _⟩) (v := .bool true) rfl (by kernel_rfl) (by kernel_rfl) (by kernel_rfl) (fun _ _ _ h => h) (Or.inl ⟨by rfl, ?_⟩) SW.out ?_
      · intro W' hW
        go_simp
      try simp only [Act.put, List.setIfInBounds_toArray, List.set_cons_zero, List.set_cons_succ]
      refine wpAnyH_done (by kernel_rfl) ?_ _
      clear SW
      have hm8 := make8
      go_upto_region 9 with fail
      refine wp_region_held_drew (S := fun W => HB 61 W w.heap.size #[.iface 50 (.agg #[]), .int .i64 1, .int .i64 96, .int .i64 128, .int .i64 40]) (by kernel_rfl) (show HB 61 w5.drew w.heap.size #[.iface 50 (.agg #[]), .int .i64 1, .int .i64 96, .int .i64 128, .int .i64 40] from T.out.hb) (fun hHeld => ?_)
      have SW := Lib.hid hHeld
      clear hHeld
      obtain h0 := F.out
      clear F
      have F := Lib.hid (h0.drew)
      clear h0
      obtain h0 := S.out
      clear S
      have S := Lib.hid (h0.drew)
      clear h0
      obtain h0 := T.out
      clear T
      have T := Lib.hid (h0.drew)
      clear h0
      obtain h0 := BY.out
      clear BY
      have BY := Lib.hid (h0.drew)
      clear h0
      obtain h0 := Z.out
      clear Z
      have Z := Lib.hid (h0.drew)
      clear h0
      generalize w5.drew = wr2 at *
      refine wpAnyH_take (i := 0) (oi := ⟨some 54, _, _, _, _, _⟩) (v := .agg #[.iface 50 (.agg #[]), .int .i64 1, .int .i64 96, .int .i64 128, .int .i64 40]) rfl (by kernel_rfl) (by kernel_rfl) (by kernel_rfl) (fun _ _ _ h => h) (Or.inl ⟨by rfl, ?_⟩) SW.out ?_
      · intro W' hW
        have c0 : _ = some (Value.iface 50 (.agg #[])) := HB.cell hW 0
        have c1 : _ = some (Value.int .i64 1) := HB.cell hW 1
        have c2 : _ = some (Value.int .i64 96) := HB.cell hW 2
        have c3 : _ = some (Value.int .i64 128) := HB.cell hW 3
        have c4 : _ = some (Value.int .i64 40) := HB.cell hW 4
        go_simp
      try simp only [Act.put, List.setIfInBounds_toArray, List.set_cons_zero, List.set_cons_succ]
      refine wpAnyH_take (i := 1) (oi := ⟨some 55, _, _, _, _, _⟩) (v := .pointer (some ⟨sb, 0, none⟩)) rfl (by kernel_rfl) (by kernel_rfl) (by kernel_rfl) (fun _ _ _ h => h) (Or.inl ⟨by rfl, ?_⟩) SW.out ?_
      · intro W' hW
        go_simp
      try simp only [Act.put, List.setIfInBounds_toArray, List.set_cons_zero, List.set_cons_succ]
      obtain ⟨lb, hlb⟩ : ∃ n, n = wr2.heap.size := ⟨_, rfl⟩
      obtain ⟨wb, hwb⟩ : ∃ W, W = wr2.alloc (.cells z8 2) := ⟨_, rfl⟩
      obtain ⟨Yb, hYb⟩ : ∃ Y' : Nat → Prop, Y' = fun b => Y b ∧ b ≠ wr2.heap.size := ⟨_, rfl⟩
      have F2 := Lib.hid (show Fr X Yb w wb from by rw [hwb, hYb]; exact F.out.new _)
      have S2 := Lib.hid (show SpE wb Yb base sb g P1 from by rw [hwb, hYb]; exact S.out.new _)
      have T2 := Lib.hid (show Bx 61 X Yb wb w.heap.size #[.iface 50 (.agg #[]), .int .i64 1, .int .i64 96, .int .i64 128, .int .i64 40] from by rw [hwb, hYb]; exact T.out.old _)
      have B2 := Lib.hid (show Bx 108 X Yb wb (w.heap.size + 1) #[.slice A q c, .slice B m d, .int .i64 ce, .int .i64 (de : Int)] from by rw [hwb, hYb]; exact BY.out.old _)
      have Z2 := Lib.hid (show Bx 108 X Yb wb (w.heap.size + 2) #[.slice none 0 0, .slice none 0 0, .int .i64 0, .int .i64 0] from by rw [hwb, hYb]; exact Z.out.old _)
      have RL := Lib.hid (show Reads wb (fun b => ¬ Yb b) 1 (some ⟨lb, 0, none⟩) 8 (([0, 0, 0, 0, 0, 0, 0, 0] : List Int).map (.int .i64)) from by rw [hwb, hYb, hlb]; exact Reads.new wr2 z8 _ rfl (fun h => h.2 rfl))
      clear F S T BY Z SW
      have F := F2
      have S := S2
      have T := T2
      have BY := B2
      have Z := Z2
      clear F2 S2 T2 B2 Z2
      have SW := Lib.hid T.out.hb
      refine wpAnyH_ready (rs := [2]) (by kernel_rfl) (by simp) ?_
      refine AllReadyH.cons (o := ⟨some 56, _, _, _, _, _⟩) rfl (fun K hK => ?_) AllReadyH.nil
      go_simp
      rw [← hwb, ← hlb]
      clear hwb hlb hYb hm8
      refine hK.out _ _ SW.out (fun hHeld => ?_)
      clear hK hHeld
      try simp only [Act.put, List.setIfInBounds_toArray, List.set_cons_zero, List.set_cons_succ]
      obtain ⟨a1, ha1⟩ : ∃ z, z = adr n1 := ⟨_, rfl⟩
      have HA1 := Lib.hid (show a1 = adr n1 ∧ 96 ≤ a1 ∧ a1 ≤ 1112 from ⟨ha1, by rw [ha1]; unfold adr; have := HN1.out; omega⟩)
      have KT := Lib.hid (ttake_tk S.out F.out.yn (by have := HN1.out; omega) n1 (by have := HN1.out; omega) SI.out.ti.v1 SI.out.ti.v2 SI.out.ti.v47 (some ⟨lb, 0, none⟩) 8 [0, 0, 0, 0, 0, 0, 0, 0] 8 rfl (Nat.le_refl _) RL.out)
      rw [← ha1] at KT
      clear ha1 RL
      refine wpAnyH_ready (rs := [3]) (by kernel_rfl) (by simp) ?_
      refine AllReadyH.cons (o := ⟨some 57, _, _, _, _, _⟩) rfl (fun K hK => ?_) AllReadyH.nil
      go_simp
      refine (KT.out).mono ?_
      rintro e w6 ⟨rfl, hs, hk⟩
      clear S SW
      have S := Lib.hid hs
      obtain h0 := F.out
      clear F
      have F := Lib.hid (h0.step hk)
      clear h0
      obtain h0 := T.out
      clear T
      have T := Lib.hid (h0.step hk)
      clear h0
      obtain h0 := BY.out
      clear BY
      have BY := Lib.hid (h0.step hk)
      clear h0
      obtain h0 := Z.out
      clear Z
      have Z := Lib.hid (h0.step hk)
      clear h0
      clear hs hk
      have SW := Lib.hid (T.out.hb)
      refine hK.out _ _ SW.out (fun hHeld => ?_)
      clear hK hHeld
      try simp only [Act.put, List.setIfInBounds_toArray, List.set_cons_zero, List.set_cons_succ]
      refine wpAnyH_take (i := 4) (oi := ⟨some 53, _, _, _, _, _⟩) (v := .tuple #[.int .i64 a1, .int .i64 0]) rfl (by kernel_rfl) (by kernel_rfl) (by kernel_rfl) (fun _ _ _ h => h) (Or.inl ⟨by rfl, ?_⟩) SW.out ?_
      · intro W' hW
        go_simp
      try simp only [Act.put, List.setIfInBounds_toArray, List.set_cons_zero, List.set_cons_succ]
      refine wpAnyH_take (i := 5) (oi := ⟨some 58, _, _, _, _, _⟩) (v := .int .i64 a1) rfl (by kernel_rfl) (by kernel_rfl) (by kernel_rfl) (fun _ _ _ h => h) (Or.inl ⟨by rfl, ?_⟩) SW.out ?_
      · intro W' hW
        go_simp
      try simp only [Act.put, List.setIfInBounds_toArray, List.set_cons_zero, List.set_cons_succ]
      refine wpAnyH_take (i := 6) (oi := ⟨some 59, _, _, _, _, _⟩) (v := .int .i64 0) rfl (by kernel_rfl) (by kernel_rfl) (by kernel_rfl) (fun _ _ _ h => h) (Or.inl ⟨by rfl, ?_⟩) SW.out ?_
      · intro W' hW
        go_simp
      try simp only [Act.put, List.setIfInBounds_toArray, List.set_cons_zero, List.set_cons_succ]
      refine wpAnyH_take (i := 7) (oi := ⟨some 14, _, _, _, _, _⟩) (v := .int .i64 a1) rfl (by kernel_rfl) (by kernel_rfl) (by kernel_rfl) (fun _ _ _ h => h) (Or.inl ⟨by rfl, ?_⟩) SW.out ?_
      · intro W' hW
        go_simp
      try simp only [Act.put, List.setIfInBounds_toArray, List.set_cons_zero, List.set_cons_succ]
      refine wpAnyH_take (i := 8) (oi := ⟨some 15, _, _, _, _, _⟩) (v := .int .i64 0) rfl (by kernel_rfl) (by kernel_rfl) (by kernel_rfl) (fun _ _ _ h => h) (Or.inl ⟨by rfl, ?_⟩) SW.out ?_
      · intro W' hW
        go_simp
      try simp only [Act.put, List.setIfInBounds_toArray, List.set_cons_zero, List.set_cons_succ]
      refine wpAnyH_done (by kernel_rfl) ?_ _
      clear SW KT
      obtain ⟨z0, hz0⟩ : ∃ z : Int, z = ((hs k0 / 8 ^ de : Nat) : Int) := ⟨_, rfl⟩
      obtain ⟨j0, hj0⟩ : ∃ z : Nat, z = dg de k0 := ⟨_, rfl⟩
      obtain ⟨z1, hz1⟩ : ∃ z : Int, z = ((hs k / 8 ^ de : Nat) : Int) := ⟨_, rfl⟩
      obtain ⟨j1, hj1⟩ : ∃ z : Nat, z = dg de k := ⟨_, rfl⟩
      have hj8 : j0 < 8 := by rw [hj0]; exact dg_lt _ _
      have hj9 : j1 < 8 := by rw [hj1]; exact dg_lt _ _
      have W1 : IntKind.i64.wrap (3 * (de : Int)) = 3 * (de : Int) := wrap_i64 _ (by omega) (by have := HD2.out; omega)
      have W2 : IntKind.i64.wrap ((de : Int) + 1) = (de : Int) + 1 := wrap_i64 _ (by omega) (by have := HD2.out; omega)
      have W3 : Op.shift .shr .u64 (hs k0 : Int) .i64 (3 * (de : Int)) = pure (.int .u64 z0) := by rw [hz0]; exact shr_dg k0 de (by have := HD2.out; omega)
      have W4 : z0.tmod 8 = (j0 : Int) := by rw [hz0, hj0]; exact rem_dg k0 de
      have W5 : IntKind.i64.wrap (j0 : Int) = (j0 : Int) := wrap_i64 _ (by omega) (by omega)
      have W6 : IntKind.i64.wrap (a1 + (j0 : Int)) = a1 + (j0 : Int) := wrap_i64 _ (by have := HA1.out; omega) (by have := HA1.out; omega)
      have W7 : IntKind.i64.wrap (-a1) = -a1 := wrap_i64 _ (by have := HA1.out; omega) (by have := HA1.out; omega)
      have U3 : Op.shift .shr .u64 (hs k : Int) .i64 (3 * (de : Int)) = pure (.int .u64 z1) := by rw [hz1]; exact shr_dg k de (by have := HD2.out; omega)
      have U4 : z1.tmod 8 = (j1 : Int) := by rw [hz1, hj1]; exact rem_dg k de
      have U5 : IntKind.i64.wrap (j1 : Int) = (j1 : Int) := wrap_i64 _ (by omega) (by omega)
      have U6 : IntKind.i64.wrap (a1 + (j1 : Int)) = a1 + (j1 : Int) := wrap_i64 _ (by have := HA1.out; omega) (by have := HA1.out; omega)
      have E0 : (hs k0 : Int) / 2 ^ (3 * (de : Int)).toNat = z0 := by rw [hz0]; exact div_dg k0 de
      have E1 : (hs k0 : Int) / 2 ^ (3 * de) = z0 := by rw [hz0]; exact div_dg' k0 de
      have E2 : (hs k : Int) / 2 ^ (3 * (de : Int)).toNat = z1 := by rw [hz1]; exact div_dg k de
      have E3 : (hs k : Int) / 2 ^ (3 * de) = z1 := by rw [hz1]; exact div_dg' k de
      have HJ := Lib.hid (And.intro hj0 (And.intro hj1 (And.intro hj8 hj9)))
      clear hz0 hz1 hj0 hj1 hj8 hj9
      go_upto_region 12 with fail
      refine wp_region_held_drew (S := fun W => HB 61 W w.heap.size #[.iface 50 (.agg #[]), .int .i64 1, .int .i64 96, .int .i64 128, .int .i64 40] ∧ HB 108 W (w.heap.size + 1) #[.slice A q c, .slice B m d, .int .i64 ce, .int .i64 (de : Int)]) (by kernel_rfl) (show HB 61 w6.drew w.heap.size #[.iface 50 (.agg #[]), .int .i64 1, .int .i64 96, .int .i64 128, .int .i64 40] ∧ HB 108 w6.drew (w.heap.size + 1) #[.slice A q c, .slice B m d, .int .i64 ce, .int .i64 (de : Int)] from ⟨T.out.hb, BY.out.hb⟩) (fun hHeld => ?_)
      have SW := Lib.hid hHeld
      clear hHeld
      obtain h0 := F.out
      clear F
      have F := Lib.hid (h0.drew)
      clear h0
      obtain h0 := S.out
      clear S
      have S := Lib.hid (h0.drew)
      clear h0
      obtain h0 := T.out
      clear T
      have T := Lib.hid (h0.drew)
      clear h0
      obtain h0 := BY.out
      clear BY
      have BY := Lib.hid (h0.drew)
      clear h0
      obtain h0 := Z.out
      clear Z
      have Z := Lib.hid (h0.drew)
      clear h0
      generalize w6.drew = wr3 at *
      refine wpAnyH_take (i := 0) (oi := ⟨some 64, _, _, _, _, _⟩) (v := .pointer (some ⟨sb, 0, none⟩)) rfl (by kernel_rfl) (by kernel_rfl) (by kernel_rfl) (fun _ _ _ h => h) (Or.inl ⟨by rfl, ?_⟩) SW.out ?_
      · intro W' hW
        go_simp
      try simp only [Act.put, List.setIfInBounds_toArray, List.set_cons_zero, List.set_cons_succ]
      refine wpAnyH_take (i := 1) (oi := ⟨some 65, _, _, _, _, _⟩) (v := .int .i64 a1) rfl (by kernel_rfl) (by kernel_rfl) (by kernel_rfl) (fun _ _ _ h => h) (Or.inl ⟨by rfl, ?_⟩) SW.out ?_
      · intro W' hW
        go_simp
      try simp only [Act.put, List.setIfInBounds_toArray, List.set_cons_zero, List.set_cons_succ]
      refine wpAnyH_take (i := 2) (oi := ⟨some 66, _, _, _, _, _⟩) (v := .pointer (some ⟨w.heap.size, 0, none⟩)) rfl (by kernel_rfl) (by kernel_rfl) (by kernel_rfl) (fun _ _ _ h => h) (Or.inl ⟨by rfl, ?_⟩) SW.out ?_
      · intro W' hW
        go_simp
      try simp only [Act.put, List.setIfInBounds_toArray, List.set_cons_zero, List.set_cons_succ]
      refine wpAnyH_take (i := 3) (oi := ⟨some 67, _, _, _, _, _⟩) (v := .iface 50 (.agg #[])) rfl (by kernel_rfl) (by kernel_rfl) (by kernel_rfl) (fun _ _ _ h => h) (Or.inl ⟨by rfl, ?_⟩) SW.out ?_
      · intro W' hW
        have c0 : _ = some (Value.iface 50 (.agg #[])) := HB.cell hW.1 0
        go_simp
      try simp only [Act.put, List.setIfInBounds_toArray, List.set_cons_zero, List.set_cons_succ]
      refine wpAnyH_take (i := 4) (oi := ⟨some 68, _, _, _, _, _⟩) (v := .int .i64 k0) rfl (by kernel_rfl) (by kernel_rfl) (by kernel_rfl) (fun _ _ _ h => h) (Or.inl ⟨by rfl, ?_⟩) SW.out ?_
      · intro W' hW
        go_simp
      try simp only [Act.put, List.setIfInBounds_toArray, List.set_cons_zero, List.set_cons_succ]
      refine wpAnyH_take (i := 6) (oi := ⟨some 70, _, _, _, _, _⟩) (v := .pointer (some ⟨w.heap.size + 1, 3, none⟩)) rfl (by kernel_rfl) (by kernel_rfl) (by kernel_rfl) (fun _ _ _ h => h) (Or.inl ⟨by rfl, ?_⟩) SW.out ?_
      · intro W' hW
        go_simp
      try simp only [Act.put, List.setIfInBounds_toArray, List.set_cons_zero, List.set_cons_succ]
      refine wpAnyH_take (i := 7) (oi := ⟨some 71, _, _, _, _, _⟩) (v := .int .i64 (de : Int)) rfl (by kernel_rfl) (by kernel_rfl) (by kernel_rfl) (fun _ _ _ h => h) (Or.inl ⟨by rfl, ?_⟩) SW.out ?_
      · intro W' hW
        have c9 : _ = some (Value.int .i64 (de : Int)) := HB.cell hW.2 3
        go_simp
      try simp only [Act.put, List.setIfInBounds_toArray, List.set_cons_zero, List.set_cons_succ]
      refine wpAnyH_take (i := 8) (oi := ⟨some 72, _, _, _, _, _⟩) (v := .int .i64 (3 * (de : Int))) rfl (by kernel_rfl) (by kernel_rfl) (by kernel_rfl) (fun _ _ _ h => h) (Or.inl ⟨by rfl, ?_⟩) SW.out ?_
      · intro W' hW
        go_simp
      try simp only [Act.put, List.setIfInBounds_toArray, List.set_cons_zero, List.set_cons_succ]
      refine wpAnyH_take (i := 13) (oi := ⟨some 77, _, _, _, _, _⟩) (v := .int .i64 x) rfl (by kernel_rfl) (by kernel_rfl) (by kernel_rfl) (fun _ _ _ h => h) (Or.inl ⟨by rfl, ?_⟩) SW.out ?_
      · intro W' hW
        go_simp
      try simp only [Act.put, List.setIfInBounds_toArray, List.set_cons_zero, List.set_cons_succ]
      refine wpAnyH_ready (rs := [5]) (by kernel_rfl) (by simp) ?_
      refine AllReadyH.cons (o := ⟨some 69, _, _, _, _, _⟩) rfl (fun K hK => ?_) AllReadyH.nil
      go_simp
      refine (hash_any k0 HK0.out _).mono ?_
      rintro e w7 ⟨rfl, hb⟩
      clear SW
      obtain h0 := S.out
      clear S
      have S := Lib.hid (h0.below hb)
      clear h0
      obtain h0 := F.out
      clear F
      have F := Lib.hid (h0.below hb)
      clear h0
      obtain h0 := T.out
      clear T
      have T := Lib.hid (h0.below hb)
      clear h0
      obtain h0 := BY.out
      clear BY
      have BY := Lib.hid (h0.below hb)
      clear h0
      obtain h0 := Z.out
      clear Z
      have Z := Lib.hid (h0.below hb)
      clear h0
      clear hb
      have SW := Lib.hid (And.intro T.out.hb BY.out.hb)
      refine hK.out _ _ SW.out (fun hHeld => ?_)
      clear hK hHeld
      try simp only [Act.put, List.setIfInBounds_toArray, List.set_cons_zero, List.set_cons_succ]
      refine wpAnyH_take (i := 9) (oi := ⟨some 73, _, _, _, _, _⟩) (v := .int .u64 z0) rfl (by kernel_rfl) (by kernel_rfl) (by kernel_rfl) (fun _ _ _ h => h) (Or.inl ⟨by rfl, ?_⟩) SW.out ?_
      · intro W' hW
        go_simp
      try simp only [Act.put, List.setIfInBounds_toArray, List.set_cons_zero, List.set_cons_succ]
      refine wpAnyH_take (i := 10) (oi := ⟨some 74, _, _, _, _, _⟩) (v := .int .u64 (j0 : Int)) rfl (by kernel_rfl) (by kernel_rfl) (by kernel_rfl) (fun _ _ _ h => h) (Or.inl ⟨by rfl, ?_⟩) SW.out ?_
      · intro W' hW
        go_simp
      try simp only [Act.put, List.setIfInBounds_toArray, List.set_cons_zero, List.set_cons_succ]
      refine wpAnyH_take (i := 11) (oi := ⟨some 75, _, _, _, _, _⟩) (v := .int .i64 (j0 : Int)) rfl (by kernel_rfl) (by kernel_rfl) (by kernel_rfl) (fun _ _ _ h => h) (Or.inl ⟨by rfl, ?_⟩) SW.out ?_
      · intro W' hW
        go_simp
      try simp only [Act.put, List.setIfInBounds_toArray, List.set_cons_zero, List.set_cons_succ]
      refine wpAnyH_take (i := 12) (oi := ⟨some 76, _, _, _, _, _⟩) (v := .int .i64 (a1 + (j0 : Int))) rfl (by kernel_rfl) (by kernel_rfl) (by kernel_rfl) (fun _ _ _ h => h) (Or.inl ⟨by rfl, ?_⟩) SW.out ?_
      · intro W' hW
        go_simp
      try simp only [Act.put, List.setIfInBounds_toArray, List.set_cons_zero, List.set_cons_succ]
      refine wpAnyH_ready (rs := [14]) (by kernel_rfl) (by simp) ?_
      refine AllReadyH.cons (o := ⟨some 78, _, _, _, _, _⟩) rfl (fun K hK => ?_) AllReadyH.nil
      go_simp
      refine (sput S.out F.out.yn (by have := HN1.out; simp only [List.length_append, tkP_len, List.length_cons, List.length_nil]; omega) (a1 + (j0 : Int)) x (by unfold inM; have := HA1.out; have := HJ.out; omega)).mono ?_
      rintro e w8 ⟨rfl, hs, hk⟩
      clear S SW
      have S := Lib.hid hs
      obtain h0 := F.out
      clear F
      have F := Lib.hid (h0.step hk)
      clear h0
      obtain h0 := T.out
      clear T
      have T := Lib.hid (h0.step hk)
      clear h0
      obtain h0 := BY.out
      clear BY
      have BY := Lib.hid (h0.step hk)
      clear h0
      obtain h0 := Z.out
      clear Z
      have Z := Lib.hid (h0.step hk)
      clear h0
      clear hs hk
      have SW := Lib.hid (And.intro T.out.hb BY.out.hb)
      refine hK.out _ _ SW.out (fun hHeld => ?_)
      clear hK hHeld
      try simp only [Act.put, List.setIfInBounds_toArray, List.set_cons_zero, List.set_cons_succ]
      refine wpAnyH_done (by kernel_rfl) ?_ _
      clear SW
      have pBY0 : _ = some (Value.slice A q c) := BY.out.hb.cell 0
      have pBY1 : _ = some (Value.slice B m d) := BY.out.hb.cell 1
      have pBY2 : _ = some (Value.int .i64 ce) := BY.out.hb.cell 2
      have pBY3 : _ = some (Value.int .i64 (de : Int)) := BY.out.hb.cell 3
      go_wp2_with fail
      refine (sput S.out F.out.yn (by have := HN1.out; simp only [List.length_append, tkP_len, List.length_cons, List.length_nil]; omega) ce (-a1) HCE.out.2).mono ?_
      rintro e w9 ⟨rfl, hs, hk⟩
      clear S
      have S := Lib.hid hs
      clear pBY0 pBY1 pBY2 pBY3
      obtain h0 := F.out
      clear F
      have F := Lib.hid (h0.step hk)
      clear h0
      obtain h0 := T.out
      clear T
      have T := Lib.hid (h0.step hk)
      clear h0
      obtain h0 := BY.out
      clear BY
      have BY := Lib.hid (h0.step hk)
      clear h0
      obtain h0 := Z.out
      clear Z
      have Z := Lib.hid (h0.step hk)
      clear h0
      clear hs hk
      have pBY0 : _ = some (Value.slice A q c) := BY.out.hb.cell 0
      have pBY1 : _ = some (Value.slice B m d) := BY.out.hb.cell 1
      have pBY2 : _ = some (Value.int .i64 ce) := BY.out.hb.cell 2
      have pBY3 : _ = some (Value.int .i64 (de : Int)) := BY.out.hb.cell 3
      have f2 := BY.out.hb.free 2
      have f3 := BY.out.hb.free 3
      go_wp2_with fail
      have n1' : w.heap.size ≠ w.heap.size + 1 := by omega
      have n2' : w.heap.size + 2 ≠ w.heap.size + 1 := by omega
      have S9 := Lib.hid (show SpE w9 Yb base sb g (P1 ++ spP n1 (adr n1 + (dg de k0 : Int)) (adr a) ce) from by
        have h0 := S.out
        rw [← HA1.out.1, ← HJ.out.1, ← HX.out.1]
        unfold spP
        rw [← List.append_assoc, ← List.append_assoc, ← HA1.out.1]
        exact h0)
      go_roundg (gk - 1)
      case measure => have := HG.out; have := HD2.out; have := HDE.out; omega
      case rel =>
        refine ⟨Yb, _, _, n1 + 1, (F.out.set BY.out 2 _).set (BY.out.set 2 _) 3 _, (S9.out.set BY.out.ny 2 _).set BY.out.ny 3 _, (T.out.other n1' 2 _).other n1' 3 _, ?_, (Z.out.other n2' 2 _).other n2' 3 _, NX.out.1, ?_⟩
        · rw [NX.out.2.1, NX.out.2.2, ← HA1.out.1, ← HJ.out.2.1]
          exact (BY.out.set 2 _).set 3 _
        · rw [NX.out.2.2]; have := HG.out; have := HD2.out; have := HDE.out; omega
end Go.Proofs.YtkloaopjlbinpaaGreat
