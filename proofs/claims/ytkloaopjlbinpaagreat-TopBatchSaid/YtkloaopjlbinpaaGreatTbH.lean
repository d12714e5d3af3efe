/- The walk of the trie's down. Condition: at most 80000 writes; the key is one of 0 to 9. -/
import Derived.Test.YtkloaopjlbinpaaGreatTbG
set_option linter.unusedVariables false
set_option linter.unusedSimpArgs false
namespace Go.Proofs.YtkloaopjlbinpaaGreat
open Go.RowKit Go.MapKept

theorem of_ff {b : Bool} {p : Prop} (e : b = false) (h : b = true) : p := by rw [e] at h; cases h
/-- Four cells of a box stored anew. -/
theorem set4 {X Y : Nat → Prop} {w0 w : World} {t : TypeId} {b : Nat} {a0 a1 a2 a3 : Value} (hF : Fr X Y w0 w) (hB : Bx t X Y w b #[a0, a1, a2, a3]) (u0 u1 u2 u3 : Value) :
    Fr X Y w0 ((((w.setCell ⟨b, 0, none⟩ u0).setCell ⟨b, 1, none⟩ u1).setCell ⟨b, 2, none⟩ u2).setCell ⟨b, 3, none⟩ u3) ∧ Bx t X Y ((((w.setCell ⟨b, 0, none⟩ u0).setCell ⟨b, 1, none⟩ u1).setCell ⟨b, 2, none⟩ u2).setCell ⟨b, 3, none⟩ u3) b #[u0, u1, u2, u3] ∧
      (∀ base sb g P, SpE w Y base sb g P → SpE ((((w.setCell ⟨b, 0, none⟩ u0).setCell ⟨b, 1, none⟩ u1).setCell ⟨b, 2, none⟩ u2).setCell ⟨b, 3, none⟩ u3) Y base sb g P) :=
  ⟨(((hF.set hB 0 u0).set (hB.set 0 u0) 1 u1).set ((hB.set 0 u0).set 1 u1) 2 u2).set (((hB.set 0 u0).set 1 u1).set 2 u2) 3 u3, (((hB.set 0 u0).set 1 u1).set 2 u2).set 3 u3,
    fun _ _ _ _ h => (((h.set hB.ny 0 u0).set hB.ny 1 u1).set hB.ny 2 u2).set hB.ny 3 u3⟩
/-- The results of a function whose first lies in a cell. -/
theorem results_ct {P : Program} {fn : Func} {t p : Tmp} {ty : TypeId} (h : fn.results = #[.cell p ty, .tmp t]) (tmps : Array Value) (w : World) (g : Nat) (tt : TypeId) (cs : Array Value) (fr : Nat × Nat) (d : TypeDesc)
    (hp : tmps.getD p undef = .pointer (some ⟨g, 0, none⟩)) (hg : w.heap[g]? = some (.cells cs tt fr))
    (hu : P.underlying ty = some d) (hd : (match d with | .struct _ | .array _ _ => true | _ => false) = true) (hi : (P.info? ty).map (·.size) = some cs.size) :
    (results fn tmps).run P w = .ok (.tuple #[.agg cs, tmps.getD t undef]) w := by
  have hp' : tmps[p]?.getD undef = .pointer (some ⟨g, 0, none⟩) := by simpa using hp
  simp [results, h, hp', asAddr, run_loadVar_row w g tt ty cs fr d hg hu hd hi, Sem.run_bind]
theorem way_size : (Tryz.prog.info? 108).map (·.size) = some 4 := by kernel_rfl
/-- A digit of the hash, as the trie reckons it. -/
theorem shr_dg (k : Int) (d : Nat) (hd : d < 4) : Op.shift .shr .u64 (hs k : Int) .i64 (3 * (d : Int)) = pure (.int .u64 ((hs k / 8 ^ d : Nat) : Int)) := by
  rw [shift_shr _ _ _ _ (by omega) (by show _ ≤ (64 : Int); omega)]
  have e : (3 * (d : Int)).toNat = 3 * d := by omega
  have e8 : 8 ^ d = 2 ^ (3 * d) := by rw [Nat.pow_mul]
  rw [e, e8, Int.natCast_ediv, Int.natCast_pow]
  rfl
theorem rem_dg (k : Int) (d : Nat) : (((hs k / 8 ^ d : Nat) : Int)).tmod 8 = (dg d k : Int) := rfl
/-- What down keeps: the subtree that is still to be gone through. -/
structure Dn (V : Int → Int) (t : Tr) (nh : Nat) (k : Int) (t' : Tr) (c : Int) (d : Nat) : Prop where
  tree : t'.at V c
  bot : t'.bot k d = t.bot k 0
  cell : t'.cell k d c = t.cell k 0 40
  dep : t'.dep k d = t.dep k 0
  ok : t'.ok d
  lt : ∀ n ∈ t'.nodes, n < nh
  inm : inM c
theorem Dn.start {V : Int → Int} {t : Tr} {nh : Nat} (h : TI V t nh) (k : Int) : Dn V t nh k t 40 0 := ⟨h.tree, rfl, rfl, rfl, h.ok, h.lt, by decide⟩
theorem Dn.down {V : Int → Int} {t : Tr} {nh : Nat} {k : Int} {a : Nat} {s : Nat → Tr} {c : Int} {d : Nat} (h : Dn V t nh k (.b a s) c d) (hn : nh ≤ 128) :
    (V c = -adr a ∧ a < 128 ∧ d < 2 ∧ d < t.dep k 0) ∧ Dn V t nh k (s (dg d k)) (adr a + (dg d k : Int)) (d + 1) := by
  have ha := h.lt a List.mem_cons_self
  have h8 := dg_lt d k
  have hd : d + 1 ≤ t.dep k 0 := by rw [← h.dep]; exact (s (dg d k)).dep_ge k (d + 1)
  refine ⟨⟨h.tree.1, by omega, h.ok.1, hd⟩, h.tree.2 _ h8, h.bot, h.cell, h.dep, (h.ok.2 _ h8).1, fun n hm => h.lt n (nodes_sub h8 hm), ?_⟩
  unfold inM adr
  omega
theorem Dn.stop {V : Int → Int} {t t' : Tr} {nh : Nat} {k : Int} {c : Int} {d : Nat} (h : Dn V t nh k t' c d) (ht : ∀ a s, t' ≠ .b a s) : ¬ V c < 0 ∧ c = t.cell k 0 40 ∧ d = t.dep k 0 := by
  cases t' with
  | e => exact ⟨by have : V c = 0 := h.tree; omega, h.cell, h.dep⟩
  | l a k' v => exact ⟨by have := h.tree.1; rw [this]; unfold adr; omega, h.cell, h.dep⟩
  | b a s => exact absurd rfl (ht a s)
set_option maxRecDepth 100000 in
set_option maxHeartbeats 6400000 in
theorem down_any {X : Nat → Prop} {w : World} {base sb : Nat} {g : Mem} {P : List (Int × Int)} (h : SpE w X base sb g P) (hX : ∀ b, w.heap.size ≤ b → X b) (hn : P.length ≤ 80000) {t : Tr} {nh : Nat} (hT : TI (cur g P) t nh) (hnh : nh ≤ 128) (k : Int) (hk : key k) :
    Calls Tryz.prog 37 #[.agg #[.iface 50 (.agg #[]), .int .i64 1, .int .i64 96, .int .i64 128, .int .i64 40], .pointer (some ⟨sb, 0, none⟩), .int .u64 (hs k)] w fun e w' => ∃ (A B : Option Addr) (n m c d : Nat), e = .returned (.tuple #[.agg #[.slice A n c, .slice B m d, .int .i64 (t.cell k 0 40), .int .i64 (t.dep k 0)], .bool true]) ∧ SpE w' X base sb g P ∧ KX X w w' := by
  obtain ⟨W0, hW0⟩ : ∃ W, W = w.alloc (.cells #[.iface 50 (.agg #[]), .int .i64 1, .int .i64 96, .int .i64 128, .int .i64 40] 61) := ⟨_, rfl⟩
  obtain ⟨Y0, hY0⟩ : ∃ Y : Nat → Prop, Y = fun b => X b ∧ b ≠ w.heap.size := ⟨_, rfl⟩
  have e0 : W0.heap.size = w.heap.size + 1 := by rw [hW0, World.size_alloc]
  have F0 : Fr X Y0 w W0 := by rw [hW0, hY0]; exact (Fr.start hX).new _
  have S0 : SpE W0 Y0 base sb g P := by rw [hW0, hY0]; exact h.new _
  have T0 : Bx 61 X Y0 W0 (w.heap.size) #[.iface 50 (.agg #[]), .int .i64 1, .int .i64 96, .int .i64 128, .int .i64 40] := by rw [hW0, hY0]; exact Bx.new (Fr.start hX) _ _
  obtain ⟨W1, hW1⟩ : ∃ W, W = W0.alloc (.cells #[.slice none 0 0, .slice none 0 0, .int .i64 0, .int .i64 0] 108) := ⟨_, rfl⟩
  obtain ⟨Y1, hY1⟩ : ∃ Y : Nat → Prop, Y = fun b => Y0 b ∧ b ≠ W0.heap.size := ⟨_, rfl⟩
  have e1 : W1.heap.size = w.heap.size + 2 := by rw [hW1, World.size_alloc, e0]
  have F1 : Fr X Y1 w W1 := by rw [hW1, hY1]; exact F0.new _
  have S1 : SpE W1 Y1 base sb g P := by rw [hW1, hY1]; exact S0.new _
  have T1 : Bx 61 X Y1 W1 (w.heap.size) #[.iface 50 (.agg #[]), .int .i64 1, .int .i64 96, .int .i64 128, .int .i64 40] := by rw [hW1, hY1]; exact T0.old _
  have Z1 : Bx 108 X Y1 W1 (w.heap.size + 1) #[.slice none 0 0, .slice none 0 0, .int .i64 0, .int .i64 0] := by rw [hW1, hY1, ← e0]; exact Bx.new F0 _ _
  rw [hW0] at hW1
  have F := Lib.hid F1
  have S := Lib.hid S1
  have T := Lib.hid T1
  have Z := Lib.hid Z1
  clear hY0 hY1 F0 F1 S0 S1 T0 T1 Z1 e0 e1 hW0
  have HN := Lib.hid hn
  have HTI := Lib.hid hT
  have HNH := Lib.hid hnh
  have HK := Lib.hid hk
  clear h hX hn hT hnh hk
  go_enter Tryz.func37, Tryz.ntmps37
  go_upto_region 1 with fail
  rw [← hW1]
  clear hW1
  have pT0 : _ = some (Value.iface 50 (.agg #[])) := T.out.hb.cell 0
  have pT1 : _ = some (Value.int .i64 1) := T.out.hb.cell 1
  have pT2 : _ = some (Value.int .i64 96) := T.out.hb.cell 2
  have pT3 : _ = some (Value.int .i64 128) := T.out.hb.cell 3
  have pT4 : _ = some (Value.int .i64 40) := T.out.hb.cell 4
  obtain ⟨yb, hyb⟩ : ∃ n, n = W1.heap.size := ⟨_, rfl⟩
  obtain ⟨W2, hW2⟩ : ∃ W, W = W1.alloc (.cells #[.slice none 0 0, .slice none 0 0, .int .i64 40, .int .i64 0] 108) := ⟨_, rfl⟩
  obtain ⟨Y2, hY2⟩ : ∃ Y : Nat → Prop, Y = fun b => Y1 b ∧ b ≠ W1.heap.size := ⟨_, rfl⟩
  have NZY := Lib.hid (show w.heap.size + 1 ≠ yb from by have := Z.out.hb.lt; omega)
  have F2 := Lib.hid (show Fr X Y2 w W2 from by rw [hW2, hY2]; exact F.out.new _)
  have S2 := Lib.hid (show SpE W2 Y2 base sb g P from by rw [hW2, hY2]; exact S.out.new _)
  have T2 := Lib.hid (show Bx 61 X Y2 W2 w.heap.size #[.iface 50 (.agg #[]), .int .i64 1, .int .i64 96, .int .i64 128, .int .i64 40] from by rw [hW2, hY2]; exact T.out.old _)
  have Z2 := Lib.hid (show Bx 108 X Y2 W2 (w.heap.size + 1) #[.slice none 0 0, .slice none 0 0, .int .i64 0, .int .i64 0] from by rw [hW2, hY2]; exact Z.out.old _)
  have B2 := Lib.hid (show Bx 108 X Y2 W2 yb #[.slice none 0 0, .slice none 0 0, .int .i64 40, .int .i64 0] from by rw [hW2, hY2, hyb]; exact Bx.new F.out _ _)
  go_upto_region 2 with fail
  rw [← hW2, ← hyb]
  clear hW2 hY2 hyb F S T Z
  clear pT0 pT1 pT2 pT3 pT4
  go_loopg [9] (t.dep k 0) (fun gk v9 wr => ∃ (Y : Nat → Prop) (t' : Tr) (c0 : Int) (d : Nat) (A1 A2 : Option Addr) (q1 q2 : Nat) (xs1 xs2 : List Value), Fr X Y w wr ∧ SpE wr Y base sb g P ∧ Bx 61 X Y wr w.heap.size #[.iface 50 (.agg #[]), .int .i64 1, .int .i64 96, .int .i64 128, .int .i64 40] ∧ Bx 108 X Y wr (w.heap.size + 1) #[.slice none 0 0, .slice none 0 0, .int .i64 0, .int .i64 0] ∧ Bx 108 X Y wr yb #[.slice A1 d q1, .slice A2 d q2, .int .i64 c0, .int .i64 (d : Int)] ∧ Two 51 X Y wr w.heap.size (.slice A1 d q1) (.slice A2 d q2) d xs1 xs2 ∧ Dn (cur g P) t nh k t' c0 d ∧ t.dep k 0 ≤ d + gk)
  case atStart => exact ⟨Y2, t, 40, 0, none, none, 0, 0, [], [], F2.out, S2.out, T2.out, Z2.out, B2.out, two_none F2.out.k.size, Dn.start HTI.out k, by omega⟩
  case round =>
    obtain ⟨Y, t', c0, d, A1, A2, q1, q2, xs1, xs2, hF, hS, hTb, hZ, hB, h2, hD, hg⟩ := hrel
    have F := Lib.hid hF
    have S := Lib.hid hS
    have T := Lib.hid hTb
    have Z := Lib.hid hZ
    have BY := Lib.hid hB
    have R := Lib.hid h2
    have D := Lib.hid hD
    have HG := Lib.hid hg
    clear hF hS hTb hZ hB h2 hD hg F2 S2 T2 Z2 B2
    obtain ⟨v0, hv0⟩ : ∃ z, z = cur g P c0 := ⟨_, rfl⟩
    have HV0 := Lib.hid hv0
    clear hv0
    have pBY0 : _ = some (Value.slice A1 d q1) := BY.out.hb.cell 0
    have pBY1 : _ = some (Value.slice A2 d q2) := BY.out.hb.cell 1
    have pBY2 : _ = some (Value.int .i64 c0) := BY.out.hb.cell 2
    have pBY3 : _ = some (Value.int .i64 (d : Int)) := BY.out.hb.cell 3
    cases t' with
    | b a s =>
      obtain ⟨⟨hva, ha, hd2, hdd⟩, hD⟩ := D.out.down HNH.out
      have q0 : v0 < 0 := by rw [HV0.out, hva]; unfold adr; omega
      have HVA := Lib.hid hva
      have HA := Lib.hid ha
      have HD2 := Lib.hid hd2
      have DN := Lib.hid hD
      have HDD := Lib.hid hdd
      clear hva ha hd2 hdd hD
      go_wp2_with fail
      refine (sget S.out (by have := HN.out; omega) c0 v0 D.out.inm HV0.out.symm).mono ?_
      rintro e w1 ⟨rfl, hs, hk⟩
      clear S
      have S := Lib.hid hs
      clear pBY0 pBY1 pBY2 pBY3
      obtain h0 := F.out
      clear F
      have F := Lib.hid (h0.step hk)
      clear h0
      obtain h0 := T.out
      clear T
      have T := Lib.hid (h0.step hk)
      clear h0
      obtain h0 := Z.out
      clear Z
      have Z := Lib.hid (h0.step hk)
      clear h0
      obtain h0 := BY.out
      clear BY
      have BY := Lib.hid (h0.step hk)
      clear h0
      obtain h0 := R.out
      clear R
      have R := Lib.hid (h0.step hk)
      clear h0
      clear hs hk
      rw [← HV0.out] at HVA
      obtain ⟨a0, ha0⟩ : ∃ z, z = adr a := ⟨_, rfl⟩
      have HA0 := Lib.hid ha0
      have q1x : IntKind.i64.wrap (-v0) = a0 := by
        have := HVA.out
        have := HA.out
        rw [wrap_i64 _ (by unfold adr at *; omega) (by unfold adr at *; omega)]
        omega
      clear ha0
      go_upto_region 3 with fail
      refine wp_region_held_drew (S := fun W => HB 61 W w.heap.size #[.iface 50 (.agg #[]), .int .i64 1, .int .i64 96, .int .i64 128, .int .i64 40] ∧ HB 108 W yb #[.slice A1 d q1, .slice A2 d q2, .int .i64 c0, .int .i64 (d : Int)]) (by kernel_rfl) (show HB 61 w1.drew w.heap.size #[.iface 50 (.agg #[]), .int .i64 1, .int .i64 96, .int .i64 128, .int .i64 40] ∧ HB 108 w1.drew yb #[.slice A1 d q1, .slice A2 d q2, .int .i64 c0, .int .i64 (d : Int)] from ⟨T.out.hb, BY.out.hb⟩) (fun hHeld => ?_)
      have SW := Lib.hid hHeld
      clear hHeld
      obtain h0 := F.out
      clear F
      have F := Lib.hid (h0.drew)
      clear h0
      obtain h0 := S.out
      clear S
      have S := Lib.hid (h0.drew)
      clear h0
      obtain h0 := T.out
      clear T
      have T := Lib.hid (h0.drew)
      clear h0
      obtain h0 := Z.out
      clear Z
      have Z := Lib.hid (h0.drew)
      clear h0
      obtain h0 := BY.out
      clear BY
      have BY := Lib.hid (h0.drew)
      clear h0
      obtain h0 := R.out
      clear R
      have R := Lib.hid (h0.drew)
      clear h0
      generalize w1.drew = wq at *
      refine wpAnyH_take (i := 0) (oi := ⟨some 20, _, _, _, _, _⟩) (v := .agg #[.iface 50 (.agg #[]), .int .i64 1, .int .i64 96, .int .i64 128, .int .i64 40]) rfl (by kernel_rfl) (by kernel_rfl) (by kernel_rfl) (fun _ _ _ h => h) (Or.inl ⟨by rfl, ?_⟩) SW.out ?_
      · intro W' hW
        have c0 : _ = some (Value.iface 50 (.agg #[])) := HB.cell hW.1 0
        have c1 : _ = some (Value.int .i64 1) := HB.cell hW.1 1
        have c2 : _ = some (Value.int .i64 96) := HB.cell hW.1 2
        have c3 : _ = some (Value.int .i64 128) := HB.cell hW.1 3
        have c4 : _ = some (Value.int .i64 40) := HB.cell hW.1 4
        go_simp
      try simp only [Act.put, List.setIfInBounds_toArray, List.set_cons_zero, List.set_cons_succ]
      refine wpAnyH_take (i := 1) (oi := ⟨some 21, _, _, _, _, _⟩) (v := .pointer (some ⟨sb, 0, none⟩)) rfl (by kernel_rfl) (by kernel_rfl) (by kernel_rfl) (fun _ _ _ h => h) (Or.inl ⟨by rfl, ?_⟩) SW.out ?_
      · intro W' hW
        go_simp
      try simp only [Act.put, List.setIfInBounds_toArray, List.set_cons_zero, List.set_cons_succ]
      refine wpAnyH_take (i := 2) (oi := ⟨some 22, _, _, _, _, _⟩) (v := .pointer (some ⟨yb, 2, none⟩)) rfl (by kernel_rfl) (by kernel_rfl) (by kernel_rfl) (fun _ _ _ h => h) (Or.inl ⟨by rfl, ?_⟩) SW.out ?_
      · intro W' hW
        go_simp
      try simp only [Act.put, List.setIfInBounds_toArray, List.set_cons_zero, List.set_cons_succ]
      refine wpAnyH_take (i := 3) (oi := ⟨some 23, _, _, _, _, _⟩) (v := .int .i64 c0) rfl (by kernel_rfl) (by kernel_rfl) (by kernel_rfl) (fun _ _ _ h => h) (Or.inl ⟨by rfl, ?_⟩) SW.out ?_
      · intro W' hW
        have c9 : _ = some (Value.int .i64 c0) := HB.cell hW.2 2
        go_simp
      try simp only [Act.put, List.setIfInBounds_toArray, List.set_cons_zero, List.set_cons_succ]
      refine wpAnyH_ready (rs := [4]) (by kernel_rfl) (by simp) ?_
      refine AllReadyH.cons (o := ⟨some 24, _, _, _, _, _⟩) rfl (fun K hK => ?_) AllReadyH.nil
      go_simp
      refine (sget S.out (by have := HN.out; omega) c0 v0 D.out.inm HV0.out.symm).mono ?_
      rintro e w2 ⟨rfl, hs, hk⟩
      clear S SW
      have S := Lib.hid hs
      obtain h0 := F.out
      clear F
      have F := Lib.hid (h0.step hk)
      clear h0
      obtain h0 := T.out
      clear T
      have T := Lib.hid (h0.step hk)
      clear h0
      obtain h0 := Z.out
      clear Z
      have Z := Lib.hid (h0.step hk)
      clear h0
      obtain h0 := BY.out
      clear BY
      have BY := Lib.hid (h0.step hk)
      clear h0
      obtain h0 := R.out
      clear R
      have R := Lib.hid (h0.step hk)
      clear h0
      clear hs hk
      have SW := Lib.hid (And.intro T.out.hb BY.out.hb)
      refine hK.out _ _ SW.out (fun hHeld => ?_)
      clear hK hHeld
      try simp only [Act.put, List.setIfInBounds_toArray, List.set_cons_zero, List.set_cons_succ]
      refine wpAnyH_take (i := 5) (oi := ⟨some 25, _, _, _, _, _⟩) (v := .int .i64 a0) rfl (by kernel_rfl) (by kernel_rfl) (by kernel_rfl) (fun _ _ _ h => h) (Or.inl ⟨by rfl, ?_⟩) SW.out ?_
      · intro W' hW
        go_simp
      try simp only [Act.put, List.setIfInBounds_toArray, List.set_cons_zero, List.set_cons_succ]
      refine wpAnyH_ready (rs := [6]) (by kernel_rfl) (by simp) ?_
      refine AllReadyH.cons (o := ⟨some 26, _, _, _, _, _⟩) rfl (fun K hK => ?_) AllReadyH.nil
      go_simp
      refine (tnode_any a HA.out a0 HA0.out _).mono ?_
      rintro e w3 ⟨rfl, hb⟩
      have hk : KX Y _ w3 := KX.of_below hb
      clear SW
      obtain h0 := S.out
      clear S
      have S := Lib.hid (h0.below hb)
      clear h0
      obtain h0 := F.out
      clear F
      have F := Lib.hid (h0.step hk)
      clear h0
      obtain h0 := T.out
      clear T
      have T := Lib.hid (h0.step hk)
      clear h0
      obtain h0 := Z.out
      clear Z
      have Z := Lib.hid (h0.step hk)
      clear h0
      obtain h0 := BY.out
      clear BY
      have BY := Lib.hid (h0.step hk)
      clear h0
      obtain h0 := R.out
      clear R
      have R := Lib.hid (h0.step hk)
      clear h0
      clear hb hk
      have SW := Lib.hid (And.intro T.out.hb BY.out.hb)
      refine hK.out _ _ SW.out (fun hHeld => ?_)
      clear hK hHeld
      try simp only [Act.put, List.setIfInBounds_toArray, List.set_cons_zero, List.set_cons_succ]
      refine wpAnyH_take (i := 7) (oi := ⟨some 19, _, _, _, _, _⟩) (v := .tuple #[.int .i64 a0, .bool true]) rfl (by kernel_rfl) (by kernel_rfl) (by kernel_rfl) (fun _ _ _ h => h) (Or.inl ⟨by rfl, ?_⟩) SW.out ?_
      · intro W' hW
        go_simp
      try simp only [Act.put, List.setIfInBounds_toArray, List.set_cons_zero, List.set_cons_succ]
      refine wpAnyH_take (i := 8) (oi := ⟨some 27, _, _, _, _, _⟩) (v := .int .i64 a0) rfl (by kernel_rfl) (by kernel_rfl) (by kernel_rfl) (fun _ _ _ h => h) (Or.inl ⟨by rfl, ?_⟩) SW.out ?_
      · intro W' hW
        go_simp
      try simp only [Act.put, List.setIfInBounds_toArray, List.set_cons_zero, List.set_cons_succ]
      refine wpAnyH_take (i := 9) (oi := ⟨some 28, _, _, _, _, _⟩) (v := .bool true) rfl (by kernel_rfl) (by kernel_rfl) (by kernel_rfl) (fun _ _ _ h => h) (Or.inl ⟨by rfl, ?_⟩) SW.out ?_
      · intro W' hW
        go_simp
      try simp only [Act.put, List.setIfInBounds_toArray, List.set_cons_zero, List.set_cons_succ]
      refine wpAnyH_take (i := 10) (oi := ⟨some 9, _, _, _, _, _⟩) (v := .int .i64 a0) rfl (by kernel_rfl) (by kernel_rfl) (by kernel_rfl) (fun _ _ _ h => h) (Or.inl ⟨by rfl, ?_⟩) SW.out ?_
      · intro W' hW
        go_simp
      try simp only [Act.put, List.setIfInBounds_toArray, List.set_cons_zero, List.set_cons_succ]
      refine wpAnyH_take (i := 11) (oi := ⟨some 10, _, _, _, _, _⟩) (v := .bool true) rfl (by kernel_rfl) (by kernel_rfl) (by kernel_rfl) (fun _ _ _ h => h) (Or.inl ⟨by rfl, ?_⟩) SW.out ?_
      · intro W' hW
        go_simp
      try simp only [Act.put, List.setIfInBounds_toArray, List.set_cons_zero, List.set_cons_succ]
      refine wpAnyH_done (by kernel_rfl) ?_ _
      clear SW
      have q4 : ¬ ((d : Int) = 4) := by have := HD2.out; omega
      have pBY0 : _ = some (Value.slice A1 d q1) := BY.out.hb.cell 0
      have pBY1 : _ = some (Value.slice A2 d q2) := BY.out.hb.cell 1
      have pBY2 : _ = some (Value.int .i64 c0) := BY.out.hb.cell 2
      have pBY3 : _ = some (Value.int .i64 (d : Int)) := BY.out.hb.cell 3
      go_upto_region 6 with fail
      clear pBY0 pBY1 pBY2 pBY3
      go_cut [9, 64] from 14 (fun v9 v64 wz => v64 = undef ∧ v9 = .int .i64 a0 ∧ ∃ (Y' : Nat → Prop) (A1' A2' : Option Addr) (q1' q2' : Nat) (ys1 ys2 : List Value), Fr X Y' w wz ∧ SpE wz Y' base sb g P ∧ Bx 61 X Y' wz w.heap.size #[.iface 50 (.agg #[]), .int .i64 1, .int .i64 96, .int .i64 128, .int .i64 40] ∧ Bx 108 X Y' wz (w.heap.size + 1) #[.slice none 0 0, .slice none 0 0, .int .i64 0, .int .i64 0] ∧ Bx 108 X Y' wz yb #[.slice A1' (d + 1) q1', .slice A2' (d + 1) q2', .int .i64 c0, .int .i64 (d : Int)] ∧ Two 51 X Y' wz w.heap.size (.slice A1' (d + 1) q1') (.slice A2' (d + 1) q2') (d + 1) ys1 ys2)
      case first =>
        rename_i J0 K0 hR0 hK0
        refine wp_region_L (fun W => HB 108 W yb #[.slice A1 d q1, .slice A2 d q2, .int .i64 c0, .int .i64 (d : Int)]) [0, 1, 2, 5, 6, 7, 8, 11] (by kernel_rfl) ?_
        obtain h0 := F.out
        clear F
        have F := Lib.hid (h0.drew)
        clear h0
        obtain h0 := S.out
        clear S
        have S := Lib.hid (h0.drew)
        clear h0
        obtain h0 := T.out
        clear T
        have T := Lib.hid (h0.drew)
        clear h0
        obtain h0 := Z.out
        clear Z
        have Z := Lib.hid (h0.drew)
        clear h0
        obtain h0 := BY.out
        clear BY
        have BY := Lib.hid (h0.drew)
        clear h0
        obtain h0 := R.out
        clear R
        have R := Lib.hid (h0.drew)
        clear h0
        generalize w3.drew = wq at *
        have SW := Lib.hid BY.out.hb
        refine OrdL.take (i := 0) (oi := ⟨some 37, _, _, _, _, _⟩) (v := .pointer (some ⟨yb, 0, none⟩)) rfl (by decide) (by kernel_rfl) (by kernel_rfl) (by kernel_rfl) (fun _ _ _ h => h) (Or.inl ⟨by rfl, ?_⟩) SW.out ?_
        · intro W' hW
          go_simp
        try simp only [Act.put, List.setIfInBounds_toArray, List.set_cons_zero, List.set_cons_succ]
        refine OrdL.take (i := 1) (oi := ⟨some 38, _, _, _, _, _⟩) (v := .slice A1 d q1) rfl (by decide) (by kernel_rfl) (by kernel_rfl) (by kernel_rfl) (fun _ _ _ h => h) (Or.inl ⟨by rfl, ?_⟩) SW.out ?_
        · intro W' hW
          have c9 : _ = some (Value.slice A1 d q1) := HB.cell hW 0
          go_simp
        try simp only [Act.put, List.setIfInBounds_toArray, List.set_cons_zero, List.set_cons_succ]
        refine OrdL.take (i := 2) (oi := ⟨some 39, _, _, _, _, _⟩) (v := .int .i64 a0) rfl (by decide) (by kernel_rfl) (by kernel_rfl) (by kernel_rfl) (fun _ _ _ h => h) (Or.inl ⟨by rfl, ?_⟩) SW.out ?_
        · intro W' hW
          go_simp
        try simp only [Act.put, List.setIfInBounds_toArray, List.set_cons_zero, List.set_cons_succ]
        refine OrdL.take (i := 5) (oi := ⟨some 42, _, _, _, _, _⟩) (v := .pointer (some ⟨yb, 1, none⟩)) rfl (by decide) (by kernel_rfl) (by kernel_rfl) (by kernel_rfl) (fun _ _ _ h => h) (Or.inl ⟨by rfl, ?_⟩) SW.out ?_
        · intro W' hW
          go_simp
        try simp only [Act.put, List.setIfInBounds_toArray, List.set_cons_zero, List.set_cons_succ]
        refine OrdL.take (i := 6) (oi := ⟨some 43, _, _, _, _, _⟩) (v := .slice A2 d q2) rfl (by decide) (by kernel_rfl) (by kernel_rfl) (by kernel_rfl) (fun _ _ _ h => h) (Or.inl ⟨by rfl, ?_⟩) SW.out ?_
        · intro W' hW
          have c9 : _ = some (Value.slice A2 d q2) := HB.cell hW 1
          go_simp
        try simp only [Act.put, List.setIfInBounds_toArray, List.set_cons_zero, List.set_cons_succ]
        refine OrdL.take (i := 7) (oi := ⟨some 44, _, _, _, _, _⟩) (v := .pointer (some ⟨yb, 2, none⟩)) rfl (by decide) (by kernel_rfl) (by kernel_rfl) (by kernel_rfl) (fun _ _ _ h => h) (Or.inl ⟨by rfl, ?_⟩) SW.out ?_
        · intro W' hW
          go_simp
        try simp only [Act.put, List.setIfInBounds_toArray, List.set_cons_zero, List.set_cons_succ]
        refine OrdL.take (i := 8) (oi := ⟨some 45, _, _, _, _, _⟩) (v := .int .i64 c0) rfl (by decide) (by kernel_rfl) (by kernel_rfl) (by kernel_rfl) (fun _ _ _ h => h) (Or.inl ⟨by rfl, ?_⟩) SW.out ?_
        · intro W' hW
          have c9 : _ = some (Value.int .i64 c0) := HB.cell hW 2
          go_simp
        try simp only [Act.put, List.setIfInBounds_toArray, List.set_cons_zero, List.set_cons_succ]
        refine OrdL.ready (rs := [3, 9]) (by kernel_rfl) (by simp) ?_
        refine AllL.cons (o := ⟨some 40, _, _, _, _, _⟩) rfl (fun K hK => ?_) (AllL.cons (o := ⟨some 46, _, _, _, _, _⟩) rfl (fun K hK => ?_) AllL.nil)
        · obtain ⟨wa, hwout⟩ : ∃ W, W = wq.alloc (.cells #[.int .i64 a0] 51) := ⟨_, rfl⟩
          have bwa : Below wq.heap.size wq wa := by rw [hwout]; exact below_alloc _ _
          have hs1 : HB 51 wa wq.heap.size #[.int .i64 a0] := by rw [hwout]; exact HB.new _ _ _
          have SWwa := Lib.hid (SW.out.below bwa)
          go_simp
          rw [← hwout]
          clear hwout
          refine hK.out _ _ (fun _ => SWwa.out) ?_
          clear hK
          try simp only [Act.put, List.setIfInBounds_toArray, List.set_cons_zero, List.set_cons_succ]
          refine OrdL.ready (rs := [4, 9]) (by kernel_rfl) (by simp) ?_
          refine AllL.cons (o := ⟨some 41, _, _, _, _, _⟩) rfl (fun K hK => ?_) (AllL.cons (o := ⟨some 46, _, _, _, _, _⟩) rfl (fun K hK => ?_) AllL.nil)
          · obtain ⟨A3, q3, wb, run1, M1, hk1⟩ := two_first one_loc R.out (by have := HD2.out; omega) bwa rfl hs1 103
            have RUN1 := Lib.hid run1
            clear run1
            have MM := Lib.hid M1
            have SWwb := Lib.hid (SWwa.out.kx hk1 (fun e => own_ne R.out.o1 BY.out.hb (by decide) e))
            refine step_app (.tmp 38) (.tmp 40) 103 rfl (.slice A1 d q1) _ _ wb rfl rfl RUN1.out ?_
            refine hK.out _ _ (fun _ => SWwb.out) ?_
            clear hK
            try simp only [Act.put, List.setIfInBounds_toArray, List.set_cons_zero, List.set_cons_succ]
            refine OrdL.take (i := 11) (oi := ⟨some 48, _, _, _, _, _⟩) (v := .pointer (some ⟨yb, 0, none⟩)) rfl (by decide) (by kernel_rfl) (by kernel_rfl) (by kernel_rfl) (fun _ _ _ h => h) (Or.inl ⟨by rfl, ?_⟩) SWwb.out ?_
            · intro W' hW
              go_simp
            try simp only [Act.put, List.setIfInBounds_toArray, List.set_cons_zero, List.set_cons_succ]
            refine OrdL.ready (rs := [9]) (by kernel_rfl) (by simp) ?_
            refine AllL.cons (o := ⟨some 46, _, _, _, _, _⟩) rfl (fun K hK => ?_) AllL.nil
            obtain ⟨wc, hwout⟩ : ∃ W, W = wb.alloc (.cells #[.int .i64 c0] 51) := ⟨_, rfl⟩
            have bwc : Below wb.heap.size wb wc := by rw [hwout]; exact below_alloc _ _
            have hs2 : HB 51 wc wb.heap.size #[.int .i64 c0] := by rw [hwout]; exact HB.new _ _ _
            have SWwc := Lib.hid (SWwb.out.below bwc)
            go_simp
            rw [← hwout]
            clear hwout
            refine hK.out _ _ (fun _ => SWwc.out) ?_
            clear hK
            try simp only [Act.put, List.setIfInBounds_toArray, List.set_cons_zero, List.set_cons_succ]
            refine OrdL.ready (rs := [10]) (by kernel_rfl) (by simp) ?_
            refine AllL.cons (o := ⟨some 47, _, _, _, _, _⟩) rfl (fun K hK => ?_) AllL.nil
            obtain ⟨A4, q4', wd, run2, hE, hk2⟩ := two_second one_loc F.out R.out MM.out (by have := HD2.out; omega) bwc rfl hs2 103
            have RUN2 := Lib.hid run2
            clear run2
            have EE := Lib.hid hE
            clear hE
            have SWwd := Lib.hid (SWwc.out.kx hk2 (fun e => own_ne R.out.o2 BY.out.hb (by decide) e))
            refine step_app (.tmp 43) (.tmp 46) 103 rfl (.slice A2 d q2) _ _ wd rfl rfl RUN2.out ?_
            refine hK.out _ _ (fun _ => SWwd.out) ?_
            clear hK
            try simp only [Act.put, List.setIfInBounds_toArray, List.set_cons_zero, List.set_cons_succ]
            clear hk1 hk2 M1
            obtain ⟨Y', F', R', hS', hB', -, -⟩ := EE.out.ex
            have b1 := hB' _ _ _ (by decide) BY.out
            have t1 := hB' _ _ _ (by decide) T.out
            have z1 := hB' _ _ _ (by decide) Z.out
            have s1 := hS' _ _ _ _ S.out
            have n1 : w.heap.size ≠ yb := fun e => by
              have h1 := T.out.hb
              have h2 := BY.out.hb
              rw [← e] at h2
              have := h1.symm.trans h2
              injection this with this
              injection this with _ this
              exact absurd this (by decide)
            have n2 : w.heap.size + 1 ≠ yb := NZY.out
            have f5 := (b1.set 0 (.slice A3 (d + 1) q3))
            have REL1 := Lib.hid (show Fr X Y' w ((wd.setCell ⟨yb, 0, none⟩ (.slice A3 (d + 1) q3)).setCell ⟨yb, 1, none⟩ (.slice A4 (d + 1) q4')) ∧ SpE ((wd.setCell ⟨yb, 0, none⟩ (.slice A3 (d + 1) q3)).setCell ⟨yb, 1, none⟩ (.slice A4 (d + 1) q4')) Y' base sb g P ∧ Bx 61 X Y' ((wd.setCell ⟨yb, 0, none⟩ (.slice A3 (d + 1) q3)).setCell ⟨yb, 1, none⟩ (.slice A4 (d + 1) q4')) w.heap.size #[.iface 50 (.agg #[]), .int .i64 1, .int .i64 96, .int .i64 128, .int .i64 40] ∧ Bx 108 X Y' ((wd.setCell ⟨yb, 0, none⟩ (.slice A3 (d + 1) q3)).setCell ⟨yb, 1, none⟩ (.slice A4 (d + 1) q4')) (w.heap.size + 1) #[.slice none 0 0, .slice none 0 0, .int .i64 0, .int .i64 0] ∧ Bx 108 X Y' ((wd.setCell ⟨yb, 0, none⟩ (.slice A3 (d + 1) q3)).setCell ⟨yb, 1, none⟩ (.slice A4 (d + 1) q4')) yb #[.slice A3 (d + 1) q3, .slice A4 (d + 1) q4', .int .i64 c0, .int .i64 (d : Int)] ∧ Two 51 X Y' ((wd.setCell ⟨yb, 0, none⟩ (.slice A3 (d + 1) q3)).setCell ⟨yb, 1, none⟩ (.slice A4 (d + 1) q4')) w.heap.size (.slice A3 (d + 1) q3) (.slice A4 (d + 1) q4') (d + 1) _ _ from
              ⟨(F'.set b1 0 _).set f5 1 _, (s1.set b1.ny 0 _).set b1.ny 1 _, (t1.other n1 0 _).other n1 1 _, (z1.other n2 0 _).other n2 1 _, f5.set 1 _, (R'.set b1.hb (by decide) 0 _).set f5.hb (by decide) 1 _⟩)
            have c0' : wd.cell? ⟨yb, 0, none⟩ = some (.slice A1 d q1) := b1.hb.cell 0
            have c1' : wd.cell? ⟨yb, 1, none⟩ = some (.slice A2 d q2) := b1.hb.cell 1
            have g0' := b1.hb.free 0
            have g1' := b1.hb.free 1
            clear F' R' hS' hB' b1 t1 z1 s1 n1 n2 f5
            refine OrdL.ready (rs := [12]) (by kernel_rfl) (by simp) ?_
            refine AllL.cons (o := ⟨none, _, _, _, _, _⟩) rfl (fun K hK => ?_) AllL.nil
            go_simp
            refine hK.out _ _ (fun h => of_ff (by kernel_rfl) h) ?_
            clear hK
            try simp only [Act.put, List.setIfInBounds_toArray, List.set_cons_zero, List.set_cons_succ]
            refine OrdL.ready (rs := [13]) (by kernel_rfl) (by simp) ?_
            refine AllL.cons (o := ⟨some 49, _, _, _, _, _⟩) rfl (fun K hK => ?_) AllL.nil
            go_simp
            refine hK.out _ _ (fun h => of_ff (by kernel_rfl) h) ?_
            clear hK
            try simp only [Act.put, List.setIfInBounds_toArray, List.set_cons_zero, List.set_cons_succ]
            refine OrdL.ready (rs := [14]) (by kernel_rfl) (by simp) ?_
            refine AllL.cons (o := ⟨none, _, _, _, _, _⟩) rfl (fun K hK => ?_) AllL.nil
            go_simp
            refine hK.out _ _ (fun h => of_ff (by kernel_rfl) h) ?_
            clear hK
            try simp only [Act.put, List.setIfInBounds_toArray, List.set_cons_zero, List.set_cons_succ]
            refine OrdL.done (by kernel_rfl) ?_ _
            refine hK0 _ _ (Met.intro (hR0 _ _ ?_))
            (repeat apply Exists.intro)
            refine ⟨?rel, rfl⟩
            case rel => exact ⟨rfl, rfl, Y', A3, A4, q3, q4', _, _, REL1.out⟩
          · obtain ⟨wc, hwout⟩ : ∃ W, W = wa.alloc (.cells #[.int .i64 c0] 51) := ⟨_, rfl⟩
            have bwc : Below wa.heap.size wa wc := by rw [hwout]; exact below_alloc _ _
            have hs2 : HB 51 wc wa.heap.size #[.int .i64 c0] := by rw [hwout]; exact HB.new _ _ _
            have SWwc := Lib.hid (SWwa.out.below bwc)
            go_simp
            rw [← hwout]
            clear hwout
            refine hK.out _ _ (fun _ => SWwc.out) ?_
            clear hK
            try simp only [Act.put, List.setIfInBounds_toArray, List.set_cons_zero, List.set_cons_succ]
            refine OrdL.ready (rs := [4]) (by kernel_rfl) (by simp) ?_
            refine AllL.cons (o := ⟨some 41, _, _, _, _, _⟩) rfl (fun K hK => ?_) AllL.nil
            obtain ⟨A3, q3, wb, run1, M1, hk1⟩ := two_first one_loc R.out (by have := HD2.out; omega) (bwa.trans (bwc.mono bwa.size)) rfl (hs1.below bwc) 103
            have RUN1 := Lib.hid run1
            clear run1
            have MM := Lib.hid M1
            have SWwb := Lib.hid (SWwc.out.kx hk1 (fun e => own_ne R.out.o1 BY.out.hb (by decide) e))
            refine step_app (.tmp 38) (.tmp 40) 103 rfl (.slice A1 d q1) _ _ wb rfl rfl RUN1.out ?_
            refine hK.out _ _ (fun _ => SWwb.out) ?_
            clear hK
            try simp only [Act.put, List.setIfInBounds_toArray, List.set_cons_zero, List.set_cons_succ]
            refine OrdL.take (i := 11) (oi := ⟨some 48, _, _, _, _, _⟩) (v := .pointer (some ⟨yb, 0, none⟩)) rfl (by decide) (by kernel_rfl) (by kernel_rfl) (by kernel_rfl) (fun _ _ _ h => h) (Or.inl ⟨by rfl, ?_⟩) SWwb.out ?_
            · intro W' hW
              go_simp
            try simp only [Act.put, List.setIfInBounds_toArray, List.set_cons_zero, List.set_cons_succ]
            refine OrdL.ready (rs := [10]) (by kernel_rfl) (by simp) ?_
            refine AllL.cons (o := ⟨some 47, _, _, _, _, _⟩) rfl (fun K hK => ?_) AllL.nil
            have hsz := bwa.size
            obtain ⟨A4, q4', wd, run2, hE, hk2⟩ := two_second one_loc F.out R.out MM.out (by have := HD2.out; omega) (Below.refl _ _) rfl (hs2.kx hk1 (fun e => by have := (R.out.o1.lt _ e).2; omega)) 103
            have RUN2 := Lib.hid run2
            clear run2
            have EE := Lib.hid hE
            clear hE
            have SWwd := Lib.hid (SWwb.out.kx hk2 (fun e => own_ne R.out.o2 BY.out.hb (by decide) e))
            refine step_app (.tmp 43) (.tmp 46) 103 rfl (.slice A2 d q2) _ _ wd rfl rfl RUN2.out ?_
            refine hK.out _ _ (fun _ => SWwd.out) ?_
            clear hK
            try simp only [Act.put, List.setIfInBounds_toArray, List.set_cons_zero, List.set_cons_succ]
            clear hk1 hk2 M1
            obtain ⟨Y', F', R', hS', hB', -, -⟩ := EE.out.ex
            have b1 := hB' _ _ _ (by decide) BY.out
            have t1 := hB' _ _ _ (by decide) T.out
            have z1 := hB' _ _ _ (by decide) Z.out
            have s1 := hS' _ _ _ _ S.out
            have n1 : w.heap.size ≠ yb := fun e => by
              have h1 := T.out.hb
              have h2 := BY.out.hb
              rw [← e] at h2
              have := h1.symm.trans h2
              injection this with this
              injection this with _ this
              exact absurd this (by decide)
            have n2 : w.heap.size + 1 ≠ yb := NZY.out
            have f5 := (b1.set 0 (.slice A3 (d + 1) q3))
            have REL1 := Lib.hid (show Fr X Y' w ((wd.setCell ⟨yb, 0, none⟩ (.slice A3 (d + 1) q3)).setCell ⟨yb, 1, none⟩ (.slice A4 (d + 1) q4')) ∧ SpE ((wd.setCell ⟨yb, 0, none⟩ (.slice A3 (d + 1) q3)).setCell ⟨yb, 1, none⟩ (.slice A4 (d + 1) q4')) Y' base sb g P ∧ Bx 61 X Y' ((wd.setCell ⟨yb, 0, none⟩ (.slice A3 (d + 1) q3)).setCell ⟨yb, 1, none⟩ (.slice A4 (d + 1) q4')) w.heap.size #[.iface 50 (.agg #[]), .int .i64 1, .int .i64 96, .int .i64 128, .int .i64 40] ∧ Bx 108 X Y' ((wd.setCell ⟨yb, 0, none⟩ (.slice A3 (d + 1) q3)).setCell ⟨yb, 1, none⟩ (.slice A4 (d + 1) q4')) (w.heap.size + 1) #[.slice none 0 0, .slice none 0 0, .int .i64 0, .int .i64 0] ∧ Bx 108 X Y' ((wd.setCell ⟨yb, 0, none⟩ (.slice A3 (d + 1) q3)).setCell ⟨yb, 1, none⟩ (.slice A4 (d + 1) q4')) yb #[.slice A3 (d + 1) q3, .slice A4 (d + 1) q4', .int .i64 c0, .int .i64 (d : Int)] ∧ Two 51 X Y' ((wd.setCell ⟨yb, 0, none⟩ (.slice A3 (d + 1) q3)).setCell ⟨yb, 1, none⟩ (.slice A4 (d + 1) q4')) w.heap.size (.slice A3 (d + 1) q3) (.slice A4 (d + 1) q4') (d + 1) _ _ from
              ⟨(F'.set b1 0 _).set f5 1 _, (s1.set b1.ny 0 _).set b1.ny 1 _, (t1.other n1 0 _).other n1 1 _, (z1.other n2 0 _).other n2 1 _, f5.set 1 _, (R'.set b1.hb (by decide) 0 _).set f5.hb (by decide) 1 _⟩)
            have c0' : wd.cell? ⟨yb, 0, none⟩ = some (.slice A1 d q1) := b1.hb.cell 0
            have c1' : wd.cell? ⟨yb, 1, none⟩ = some (.slice A2 d q2) := b1.hb.cell 1
            have g0' := b1.hb.free 0
            have g1' := b1.hb.free 1
            clear F' R' hS' hB' b1 t1 z1 s1 n1 n2 f5
            refine OrdL.ready (rs := [12]) (by kernel_rfl) (by simp) ?_
            refine AllL.cons (o := ⟨none, _, _, _, _, _⟩) rfl (fun K hK => ?_) AllL.nil
            go_simp
            refine hK.out _ _ (fun h => of_ff (by kernel_rfl) h) ?_
            clear hK
            try simp only [Act.put, List.setIfInBounds_toArray, List.set_cons_zero, List.set_cons_succ]
            refine OrdL.ready (rs := [13]) (by kernel_rfl) (by simp) ?_
            refine AllL.cons (o := ⟨some 49, _, _, _, _, _⟩) rfl (fun K hK => ?_) AllL.nil
            go_simp
            refine hK.out _ _ (fun h => of_ff (by kernel_rfl) h) ?_
            clear hK
            try simp only [Act.put, List.setIfInBounds_toArray, List.set_cons_zero, List.set_cons_succ]
            refine OrdL.ready (rs := [14]) (by kernel_rfl) (by simp) ?_
            refine AllL.cons (o := ⟨none, _, _, _, _, _⟩) rfl (fun K hK => ?_) AllL.nil
            go_simp
            refine hK.out _ _ (fun h => of_ff (by kernel_rfl) h) ?_
            clear hK
            try simp only [Act.put, List.setIfInBounds_toArray, List.set_cons_zero, List.set_cons_succ]
            refine OrdL.done (by kernel_rfl) ?_ _
            refine hK0 _ _ (Met.intro (hR0 _ _ ?_))
            (repeat apply Exists.intro)
            refine ⟨?rel, rfl⟩
            case rel => exact ⟨rfl, rfl, Y', A3, A4, q3, q4', _, _, REL1.out⟩
        · obtain ⟨wc, hwout⟩ : ∃ W, W = wq.alloc (.cells #[.int .i64 c0] 51) := ⟨_, rfl⟩
          have bwc : Below wq.heap.size wq wc := by rw [hwout]; exact below_alloc _ _
          have hs2 : HB 51 wc wq.heap.size #[.int .i64 c0] := by rw [hwout]; exact HB.new _ _ _
          have SWwc := Lib.hid (SW.out.below bwc)
          go_simp
          rw [← hwout]
          clear hwout
          refine hK.out _ _ (fun _ => SWwc.out) ?_
          clear hK
          try simp only [Act.put, List.setIfInBounds_toArray, List.set_cons_zero, List.set_cons_succ]
          refine OrdL.ready (rs := [3]) (by kernel_rfl) (by simp) ?_
          refine AllL.cons (o := ⟨some 40, _, _, _, _, _⟩) rfl (fun K hK => ?_) AllL.nil
          obtain ⟨wa, hwout⟩ : ∃ W, W = wc.alloc (.cells #[.int .i64 a0] 51) := ⟨_, rfl⟩
          have bwa : Below wc.heap.size wc wa := by rw [hwout]; exact below_alloc _ _
          have hs1 : HB 51 wa wc.heap.size #[.int .i64 a0] := by rw [hwout]; exact HB.new _ _ _
          have SWwa := Lib.hid (SWwc.out.below bwa)
          go_simp
          rw [← hwout]
          clear hwout
          refine hK.out _ _ (fun _ => SWwa.out) ?_
          clear hK
          try simp only [Act.put, List.setIfInBounds_toArray, List.set_cons_zero, List.set_cons_succ]
          refine OrdL.ready (rs := [4]) (by kernel_rfl) (by simp) ?_
          refine AllL.cons (o := ⟨some 41, _, _, _, _, _⟩) rfl (fun K hK => ?_) AllL.nil
          obtain ⟨A3, q3, wb, run1, M1, hk1⟩ := two_first one_loc R.out (by have := HD2.out; omega) (bwc.trans (bwa.mono bwc.size)) rfl hs1 103
          have RUN1 := Lib.hid run1
          clear run1
          have MM := Lib.hid M1
          have SWwb := Lib.hid (SWwa.out.kx hk1 (fun e => own_ne R.out.o1 BY.out.hb (by decide) e))
          refine step_app (.tmp 38) (.tmp 40) 103 rfl (.slice A1 d q1) _ _ wb rfl rfl RUN1.out ?_
          refine hK.out _ _ (fun _ => SWwb.out) ?_
          clear hK
          try simp only [Act.put, List.setIfInBounds_toArray, List.set_cons_zero, List.set_cons_succ]
          refine OrdL.take (i := 11) (oi := ⟨some 48, _, _, _, _, _⟩) (v := .pointer (some ⟨yb, 0, none⟩)) rfl (by decide) (by kernel_rfl) (by kernel_rfl) (by kernel_rfl) (fun _ _ _ h => h) (Or.inl ⟨by rfl, ?_⟩) SWwb.out ?_
          · intro W' hW
            go_simp
          try simp only [Act.put, List.setIfInBounds_toArray, List.set_cons_zero, List.set_cons_succ]
          refine OrdL.ready (rs := [10]) (by kernel_rfl) (by simp) ?_
          refine AllL.cons (o := ⟨some 47, _, _, _, _, _⟩) rfl (fun K hK => ?_) AllL.nil
          obtain ⟨A4, q4', wd, run2, hE, hk2⟩ := two_second one_loc F.out R.out MM.out (by have := HD2.out; omega) (Below.refl _ _) rfl ((hs2.below bwa).kx hk1 (fun e => by have := (R.out.o1.lt _ e).2; omega)) 103
          have RUN2 := Lib.hid run2
          clear run2
          have EE := Lib.hid hE
          clear hE
          have SWwd := Lib.hid (SWwb.out.kx hk2 (fun e => own_ne R.out.o2 BY.out.hb (by decide) e))
          refine step_app (.tmp 43) (.tmp 46) 103 rfl (.slice A2 d q2) _ _ wd rfl rfl RUN2.out ?_
          refine hK.out _ _ (fun _ => SWwd.out) ?_
          clear hK
          try simp only [Act.put, List.setIfInBounds_toArray, List.set_cons_zero, List.set_cons_succ]
          clear hk1 hk2 M1
          obtain ⟨Y', F', R', hS', hB', -, -⟩ := EE.out.ex
          have b1 := hB' _ _ _ (by decide) BY.out
          have t1 := hB' _ _ _ (by decide) T.out
          have z1 := hB' _ _ _ (by decide) Z.out
          have s1 := hS' _ _ _ _ S.out
          have n1 : w.heap.size ≠ yb := fun e => by
            have h1 := T.out.hb
            have h2 := BY.out.hb
            rw [← e] at h2
            have := h1.symm.trans h2
            injection this with this
            injection this with _ this
            exact absurd this (by decide)
          have n2 : w.heap.size + 1 ≠ yb := NZY.out
          have f5 := (b1.set 0 (.slice A3 (d + 1) q3))
          have REL1 := Lib.hid (show Fr X Y' w ((wd.setCell ⟨yb, 0, none⟩ (.slice A3 (d + 1) q3)).setCell ⟨yb, 1, none⟩ (.slice A4 (d + 1) q4')) ∧ SpE ((wd.setCell ⟨yb, 0, none⟩ (.slice A3 (d + 1) q3)).setCell ⟨yb, 1, none⟩ (.slice A4 (d + 1) q4')) Y' base sb g P ∧ Bx 61 X Y' ((wd.setCell ⟨yb, 0, none⟩ (.slice A3 (d + 1) q3)).setCell ⟨yb, 1, none⟩ (.slice A4 (d + 1) q4')) w.heap.size #[.iface 50 (.agg #[]), .int .i64 1, .int .i64 96, .int .i64 128, .int .i64 40] ∧ Bx 108 X Y' ((wd.setCell ⟨yb, 0, none⟩ (.slice A3 (d + 1) q3)).setCell ⟨yb, 1, none⟩ (.slice A4 (d + 1) q4')) (w.heap.size + 1) #[.slice none 0 0, .slice none 0 0, .int .i64 0, .int .i64 0] ∧ Bx 108 X Y' ((wd.setCell ⟨yb, 0, none⟩ (.slice A3 (d + 1) q3)).setCell ⟨yb, 1, none⟩ (.slice A4 (d + 1) q4')) yb #[.slice A3 (d + 1) q3, .slice A4 (d + 1) q4', .int .i64 c0, .int .i64 (d : Int)] ∧ Two 51 X Y' ((wd.setCell ⟨yb, 0, none⟩ (.slice A3 (d + 1) q3)).setCell ⟨yb, 1, none⟩ (.slice A4 (d + 1) q4')) w.heap.size (.slice A3 (d + 1) q3) (.slice A4 (d + 1) q4') (d + 1) _ _ from
            ⟨(F'.set b1 0 _).set f5 1 _, (s1.set b1.ny 0 _).set b1.ny 1 _, (t1.other n1 0 _).other n1 1 _, (z1.other n2 0 _).other n2 1 _, f5.set 1 _, (R'.set b1.hb (by decide) 0 _).set f5.hb (by decide) 1 _⟩)
          have c0' : wd.cell? ⟨yb, 0, none⟩ = some (.slice A1 d q1) := b1.hb.cell 0
          have c1' : wd.cell? ⟨yb, 1, none⟩ = some (.slice A2 d q2) := b1.hb.cell 1
          have g0' := b1.hb.free 0
          have g1' := b1.hb.free 1
          clear F' R' hS' hB' b1 t1 z1 s1 n1 n2 f5
          refine OrdL.ready (rs := [12]) (by kernel_rfl) (by simp) ?_
          refine AllL.cons (o := ⟨none, _, _, _, _, _⟩) rfl (fun K hK => ?_) AllL.nil
          go_simp
          refine hK.out _ _ (fun h => of_ff (by kernel_rfl) h) ?_
          clear hK
          try simp only [Act.put, List.setIfInBounds_toArray, List.set_cons_zero, List.set_cons_succ]
          refine OrdL.ready (rs := [13]) (by kernel_rfl) (by simp) ?_
          refine AllL.cons (o := ⟨some 49, _, _, _, _, _⟩) rfl (fun K hK => ?_) AllL.nil
          go_simp
          refine hK.out _ _ (fun h => of_ff (by kernel_rfl) h) ?_
          clear hK
          try simp only [Act.put, List.setIfInBounds_toArray, List.set_cons_zero, List.set_cons_succ]
          refine OrdL.ready (rs := [14]) (by kernel_rfl) (by simp) ?_
          refine AllL.cons (o := ⟨none, _, _, _, _, _⟩) rfl (fun K hK => ?_) AllL.nil
          go_simp
          refine hK.out _ _ (fun h => of_ff (by kernel_rfl) h) ?_
          clear hK
          try simp only [Act.put, List.setIfInBounds_toArray, List.set_cons_zero, List.set_cons_succ]
          refine OrdL.done (by kernel_rfl) ?_ _
          refine hK0 _ _ (Met.intro (hR0 _ _ ?_))
          (repeat apply Exists.intro)
          refine ⟨?rel, rfl⟩
          case rel => exact ⟨rfl, rfl, Y', A3, A4, q3, q4', _, _, REL1.out⟩
      case rest =>
        obtain ⟨rfl, rfl, Y', A1', A2', q1', q2', ys1, ys2, hF, hS, hTb, hZ, hB, h2⟩ := hcut
        clear F S T Z BY R
        have F := Lib.hid hF
        have S := Lib.hid hS
        have T := Lib.hid hTb
        have Z := Lib.hid hZ
        have BY := Lib.hid hB
        have R := Lib.hid h2
        clear hF hS hTb hZ hB h2
        have p0 : _ = some (Value.slice A1' (d + 1) q1') := BY.out.hb.cell 0
        have p1 : _ = some (Value.slice A2' (d + 1) q2') := BY.out.hb.cell 1
        have p2 : _ = some (Value.int .i64 c0) := BY.out.hb.cell 2
        have p3 : _ = some (Value.int .i64 (d : Int)) := BY.out.hb.cell 3
        have f2 := BY.out.hb.free 2
        have f3 := BY.out.hb.free 3
        have W1 : IntKind.i64.wrap (3 * (d : Int)) = 3 * (d : Int) := wrap_i64 _ (by omega) (by have := HD2.out; omega)
        have W2 : IntKind.i64.wrap ((d : Int) + 1) = (d : Int) + 1 := wrap_i64 _ (by omega) (by have := HD2.out; omega)
        obtain ⟨z0, hz0⟩ : ∃ z : Int, z = ((hs k / 8 ^ d : Nat) : Int) := ⟨_, rfl⟩
        obtain ⟨j0, hj0⟩ : ∃ z : Nat, z = dg d k := ⟨_, rfl⟩
        obtain ⟨c1, hc1⟩ : ∃ z : Int, z = a0 + (j0 : Int) := ⟨_, rfl⟩
        have hj8 : j0 < 8 := by rw [hj0]; exact dg_lt _ _
        have W3 : Op.shift .shr .u64 (hs k : Int) .i64 (3 * (d : Int)) = pure (.int .u64 z0) := by rw [hz0]; exact shr_dg k d (by have := HD2.out; omega)
        have W4 : z0.tmod 8 = (j0 : Int) := by rw [hz0, hj0]; exact rem_dg k d
        have W5 : IntKind.i64.wrap (j0 : Int) = (j0 : Int) := wrap_i64 _ (by omega) (by omega)
        have W6 : IntKind.i64.wrap (a0 + (j0 : Int)) = c1 := by
          have := HA0.out
          have := HA.out
          rw [wrap_i64 _ (by unfold adr at *; omega) (by unfold adr at *; omega), hc1]
        have HC1 := Lib.hid (show c1 = adr a + (dg d k : Int) from by rw [hc1, hj0, HA0.out])
        clear hz0 hj0 hc1 hj8
        go_wp2_with fail
        have hz2 : w.heap.size ≠ yb := fun e => by
          have h1 := T.out.hb
          have h2 := BY.out.hb
          rw [← e] at h2
          have := h1.symm.trans h2
          injection this with this
          injection this with _ this
          exact absurd this (by decide)
        go_roundg (gk - 1)
        case measure => have := HG.out; have := HDD.out; omega
        case rel =>
          refine ⟨Y', s (dg d k), c1, d + 1, A1', A2', q1', q2', ys1, ys2, (F.out.set BY.out 2 _).set (BY.out.set 2 _) 3 _, (S.out.set BY.out.ny 2 _).set BY.out.ny 3 _, (T.out.other hz2 2 _).other hz2 3 _, (Z.out.other NZY.out 2 _).other NZY.out 3 _, (BY.out.set 2 _).set 3 _, (R.out.set BY.out.hb (by decide) 2 _).set (BY.out.set 2 _).hb (by decide) 3 _, ?_, ?_⟩
          · rw [HC1.out]; exact DN.out
          · have := HG.out; have := HDD.out; omega
    | e =>
      obtain ⟨q0, e1, e2⟩ := D.out.stop (fun _ _ h => by cases h)
      rw [← HV0.out] at q0
      have E1 := Lib.hid e1
      have E2 := Lib.hid e2
      clear e1 e2
      go_wp2_with fail
      refine (sget S.out (by have := HN.out; omega) c0 v0 D.out.inm HV0.out.symm).mono ?_
      rintro e w1 ⟨rfl, hs, hk⟩
      clear S
      have S := Lib.hid hs
      clear pBY0 pBY1 pBY2 pBY3
      obtain h0 := F.out
      clear F
      have F := Lib.hid (h0.step hk)
      clear h0
      obtain h0 := T.out
      clear T
      have T := Lib.hid (h0.step hk)
      clear h0
      obtain h0 := Z.out
      clear Z
      have Z := Lib.hid (h0.step hk)
      clear h0
      obtain h0 := BY.out
      clear BY
      have BY := Lib.hid (h0.step hk)
      clear h0
      obtain h0 := R.out
      clear R
      have R := Lib.hid (h0.step hk)
      clear h0
      clear hs hk
      have pBY0 : _ = some (Value.slice A1 d q1) := BY.out.hb.cell 0
      have pBY1 : _ = some (Value.slice A2 d q2) := BY.out.hb.cell 1
      have pBY2 : _ = some (Value.int .i64 c0) := BY.out.hb.cell 2
      have pBY3 : _ = some (Value.int .i64 (d : Int)) := BY.out.hb.cell 3
      have pZ0 : _ = some (Value.slice none 0 0) := Z.out.hb.cell 0
      have pZ1 : _ = some (Value.slice none 0 0) := Z.out.hb.cell 1
      have pZ2 : _ = some (Value.int .i64 0) := Z.out.hb.cell 2
      have pZ3 : _ = some (Value.int .i64 0) := Z.out.hb.cell 3
      have fz := Z.out.hb.free
      have fz0 := fz 0
      have fz1 := fz 1
      have fz2 := fz 2
      have fz3 := fz 3
      clear fz
      go_wp2
      obtain ⟨z1, z2, z3⟩ := set4 F.out Z.out (.slice A1 d q1) (.slice A2 d q2) (.int .i64 c0) (.int .i64 (d : Int))
      refine bodyPost_ret (results_ct rfl _ _ (w.heap.size + 1) _ _ _ _ rfl z2.hb Tryz.underlying108 rfl way_size) rfl ?_
      refine ⟨A1, A2, d, d, q1, q2, ?_, (z3 _ _ _ _ S.out).back z1, z1.k⟩
      rw [← E1.out, ← E2.out]
      rfl
    | l a k' v =>
      obtain ⟨q0, e1, e2⟩ := D.out.stop (fun _ _ h => by cases h)
      rw [← HV0.out] at q0
      have E1 := Lib.hid e1
      have E2 := Lib.hid e2
      clear e1 e2
      go_wp2_with fail
      refine (sget S.out (by have := HN.out; omega) c0 v0 D.out.inm HV0.out.symm).mono ?_
      rintro e w1 ⟨rfl, hs, hk⟩
      clear S
      have S := Lib.hid hs
      clear pBY0 pBY1 pBY2 pBY3
      obtain h0 := F.out
      clear F
      have F := Lib.hid (h0.step hk)
      clear h0
      obtain h0 := T.out
      clear T
      have T := Lib.hid (h0.step hk)
      clear h0
      obtain h0 := Z.out
      clear Z
      have Z := Lib.hid (h0.step hk)
      clear h0
      obtain h0 := BY.out
      clear BY
      have BY := Lib.hid (h0.step hk)
      clear h0
      obtain h0 := R.out
      clear R
      have R := Lib.hid (h0.step hk)
      clear h0
      clear hs hk
      have pBY0 : _ = some (Value.slice A1 d q1) := BY.out.hb.cell 0
      have pBY1 : _ = some (Value.slice A2 d q2) := BY.out.hb.cell 1
      have pBY2 : _ = some (Value.int .i64 c0) := BY.out.hb.cell 2
      have pBY3 : _ = some (Value.int .i64 (d : Int)) := BY.out.hb.cell 3
      have pZ0 : _ = some (Value.slice none 0 0) := Z.out.hb.cell 0
      have pZ1 : _ = some (Value.slice none 0 0) := Z.out.hb.cell 1
      have pZ2 : _ = some (Value.int .i64 0) := Z.out.hb.cell 2
      have pZ3 : _ = some (Value.int .i64 0) := Z.out.hb.cell 3
      have fz := Z.out.hb.free
      have fz0 := fz 0
      have fz1 := fz 1
      have fz2 := fz 2
      have fz3 := fz 3
      clear fz
      go_wp2
      obtain ⟨z1, z2, z3⟩ := set4 F.out Z.out (.slice A1 d q1) (.slice A2 d q2) (.int .i64 c0) (.int .i64 (d : Int))
      refine bodyPost_ret (results_ct rfl _ _ (w.heap.size + 1) _ _ _ _ rfl z2.hb Tryz.underlying108 rfl way_size) rfl ?_
      refine ⟨A1, A2, d, d, q1, q2, ?_, (z3 _ _ _ _ S.out).back z1, z1.k⟩
      rw [← E1.out, ← E2.out]
      rfl
end Go.Proofs.YtkloaopjlbinpaaGreat
