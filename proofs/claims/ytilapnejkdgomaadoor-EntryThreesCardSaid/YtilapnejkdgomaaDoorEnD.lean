/- The walk of the reference's Sort. Conditions: at most 1000 entries. -/
import Derived.Test.YtilapnejkdgomaaDoorEnC
import Derived.Test.YtilapnejkdgomaaDoorMgG
set_option linter.unusedVariables false
set_option linter.unusedSimpArgs false
namespace Go.Proofs.YtilapnejkdgomaaDoor
open Go.RowKit

theorem flatE_app (a b : List Ent) : flatE (a ++ b) = flatE a ++ flatE b := List.flatMap_append
/-- append onto a row of the call's own. -/
theorem ap_any {w : World} {ops : Array Oper} {rest : List Oper} {o : Oper} {a : Act} {Q : Exit → Act → World → Prop} (hgd : o.guard = none) (s x : Operand)
    (ho : o.op = .call { callee := .builtin .append, args := #[s, x], argTypes := #[22, 22] }) (base : Nat) (v : Value) (L : List Ent) (hs : a.eval s = v) (hO : OwnE w base v L)
    (S : Nat → Prop) (A : Option Addr) (m c : Nat) (M : List Ent) (hx : a.eval x = .slice A m c) (hE : Ents w S A m M) (h1 : L.length + m ≤ 100000) (hb : base ≤ w.heap.size)
    (h : ∀ v' w', OwnE w' base v' (L ++ M) → w.grownBy w' v.ownBlock → (v'.ownBlock = v.ownBlock ∨ v'.ownBlock = some w.heap.size) → wpList Tryd.prog ops Q rest (a.put o.dst v') w') : wpList Tryd.prog ops Q (o :: rest) a w := by
  obtain ⟨ie, hie0, hie1, hie2, hie3⟩ := infoE
  refine wpList_append_any hgd s x 22 ho base 46 ie _ 6 40 Tryd.underlying22 hie0 hie1 hie2 hie3 rfl (by omega) v L.length (flatE L) hs hO S A m c (flatE M) hx hE.2 (flatE_one M) (by simp only [maxLen]; omega) (by omega) hb ?_
  intro v' w' h2 h3 h4
  refine h v' w' ?_ h3 h4
  show w'.ownsRow base _ 6 v' (L ++ M).length (flatE (L ++ M))
  rw [flatE_app, List.length_append, ← hE.1]
  exact h2
/-- Below, over an append onto a row of the call's own. -/
theorem below_ap {base : Nat} {w w1 w2 : World} {v : Value} (h : Below base w w1) (hg : w1.grownBy w2 v.ownBlock) (hb : base ≤ w1.heap.size) (hv : ∀ k, v.ownBlock = some k → base ≤ k) : Below base w w2 := h.grown hg hb hv
theorem srt_snoc {l : List Ent} {k : Nat} {y : Ent} (h : l[k]? = some y) : srt Ent.loc (l.take (k + 1)) = insS Ent.loc y (srt Ent.loc (l.take k)) := by
  rw [List.take_add_one, h]
  show List.foldl _ [] (l.take k ++ [y]) = _
  rw [List.foldl_append]
  rfl
theorem ins_split {y : Ent} {L : List Ent} {j : Nat} (ha : Asc Ent.loc L) (h1 : ∀ z, 0 < j → L[j - 1]? = some z → z.loc ≤ y.loc) (h2 : ∀ z ∈ L.drop j, y.loc < z.loc) (hj : j ≤ L.length) : insS Ent.loc y L = L.take j ++ (y :: L.drop j) := by
  have e := List.take_append_drop j L
  have hc := asc_cut Ent.loc ha j
  conv => lhs; rw [← e]
  refine insS_app Ent.loc (fun z hz => ?_) (fun z hz => h2 z ?_)
  · have hj0 : 0 < j := by
      rcases Nat.eq_zero_or_pos j with h | h
      · subst h; rw [List.take_zero] at hz; cases hz
      · exact h
    have hl : L[j - 1]? = some L[j - 1] := List.getElem?_eq_getElem (by omega)
    have h3 := h1 _ hj0 hl
    have h4 := asc_last Ent.loc hc.1 (x := L[j - 1]) (by
      rw [List.getLast?_eq_getElem?, List.length_take, Nat.min_eq_left hj, List.getElem?_take, if_pos (by omega), hl]) z hz
    omega
  · cases hd : L.drop j with
    | nil => rw [hd] at hz; cases hz
    | cons a t => rw [hd] at hz; injection hz with hz; subst hz; exact .head _
theorem OwnE.drew_n {w : World} {base : Nat} {v : Value} {L : List Ent} (h : OwnE w base v L) (n : Nat) : OwnE (w.drewN n) base v L := OwnE.below h ⟨rfl, rfl, rfl, Nat.le_refl _, fun _ _ => rfl⟩
theorem Ents.first {w : World} {S : Nat → Prop} {A : Option Addr} {n : Nat} {l : List Ent} (h : Ents w S A n l) (k : Nat) (hk : k ≤ n) : Ents w S A k (l.take k) := h.take k hk
theorem Ents.cut {w : World} {S : Nat → Prop} {A : Option Addr} {n : Nat} {l : List Ent} (h : Ents w S A n l) {k cap : Nat} (hk : k ≤ n) (hc : n ≤ cap) : Ents w S (if cap = k then A else A.map (·.add (k * 6))) (n - k) (l.drop k) := by
  refine ⟨by rw [List.length_drop, h.1], ?_⟩
  have h2 := h.2.cut hk hc
  have e : flatE (l.drop k) = (flatE l).drop (k * 6) := by
    have e1 : flatE l = flatE (l.take k) ++ flatE (l.drop k) := by rw [← flatE_app, List.take_append_drop]
    rw [e1]
    exact (List.drop_left' (by rw [flatE_length, List.length_take, ← h.1, Nat.min_eq_left hk])).symm
  rw [e]
  exact h2
theorem Ents.of_own {w : World} {base : Nat} {A : Option Addr} {n c : Nat} {L : List Ent} (h : OwnE w base (.slice A n c) L) : Ents w (fun b => base ≤ b) A n L := by
  obtain ⟨A', n', c', e, hn, hA, hc, hg⟩ := h.slice
  injection e with e1 e2 e3
  subst e1 e2 e3
  refine ⟨hn, ?_⟩
  have h0 : w.ownsRow base 46 6 (.slice A n c) n (flatE L) := by rw [hn]; rw [hn] at h; exact h
  exact Reads.of_own h0 (fun b hb => hb)
theorem Ents.box {w : World} (e : Ent) : Ents (w.alloc (entO e)) (fun _ => True) (some ⟨w.heap.size, 0, none⟩) 1 [e] := by
  refine ⟨rfl, ?_⟩
  have := Reads.new (S := fun _ => True) (size := 6) (n := 1) w #[.int .i64 e.loc, .int .i64 e.val, .int .u32 e.ver, .int .u32 e.ref, .int .i64 e.new, .bool e.wr] 46 rfl trivial
  exact this

theorem elemE : Tryd.prog.elem 22 = 46 := by kernel_rfl
theorem map_add_zero (A : Option Addr) : A.map (fun x => x.add 0) = A := by cases A <;> simp [Addr.add]
theorem sl_h (W : World) (A : Option Addr) (n c j : Nat) (hj : j ≤ c) : (Instr.slice 22 (.slice A n c) none (some (.int .i64 (j : Int))) none).run Tryd.prog W = .ok (.slice A j c) W := by
  rw [run_slice_h W 22 A n c (by rw [elemE]; exact Tryd.underlying22) .i64 (j : Int) (by omega) (by omega), elemE]
  have hz := Tryd.sizeOf46
  simp [hz, sliced, map_add_zero, Result.andThen]
theorem sl_l (W : World) (A : Option Addr) (n c j : Nat) (hj : j ≤ n) : (Instr.slice 22 (.slice A n c) (some (.int .i64 (j : Int))) none none).run Tryd.prog W = .ok (.slice (if c = j then A else A.map (fun x => x.add (j * 6))) (n - j) (c - j)) W := by
  rw [run_slice_l W 22 A n c (by rw [elemE]; exact Tryd.underlying22) .i64 (j : Int) (by omega) (by omega), elemE]
  have hz := Tryd.sizeOf46
  simp [hz, sliced, Result.andThen]

set_option maxRecDepth 100000 in
set_option maxHeartbeats 12800000 in
theorem rsort_any {S : Nat → Prop} (A : Option Addr) (n c : Nat) (l : List Ent) (w : World) (hl : Ents w S A n l) (hn : n ≤ 1000) (hc : n ≤ c) :
    Calls Tryd.prog 24 #[.slice A n c] w fun e w' => ∃ v, e = .returned v ∧ OwnE w' w.heap.size v (srt Ent.loc l) ∧ Below w.heap.size w w' := by
  have HLN := Lib.hid hl.1
  have HL := Lib.hid hl
  have HO0 := Lib.hid (show OwnE w w.heap.size (.slice none 0 0) [] from World.ownsRow_nil _ _ _ _)
  have hci : (n : Int) ≤ (c : Int) := by omega
  clear hl
  go_enter Tryd.func24, Tryd.ntmps24
  go_wp2
  go_loopw [3, 4] (fun vv ii wr => ∃ k : Nat, k ≤ n ∧ ii = .int .i64 k ∧ Hid (OwnE wr w.heap.size vv (srt Ent.loc (l.take k))) ∧ Hid (Below w.heap.size w wr)) (fun vv ii _ => n - (intOf ii).toNat)
  case atStart => exact ⟨0, Nat.zero_le _, rfl, HO0, Lib.hid (Below.refl _ _)⟩
  case round =>
    clear HO0
    obtain ⟨k, hk, rfl, HO, HB⟩ := hrel
    obtain ⟨wo, rfl⟩ : ∃ wo : World, wo = wr := ⟨_, rfl⟩
    have HSL := Lib.hid (show (srt Ent.loc (l.take k)).length = k by rw [srt_len, List.length_take]; have := HLN.out; omega)
    have HAS := Lib.hid (srt_sts Ent.loc (l.take k)).1
    by_cases hlt : k < n
    · obtain ⟨y, b, o, hy, rfl, hbb, hSb, hcell⟩ := HL.out.at k hlt
      have HSS := Lib.hid (srt_snoc hy)
      have HI := Lib.hid hlt
      have HC := Lib.hid hcell
      have hi1 : (k : Int) < (n : Int) := by omega
      generalize srt Ent.loc (l.take k) = L at *
      obtain ⟨Av, nv, cv, rfl, hnv, hAv, hcv, hgv⟩ := HO.out.slice
      rw [HSL.out] at hnv
      subst hnv
      have hcvi : (nv : Int) ≤ (cv : Int) := by omega
      have hni : (nv : Int) ≤ 1000 := by omega
      clear hcell hy hlt hAv hgv
      go_wp2
      go_loopw [5] (fun i2 w2 => ∃ j : Nat, j ≤ nv ∧ i2 = .int .i64 j ∧ Hid (∀ z ∈ L.drop j, y.loc < z.loc) ∧ Hid (Below wo.heap.size wo w2)) (fun i2 _ => (intOf i2).toNat)
      case atStart => exact ⟨nv, Nat.le_refl _, rfl, Lib.hid (fun z hz => by rw [List.drop_of_length_le (by rw [HSL.out]; omega)] at hz; cases hz), Lib.hid (Below.refl _ _)⟩
      case round =>
        obtain ⟨j, hj, rfl, HD, HW⟩ := hrel
        obtain ⟨w2, rfl⟩ : ∃ w2 : World, w2 = wr := ⟨_, rfl⟩
        have hBw := HB.out.trans (HW.out.mono HB.out.size)
        obtain ⟨f0, f1, f2, f3, f4, f5⟩ := HC.out w2 hBw
        have HDW := Lib.hid (fun q => below_drew_n HW.out q)
        clear hBw
        have hji : (j : Int) ≤ (nv : Int) := by omega
        by_cases hj0 : j = 0
        · subst hj0
          have HIN := Lib.hid (ins_split HAS.out (fun z h => absurd h (by omega)) HD.out (Nat.zero_le _))
          go_wp2
          go_quiet (fail)
          have hs1 : ∀ W, (Instr.slice 22 (.slice Av nv cv) none (some (.int .i64 ((0 : Nat) : Int))) none).run Tryd.prog W = .ok (.slice Av 0 cv) W := fun W => sl_h W Av nv cv 0 (Nat.le_trans (Nat.zero_le _) hcv)
          have HOW := Lib.hid (fun q => OwnE.drew_n (OwnE.below HO.out HW.out) q)
          have HNW := Lib.hid (fun q => (show OwnE (w2.drewN q) w2.heap.size (.slice none 0 0) [] from World.ownsRow_nil _ _ _ _))
          have HE1 := Lib.hid (fun q => (Ents.of_own (HOW.out q)).first 0 (Nat.zero_le _))
          have HNV := Lib.hid (show nv ≤ 1000 by omega)
          go_wp2_with (at_builtin; refine ap_any rfl (.tmp 33) (.tmp 36) rfl w2.heap.size _ [] rfl (HNW.out _) _ _ _ _ _ rfl (HE1.out _) (by have := HNV.out; simp only [List.length_nil]; omega) (Nat.le_refl _) ?_)
          intro v1 w3 ho1 hg1 hv1
          have HB3 := Lib.hid ((below_drew_n (Below.refl w2.heap.size w2) _).grown hg1 (by simp) (fun k h => by cases h))
          have HO1 := Lib.hid (show OwnE w3 w2.heap.size v1 (L.take 0) from by simpa using ho1)
          clear ho1 hg1 hv1 hs1 f0 f1 f2 f3 f4 f5
          have HBW := Lib.hid (HB.out.trans (HW.out.mono HB.out.size))
          obtain ⟨f0, f1, f2, f3, f4, f5⟩ := HC.out w3 (HBW.out.trans (HB3.out.mono HBW.out.size))
          have HE2 := Lib.hid (Ents.box (w := w3) y)
          have HO1b := Lib.hid (OwnE.below HO1.out (show Below w3.heap.size w3 (w3.alloc (entO y)) from (Below.refl _ _).alloc (Nat.le_refl _) _))
          have HA3 := Lib.hid (show w3.heap.size ≤ (w3.alloc (entO y)).heap.size by simp)
          unfold entO at HE2 HO1b HA3
          go_wp2_with (at_builtin; refine ap_any rfl (.tmp 38) (.tmp 43) rfl w2.heap.size _ (L.take 0) rfl HO1b.out _ _ _ _ _ rfl HE2.out (by have := HNV.out; simp only [List.length_append, List.length_nil, List.length_take]; omega) (by have := HB3.out.size; have := HA3.out; omega) ?_)
          intro v2 w4 ho2 hg2 hv2
          have HB4 := Lib.hid ((HB3.out.alloc HB3.out.size (entO y)).grown hg2 (by have := HB3.out.size; simp [entO]; omega) (fun k h => (HO1.out.lt k h).1))
          have HOV := Lib.hid (OwnE.below HO.out (HW.out.trans (HB4.out.mono HW.out.size)))
          have HO2 := Lib.hid (show OwnE w4 w2.heap.size v2 (L.take 0 ++ [y]) from by simpa using ho2)
          clear ho2 hg2 hv2 HE2 HO1b HO1 f0 f1 f2 f3 f4 f5
          have HE3 := Lib.hid (Ents.of_own HOV.out)
          go_wp2_with (at_builtin; refine ap_any rfl (.tmp 45) (.tmp 48) rfl w2.heap.size _ (L.take 0 ++ [y]) rfl HO2.out _ _ _ _ _ rfl HE3.out (by have := HNV.out; simp only [List.length_append, List.length_nil, List.length_take, List.length_cons]; omega) HB4.out.size ?_)
          intro v3 w5 ho3 hg3 hv3
          have HB5 := Lib.hid (HB4.out.grown hg3 HB4.out.size (fun k h => (HO2.out.lt k h).1))
          have HO3 := Lib.hid (show OwnE w5 w.heap.size v3 (srt Ent.loc (l.take (nv + 1))) from by
            rw [HSS.out, HIN.out]
            have h := OwnE.mono ho3 HBW.out.size
            simpa using h)
          clear ho3 hg3 hv3
          go_wp2
          go_roundw
          case rel => exact ⟨nv + 1, by have := HI.out; omega, by go_num, HO3, Lib.hid (HBW.out.trans (HB5.out.mono HBW.out.size))⟩
          case measure => have := HI.out; simp [intOf]; omega
        · obtain ⟨i, rfl⟩ : ∃ i, j = i + 1 := ⟨j - 1, by omega⟩
          have HEV := Lib.hid (Ents.of_own (HO.out.below HW.out))
          obtain ⟨z, bz, oz, hz, rfl, hbz, hSz, hcz⟩ := HEV.out.at i (by omega)
          obtain ⟨g0, g1, g2, g3, g4, g5⟩ := hcz w2 (Below.refl _ _)
          have hj3 : (i : Int) < (nv : Int) := by omega
          have hj4 : (0 : Int) ≤ (i : Int) := by omega
          have HZ := Lib.hid hz
          have hjl : i + 1 ≤ nv := hj
          clear hz hbz hSz hcz hj0 hji hj
          by_cases hzy : y.loc < z.loc
          · have HDN := Lib.hid (show ∀ u ∈ L.drop i, y.loc < u.loc from fun u hu => by
              have hlt : i < L.length := by rw [HSL.out]; omega
              rw [List.drop_eq_getElem_cons hlt] at hu
              rcases List.mem_cons.1 hu with rfl | hu
              · have := HZ.out
                rw [List.getElem?_eq_getElem hlt] at this
                injection this with this
                rw [this]; exact hzy
              · exact HD.out u hu)
            clear HD
            go_wp2
            go_quiet (fail)
            go_wp2
            go_roundw
            case rel => exact ⟨i, by omega, by go_num, HDN, HDW.out _⟩
            case measure => simp [intOf]
          · have HIN := Lib.hid (ins_split HAS.out (fun u _ hu => by rw [Nat.add_sub_cancel, HZ.out] at hu; injection hu with hu; subst hu; omega) HD.out (by rw [HSL.out]; exact hjl))
            clear HD
            go_wp2
            go_quiet (fail)
            obtain ⟨A2, hA2⟩ : ∃ A2, A2 = (if cv = (i + 1) then (some ⟨bz, oz, none⟩) else ((some ⟨bz, oz, none⟩) : Option Addr).map (fun x => x.add ((i + 1) * 6))) := ⟨_, rfl⟩
            have hs1 : ∀ W, (Instr.slice 22 (.slice (some ⟨bz, oz, none⟩) nv cv) none (some (.int .i64 ((i : Int) + 1))) none).run Tryd.prog W = .ok (.slice (some ⟨bz, oz, none⟩) (i + 1) cv) W := fun W => sl_h W (some ⟨bz, oz, none⟩) nv cv (i + 1) (Nat.le_trans (hjl) hcv)
            have hs2 : ∀ W, (Instr.slice 22 (.slice (some ⟨bz, oz, none⟩) nv cv) (some (.int .i64 ((i : Int) + 1))) none none).run Tryd.prog W = .ok (.slice A2 (nv - (i + 1)) (cv - (i + 1))) W := fun W => by rw [hA2]; exact sl_l W (some ⟨bz, oz, none⟩) nv cv (i + 1) (hjl)
            have HA2 := Lib.hid hA2
            have HOW := Lib.hid (fun q => OwnE.drew_n (OwnE.below HO.out HW.out) q)
            have HNW := Lib.hid (fun q => (show OwnE (w2.drewN q) w2.heap.size (.slice none 0 0) [] from World.ownsRow_nil _ _ _ _))
            have HE1 := Lib.hid (fun q => (Ents.of_own (HOW.out q)).first (i + 1) (hjl))
            have HNV := Lib.hid (show nv ≤ 1000 by omega)
            clear hA2
            go_wp2_with (at_builtin; refine ap_any rfl (.tmp 33) (.tmp 36) rfl w2.heap.size _ [] rfl (HNW.out _) _ _ _ _ _ rfl (HE1.out _) (by have := HNV.out; simp only [List.length_nil]; omega) (Nat.le_refl _) ?_)
            intro v1 w3 ho1 hg1 hv1
            have HB3 := Lib.hid ((below_drew_n (Below.refl w2.heap.size w2) _).grown hg1 (by simp) (fun k h => by cases h))
            have HO1 := Lib.hid (show OwnE w3 w2.heap.size v1 (L.take (i + 1)) from by simpa using ho1)
            clear ho1 hg1 hv1 hs1 f0 f1 f2 f3 f4 f5
            have HBW := Lib.hid (HB.out.trans (HW.out.mono HB.out.size))
            obtain ⟨f0, f1, f2, f3, f4, f5⟩ := HC.out w3 (HBW.out.trans (HB3.out.mono HBW.out.size))
            have HE2 := Lib.hid (Ents.box (w := w3) y)
            have HO1b := Lib.hid (OwnE.below HO1.out (show Below w3.heap.size w3 (w3.alloc (entO y)) from (Below.refl _ _).alloc (Nat.le_refl _) _))
            have HA3 := Lib.hid (show w3.heap.size ≤ (w3.alloc (entO y)).heap.size by simp)
            unfold entO at HE2 HO1b HA3
            go_wp2_with (at_builtin; refine ap_any rfl (.tmp 38) (.tmp 43) rfl w2.heap.size _ (L.take (i + 1)) rfl HO1b.out _ _ _ _ _ rfl HE2.out (by have := HNV.out; simp only [List.length_append, List.length_nil, List.length_take]; omega) (by have := HB3.out.size; have := HA3.out; omega) ?_)
            intro v2 w4 ho2 hg2 hv2
            have HB4 := Lib.hid ((HB3.out.alloc HB3.out.size (entO y)).grown hg2 (by have := HB3.out.size; simp [entO]; omega) (fun k h => (HO1.out.lt k h).1))
            have HOV := Lib.hid (OwnE.below HO.out (HW.out.trans (HB4.out.mono HW.out.size)))
            have HO2 := Lib.hid (show OwnE w4 w2.heap.size v2 (L.take (i + 1) ++ [y]) from by simpa using ho2)
            clear ho2 hg2 hv2 HE2 HO1b HO1 f0 f1 f2 f3 f4 f5
            have HE3 := Lib.hid ((Ents.of_own HOV.out).cut (cap := cv) (k := (i + 1)) (hjl) hcv)
            rw [← HA2.out] at HE3
            go_wp2_with (at_builtin; refine ap_any rfl (.tmp 45) (.tmp 48) rfl w2.heap.size _ (L.take (i + 1) ++ [y]) rfl HO2.out _ _ _ _ _ rfl HE3.out (by have := HNV.out; simp only [List.length_append, List.length_nil, List.length_take, List.length_cons]; omega) HB4.out.size ?_)
            intro v3 w5 ho3 hg3 hv3
            have HB5 := Lib.hid (HB4.out.grown hg3 HB4.out.size (fun k h => (HO2.out.lt k h).1))
            have HO3 := Lib.hid (show OwnE w5 w.heap.size v3 (srt Ent.loc (l.take (nv + 1))) from by
              rw [HSS.out, HIN.out]
              have h := OwnE.mono ho3 HBW.out.size
              simpa using h)
            clear ho3 hg3 hv3
            go_wp2
            go_roundw
            case rel => exact ⟨nv + 1, by have := HI.out; omega, by go_num, HO3, Lib.hid (HBW.out.trans (HB5.out.mono HBW.out.size))⟩
            case measure => have := HI.out; simp [intOf]; omega
    · have hkn : ¬ ((k : Int) < (n : Int)) := by omega
      have HF := Lib.hid (show l.take k = l from List.take_of_length_le (by have := HLN.out; omega))
      rw [HF.out] at HO
      obtain ⟨Av, nv, cv, rfl, hnv, hAv, hcv, hgv⟩ := HO.out.slice
      subst hnv
      go_wp2
      go_ret
      exact ⟨_, rfl, HO.out, HB.out⟩
end Go.Proofs.YtilapnejkdgomaaDoor
