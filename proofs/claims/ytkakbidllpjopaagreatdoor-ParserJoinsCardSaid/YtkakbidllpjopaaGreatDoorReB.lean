/- The walk of ParserJoins. Conditions: the laid tables and error variables (WW). -/
import Derived.Test.YtkakbidllpjopaaGreatDoorReA
import Derived.Test.YtkakbidllpjopaaGreatDoorW14
import Derived.Test.YtkakbidllpjopaaGreatDoorW15
set_option linter.unusedVariables false
set_option linter.unusedSimpArgs false
namespace Go.Proofs.YtkakbidllpjopaaGreatDoor
open Go.RowKit

theorem prP_lim2 (s : Str) : (prP s).1.Lim (s.length + 1) := by
  have hz : ∀ n, emP.Lim n := fun n => ⟨Nat.zero_le _, Nat.zero_le _, fun o ho => by cases ho⟩
  by_cases he : (Lx.scanL s).2.2 = 0
  · cases hp : pP ((Lx.scanL s).1.map tkq) with
    | bad r => rw [prP_bad he hp]; exact hz _
    | ok p r =>
      rw [prP_ok he hp]
      split
      · have hl := (size_pP hp).1
        rw [List.length_map] at hl
        have hn := (scan_ok he).2.2.2.1
        dsimp only
        exact ⟨by have := hl.1; omega, by have := hl.2.1; omega, fun o ho => by have := hl.2.2 o ho; omega⟩
      · exact hz _
  · rw [prP_err he]; exact hz _
theorem PV.parts {w : World} {S : Nat → Prop} {p : Prog'} {D O : Option Addr} {nd cd no co : Nat} (h : PV w S p (.agg #[.slice D nd cd, .slice O no co])) : DL w S D nd cd p.stores ∧ OL w S O no co p.opers := by
  obtain ⟨D', nd', cd', O', no', co', e, h1, h2⟩ := h
  injection e with e
  have e1 := congrArg (fun a : Array Value => a[0]?) e
  have e2 := congrArg (fun a : Array Value => a[1]?) e
  simp at e1 e2
  obtain ⟨rfl, rfl, rfl⟩ := e1
  obtain ⟨rfl, rfl, rfl⟩ := e2
  exact ⟨h1, h2⟩
set_option maxRecDepth 100000 in
set_option maxHeartbeats 12800000 in
theorem joins_longa (a b : Str) (w : World) (hw : WW w) (hl : 600 < a.length) : Calls Tryz.prog 8 #[.string (bs a), .string (bs b)] w fun e w' => e = .returned (.bool true) ∧ Below w.heap.size w w' := by
  have HW := Lib.hid hw
  have B := Lib.hid (Below.refl w.heap.size w)
  have hsa := bs_size a
  have hsb := bs_size b
  have hli : (600 : Int) < (a.length : Int) := by omega
  have hld : decide ((600 : Int) < (a.length : Int)) = true := decide_eq_true hli
  clear hw hl
  go_enter Tryz.func8, Tryz.ntmps8
  go_wp2_with fail
  refine (awake_any _ (HW.out.below B.out)).mono ?_
  rintro e wk ⟨rfl, hb⟩
  obtain h0 := B.out
  clear B
  have B := Lib.hid (h0.trans (hb.mono h0.size))
  clear h0
  clear hb
  go_wp2
  go_ret
  exact ⟨rfl, B.out⟩
set_option maxRecDepth 100000 in
set_option maxHeartbeats 12800000 in
theorem joins_longb (a b : Str) (w : World) (hw : WW w) (hl : ¬ 600 < a.length) (hm : 600 < b.length) : Calls Tryz.prog 8 #[.string (bs a), .string (bs b)] w fun e w' => e = .returned (.bool true) ∧ Below w.heap.size w w' := by
  have HW := Lib.hid hw
  have B := Lib.hid (Below.refl w.heap.size w)
  have hsa := bs_size a
  have hsb := bs_size b
  have hli : (a.length : Int) ≤ 600 := by omega
  have hld : decide ((600 : Int) < (a.length : Int)) = false := decide_eq_false (by omega)
  have hmi : (600 : Int) < (b.length : Int) := by omega
  have hmd : decide ((600 : Int) < (b.length : Int)) = true := decide_eq_true hmi
  clear hw hl hm
  go_enter Tryz.func8, Tryz.ntmps8
  go_wp2_with fail
  refine (awake_any _ (HW.out.below B.out)).mono ?_
  rintro e wk ⟨rfl, hb⟩
  obtain h0 := B.out
  clear B
  have B := Lib.hid (h0.trans (hb.mono h0.size))
  clear h0
  clear hb
  go_wp2
  go_ret
  exact ⟨rfl, B.out⟩
set_option maxRecDepth 100000 in
set_option maxHeartbeats 12800000 in
theorem joins_yes (a b : Str) (w : World) (hw : WW w) (hl : ¬ 600 < a.length) (hm : ¬ 600 < b.length) : Calls Tryz.prog 8 #[.string (bs a), .string (bs b)] w fun e w' => e = .returned (.bool true) ∧ Below w.heap.size w w' := by
  have HW := Lib.hid hw
  have B := Lib.hid (Below.refl w.heap.size w)
  have hsa := bs_size a
  have hsb := bs_size b
  have hli : (a.length : Int) ≤ 600 := by omega
  have hld : decide ((600 : Int) < (a.length : Int)) = false := decide_eq_false (by omega)
  have hmi : (b.length : Int) ≤ 600 := by omega
  have hmd : decide ((600 : Int) < (b.length : Int)) = false := decide_eq_false (by omega)
  have hla : a.length ≤ 600 := by omega
  have hlb : b.length ≤ 600 := by omega
  have K1 := Lib.hid (parse_any a w hw (by omega))
  have K2 := Lib.hid (show ∀ W, Below w.heap.size w W → _ from fun W hb => parse_any b W (hw.below hb) (by omega))
  have K3 := Lib.hid (show ∀ W, Below w.heap.size w W → Calls Tryz.prog 14 #[.string (bs (a ++ [10] ++ b))] W fun e w' => ∃ v, e = .returned (.tuple #[v, .int .i64 (prP (a ++ [10] ++ b)).2.1, .int .i64 (prP (a ++ [10] ++ b)).2.2]) ∧ PV w' (fun b => W.heap.size ≤ b) (prP (a ++ [10] ++ b)).1 v ∧ Below W.heap.size W w' from fun W hb => parse_any _ W (hw.below hb) (by simp only [List.length_append, List.length_singleton]; omega))
  have HJ := Lib.hid (fun ha hb => prP_join (a := a) (b := b) ha hb hla hlb)
  have l1 := prP_lim2 a
  have l2 := prP_lim2 b
  have lb := both_lim l1 l2
  have BFEW := Lib.hid (Lim.few lb (by omega))
  have BFIT := Lib.hid (Lim.fit lb (by omega))
  have LIM := Lib.hid (show (prP a).1.Lim 601 ∧ (prP b).1.Lim 601 from ⟨⟨by have := l1.1; omega, by have := l1.2.1; omega, fun o ho => by have := l1.2.2 o ho; omega⟩, ⟨by have := l2.1; omega, by have := l2.2.1; omega, fun o ho => by have := l2.2.2 o ho; omega⟩⟩)
  clear l1 l2 lb
  obtain ⟨ab, hab⟩ : ∃ z : Str, z = a ++ [10] ++ b := ⟨_, rfl⟩
  rw [← hab] at K3 HJ
  have HAB := Lib.hid hab
  clear hab
  generalize prP ab = T3 at *
  generalize prP a = T1 at *
  generalize prP b = T2 at *
  obtain ⟨p, z1, r1⟩ := T1
  obtain ⟨q, z2, r2⟩ := T2
  obtain ⟨y3, z3, r3⟩ := T3
  dsimp only at *
  obtain ⟨⟨m1, m2, -⟩, ⟨m3, m4, -⟩⟩ := LIM.out
  clear LIM
  have LIM := Lib.hid (show (p.stores.length ≤ 601 ∧ p.opers.length ≤ 601) ∧ q.stores.length ≤ 601 ∧ q.opers.length ≤ 601 from ⟨⟨m1, m2⟩, m3, m4⟩)
  clear m1 m2 m3 m4 hw hl hm
  go_enter Tryz.func8, Tryz.ntmps8
  go_wp2_with fail
  refine K1.out.mono ?_
  rintro e w1 ⟨v1, rfl, hv, hb⟩
  obtain h0 := B.out
  clear B
  have B := Lib.hid (h0.trans (hb.mono h0.size))
  clear h0
  clear hb K1
  obtain ⟨D1, nd1, cd1, O1, no1, co1, rfl, -, -⟩ := id hv
  obtain ⟨w1b, hwb⟩ : ∃ W, W = w1.alloc (.cells #[.slice D1 nd1 cd1, .slice O1 no1 co1] 36) := ⟨_, rfl⟩
  have hb : Below w1.heap.size w1 w1b := by rw [hwb]; exact (Below.refl _ _).alloc (Nat.le_refl _) _
  have P1 := Lib.hid (show HB 36 w1b w1.heap.size #[.slice D1 nd1 cd1, .slice O1 no1 co1] from by rw [hwb]; exact heap_alloc_new w1 _)
  have V1 := Lib.hid (hv.below hb)
  obtain h0 := B.out
  clear B
  have B := Lib.hid (h0.trans (hb.mono h0.size))
  clear h0
  clear hb hv
  go_upto_region 4 with fail
  rw [← hwb]
  clear hwb
  generalize w1.heap.size = pb1 at *
  have K2b := Lib.hid (K2.out w1b B.out)
  clear K2
  go_wp2_with fail
  refine K2b.out.mono ?_
  rintro e w2 ⟨v2, rfl, hv, hb⟩
  obtain h0 := P1.out
  clear P1
  have P1 := Lib.hid (h0.below hb)
  clear h0
  obtain h0 := V1.out
  clear V1
  have V1 := Lib.hid (h0.below hb)
  clear h0
  obtain h0 := B.out
  clear B
  have B := Lib.hid (h0.trans (hb.mono h0.size))
  clear h0
  clear hb K2b
  obtain ⟨D2, nd2, cd2, O2, no2, co2, rfl, -, -⟩ := id hv
  obtain ⟨w2b, hwb⟩ : ∃ W, W = w2.alloc (.cells #[.slice D2 nd2 cd2, .slice O2 no2 co2] 36) := ⟨_, rfl⟩
  have hb : Below w2.heap.size w2 w2b := by rw [hwb]; exact (Below.refl _ _).alloc (Nat.le_refl _) _
  have P2 := Lib.hid (show HB 36 w2b w2.heap.size #[.slice D2 nd2 cd2, .slice O2 no2 co2] from by rw [hwb]; exact heap_alloc_new w2 _)
  have V2 := Lib.hid (hv.below hb)
  obtain h0 := P1.out
  clear P1
  have P1 := Lib.hid (h0.below hb)
  clear h0
  obtain h0 := V1.out
  clear V1
  have V1 := Lib.hid (h0.below hb)
  clear h0
  obtain h0 := B.out
  clear B
  have B := Lib.hid (h0.trans (hb.mono h0.size))
  clear h0
  clear hb hv
  go_upto_region 5 with fail
  rw [← hwb]
  clear hwb
  generalize w2.heap.size = pb2 at *
  by_cases h1 : r1 = 0
  · subst h1
    by_cases h2 : r2 = 0
    · subst h2
      obtain ⟨wB, hwB⟩ : ∃ W, W = w2b.alloc (.cells #[.slice none 0 0, .slice none 0 0] 36) := ⟨_, rfl⟩
      have hb : Below w2b.heap.size w2b wB := by rw [hwB]; exact (Below.refl _ _).alloc (Nat.le_refl _) _
      have OB := Lib.hid (show HB 36 wB w2b.heap.size #[.slice none 0 0, .slice none 0 0] from by rw [hwB]; exact heap_alloc_new w2b _)
      obtain ⟨ob, hob⟩ : ∃ z, z = w2b.heap.size := ⟨_, rfl⟩
      have HPO := Lib.hid (show pb1 < ob ∧ pb2 < ob ∧ w.heap.size ≤ ob from by rw [hob]; exact ⟨HB.lt P1.out, HB.lt P2.out, B.out.size⟩)
      obtain h3 := V1.out
      obtain h4 := V2.out
      clear V1 V2
      have V1 := Lib.hid (h3.more (S' := fun k => k < ob) (fun k hk _ => by rw [hob]; exact hk))
      have V2 := Lib.hid (h4.more (S' := fun k => k < ob) (fun k hk _ => by rw [hob]; exact hk))
      clear h3 h4
      obtain h0 := P1.out
      clear P1
      have P1 := Lib.hid (h0.below hb)
      clear h0
      obtain h0 := P2.out
      clear P2
      have P2 := Lib.hid (h0.below hb)
      clear h0
      obtain h0 := V1.out
      clear V1
      have V1 := Lib.hid (h0.below hb)
      clear h0
      obtain h0 := V2.out
      clear V2
      have V2 := Lib.hid (h0.below hb)
      clear h0
      obtain h0 := B.out
      clear B
      have B := Lib.hid (h0.trans (hb.mono h0.size))
      clear h0
      rw [← hob] at OB
      clear hb
      go_upto_region 8 with fail
      rw [← hwB, ← hob]
      clear hwB hob
      have g1 : wB.cell? ⟨pb1, 0, none⟩ = some (.slice D1 nd1 cd1) := HB.cell P1.out 0
      have g2 : wB.cell? ⟨pb2, 0, none⟩ = some (.slice D2 nd2 cd2) := HB.cell P2.out 0
      refine wp_region_held_drew (S := fun W => W.cell? ⟨pb1, 0, none⟩ = some (.slice D1 nd1 cd1) ∧ W.cell? ⟨pb2, 0, none⟩ = some (.slice D2 nd2 cd2)) (by kernel_rfl) ⟨g1, g2⟩ (fun hHeld => ?_)
      have hb : Below wB.heap.size wB wB.drew := (Below.refl _ _).drew
      obtain h0 := P1.out
      clear P1
      have P1 := Lib.hid (h0.below hb)
      clear h0
      obtain h0 := P2.out
      clear P2
      have P2 := Lib.hid (h0.below hb)
      clear h0
      obtain h0 := V1.out
      clear V1
      have V1 := Lib.hid (h0.below hb)
      clear h0
      obtain h0 := V2.out
      clear V2
      have V2 := Lib.hid (h0.below hb)
      clear h0
      obtain h0 := OB.out
      clear OB
      have OB := Lib.hid (h0.below hb)
      clear h0
      obtain h0 := B.out
      clear B
      have B := Lib.hid (h0.trans (hb.mono h0.size))
      clear h0
      have HLO := Lib.hid (show ob + 1 ≤ wB.drew.heap.size from HB.lt OB.out)
      clear hb g1 g2
      generalize wB.drew = wq at *
      refine wpAnyH_take (i := 0) (oi := ⟨some 45, _, _, _, _, _⟩) (v := .pointer (some ⟨ob, 0, none⟩)) rfl (by kernel_rfl) (by kernel_rfl) (by kernel_rfl) (fun _ _ _ h => h) (Or.inl ⟨by rfl, ?_⟩) hHeld ?_
      · intro W' hW
        obtain ⟨g1, g2⟩ := hW
        go_simp
      try simp only [Act.put, List.setIfInBounds_toArray, List.set_cons_zero, List.set_cons_succ]
      refine wpAnyH_take (i := 2) (oi := ⟨some 47, _, _, _, _, _⟩) (v := .pointer (some ⟨pb1, 0, none⟩)) rfl (by kernel_rfl) (by kernel_rfl) (by kernel_rfl) (fun _ _ _ h => h) (Or.inl ⟨by rfl, ?_⟩) hHeld ?_
      · intro W' hW
        obtain ⟨g1, g2⟩ := hW
        go_simp
      try simp only [Act.put, List.setIfInBounds_toArray, List.set_cons_zero, List.set_cons_succ]
      refine wpAnyH_take (i := 3) (oi := ⟨some 48, _, _, _, _, _⟩) (v := .slice D1 nd1 cd1) rfl (by kernel_rfl) (by kernel_rfl) (by kernel_rfl) (fun _ _ _ h => h) (Or.inl ⟨by rfl, ?_⟩) hHeld ?_
      · intro W' hW
        obtain ⟨g1, g2⟩ := hW
        go_simp
      try simp only [Act.put, List.setIfInBounds_toArray, List.set_cons_zero, List.set_cons_succ]
      refine wpAnyH_take (i := 5) (oi := ⟨some 50, _, _, _, _, _⟩) (v := .pointer (some ⟨pb2, 0, none⟩)) rfl (by kernel_rfl) (by kernel_rfl) (by kernel_rfl) (fun _ _ _ h => h) (Or.inl ⟨by rfl, ?_⟩) hHeld ?_
      · intro W' hW
        obtain ⟨g1, g2⟩ := hW
        go_simp
      try simp only [Act.put, List.setIfInBounds_toArray, List.set_cons_zero, List.set_cons_succ]
      refine wpAnyH_take (i := 6) (oi := ⟨some 51, _, _, _, _, _⟩) (v := .slice D2 nd2 cd2) rfl (by kernel_rfl) (by kernel_rfl) (by kernel_rfl) (fun _ _ _ h => h) (Or.inl ⟨by rfl, ?_⟩) hHeld ?_
      · intro W' hW
        obtain ⟨g1, g2⟩ := hW
        go_simp
      try simp only [Act.put, List.setIfInBounds_toArray, List.set_cons_zero, List.set_cons_succ]
      obtain ⟨v1, wx, run1, own1, gr1, ow1⟩ := (OwnR.nil (V := DcV) (e := 83) (size := 2) (S := fun k => k < ob) wq (ob + 1)).apps (t := 33) (ty := 33) okDcV apk_d (V1.out.parts.1).2 (V1.out.parts.1).1 (by have := LIM.out.1; have := (V1.out.parts.1).1; simp only [List.length_nil]; omega) HLO.out (fun k e => by cases e)
      have hbx : Below wq.heap.size wq wx := ⟨gr1.os, gr1.tape, gr1.output, gr1.size, fun k hk => gr1.block k hk (by intro e; cases e)⟩
      have hv1 : ∀ k, v1.ownBlock = some k → k = wq.heap.size := fun k e => by
        rcases ow1 with h | h
        · rw [h] at e; cases e
        · rw [h] at e; exact (Option.some.inj e).symm
      have V2x := V2.out.below hbx
      obtain ⟨v2, wy, run2, own2, gr2, ow2⟩ := own1.apps (t := 33) (ty := 33) okDcV apk_d (V2x.parts.1).2 (V2x.parts.1).1 (by have := LIM.out.2; have := LIM.out.1; have := (V2x.parts.1).1; simp only [List.nil_append]; omega) (Nat.le_trans HLO.out gr1.size) (fun k e => by have := hv1 k e; have := HLO.out; omega)
      have hby : Below wq.heap.size wx wy := ⟨gr2.os, gr2.tape, gr2.output, gr2.size, fun k hk => gr2.block k (Nat.lt_of_lt_of_le hk gr1.size) (fun e => by have := hv1 k e.symm; omega)⟩
      have hb : Below wq.heap.size wq wy := hbx.trans hby
      obtain ⟨Aq, cq, rfl, -⟩ := own1.row okDcV
      obtain ⟨Ar, cr, rfl, -⟩ := own2.row okDcV
      obtain ⟨mq, hmq⟩ : ∃ m, m = ([] ++ p.stores).length := ⟨_, rfl⟩
      rw [← hmq] at run1 run2 hv1 ow1 own1 ow2
      obtain ⟨mr, hmr⟩ : ∃ m, m = ([] ++ p.stores ++ q.stores).length := ⟨_, rfl⟩
      rw [← hmr] at run2 own2 ow2
      clear hmq hmr
      have hlt2 : ∀ k, (Value.slice Ar mr cr).ownBlock = some k → wq.heap.size ≤ k := fun k e => by
        rcases ow2 with h | h
        · rw [h] at e; exact Nat.le_of_eq (hv1 k e).symm
        · rw [h] at e; have := Option.some.inj e; have := gr1.size; omega
      have HR1 := Lib.hid run1
      have HR2 := Lib.hid run2
      have W2 := Lib.hid own2
      have HLT2 := Lib.hid hlt2
      have HBY := Lib.hid hb
      have cob : wq.cell? ⟨ob, 0, none⟩ = some (.slice none 0 0) := HB.cell OB.out 0
      have GG := Lib.hid (show wx.cell? ⟨pb1, 0, none⟩ = some (.slice D1 nd1 cd1) ∧ wx.cell? ⟨pb2, 0, none⟩ = some (.slice D2 nd2 cd2) from ⟨HB.cell (P1.out.below hbx) 0, HB.cell (P2.out.below hbx) 0⟩)
      clear run1 run2 own1 own2 gr1 gr2 ow1 ow2 hv1 hbx hby hb V2x hlt2
      refine wpAnyH_ready (rs := [1]) (by kernel_rfl) (by simp) ?_
      refine AllReadyH.cons (o := ⟨some 46, _, _, _, _, _⟩) rfl (fun K hK => ?_) AllReadyH.nil
      go_simp
      refine hK.out _ _ hHeld (fun _ => ?_)
      clear hK cob
      try simp only [Act.put, List.setIfInBounds_toArray, List.set_cons_zero, List.set_cons_succ]
      refine wpAnyH_ready (rs := [4]) (by kernel_rfl) (by simp) ?_
      refine AllReadyH.cons (o := ⟨some 49, _, _, _, _, _⟩) rfl (fun K hK => ?_) AllReadyH.nil
      refine step_app rfl _ _ 33 rfl _ _ rfl rfl HR1.out ?_
      refine hK.out _ _ GG.out (fun hHeld2 => ?_)
      clear hK hHeld HR1
      try simp only [Act.put, List.setIfInBounds_toArray, List.set_cons_zero, List.set_cons_succ]
      refine wpAnyH_ready (rs := [7]) (by kernel_rfl) (by simp) ?_
      refine AllReadyH.cons (o := ⟨some 52, _, _, _, _, _⟩) rfl (fun K hK => ?_) AllReadyH.nil
      refine step_app rfl _ _ 33 rfl _ _ rfl rfl HR2.out ?_
      clear HR2
      have hb := HBY.out
      obtain h0 := P1.out
      clear P1
      have P1 := Lib.hid (h0.below hb)
      clear h0
      obtain h0 := P2.out
      clear P2
      have P2 := Lib.hid (h0.below hb)
      clear h0
      obtain h0 := V1.out
      clear V1
      have V1 := Lib.hid (h0.below hb)
      clear h0
      obtain h0 := V2.out
      clear V2
      have V2 := Lib.hid (h0.below hb)
      clear h0
      obtain h0 := OB.out
      clear OB
      have OB := Lib.hid (h0.below hb)
      clear h0
      obtain h0 := B.out
      clear B
      have B := Lib.hid (h0.trans (hb.mono h0.size))
      clear h0
      clear hb GG hHeld2
      have hHeld : wy.cell? ⟨pb1, 0, none⟩ = some (.slice D1 nd1 cd1) ∧ wy.cell? ⟨pb2, 0, none⟩ = some (.slice D2 nd2 cd2) := ⟨HB.cell P1.out 0, HB.cell P2.out 0⟩
      refine hK.out _ _ hHeld (fun _ => ?_)
      clear hK
      try simp only [Act.put, List.setIfInBounds_toArray, List.set_cons_zero, List.set_cons_succ]
      refine wpAnyH_take (i := 8) (oi := ⟨some 53, _, _, _, _, _⟩) (v := .pointer (some ⟨ob, 0, none⟩)) rfl (by kernel_rfl) (by kernel_rfl) (by kernel_rfl) (fun _ _ _ h => h) (Or.inl ⟨by rfl, ?_⟩) hHeld ?_
      · intro W' hW
        obtain ⟨g1, g2⟩ := hW
        go_simp
      try simp only [Act.put, List.setIfInBounds_toArray, List.set_cons_zero, List.set_cons_succ]
      refine wpAnyH_ready (rs := [9]) (by kernel_rfl) (by simp) ?_
      refine AllReadyH.cons (o := ⟨none, _, _, _, _, _⟩) rfl (fun K hK => ?_) AllReadyH.nil
      have cob : wy.cell? ⟨ob, 0, none⟩ = some (.slice none 0 0) := HB.cell OB.out 0
      have fob : wy.frozen? ⟨ob, 0, none⟩ = false := HB.free OB.out 0
      go_simp
      clear cob fob hHeld
      have gb := gr_put wy ob 0 (.slice Ar mr cr)
      have hob := HB.set OB.out 0 (.slice Ar mr cr)
      obtain ⟨w8, hwn⟩ : ∃ W, W = wy.setCell ⟨ob, 0, none⟩ (.slice Ar mr cr) := ⟨_, rfl⟩
      rw [← hwn] at gb hob
      rw [← hwn]
      clear hwn OB
      have OB := Lib.hid (show HB 36 w8 ob #[.slice Ar mr cr, .slice none 0 0] from hob)
      have hS : ∀ k, some ob = some k → ∀ (b : Nat), b < ob → b ≠ k := fun k e b hb => by have := Option.some.inj e; omega
      obtain h1 := P1.out
      obtain h2 := P2.out
      obtain h3 := V1.out
      obtain h4 := V2.out
      obtain h5 := B.out
      obtain h6 := W2.out
      clear P1 P2 V1 V2 B W2
      have P1 := Lib.hid (h1.gr gb (by have := HPO.out; omega))
      have P2 := Lib.hid (h2.gr gb (by have := HPO.out; omega))
      have V1 := Lib.hid (h3.gr (S' := fun k => k < ob) gb (fun k _ hk => ⟨by omega, hk⟩))
      have V2 := Lib.hid (h4.gr (S' := fun k => k < ob) gb (fun k _ hk => ⟨by omega, hk⟩))
      have B := Lib.hid (h5.trans (below_gr gb (B := w.heap.size) h5.size HPO.out.2.2))
      have R1 := Lib.hid (h6.gr okDcV gb (fun k e => ⟨fun e2 => by have := Option.some.inj e; have := HLT2.out k e2; have := HLO.out; omega, by have := Option.some.inj e; omega⟩))
      clear h1 h2 h3 h4 h5 h6 gb hob hS HLT2 HBY
      have hHeld : w8.cell? ⟨pb1, 0, none⟩ = some (.slice D1 nd1 cd1) ∧ w8.cell? ⟨pb2, 0, none⟩ = some (.slice D2 nd2 cd2) := ⟨HB.cell P1.out 0, HB.cell P2.out 0⟩
      refine hK.out _ _ hHeld (fun _ => ?_)
      clear hK hHeld HLO
      try simp only [Act.put, List.setIfInBounds_toArray, List.set_cons_zero, List.set_cons_succ]
      refine wpAnyH_done (by kernel_rfl) ?_ _
      go_upto_region 9 with fail
      have g1 : w8.cell? ⟨pb1, 1, none⟩ = some (.slice O1 no1 co1) := HB.cell P1.out 1
      have g2 : w8.cell? ⟨pb2, 1, none⟩ = some (.slice O2 no2 co2) := HB.cell P2.out 1
      refine wp_region_held_drew (S := fun W => W.cell? ⟨pb1, 1, none⟩ = some (.slice O1 no1 co1) ∧ W.cell? ⟨pb2, 1, none⟩ = some (.slice O2 no2 co2)) (by kernel_rfl) ⟨g1, g2⟩ (fun hHeld => ?_)
      have hb : Below w8.heap.size w8 w8.drew := (Below.refl _ _).drew
      obtain h0 := P1.out
      clear P1
      have P1 := Lib.hid (h0.below hb)
      clear h0
      obtain h0 := P2.out
      clear P2
      have P2 := Lib.hid (h0.below hb)
      clear h0
      obtain h0 := V1.out
      clear V1
      have V1 := Lib.hid (h0.below hb)
      clear h0
      obtain h0 := V2.out
      clear V2
      have V2 := Lib.hid (h0.below hb)
      clear h0
      obtain h0 := OB.out
      clear OB
      have OB := Lib.hid (h0.below hb)
      clear h0
      obtain h0 := B.out
      clear B
      have B := Lib.hid (h0.trans (hb.mono h0.size))
      clear h0
      obtain h0 := R1.out
      clear R1
      have R1 := Lib.hid (h0.gr okDcV (Below.grown_ hb none) (fun k e => by cases e))
      clear h0
      have HLO := Lib.hid (show ob + 1 ≤ w8.drew.heap.size from HB.lt OB.out)
      clear hb g1 g2
      generalize w8.drew = wq at *
      refine wpAnyH_take (i := 0) (oi := ⟨some 54, _, _, _, _, _⟩) (v := .pointer (some ⟨ob, 1, none⟩)) rfl (by kernel_rfl) (by kernel_rfl) (by kernel_rfl) (fun _ _ _ h => h) (Or.inl ⟨by rfl, ?_⟩) hHeld ?_
      · intro W' hW
        obtain ⟨g1, g2⟩ := hW
        go_simp
      try simp only [Act.put, List.setIfInBounds_toArray, List.set_cons_zero, List.set_cons_succ]
      refine wpAnyH_take (i := 2) (oi := ⟨some 56, _, _, _, _, _⟩) (v := .pointer (some ⟨pb1, 1, none⟩)) rfl (by kernel_rfl) (by kernel_rfl) (by kernel_rfl) (fun _ _ _ h => h) (Or.inl ⟨by rfl, ?_⟩) hHeld ?_
      · intro W' hW
        obtain ⟨g1, g2⟩ := hW
        go_simp
      try simp only [Act.put, List.setIfInBounds_toArray, List.set_cons_zero, List.set_cons_succ]
      refine wpAnyH_take (i := 3) (oi := ⟨some 57, _, _, _, _, _⟩) (v := .slice O1 no1 co1) rfl (by kernel_rfl) (by kernel_rfl) (by kernel_rfl) (fun _ _ _ h => h) (Or.inl ⟨by rfl, ?_⟩) hHeld ?_
      · intro W' hW
        obtain ⟨g1, g2⟩ := hW
        go_simp
      try simp only [Act.put, List.setIfInBounds_toArray, List.set_cons_zero, List.set_cons_succ]
      refine wpAnyH_take (i := 5) (oi := ⟨some 59, _, _, _, _, _⟩) (v := .pointer (some ⟨pb2, 1, none⟩)) rfl (by kernel_rfl) (by kernel_rfl) (by kernel_rfl) (fun _ _ _ h => h) (Or.inl ⟨by rfl, ?_⟩) hHeld ?_
      · intro W' hW
        obtain ⟨g1, g2⟩ := hW
        go_simp
      try simp only [Act.put, List.setIfInBounds_toArray, List.set_cons_zero, List.set_cons_succ]
      refine wpAnyH_take (i := 6) (oi := ⟨some 60, _, _, _, _, _⟩) (v := .slice O2 no2 co2) rfl (by kernel_rfl) (by kernel_rfl) (by kernel_rfl) (fun _ _ _ h => h) (Or.inl ⟨by rfl, ?_⟩) hHeld ?_
      · intro W' hW
        obtain ⟨g1, g2⟩ := hW
        go_simp
      try simp only [Act.put, List.setIfInBounds_toArray, List.set_cons_zero, List.set_cons_succ]
      obtain ⟨v1, wx, run1, own1, gr1, ow1⟩ := (OwnR.nil (V := OV) (e := 76) (size := 3) (S := fun k => k < ob) wq (ob + 1)).apps (t := 34) (ty := 34) okOV apk_o (V1.out.parts.2).2 (V1.out.parts.2).1 (by have := LIM.out.1; have := (V1.out.parts.2).1; simp only [List.length_nil]; omega) HLO.out (fun k e => by cases e)
      have hbx : Below wq.heap.size wq wx := ⟨gr1.os, gr1.tape, gr1.output, gr1.size, fun k hk => gr1.block k hk (by intro e; cases e)⟩
      have hv1 : ∀ k, v1.ownBlock = some k → k = wq.heap.size := fun k e => by
        rcases ow1 with h | h
        · rw [h] at e; cases e
        · rw [h] at e; exact (Option.some.inj e).symm
      have V2x := V2.out.below hbx
      obtain ⟨v2, wy, run2, own2, gr2, ow2⟩ := own1.apps (t := 34) (ty := 34) okOV apk_o (V2x.parts.2).2 (V2x.parts.2).1 (by have := LIM.out.2; have := LIM.out.1; have := (V2x.parts.2).1; simp only [List.nil_append]; omega) (Nat.le_trans HLO.out gr1.size) (fun k e => by have := hv1 k e; have := HLO.out; omega)
      have hby : Below wq.heap.size wx wy := ⟨gr2.os, gr2.tape, gr2.output, gr2.size, fun k hk => gr2.block k (Nat.lt_of_lt_of_le hk gr1.size) (fun e => by have := hv1 k e.symm; omega)⟩
      have hb : Below wq.heap.size wq wy := hbx.trans hby
      obtain ⟨Aq, cq, rfl, -⟩ := own1.row okOV
      obtain ⟨Ar2, cr2, rfl, -⟩ := own2.row okOV
      obtain ⟨mq, hmq⟩ : ∃ m, m = ([] ++ p.opers).length := ⟨_, rfl⟩
      rw [← hmq] at run1 run2 hv1 ow1 own1 ow2
      obtain ⟨mr2, hmr⟩ : ∃ m, m = ([] ++ p.opers ++ q.opers).length := ⟨_, rfl⟩
      rw [← hmr] at run2 own2 ow2
      clear hmq hmr
      have hlt2 : ∀ k, (Value.slice Ar2 mr2 cr2).ownBlock = some k → wq.heap.size ≤ k := fun k e => by
        rcases ow2 with h | h
        · rw [h] at e; exact Nat.le_of_eq (hv1 k e).symm
        · rw [h] at e; have := Option.some.inj e; have := gr1.size; omega
      have HR1 := Lib.hid run1
      have HR2 := Lib.hid run2
      have W2 := Lib.hid own2
      have HLT2 := Lib.hid hlt2
      have HBY := Lib.hid hb
      have cob : wq.cell? ⟨ob, 1, none⟩ = some (.slice none 0 0) := HB.cell OB.out 1
      have GG := Lib.hid (show wx.cell? ⟨pb1, 1, none⟩ = some (.slice O1 no1 co1) ∧ wx.cell? ⟨pb2, 1, none⟩ = some (.slice O2 no2 co2) from ⟨HB.cell (P1.out.below hbx) 1, HB.cell (P2.out.below hbx) 1⟩)
      clear run1 run2 own1 own2 gr1 gr2 ow1 ow2 hv1 hbx hby hb V2x hlt2
      refine wpAnyH_ready (rs := [1]) (by kernel_rfl) (by simp) ?_
      refine AllReadyH.cons (o := ⟨some 55, _, _, _, _, _⟩) rfl (fun K hK => ?_) AllReadyH.nil
      go_simp
      refine hK.out _ _ hHeld (fun _ => ?_)
      clear hK cob
      try simp only [Act.put, List.setIfInBounds_toArray, List.set_cons_zero, List.set_cons_succ]
      refine wpAnyH_ready (rs := [4]) (by kernel_rfl) (by simp) ?_
      refine AllReadyH.cons (o := ⟨some 58, _, _, _, _, _⟩) rfl (fun K hK => ?_) AllReadyH.nil
      refine step_app rfl _ _ 34 rfl _ _ rfl rfl HR1.out ?_
      refine hK.out _ _ GG.out (fun hHeld2 => ?_)
      clear hK hHeld HR1
      try simp only [Act.put, List.setIfInBounds_toArray, List.set_cons_zero, List.set_cons_succ]
      refine wpAnyH_ready (rs := [7]) (by kernel_rfl) (by simp) ?_
      refine AllReadyH.cons (o := ⟨some 61, _, _, _, _, _⟩) rfl (fun K hK => ?_) AllReadyH.nil
      refine step_app rfl _ _ 34 rfl _ _ rfl rfl HR2.out ?_
      clear HR2
      have hb := HBY.out
      obtain h0 := P1.out
      clear P1
      have P1 := Lib.hid (h0.below hb)
      clear h0
      obtain h0 := P2.out
      clear P2
      have P2 := Lib.hid (h0.below hb)
      clear h0
      obtain h0 := V1.out
      clear V1
      have V1 := Lib.hid (h0.below hb)
      clear h0
      obtain h0 := V2.out
      clear V2
      have V2 := Lib.hid (h0.below hb)
      clear h0
      obtain h0 := OB.out
      clear OB
      have OB := Lib.hid (h0.below hb)
      clear h0
      obtain h0 := B.out
      clear B
      have B := Lib.hid (h0.trans (hb.mono h0.size))
      clear h0
      obtain h0 := R1.out
      clear R1
      have R1 := Lib.hid (h0.gr okDcV (Below.grown_ hb none) (fun k e => by cases e))
      clear h0
      clear hb GG hHeld2
      have hHeld : wy.cell? ⟨pb1, 1, none⟩ = some (.slice O1 no1 co1) ∧ wy.cell? ⟨pb2, 1, none⟩ = some (.slice O2 no2 co2) := ⟨HB.cell P1.out 1, HB.cell P2.out 1⟩
      refine hK.out _ _ hHeld (fun _ => ?_)
      clear hK
      try simp only [Act.put, List.setIfInBounds_toArray, List.set_cons_zero, List.set_cons_succ]
      refine wpAnyH_take (i := 8) (oi := ⟨some 62, _, _, _, _, _⟩) (v := .pointer (some ⟨ob, 1, none⟩)) rfl (by kernel_rfl) (by kernel_rfl) (by kernel_rfl) (fun _ _ _ h => h) (Or.inl ⟨by rfl, ?_⟩) hHeld ?_
      · intro W' hW
        obtain ⟨g1, g2⟩ := hW
        go_simp
      try simp only [Act.put, List.setIfInBounds_toArray, List.set_cons_zero, List.set_cons_succ]
      refine wpAnyH_ready (rs := [9]) (by kernel_rfl) (by simp) ?_
      refine AllReadyH.cons (o := ⟨none, _, _, _, _, _⟩) rfl (fun K hK => ?_) AllReadyH.nil
      have cob : wy.cell? ⟨ob, 1, none⟩ = some (.slice none 0 0) := HB.cell OB.out 1
      have fob : wy.frozen? ⟨ob, 1, none⟩ = false := HB.free OB.out 1
      go_simp
      clear cob fob hHeld
      have gb := gr_put wy ob 1 (.slice Ar2 mr2 cr2)
      have hob := HB.set OB.out 1 (.slice Ar2 mr2 cr2)
      obtain ⟨w9, hwn⟩ : ∃ W, W = wy.setCell ⟨ob, 1, none⟩ (.slice Ar2 mr2 cr2) := ⟨_, rfl⟩
      rw [← hwn] at gb hob
      rw [← hwn]
      clear hwn OB
      have OB := Lib.hid (show HB 36 w9 ob #[.slice Ar mr cr, .slice Ar2 mr2 cr2] from hob)
      have hS : ∀ k, some ob = some k → ∀ (b : Nat), b < ob → b ≠ k := fun k e b hb => by have := Option.some.inj e; omega
      obtain h1 := P1.out
      obtain h2 := P2.out
      obtain h3 := V1.out
      obtain h4 := V2.out
      obtain h5 := B.out
      obtain h6 := W2.out
      clear P1 P2 V1 V2 B W2
      have P1 := Lib.hid (h1.gr gb (by have := HPO.out; omega))
      have P2 := Lib.hid (h2.gr gb (by have := HPO.out; omega))
      have V1 := Lib.hid (h3.gr (S' := fun k => k < ob) gb (fun k _ hk => ⟨by omega, hk⟩))
      have V2 := Lib.hid (h4.gr (S' := fun k => k < ob) gb (fun k _ hk => ⟨by omega, hk⟩))
      have B := Lib.hid (h5.trans (below_gr gb (B := w.heap.size) h5.size HPO.out.2.2))
      have R2 := Lib.hid (h6.gr okOV gb (fun k e => ⟨fun e2 => by have := Option.some.inj e; have := HLT2.out k e2; have := HLO.out; omega, by have := Option.some.inj e; omega⟩))
      obtain h0 := R1.out
      clear R1
      have R1 := Lib.hid (h0.gr okDcV gb (fun k e => ⟨fun e2 => by have := Option.some.inj e; have := (h0.lt k e2).1; omega, by have := Option.some.inj e; omega⟩))
      clear h0
      clear h1 h2 h3 h4 h5 h6 gb hob hS HLT2 HBY
      have hHeld : w9.cell? ⟨pb1, 1, none⟩ = some (.slice O1 no1 co1) ∧ w9.cell? ⟨pb2, 1, none⟩ = some (.slice O2 no2 co2) := ⟨HB.cell P1.out 1, HB.cell P2.out 1⟩
      refine hK.out _ _ hHeld (fun _ => ?_)
      clear hK hHeld HLO
      try simp only [Act.put, List.setIfInBounds_toArray, List.set_cons_zero, List.set_cons_succ]
      refine wpAnyH_done (by kernel_rfl) ?_ _
      obtain ⟨A1', c1', e1, d1⟩ := R1.out.row okDcV
      obtain ⟨A2', c2', e2, d2⟩ := R2.out.row okOV
      have VB := Lib.hid (show PV w9 (fun _ => True) (bothP p q) (.agg #[.slice Ar mr cr, .slice Ar2 mr2 cr2]) from ⟨Ar, mr, cr, Ar2, mr2, cr2, rfl, by injection e1 with e3 e4 e5; subst e3 e4 e5; exact ⟨by simp [bothP], d1⟩, by injection e2 with e3 e4 e5; subst e3 e4 e5; exact ⟨by simp [bothP], d2⟩⟩)
      clear e1 e2 d1 d2 R1 R2 P1 P2 V1 V2
      obtain ⟨c1, hc1⟩ : ∃ c, c = a ++ ([10] : Str) := ⟨_, rfl⟩
      have lc1 : c1.length = a.length + 1 := by rw [hc1]; exact List.length_append
      have jc1 : ∀ w, (Op.stringOp .add (bs a) (⟨#[10]⟩ : ByteArray)).run Tryz.prog w = .ok (.string (bs c1)) w := fun w => by rw [hc1]; exact add_big a ([10] : Str) (by first | omega | (simp; omega)) w
      obtain ⟨c2, hc2⟩ : ∃ c, c = c1 ++ b := ⟨_, rfl⟩
      have lc2 : c2.length = c1.length + b.length := by rw [hc2]; exact List.length_append
      have jc2 : ∀ w, (Op.stringOp .add (bs c1) (bs b)).run Tryz.prog w = .ok (.string (bs c2)) w := fun w => by rw [hc2]; exact add_big c1 b (by first | omega | (simp; omega)) w
      have hcc : c2 = ab := by rw [HAB.out, hc2, hc1]
      rw [hcc] at jc2
      clear hc1 hc2 hcc
      have K3b := Lib.hid (K3.out w9 B.out)
      clear K3
      go_wp2_with fail
      refine K3b.out.mono ?_
      rintro e w3 ⟨v3, rfl, hv, hb⟩
      obtain h0 := OB.out
      clear OB
      have OB := Lib.hid (h0.below hb)
      clear h0
      obtain h0 := VB.out
      clear VB
      have VB := Lib.hid (h0.below hb)
      clear h0
      obtain h0 := B.out
      clear B
      have B := Lib.hid (h0.trans (hb.mono h0.size))
      clear h0
      clear hb K3b
      obtain ⟨D3, nd3, cd3, O3, no3, co3, rfl, -, -⟩ := id hv
      obtain ⟨w3b, hwb⟩ : ∃ W, W = w3.alloc (.cells #[.slice D3 nd3 cd3, .slice O3 no3 co3] 36) := ⟨_, rfl⟩
      have hb : Below w3.heap.size w3 w3b := by rw [hwb]; exact (Below.refl _ _).alloc (Nat.le_refl _) _
      have P3 := Lib.hid (show HB 36 w3b w3.heap.size #[.slice D3 nd3 cd3, .slice O3 no3 co3] from by rw [hwb]; exact heap_alloc_new w3 _)
      have V3 := Lib.hid (hv.below hb)
      obtain h0 := OB.out
      clear OB
      have OB := Lib.hid (h0.below hb)
      clear h0
      obtain h0 := VB.out
      clear VB
      have VB := Lib.hid (h0.below hb)
      clear h0
      obtain h0 := B.out
      clear B
      have B := Lib.hid (h0.trans (hb.mono h0.size))
      clear h0
      clear hb hv
      go_upto_region 11 with fail
      rw [← hwb]
      clear hwb
      generalize w3.heap.size = pb3 at *
      clear jc1 lc1 jc2 lc2
      have KC := Lib.hid (check_any (bothP p q) _ _ w3b (HW.out.below B.out).sx VB.out BFEW.out)
      have hpj := HJ.out (by first | rfl | trivial) (by first | rfl | trivial)
      clear HJ
      generalize hck : chkP (bothP p q) = ck at *
      clear hck
      go_wp2_with (with_reducible refine at_load_ (t := 36) ?_; refine Hid.out ?_)
      refine Lib.hid ?_
      refine wpList_load_row rfl _ _ rfl ob rfl _ _ _ _ OB.out Tryz.underlying36 rfl pr_size ?_
      have HPJ := Lib.hid hpj
      clear hpj
      go_wp2_with fail
      refine KC.out.mono ?_
      rintro e w4 ⟨rfl, hb⟩
      obtain h0 := OB.out
      clear OB
      have OB := Lib.hid (h0.below hb)
      clear h0
      obtain h0 := VB.out
      clear VB
      have VB := Lib.hid (h0.below hb)
      clear h0
      obtain h0 := P3.out
      clear P3
      have P3 := Lib.hid (h0.below hb)
      clear h0
      obtain h0 := V3.out
      clear V3
      have V3 := Lib.hid (h0.below hb)
      clear h0
      obtain h0 := B.out
      clear B
      have B := Lib.hid (h0.trans (hb.mono h0.size))
      clear h0
      clear hb KC
      by_cases hc : ck = 0
      · have hpj := HPJ.out
        rw [if_pos hc] at hpj
        injection hpj with e1 e2
        injection e2 with e2 e3
        subst e1 e2 e3 hc
        clear HPJ
        go_wp2_with fail
        refine (awake_any _ (HW.out.below B.out)).mono ?_
        rintro e wk ⟨rfl, hb⟩
        obtain h0 := OB.out
        clear OB
        have OB := Lib.hid (h0.below hb)
        clear h0
        obtain h0 := VB.out
        clear VB
        have VB := Lib.hid (h0.below hb)
        clear h0
        obtain h0 := P3.out
        clear P3
        have P3 := Lib.hid (h0.below hb)
        clear h0
        obtain h0 := V3.out
        clear V3
        have V3 := Lib.hid (h0.below hb)
        clear h0
        obtain h0 := B.out
        clear B
        have B := Lib.hid (h0.trans (hb.mono h0.size))
        clear h0
        clear hb
        have c30 : wk.cell? ⟨pb3, 0, none⟩ = some (.slice D3 nd3 cd3) := HB.cell P3.out 0
        have c31 : wk.cell? ⟨pb3, 1, none⟩ = some (.slice O3 no3 co3) := HB.cell P3.out 1
        have cb0 : wk.cell? ⟨ob, 0, none⟩ = some (.slice Ar mr cr) := HB.cell OB.out 0
        have cb1 : wk.cell? ⟨ob, 1, none⟩ = some (.slice Ar2 mr2 cr2) := HB.cell OB.out 1
        have ks := same_any (bothP p q) (bothP p q) BFIT.out _ _ _ _ _ V3.out VB.out
        rw [eqC_pos rfl] at ks
        have KS := Lib.hid ks
        clear ks
        go_wp2_with fail
        refine KS.out.mono ?_
        rintro e w5 ⟨rfl, hb⟩
        obtain h0 := B.out
        clear B
        have B := Lib.hid (h0.trans (hb.mono h0.size))
        clear h0
        clear hb KS c30 c31 cb0 cb1
        go_wp2
        go_ret
        exact ⟨rfl, B.out⟩
      · have hpj := HPJ.out
        rw [if_neg hc] at hpj
        injection hpj with e1 e2
        injection e2 with e2 e3
        subst e1 e2 e3
        have e1 : (r3 != 0) = true := by simpa using hc
        have e2 : decide (r3 = 0) = false := by simpa using hc
        clear HPJ
        go_wp2_with fail
        refine (awake_any _ (HW.out.below B.out)).mono ?_
        rintro e wk ⟨rfl, hb⟩
        obtain h0 := OB.out
        clear OB
        have OB := Lib.hid (h0.below hb)
        clear h0
        obtain h0 := VB.out
        clear VB
        have VB := Lib.hid (h0.below hb)
        clear h0
        obtain h0 := P3.out
        clear P3
        have P3 := Lib.hid (h0.below hb)
        clear h0
        obtain h0 := V3.out
        clear V3
        have V3 := Lib.hid (h0.below hb)
        clear h0
        obtain h0 := B.out
        clear B
        have B := Lib.hid (h0.trans (hb.mono h0.size))
        clear h0
        clear hb
        have c30 : wk.cell? ⟨pb3, 0, none⟩ = some (.slice D3 nd3 cd3) := HB.cell P3.out 0
        have c31 : wk.cell? ⟨pb3, 1, none⟩ = some (.slice O3 no3 co3) := HB.cell P3.out 1
        have ks := same_any emP emP ⟨Nat.zero_le _, Nat.zero_le _, fun o ho => by cases ho⟩ _ _ _ _ _ V3.out (pv_empty wk (fun _ => True))
        rw [eqC_pos rfl] at ks
        have KS := Lib.hid ks
        clear ks
        go_wp2_with fail
        refine KS.out.mono ?_
        rintro e w5 ⟨rfl, hb⟩
        obtain h0 := B.out
        clear B
        have B := Lib.hid (h0.trans (hb.mono h0.size))
        clear h0
        clear hb KS c30 c31
        go_wp2
        go_ret
        exact ⟨rfl, B.out⟩
    · have e1 : (r2 != 0) = true := by simpa using h2
      have e2 : decide (r2 = 0) = false := by simpa using h2
      clear HJ
      go_wp2_with fail
      refine (awake_any _ (HW.out.below B.out)).mono ?_
      rintro e wk ⟨rfl, hb⟩
      obtain h0 := B.out
      clear B
      have B := Lib.hid (h0.trans (hb.mono h0.size))
      clear h0
      clear hb
      go_wp2
      go_ret
      exact ⟨rfl, B.out⟩
  · have e1 : (r1 != 0) = true := by simpa using h1
    have e2 : decide (r1 = 0) = false := by simpa using h1
    clear HJ
    go_wp2_with fail
    refine (awake_any _ (HW.out.below B.out)).mono ?_
    rintro e wk ⟨rfl, hb⟩
    obtain h0 := B.out
    clear B
    have B := Lib.hid (h0.trans (hb.mono h0.size))
    clear h0
    clear hb
    go_wp2
    go_ret
    exact ⟨rfl, B.out⟩
theorem joins_str (a b : ByteArray) (w : World) (hw : WW w) : Calls Tryz.prog 8 #[.string a, .string b] w fun e w' => e = .returned (.bool true) ∧ Below w.heap.size w w' := by
  rw [← bs_eta a, ← bs_eta b]
  generalize a.data.toList = s
  generalize b.data.toList = t
  by_cases hl : 600 < s.length
  · exact joins_longa s t w hw hl
  · by_cases hm : 600 < t.length
    · exact joins_longb s t w hw hl hm
    · exact joins_yes s t w hw hl hm
end Go.Proofs.YtkakbidllpjopaaGreatDoor
