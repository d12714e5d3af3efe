/- The walk of the law's check (the reference's Check). Conditions: few parts, short names. -/
import Derived.Test.YthfjkdgaiaokdaaDoorSyF
set_option linter.unusedVariables false
set_option linter.unusedSimpArgs false
namespace Go.Proofs.YthfjkdgaiaokdaaDoor
open Go.RowKit

/-- Short names. -/
def Prog'.Sm (p : Prog') : Prop := (∀ d ∈ p.stores, d.name.length ≤ 1000000 ∧ d.kind.length ≤ 1000000) ∧ ∀ o ∈ p.opers, o.name.length ≤ 1000000 ∧ (o.params.length ≤ 4 → ∀ s ∈ o.params, s.length ≤ 1000000) ∧ St.Sms o.body
theorem OwnS.in_ {w : World} {base : Nat} {v : Value} {L : List Str} (h : OwnS w base v L) (s : Str) (hn : L.length ≤ 1000000) : Calls Tryd.prog 21 #[v, .string (bs s)] w fun e w' => e = .returned (.bool (L.contains s)) ∧ w' = w := by
  obtain ⟨A, c, rfl, hrs⟩ := own_rs h
  exact in_any A L.length c L s w hrs hn
theorem slice_h_str (b o n c r : Nat) (hr : r ≤ c) (W : World) : (Instr.slice 38 (.slice (some ⟨b, o, none⟩) n c) none (some (.int .i64 (r : Int))) none).run Tryd.prog W = .ok (.slice (some ⟨b, o, none⟩) r c) W := by
  have he : Tryd.prog.elem 38 = 9 := by simp [Program.elem, Tryd.underlying38]
  rw [run_slice_h W 38 (some ⟨b, o, none⟩) n c (by rw [he]; exact Tryd.underlying38) .i64 (r : Int) (by omega) (by omega), he]
  simp [sliced, Addr.add, Tryd.sizeOf9, Result.andThen]
theorem sliceAt_h_str (b o n c r : Nat) (hr : r ≤ c) (W : World) : (Instr.sliceAt 38 (.slice (some ⟨b, o, none⟩) n c) none (some (.int .i64 (r : Int))) none).run Tryd.prog W = .ok (.slice (some ⟨b, o, none⟩) r c) W := by
  have he : Tryd.prog.elem 38 = 9 := by simp [Program.elem, Tryd.underlying38]
  rw [run_sliceAt_slice W 38 _ _ _ _ (by rw [he]; exact Tryd.underlying38)]
  exact slice_h_str b o n c r hr W
theorem lt_of_own {w : World} {base : Nat} {v : Value} {L : List Str} (h : OwnS w base v L) : ∀ k, v.ownBlock = some k → k < w.heap.size := fun k hk => (h.lt k hk).2
theorem operC_cases (L : List Str) (o : Oper') : (nameOk o.name = false → operC L o = 16) ∧ (nameOk o.name = true → L.contains o.name = true → operC L o = 11) ∧ (nameOk o.name = true → L.contains o.name = false → 4 < o.params.length → operC L o = 15) ∧
    (nameOk o.name = true → L.contains o.name = false → ¬ 4 < o.params.length → freshL [] o.params ≠ 0 → operC L o = freshL [] o.params) ∧ (nameOk o.name = true → L.contains o.name = false → ¬ 4 < o.params.length → freshL [] o.params = 0 → operC L o = chkSs 1 o.body) := by
  have e : operC L o = (if nameOk o.name = false then 16 else if L.contains o.name = true then 11 else if 4 < o.params.length then 15 else if freshL [] o.params ≠ 0 then freshL [] o.params else chkSs 1 o.body) := by
    rw [operC, freshC]
    by_cases h1 : nameOk o.name = false
    · simp [h1]
    · by_cases h3 : L.contains o.name = true
      · simp at h1 h3; simp [h1, h3]
      · simp at h1 h3; simp [h1, h3]
  rw [e]
  refine ⟨fun h => by rw [if_pos h], fun h h2 => by rw [if_neg (by rw [h]; decide), if_pos h2], fun h h2 h3 => by rw [if_neg (by rw [h]; decide), if_neg (by rw [h2]; decide), if_pos h3], fun h h2 h3 h4 => by rw [if_neg (by rw [h]; decide), if_neg (by rw [h2]; decide), if_neg h3, if_pos h4], fun h h2 h3 h4 => by rw [if_neg (by rw [h]; decide), if_neg (by rw [h2]; decide), if_neg h3, if_neg (by simp [h4])]⟩
set_option maxRecDepth 100000 in
set_option maxHeartbeats 12800000 in
theorem rcheck_any (p : Prog') (v : Value) (S : Nat → Prop) (w : World) (hp : PV w S p v) (hf : p.Few) (hsm : p.Sm) :
    Calls Tryd.prog 11 #[v] w fun e w' => e = .returned (.int .i64 (chkP p)) ∧ Below w.heap.size w w' := by
  obtain ⟨ds, os⟩ := p
  obtain ⟨D, nd, cd, O, no, co, rfl, hd, ho⟩ := hp
  dsimp only at hd ho
  have HD := Lib.hid hd
  have HO := Lib.hid ho
  have HND := Lib.hid hd.1
  have HNO := Lib.hid ho.1
  have HFW := Lib.hid hf
  have HSM := Lib.hid hsm
  obtain ⟨E, hE⟩ : ∃ E, E = chkP ⟨ds, os⟩ := ⟨_, rfl⟩
  rw [← hE]
  rw [chkP, storesL_run, opersL_run] at hE
  have HE := Lib.hid hE
  clear hd ho hf hE hsm
  dsimp only at HE
  have HB0 := Lib.hid (fun X => (Below.refl w.heap.size w).alloc (Nat.le_refl _) X)
  by_cases h12 : 12 < (nd : Int)
  · have HR := Lib.hid (show E = 15 by rw [HE.out, if_pos (.inl (by have := HND.out; omega))])
    go_enter Tryd.func11, Tryd.ntmps11
    go_wp2
    go_ret
    exact ⟨congrArg (fun v => Ending.returned (.int .i64 v)) HR.out.symm, HB0.out _⟩
  by_cases h32 : 32 < (no : Int)
  · have HR := Lib.hid (show E = 15 by rw [HE.out, if_pos (.inr (by have := HNO.out; omega))])
    go_enter Tryd.func11, Tryd.ntmps11
    go_wp2
    go_ret
    exact ⟨congrArg (fun v => Ending.returned (.int .i64 v)) HR.out.symm, HB0.out _⟩
  have HE2 := Lib.hid (show E = if runC declC Decl'.name [] ds ≠ 0 then runC declC Decl'.name [] ds else runC operC Oper'.name [] os by rw [HE.out, if_neg (by have := HND.out; have := HNO.out; omega)])
  clear HE
  have hnd : (nd : Int) ≤ 12 := by omega
  have hno : (no : Int) ≤ 32 := by omega
  go_enter Tryd.func11, Tryd.ntmps11
  go_wp2_with fail
  obtain ⟨w2, hw2⟩ : ∃ w2 : World, w2 = w.alloc (.cells #[.slice D nd cd, .slice O no co] 25) := ⟨_, rfl⟩
  have HXW := Lib.hid (show ∀ W, Below (w.heap.size + 1) w2 W → (W.heap[w.heap.size]? = some (.cells #[.slice D nd cd, .slice O no co] 25 (0, 0))) ∧ Below w.heap.size w W ∧ w.heap.size + 1 ≤ W.heap.size from fun W h => by
    subst hw2
    refine ⟨(h.block _ (Nat.lt_succ_self _)).trans (heap_alloc_new _ _), (HB0.out _).trans (h.mono (Nat.le_succ _)), ?_⟩
    have h1 := h.size
    rw [show (w.alloc (.cells #[.slice D nd cd, .slice O no co] 25)).heap.size = w.heap.size + 1 by simp] at h1
    exact h1)
  have HO0 := Lib.hid (show ∀ W : World, OwnS W (w.heap.size + 1) (.slice none 0 0) [] from fun W => World.ownsRow_nil _ _ _ _)
  have HGR := Lib.hid (Below.refl (w.heap.size + 1) w2)
  rw [← hw2]
  clear hw2 HB0
  go_loopw [3, 4] (fun vv i wr => ∃ q : Nat, q ≤ ds.length ∧ i = .int .i64 q ∧ Hid (runC declC Decl'.name [] (ds.take q) = 0) ∧ Hid (OwnS wr (w.heap.size + 1) vv ((ds.take q).map Decl'.name)) ∧ Hid (Below (w.heap.size + 1) w2 wr)) (fun _ i _ => ds.length - (intOf i).toNat)
  case atStart => exact ⟨0, Nat.zero_le _, rfl, Lib.hid (by rw [List.take_zero, runC]), Lib.hid (HO0.out _), HGR⟩
  case round =>
    clear HGR
    obtain ⟨q, hq, rfl, n1, HOW, zr⟩ := hrel
    obtain ⟨vv, hvv⟩ : ∃ vv, vv = u3 := ⟨_, rfl⟩
    subst hvv
    obtain ⟨d0, d1⟩ := cells2 (HXW.out _ zr.out).1
    by_cases hl : q < ds.length
    · have hi2 : (q : Int) < (nd : Int) := by have := HND.out; omega
      obtain ⟨b, off, cs, rfl, hb, hS, ⟨x, hx, rfl⟩, hrow⟩ := HD.out.2.at q (by have := HND.out; omega)
      have HQL := Lib.hid hl
      have HXQ := Lib.hid hx
      have hrow2 := rangeAt_keep hrow ((HXW.out _ zr.out).2.1.block b hb)
      have e0 := hrow2 0 _ rfl
      have e1 := hrow2 1 _ rfl
      simp only [Nat.add_zero] at e0
      obtain ⟨vx, hv⟩ : ∃ v, v = declC ((ds.take q).map Decl'.name) x := ⟨_, rfl⟩
      have HV := Lib.hid hv
      have hsm := HSM.out.1 x (List.mem_of_getElem? hx)
      have HM12 := Lib.hid (show ((ds.take q).map Decl'.name).length ≤ 1000 by rw [List.length_map, List.length_take]; have := HND.out; omega)
      obtain ⟨xn, xk⟩ := x
      have K1 := Lib.hid (fun W => name_any xn W hsm.1)
      have K2 := Lib.hid (fun W => name_any xk W hsm.2)
      have HVC := Lib.hid (show vx = if nameOk xn = false ∨ (!nameOk xk) = true then 16 else if ((ds.take q).map Decl'.name).contains xn = true then 11 else 0 from hv)
      have HBAD := Lib.hid (show vx ≠ 0 → E = vx from fun h0 => by
        have h := runC_take_bad HXQ.out n1.out (by rw [List.nil_append, ← hv]; exact h0)
        rw [List.nil_append, ← hv] at h
        rw [HE2.out, h, if_pos h0])
      clear hx hb hS hrow hrow2 hl hq hv hsm
      dsimp only at e0 e1
      obtain ⟨W3, hW3⟩ : ∃ W3 : World, W3 = wr.alloc (.cells #[.string (bs xn), .string (bs xk)] 50) := ⟨_, rfl⟩
      have HR3 := Lib.hid (show W3.heap[wr.heap.size]? = some (.cells #[.string (bs xn), .string (bs xk)] 50 (0, 0)) from by rw [hW3]; exact heap_alloc_new wr _)
      have HA3 := Lib.hid (show Below wr.heap.size wr W3 from by rw [hW3]; exact (Below.refl _ _).alloc (Nat.le_refl _) _)
      have HZ := Lib.hid (show ∀ W, Bz W3 W → (W.cell? ⟨wr.heap.size, 0, none⟩ = some (.string (bs xn)) ∧ W.cell? ⟨wr.heap.size, 1, none⟩ = some (.string (bs xk))) ∧ Below (w.heap.size + 1) w2 W ∧ OwnS W (w.heap.size + 1) vv ((ds.take q).map Decl'.name) from fun W h => by
        have hz := (HXW.out _ zr.out).2.2
        refine ⟨cells2 ((h.b.block _ (lt_of_block HR3.out)).trans HR3.out), (zr.out.trans (HA3.out.mono hz)).trans (h.b.mono (Nat.le_trans hz HA3.out.size)), OwnS.below (OwnS.below HOW.out HA3.out) h.b⟩)
      have HLT := Lib.hid (lt_of_block HR3.out)
      have z0 : Bz W3 W3 := ⟨Below.refl _ _⟩
      go_wp2_with fail
      rw [← hW3]
      clear hW3 e0 e1
      refine (K1.out _).mono ?_
      rintro e w4 ⟨rfl, hb⟩
      have z4 := z0.next hb
      clear hb z0
      obtain ⟨⟨g0, g1⟩, -⟩ := HZ.out _ z4
      generalize nameOk xn = QN at *
      generalize nameOk xk = QK at *
      cases QN with
      | false =>
        have HR := Lib.hid (show E = 16 by have h : vx = 16 := by rw [HVC.out, if_pos (.inl rfl)]
                                           rw [HBAD.out (by rw [h]; decide), h])
        go_wp2
        go_ret
        exact ⟨congrArg (fun v => Ending.returned (.int .i64 v)) HR.out.symm, (HXW.out _ (HZ.out _ z4).2.1).2.1⟩
      | true =>
        go_wp2_with fail
        refine (K2.out _).mono ?_
        rintro e w5 ⟨rfl, hb⟩
        have z5 := z4.next hb
        clear hb z4 g0 g1
        obtain ⟨⟨g0, g1⟩, -, hos5⟩ := HZ.out _ z5
        cases QK with
        | false =>
          have HR := Lib.hid (show E = 16 by have h : vx = 16 := by rw [HVC.out, if_pos (.inr rfl)]
                                             rw [HBAD.out (by rw [h]; decide), h])
          clear hos5
          go_wp2
          go_ret
          exact ⟨congrArg (fun v => Ending.returned (.int .i64 v)) HR.out.symm, (HXW.out _ (HZ.out _ z5).2.1).2.1⟩
        | true =>
          have KI := Lib.hid (hos5.in_ xn (by have := HM12.out; omega))
          have HVC2 := Lib.hid (show vx = if ((ds.take q).map Decl'.name).contains xn = true then 11 else 0 by rw [HVC.out, if_neg (by simp)])
          obtain ⟨m, hm⟩ : ∃ m, m = ((ds.take q).map Decl'.name).contains xn := ⟨_, rfl⟩
          rw [← hm] at KI HVC2
          clear hos5 hm HVC
          go_wp2_with fail
          refine KI.out.mono ?_
          rintro e w6 ⟨rfl, h⟩
          subst w6
          cases m with
          | true =>
            have HR := Lib.hid (show E = 11 by have h : vx = 11 := by rw [HVC2.out, if_pos rfl]
                                               rw [HBAD.out (by rw [h]; decide), h])
            go_wp2
            go_ret
            exact ⟨congrArg (fun v => Ending.returned (.int .i64 v)) HR.out.symm, (HXW.out _ (HZ.out _ z5).2.1).2.1⟩
          | false =>
            have HV0 := Lib.hid (show vx = 0 by rw [HVC2.out, if_neg (by decide)])
            go_wp2_with ((at_builtin; refine as_any rfl (.tmp 46) (.tmp 49) rfl (w.heap.size + 1) _ ((ds.take q).map Decl'.name) rfl ?_ _ xn rfl (lt_new _ _) (cell_new _ _) (by have := HM12.out; omega) ?_ ?_))
            rotate_left
            rotate_left
            intro v7 w7 ho hg hvo
            have hz5 := (HXW.out _ (HZ.out _ z5).2.1).2.2
            have HO7 := Lib.hid (show OwnS w7 (w.heap.size + 1) v7 ((ds.take (q + 1)).map Decl'.name) by
              rw [show (ds.take (q + 1)).map Decl'.name = (ds.take q).map Decl'.name ++ [xn] by rw [List.take_add_one, HXQ.out]; simp, List.map_take]
              exact ho)
            have HB7 := Lib.hid (((HZ.out _ z5).2.1.alloc hz5 (.cells #[.string (bs xn)] 9)).grown hg (by simp; omega) (fun k hk => (HOW.out.lt k hk).1))
            clear ho hg hvo g0 g1
            go_wp2
            go_roundw
            case rel => exact ⟨q + 1, HQL.out, by go_num, Lib.hid (runC_take_ok HXQ.out n1.out (by rw [List.nil_append]; exact HV.out.symm.trans HV0.out)), HO7, HB7⟩
            case measure => exact meas_up _ _ HQL.out
            · exact OwnS.below (HZ.out _ z5).2.2 ((Below.refl _ _).alloc (Nat.le_refl _) _)
            · have hz5 := (HXW.out _ (HZ.out _ z5).2.1).2.2; simp; omega
    · have hi2 : ¬ (q : Int) < (nd : Int) := by have := HND.out; omega
      have HE3 := Lib.hid (show E = runC operC Oper'.name [] os by
        have h : runC declC Decl'.name [] ds = 0 := by rw [← n1.out, List.take_of_length_le (by omega)]
        rw [HE2.out, h, if_neg (by simp)])
      clear hl hq n1 HE2 HOW HND HD
      obtain ⟨wa, hwa⟩ : ∃ wa, wa = wr := ⟨_, rfl⟩
      subst hwa
      go_wp2_with fail
      clear d0 d1
      have Z0 := zr
      clear zr
      go_loopw [3, 6] (fun vv i wr => ∃ q : Nat, q ≤ os.length ∧ i = .int .i64 q ∧ Hid (runC operC Oper'.name [] (os.take q) = 0) ∧ Hid (OwnS wr (w.heap.size + 1) vv ((os.take q).map Oper'.name)) ∧ Hid (Below (w.heap.size + 1) w2 wr)) (fun _ i _ => os.length - (intOf i).toNat)
      case atStart => exact ⟨0, Nat.zero_le _, rfl, Lib.hid (by rw [List.take_zero, runC]), Lib.hid (HO0.out _), Z0⟩
      case round =>
        clear Z0
        obtain ⟨q, hq, rfl, n1, HOW, zr⟩ := hrel
        obtain ⟨wv, hwv⟩ : ∃ wv, wv = wr := ⟨_, rfl⟩
        subst hwv
        obtain ⟨vv, hvv⟩ : ∃ vv, vv = u3 := ⟨_, rfl⟩
        subst hvv
        obtain ⟨d0, d1⟩ := cells2 (HXW.out _ zr.out).1
        by_cases hl : q < os.length
        · have hi2 : (q : Int) < (no : Int) := by have := HNO.out; omega
          obtain ⟨b, off, cs, rfl, hb, hS, ⟨x, hx, hov⟩, hrow⟩ := HO.out.2.at q (by have := HNO.out; omega)
          have HQL := Lib.hid hl
          have HXQ := Lib.hid hx
          have hrow2 := rangeAt_keep hrow ((HXW.out _ zr.out).2.1.block b hb)
          obtain ⟨vx, hv⟩ : ∃ v, v = operC ((os.take q).map Oper'.name) x := ⟨_, rfl⟩
          have HV := Lib.hid hv
          have hcs := operC_cases ((os.take q).map Oper'.name) x
          rw [← hv] at hcs
          have hsm := HSM.out.2 x (List.mem_of_getElem? hx)
          have hfw := HFW.out.2.2 x (List.mem_of_getElem? hx)
          have HM12 := Lib.hid (show ((os.take q).map Oper'.name).length ≤ 1000 by rw [List.length_map, List.length_take]; have := HNO.out; omega)
          obtain ⟨xn, xp, xb⟩ := x
          obtain ⟨P2, np2, cp2, B2, nb2, cb2, rfl, hss, hsb⟩ := hov
          dsimp only at hcs hsm hfw hss hsb hrow2
          have e0 := hrow2 0 _ rfl
          have e1 := hrow2 1 _ rfl
          have e2 := hrow2 2 _ rfl
          simp only [Nat.add_zero] at e0
          have K1 := Lib.hid (fun W => name_any xn W hsm.1)
          have KP := Lib.hid (show xp.length ≤ 4 → ∀ s ∈ xp, ∀ W, Calls Tryd.prog 20 #[.string (bs s)] W fun e w' => e = .returned (.bool (nameOk s)) ∧ Below W.heap.size W w' from fun h4 s hs W => name_any s W (hsm.2.1 h4 s hs))
          have HBS := Lib.hid hsm.2.2
          have HSS := Lib.hid hss
          have HNP := Lib.hid hss.1
          have HSB := Lib.hid hsb
          have HFX := Lib.hid hfw
          have HCS := Lib.hid hcs
          have HBAD := Lib.hid (show vx ≠ 0 → E = vx from fun h0 => by
            have h := runC_take_bad HXQ.out n1.out (by rw [List.nil_append, ← hv]; exact h0)
            rw [List.nil_append, ← hv] at h
            rw [HE3.out, h])
          clear hx hb hS hrow hrow2 hl hq hv hsm hcs hss hsb hfw
          obtain ⟨W3, hW3⟩ : ∃ W3 : World, W3 = wv.alloc (.cells #[.string (bs xn), .slice P2 np2 cp2, .slice B2 nb2 cb2] 41) := ⟨_, rfl⟩
          have HR3 := Lib.hid (show W3.heap[wv.heap.size]? = some (.cells #[.string (bs xn), .slice P2 np2 cp2, .slice B2 nb2 cb2] 41 (0, 0)) from by rw [hW3]; exact heap_alloc_new wv _)
          have HA3 := Lib.hid (show Below wv.heap.size wv W3 from by rw [hW3]; exact (Below.refl _ _).alloc (Nat.le_refl _) _)
          have HZ := Lib.hid (show ∀ W, Bz W3 W → (W.heap[wv.heap.size]? = some (.cells #[.string (bs xn), .slice P2 np2 cp2, .slice B2 nb2 cb2] 41 (0, 0))) ∧ Below (w.heap.size + 1) w2 W ∧ OwnS W (w.heap.size + 1) vv ((os.take q).map Oper'.name) from fun W h => by
            have hz := (HXW.out _ zr.out).2.2
            refine ⟨(h.b.block _ (lt_of_block HR3.out)).trans HR3.out, (zr.out.trans (HA3.out.mono hz)).trans (h.b.mono (Nat.le_trans hz HA3.out.size)), OwnS.below (OwnS.below HOW.out HA3.out) h.b⟩)
          have z0 : Bz W3 W3 := ⟨Below.refl _ _⟩
          go_wp2_with fail
          rw [← hW3]
          clear hW3 e0 e1 e2
          refine (K1.out _).mono ?_
          rintro e w4 ⟨rfl, hb⟩
          have z4 := z0.next hb
          clear hb z0
          obtain ⟨g0, g1, g2⟩ := cells3 (HZ.out _ z4).1
          generalize nameOk xn = QN at *
          cases QN with
          | false =>
            have HR := Lib.hid (show E = 16 by have h : vx = 16 := HCS.out.1 (by first | rfl | trivial)
                                               rw [HBAD.out (by rw [h]; decide), h])
            go_wp2
            go_ret
            exact ⟨congrArg (fun v => Ending.returned (.int .i64 v)) HR.out.symm, (HXW.out _ (HZ.out _ z4).2.1).2.1⟩
          | true =>
            have hos5 := (HZ.out _ z4).2.2
            have KI := Lib.hid (hos5.in_ xn (by have := HM12.out; omega))
            obtain ⟨m, hm⟩ : ∃ m, m = ((os.take q).map Oper'.name).contains xn := ⟨_, rfl⟩
            rw [← hm] at KI HCS
            clear hos5 hm
            go_wp2_with fail
            refine KI.out.mono ?_
            rintro e w6 ⟨rfl, h⟩
            subst w6
            cases m with
            | true =>
              have HR := Lib.hid (show E = 11 by have h : vx = 11 := HCS.out.2.1 (by first | rfl | trivial) (by first | rfl | trivial)
                                                 rw [HBAD.out (by rw [h]; decide), h])
              go_wp2
              go_ret
              exact ⟨congrArg (fun v => Ending.returned (.int .i64 v)) HR.out.symm, (HXW.out _ (HZ.out _ z4).2.1).2.1⟩
            | false =>
              have HC3 := Lib.hid (HCS.out.2.2.1 (by first | rfl | trivial) (by first | rfl | trivial))
              have HC4 := Lib.hid (HCS.out.2.2.2.1 (by first | rfl | trivial) (by first | rfl | trivial))
              have HC5 := Lib.hid (HCS.out.2.2.2.2 (by first | rfl | trivial) (by first | rfl | trivial))
              clear HCS KI
              go_wp2_with ((at_builtin; refine as_any rfl (.tmp 71) (.tmp 74) rfl (w.heap.size + 1) _ ((os.take q).map Oper'.name) rfl ?_ _ xn rfl (lt_new _ _) (cell_new _ _) (by have := HM12.out; omega) ?_ ?_))
              · exact OwnS.below (HZ.out _ z4).2.2 ((Below.refl _ _).alloc (Nat.le_refl _) _)
              · have hz5 := (HXW.out _ (HZ.out _ z4).2.1).2.2; simp; omega
              intro v7 w7 ho hg hvo
              have hz5 := (HXW.out _ (HZ.out _ z4).2.1).2.2
              have HO7 := Lib.hid (show OwnS w7 (w.heap.size + 1) v7 ((os.take (q + 1)).map Oper'.name) by
                rw [show (os.take (q + 1)).map Oper'.name = (os.take q).map Oper'.name ++ [xn] by rw [List.take_add_one, HXQ.out]; simp, List.map_take]
                exact ho)
              have HB7 := Lib.hid (((HZ.out _ z4).2.1.alloc hz5 (.cells #[.string (bs xn)] 9)).grown hg (by simp; omega) (fun k hk => (HOW.out.lt k hk).1))
              have HX7 := Lib.hid (show w7.heap[wv.heap.size]? = some (.cells #[.string (bs xn), .slice P2 np2 cp2, .slice B2 nb2 cb2] 41 (0, 0)) from (hg.block _ (Nat.lt_of_lt_of_le (lt_of_block (HZ.out _ z4).1) (by simp)) (by intro e; have := lt_of_own HOW.out _ e.symm; omega)).trans ((heap_alloc_old _ _ (lt_of_block (HZ.out _ z4).1)).trans (HZ.out _ z4).1))
              clear ho hg hvo g0 g1 g2 hz5
              have HY := Lib.hid (show ∀ W, Bz w7 W → (W.cell? ⟨wv.heap.size, 0, none⟩ = some (.string (bs xn)) ∧ W.cell? ⟨wv.heap.size, 1, none⟩ = some (.slice P2 np2 cp2) ∧ W.cell? ⟨wv.heap.size, 2, none⟩ = some (.slice B2 nb2 cb2)) ∧ Below (w.heap.size + 1) w2 W ∧ OwnS W (w.heap.size + 1) v7 ((os.take (q + 1)).map Oper'.name) ∧ Below w.heap.size w W from fun W h => by
                have hz := (HXW.out _ HB7.out).2.2
                have hb2 := HB7.out.trans (h.b.mono hz)
                exact ⟨cells3 ((h.b.block _ (lt_of_block HX7.out)).trans HX7.out), hb2, OwnS.below HO7.out h.b, (HXW.out _ hb2).2.1⟩)
              have y7 : Bz w7 w7 := ⟨Below.refl _ _⟩
              obtain ⟨⟨g0, g1, g2⟩, -⟩ := HY.out _ y7
              clear z4 HZ HR3 HA3
              by_cases h4 : 4 < (np2 : Int)
              · have HR := Lib.hid (show E = 15 by have h : vx = 15 := HC3.out (by have := HNP.out; omega)
                                                   rw [HBAD.out (by rw [h]; decide), h])
                go_wp2
                go_ret
                exact ⟨congrArg (fun v => Ending.returned (.int .i64 v)) HR.out.symm, (HY.out _ y7).2.2.2⟩
              have HC4' := Lib.hid (HC4.out (by have := HNP.out; omega))
              have HC5' := Lib.hid (HC5.out (by have := HNP.out; omega))
              go_wp2_with fail
              clear g0 g1 g2 HC3 HC4 HC5
              go_loopw [8] (fun i wp => ∃ r : Nat, r ≤ xp.length ∧ i = .int .i64 r ∧ Hid (freshL [] (xp.take r) = 0) ∧ Bz w7 wp) (fun i _ => xp.length - (intOf i).toNat)
              case atStart => exact ⟨0, Nat.zero_le _, rfl, Lib.hid (by rw [List.take_zero, freshL]), y7⟩
              case round =>
                clear y7
                obtain ⟨r, hr, rfl, n2, zp⟩ := hrel
                obtain ⟨⟨g0, g1, g2⟩, -, -, hbw⟩ := HY.out _ zp
                by_cases hlr : r < xp.length
                · have hi3 : (r : Int) < (np2 : Int) := by have := HNP.out; omega
                  obtain ⟨b2, off2, cs, rfl, hb2, hS2, ⟨s, hs, rfl⟩, hrow3⟩ := HSS.out.2.at r (by have := HNP.out; omega)
                  have HRL := Lib.hid hlr
                  have HSQ := Lib.hid hs
                  have HPC := Lib.hid (show ∀ W, Bz w7 W → W.cell? ⟨b2, off2 + r, none⟩ = some (.string (bs s)) from fun W h => by
                    have := rangeAt_keep hrow3 ((HY.out W h).2.2.2.block b2 hb2) 0 _ rfl
                    simpa using this)
                  have KX := Lib.hid (KP.out (by have := HNP.out; omega) s (List.mem_of_getElem? hs))
                  have KI3 := Lib.hid (show ∀ W, Bz w7 W → Calls Tryd.prog 21 #[.slice (some ⟨b2, off2, none⟩) r cp2, .string (bs s)] W fun e w' => e = .returned (.bool ((xp.take r).contains s)) ∧ w' = W from fun W h => in_any _ r cp2 (xp.take r) s W (((HSS.out.rs.below (HY.out W h).2.2.2)).take r (by have := HNP.out; omega)) (by have := HNP.out; omega))
                  have p0 := HPC.out _ zp
                  have hcap : (np2 : Int) ≤ (cp2 : Int) := by have := HSS.out.2.1.1; omega
                  obtain ⟨vf, hvf⟩ : ∃ v, v = freshC (xp.take r) s false := ⟨_, rfl⟩
                  have HVF := Lib.hid hvf
                  have HVF2 := Lib.hid (show vf = if nameOk s = false ∨ false = true then 16 else if (xp.take r).contains s = true then 11 else 0 from hvf)
                  have HFB := Lib.hid (show vf ≠ 0 → E = vf from fun h0 => by
                    have h := freshL_take_bad HSQ.out n2.out (by rw [List.nil_append, ← hvf]; exact h0)
                    rw [List.nil_append, ← hvf] at h
                    have h2 : vx = vf := by rw [HC4'.out (by rw [h]; exact h0), h]
                    rw [HBAD.out (by rw [h2]; exact h0), h2])
                  clear hs hb2 hS2 hrow3 hlr hr hvf hbw
                  go_wp2_with fail
                  refine (KX.out _).mono ?_
                  rintro e w8 ⟨rfl, hb⟩
                  have zp8 := zp.next hb
                  clear hb zp g0 g1 g2 p0
                  generalize nameOk s = QX at *
                  cases QX with
                  | false =>
                    have HR := Lib.hid (show E = 16 by have h : vf = 16 := by rw [HVF2.out, if_pos (.inl rfl)]
                                                       rw [HFB.out (by rw [h]; decide), h])
                    go_wp2
                    go_ret
                    exact ⟨congrArg (fun v => Ending.returned (.int .i64 v)) HR.out.symm, (HY.out _ zp8).2.2.2⟩
                  | true =>
                    have HVF3 := Lib.hid (show vf = if (xp.take r).contains s = true then 11 else 0 by rw [HVF2.out, if_neg (by simp)])
                    generalize (xp.take r).contains s = MX at *
                    have HS30 := Lib.hid (show ∀ W, Bz w7 W → (W.cell? ⟨wv.heap.size, 1, none⟩ = some (.slice (some ⟨b2, off2, none⟩) np2 cp2) ∧ W.cell? ⟨b2, off2 + r, none⟩ = some (.string (bs s))) from fun W h => ⟨(HY.out W h).1.2.1, HPC.out W h⟩)
                    have hslA := sliceAt_h_str b2 off2 np2 cp2 r (by have := HSS.out.2.1.1; omega)
                    have hslB := slice_h_str b2 off2 np2 cp2 r (by have := HSS.out.2.1.1; omega)
                    go_upto_region 30 with fail
                    have zp9 := zp8.drew
                    go_region_held3 (fun W => (W.cell? ⟨wv.heap.size, 1, none⟩ = some (.slice (some ⟨b2, off2, none⟩) np2 cp2) ∧ W.cell? ⟨b2, off2 + r, none⟩ = some (.string (bs s)))) (exact HS30.out _ (by assumption)) (
                      (go_at_call 21; refine (KI3.out _ (by assumption)).mono ?_; rintro e w9 ⟨rfl, rfl⟩))
                    all_goals
                      cases MX with
                      | true =>
                        have HR := Lib.hid (show E = 11 by have h : vf = 11 := by rw [HVF3.out, if_pos rfl]
                                                           rw [HFB.out (by rw [h]; decide), h])
                        go_wp2
                        go_ret
                        exact ⟨congrArg (fun v => Ending.returned (.int .i64 v)) HR.out.symm, (HY.out _ (by assumption)).2.2.2⟩
                      | false =>
                        have HV0 := Lib.hid (show vf = 0 by rw [HVF3.out, if_neg (by decide)])
                        go_wp2
                        go_roundw
                        case rel => exact ⟨r + 1, HRL.out, by go_num, Lib.hid (freshL_take_ok HSQ.out n2.out (by rw [List.nil_append]; exact HVF.out.symm.trans HV0.out)), by assumption⟩
                        case measure => exact meas_up _ _ HRL.out
                · have hi3 : ¬ (r : Int) < (np2 : Int) := by have := HNP.out; omega
                  have HFL := Lib.hid (show freshL [] xp = 0 by rw [← n2.out, List.take_of_length_le (by omega)])
                  have HVB := Lib.hid (show vx = chkSs 1 xb from HC5'.out HFL.out)
                  clear hlr hr n2 hbw
                  go_wp2_with fail
                  refine (convS_any xb _ S B2 nb2 cb2 HFX.out (HSB.out.below (HY.out _ zp).2.2.2)).mono ?_
                  rintro e w8 ⟨A8, c8, rfl, hl8, hb8⟩
                  have zp8 := zp.next hb8
                  have K8 := Lib.hid (rstmtsWrong_any xb 1 w8 _ A8 nb2 c8 (by decide) (by decide) HBS.out HFX.out hl8)
                  rw [← HVB.out] at K8
                  clear hb8 hl8 zp g0 g1 g2
                  go_wp2_with fail
                  refine K8.out.mono ?_
                  rintro e w9 ⟨rfl, hb9⟩
                  have zp9 := zp8.next hb9
                  clear hb9 zp8 K8
                  by_cases hv0 : vx = 0
                  · have HV0 := Lib.hid hv0
                    have hv1 : (vx != 0) = false := by simp [hv0]
                    clear hv0
                    have HO9 := Lib.hid (HY.out _ zp9).2.2.1
                    have HB9 := Lib.hid (HY.out _ zp9).2.1
                    go_wp2
                    go_roundw
                    case rel => exact ⟨q + 1, HQL.out, by go_num, Lib.hid (runC_take_ok HXQ.out n1.out (by rw [List.nil_append]; exact HV.out.symm.trans HV0.out)), HO9, HB9⟩
                    case measure => exact meas_up _ _ HQL.out
                  · have HR := Lib.hid (HBAD.out hv0)
                    have hv1 : (vx != 0) = true := by simp [hv0]
                    go_wp2
                    go_ret
                    exact ⟨congrArg (fun v => Ending.returned (.int .i64 v)) HR.out.symm, (HY.out _ zp9).2.2.2⟩
        · have hi2 : ¬ (q : Int) < (no : Int) := by have := HNO.out; omega
          have HR := Lib.hid (show E = 0 by rw [HE3.out, ← n1.out, List.take_of_length_le (by omega)])
          clear hl hq n1
          go_wp2
          go_ret
          exact ⟨congrArg (fun v => Ending.returned (.int .i64 v)) HR.out.symm, (HXW.out _ zr.out).2.1⟩
end Go.Proofs.YthfjkdgaiaokdaaDoor
