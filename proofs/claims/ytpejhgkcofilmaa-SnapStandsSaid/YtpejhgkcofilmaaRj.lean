/- The walk of law28's do, where it commits. Conditions: as in the text below it. -/
import Derived.Test.YtpejhgkcofilmaaRi
set_option linter.unusedVariables false
namespace Go.Proofs.Ytpejhgkcofilmaa
open Go.RowKit


set_option maxRecDepth 100000 in
set_option maxHeartbeats 12800000 in
theorem do_raw {S : Nat → Prop} (n : Nat) (s : Sn) (d : Rd) (m : Int) (a : SA) (b1 b2 : Option Nat) (sa sv : Value) (w : World) (hS : ∀ b, w.heap.size ≤ b → S b) (hr : Rel n s d m) (hm9 : m ≤ 900) (hn1 : 1 ≤ n) (hn6 : n ≤ 6)
    (hm : s.Maps w S b1 b2) (hd : d.Mem w S sa sv) (ha : a.ok w S) (h8 : a.ws.length ≤ 8) (h8r : a.raw.length ≤ 8) (hk : a.kind % 6 = 5) :
    Calls Try.prog 39 #[s.val b1 b2, d.val sa sv, a.val] w fun e w' => ∃ c5 c6 sa' sv', e = .returned (.tuple #[(doS n s d a).val c5 c6, (doD n s d a).val sa' sv', .bool true]) ∧ (doS n s d a).Maps w' S c5 c6 ∧ (doD n s d a).Mem w' S sa' sv' ∧ Below w.heap.size w w' := by
  have HREL := Lib.hid hr
  have HM9 := Lib.hid hm9
  have HN6 := Lib.hid (And.intro hn1 hn6)
  have HL8 := Lib.hid (And.intro h8 h8r)
  have HS := Lib.hid hS
  have hk0 : 0 ≤ a.kind := ha.1.1
  have hk1 : a.kind ≤ 255 := ha.1.2
  have HM0 := Lib.hid (hm.more (S' := SQ S w.heap.size) fun b hb h => ⟨h, .inl hb⟩)
  have HD0 := Lib.hid (hd.more (S' := SQ S w.heap.size) fun b hb h => ⟨h, .inl hb⟩)
  have HA0 := Lib.hid (ha.more (S' := SQ S w.heap.size) fun b hb h => ⟨h, .inl hb⟩)
  have htm : a.kind.tmod 6 = 5 := tmod_u8 hk0 hk
  have HDS := Lib.hid (show doS n s d a = s.com a.raw from by unfold doS comL; rw [if_neg (by rw [hk]; decide), if_neg (by rw [hk]; decide), if_pos hk])
  have HDD0 := Lib.hid (show doD n s d a = d.com n a.raw from by unfold doD comL; rw [if_neg (by rw [hk]; decide), if_neg (by rw [hk]; decide), if_pos hk])
  clear hk
  clear hS hr hm9 hn1 hn6 hm hd ha h8 h8r
  unfold SA.val saC
  go_enter Try.func39, Try.ntmps39
  go_wp2_with (with_reducible refine at_box_ (t := 57) ?_; refine box_row rfl _ rfl rfl ?_)
  intro w1 e1 hb1 hz1
  have E1 := Lib.hid e1
  have B1 := Lib.hid hb1
  have Z1 := Lib.hid hz1
  have HD1 := Lib.hid (HD0.out.below hb1)
  clear e1 hb1 hz1
  go_wp2_with (with_reducible refine at_box_ (t := 80) ?_; refine box_rd rfl _ rfl rfl HD1.out ?_)
  intro w2 e2 _ hb2 hz2
  rw [Z1.out] at e2 hz2
  rw [Z1.out]
  have E2 := Lib.hid e2
  have E1' := Lib.hid ((hb2.block _ (lt_of_block E1.out)).trans E1.out)
  have B2 := Lib.hid (B1.out.trans (hb2.mono B1.out.size))
  have Z2 := Lib.hid (show w2.heap.size = w.heap.size + 2 by rw [hz2])
  clear e2 hb2 hz2 E1 B1 HD1 Z1
  have ba : Below w2.heap.size w2 (w2.alloc (.cells (saC a) 93)) := (Below.refl _ _).alloc (Nat.le_refl _) _
  have E5 := Lib.hid (show (w2.alloc (.cells (saC a) 93)).heap[w.heap.size + 2]? = some (.cells (saC a) 93 (0, 0)) from by have := heap_alloc_new w2 (.cells (saC a) 93); rw [Z2.out] at this; exact this)
  have E3 := Lib.hid ((ba.block _ (lt_of_block E1'.out)).trans E1'.out)
  have E4 := Lib.hid ((ba.block _ (lt_of_block E2.out)).trans E2.out)
  have B3 := Lib.hid (B2.out.trans (ba.mono B2.out.size))
  have Z3 := Lib.hid (show w2.heap.size + 1 = w.heap.size + 3 by rw [Z2.out])
  clear ba E1' E2 B2
  unfold saC at E5 E3 E4 B3
  go_wp2_with (with_reducible refine at_alloc_ (t := 57) ?_; refine alloc_at (S := fun _ => False) rfl rfl ?_)
  intro w4 hp hb hz
  rw [Z3.out] at hp hz
  rw [Z3.out, Z2.out]
  have P6 := Lib.hid hp
  have F3 := Lib.hid ((hb.block _ (by have := lt_of_block E3.out; simpa using this)).trans E3.out)
  have F4 := Lib.hid ((hb.block _ (by have := lt_of_block E4.out; simpa using this)).trans E4.out)
  have F5 := Lib.hid ((hb.block _ (by have := lt_of_block E5.out; simpa using this)).trans E5.out)
  have B4 := Lib.hid (B3.out.trans (hb.mono (by have := B3.out.size; simpa using this)))
  have Z4 := Lib.hid (show w4.heap.size = w.heap.size + 4 by rw [hz])
  clear hp hb hz E3 E4 E5 B3 Z3 Z2
  go_wp2_with (with_reducible refine at_alloc_ (t := 80) ?_; refine alloc_rd (S := fun _ => False) rfl rfl ?_)
  intro w5 hp hb hz
  rw [Z4.out] at hp
  rw [Z4.out]
  have HI := Lib.hid (show DoI w S a s d b1 b2 sa sv w5 from ⟨(hb.block _ (lt_of_block F3.out)).trans F3.out, (hb.block _ (lt_of_block F4.out)).trans F4.out, (hb.block _ (lt_of_block F5.out)).trans F5.out, P6.out.below hb, hp, HM0.out.below (B4.out.trans (hb.mono B4.out.size)), HD0.out.below (B4.out.trans (hb.mono B4.out.size)), HA0.out.below (B4.out.trans (hb.mono B4.out.size)), B4.out.trans (hb.mono B4.out.size)⟩)
  clear hp hb hz P6 F3 F4 F5 B4 Z4 HM0 HD0 HA0
  have q0 := (act_cells HI.out.p5).1
  have q1 := (act_cells HI.out.p5).2.1
  have HW := Lib.hid (HREL.out.wide HM9.out)
  go_wp2_with (with_reducible refine at_load_ (t := 80) ?_; refine get_rd (d := d) (sa := sa) (sv := sv) rfl _ rfl (w.heap.size + 1) rfl HI.out.p4 ?_)
  refine (entries_any (S := SQ S w.heap.size) n a.AW a.mw a.cw a.ws w5 (HI.out.new HS.out) HI.out.hd HW.out HN6.out.1 HN6.out.2 HI.out.ha.2.1 (by have := HL8.out.1; omega)).mono ?_
  rintro e w6 ⟨Ae, ce, rfl, hce, hen, hb⟩
  have HI_1 := Lib.hid (HI.out.below hb)
  clear HI
  clear hce hen
  have HLn := Lib.hid HI_1.out.ha.2.2.1
  have HLc := Lib.hid HI_1.out.ha.2.2.2.1
  have HLo := Lib.hid HI_1.out.ha.2.2.2.2
  have HLl := Lib.hid HL8.out.2
  clear hb q0 q1
  have hlm : a.mr = a.raw.length := HLn.out.1
  have HLM := Lib.hid (show a.mr ≤ 8 by have := HLl.out; omega)
  clear hlm
  have q0 := (act_cells HI_1.out.p5).1
  have q3 := (act_cells HI_1.out.p5).2.2.2
  have HERR := Lib.hid (HREL.out.err a.raw)
  by_cases hck : chk a.raw = 0
  · skip
    by_cases hho : d.holds a.raw = 0
    · skip
      have HHO := Lib.hid hho
      have HCK := Lib.hid hck
      have HWE := Lib.hid (show s.wrongS a.raw = 0 from by rw [HERR.out, if_neg (fun x => x hck)]; exact hho)
      have hcd : d.com n a.raw = d.commitD n a.raw := by unfold Rd.com; rw [if_pos ⟨hck, hho⟩]
      have HDD := Lib.hid (HDD0.out.trans hcd)
      obtain ⟨T, hT⟩ : ∃ T, T = ((d.commitD n a.raw).st.length : Int) - 1 := ⟨_, rfl⟩
      have HCT := Lib.hid (show s.comT a.raw = T from by rw [hT, HREL.out.time a.raw HWE.out, hcd])
      have HTT := Lib.hid hT
      have HSTL := Lib.hid (show (d.commitD n a.raw).st.length ≤ 1000000 from by have h1 := (HREL.out.com HM9.out a.raw).hst; have h2 := (HREL.out.com HM9.out a.raw).hnm; have h3 := HM9.out; rw [hcd] at h1; omega)
      clear hck hho hT HDD0 HERR hcd
      go_wp2_with (with_reducible refine at_load_ (t := 57) ?_; refine get_sto rfl _ rfl w.heap.size rfl HI_1.out.p3 ?_)
      refine (scom_any (S := SQ S w.heap.size) (s := s) (b1 := b1) (b2 := b2) a.AR a.mr a.cr a.raw (HI_1.out.new HS.out) HI_1.out.hm (HREL.out.few HM9.out) HLn.out HLo.out (by have := HLM.out; omega) HLc.out HREL.out.hn0 (by have := HREL.out.hnm; have := HM9.out; omega) (fun e _ _ => HREL.out.add HM9.out e.loc)).mono ?_
      rintro e w7 ⟨b5, b6, rfl, hmc, hb⟩
      rw [HCT.out, HWE.out]
      have HMo := Lib.hid hmc
      have HI_2 := Lib.hid (HI_1.out.below hb)
      have HLn_2 := Lib.hid (HLn.out.below hb)
      clear HI_1 HLn
      clear hb hmc q0 q3
      have HMn := Lib.hid (HMo.out.more (S' := fun b => SQ S w.heap.size b ∧ b ≠ w7.heap.size) fun b hb h => ⟨h, by omega⟩)
      have HQq17 := Lib.hid HI_2.out.lt
      go_wp2_with (with_reducible refine at_alloc_ (t := 57) ?_; refine alloc_at (S := fun _ => False) rfl rfl ?_)
      intro w8 hp hb hz
      have RN := Lib.hid hp
      have HMm := Lib.hid (HMn.out.below hb)
      have HBB := Lib.hid hb
      clear hp hb hz HMn
      clear HMo
      go_wp2_with (with_reducible refine at_store_ (t := 57) ?_; refine Hid.out ?_)
      refine Lib.hid ?_
      refine put_at rfl (.tmp 17) (.tmp 96) rfl rfl w7.heap.size rfl rfl RN.out HMm.out (fun h => h.2 rfl) ?_
      intro w9 hp ht
      have hbb := ht.below HBB.out (Nat.le_refl _)
      have HI_3 := Lib.hid (HI_2.out.below hbb)
      have HLn_3 := Lib.hid (HLn_2.out.below hbb)
      clear HI_2 HLn_2
      have X17 := Lib.hid hp
      clear hp ht hbb RN HMm HBB
      generalize w7.heap.size = q17 at *
      go_wp2_with fail
      refine (check_any (S := SQ S w.heap.size) a.AR a.mr a.cr a.raw w9 HLn_3.out HLo.out (by have := HLM.out; omega) HLc.out).mono ?_
      rintro e w10 ⟨rfl, hb⟩
      rw [HCK.out]
      have HI_4 := Lib.hid (HI_3.out.below hb)
      have HLn_4 := Lib.hid (HLn_3.out.below hb)
      have X17_4 := Lib.hid (X17.out.below hb)
      clear HI_3 HLn_3 X17
      clear hb
      go_wp2_with (with_reducible refine at_load_ (t := 80) ?_; refine get_rd (d := d) (sa := sa) (sv := sv) rfl _ rfl (w.heap.size + 1) rfl HI_4.out.p4 ?_)
      refine (rholds_any (S := SQ S w.heap.size) n a.AR a.mr a.cr a.raw w10 HI_4.out.hd HW.out (by have := HN6.out; omega) HLn_4.out (by have := HLl.out; omega)).mono ?_
      rintro e w11 ⟨rfl, hb⟩
      rw [HHO.out]
      have HI_5 := Lib.hid (HI_4.out.below hb)
      have HLn_5 := Lib.hid (HLn_4.out.below hb)
      have X17_5 := Lib.hid (X17_4.out.below hb)
      clear HI_4 HLn_4 X17_4
      clear hb
      have HCZ := Lib.hid (chk_zero HCK.out)
      go_wp2_with (with_reducible refine at_load_ (t := 80) ?_; refine get_rd (d := d) (sa := sa) (sv := sv) rfl _ rfl (w.heap.size + 1) rfl HI_5.out.p4 ?_)
      refine (rcommit_any (S := SQ S w.heap.size) n a.AR a.mr a.cr a.raw w11 (HI_5.out.new HS.out) HI_5.out.hd HW.out ⟨HN6.out.1, by have := HN6.out; omega⟩ HLn_5.out (by have := HLl.out; omega) (HREL.out.inl HHO.out) (fun j hj _ => wr_dis HCZ.out.2.1 j hj) (fun j hj => by have := HREL.out.hv j hj; have := HREL.out.hnm; have := HM9.out; omega)).mono ?_
      rintro e w12 ⟨sa', sv', rfl, hmd, hb⟩
      have HDo := Lib.hid hmd
      have HI_6 := Lib.hid (HI_5.out.below hb)
      have HLn_6 := Lib.hid (HLn_5.out.below hb)
      have X17_6 := Lib.hid (X17_5.out.below hb)
      clear HI_5 HLn_5 X17_5
      clear hb hmd
      have HMn := Lib.hid (HDo.out.more (S' := fun b => SQ S w.heap.size b ∧ b ≠ w12.heap.size) fun b hb h => ⟨h, by omega⟩)
      have HQq21 := Lib.hid HI_6.out.lt
      go_wp2_with (with_reducible refine at_alloc_ (t := 80) ?_; refine alloc_rd (S := fun _ => False) rfl rfl ?_)
      intro w13 hp hb hz
      have RN := Lib.hid hp
      have HMm := Lib.hid (HMn.out.below hb)
      have HBB := Lib.hid hb
      clear hp hb hz HMn
      clear HDo
      go_wp2_with (with_reducible refine at_store_ (t := 80) ?_; refine Hid.out ?_)
      refine Lib.hid ?_
      refine put_rd rfl (.tmp 21) (.tmp 119) rfl rfl w12.heap.size rfl rfl RN.out HMm.out (fun h => h.2 rfl) ?_
      intro w14 hp ht
      have hbb := ht.below HBB.out (Nat.le_refl _)
      have HI_7 := Lib.hid (HI_6.out.below hbb)
      have HLn_7 := Lib.hid (HLn_6.out.below hbb)
      have X17_7 := Lib.hid (X17_6.out.below hbb)
      clear HI_6 HLn_6 X17_6
      have Y21 := Lib.hid hp
      clear hp ht hbb RN HMm HBB
      generalize w12.heap.size = q21 at *
      go_wp2_with fail
      obtain ⟨k1, k2, e1, hm1⟩ := X17_7.out
      obtain ⟨l1, l2, e2, hm2⟩ := Y21.out
      have HF1 := Lib.hid e1
      have HF2 := Lib.hid e2
      have HM1 := Lib.hid hm1
      have HM2 := Lib.hid hm2
      clear e1 hm1
      clear e2 hm2
      refine wp_region_held_drew (S := fun W => W.heap[q17]? = some (.cells (stoCells (s.com a.raw).c (s.com a.raw).n (.map k1) (.map k2) (s.com a.raw).B (s.com a.raw).T) 57 (0, 0)) ∧ W.heap[q21]? = some (.cells (rCells l1 l2 (d.commitD n a.raw).R) 80 (0, 0))) (by kernel_rfl) ⟨HF1.out, HF2.out⟩ (fun hHeld => ?_)
      have HHD := Lib.hid hHeld
      have hbd : Below w14.heap.size w14 w14.drew := (Below.refl _ _).drew
      have HID := Lib.hid (HI_7.out.below hbd)
      have HMD1 := Lib.hid (HM1.out.below hbd)
      have HMD2 := Lib.hid (HM2.out.below hbd)
      clear hHeld hbd HF1 HF2 HM1 HM2 HI_7 HLn_7 X17_7 Y21
      generalize w14.drew = wd at *
      refine wpAnyH_take (i := 0) (oi := ⟨some 120, _, _, _, _, _⟩) (v := (s.com a.raw).val k1 k2) rfl (by kernel_rfl) (by kernel_rfl) (by kernel_rfl) (fun _ _ _ h => h) (yields_sto (by rfl) _ rfl q17 rfl 57 (0, 0) (fun _ h => h.1)) HHD.out ?_
      try simp only [Act.put, List.setIfInBounds_toArray, List.set_cons_zero, List.set_cons_succ]
      refine wpAnyH_take (i := 1) (oi := ⟨some 121, _, _, _, _, _⟩) (v := (d.commitD n a.raw).val l1 l2) rfl (by kernel_rfl) (by kernel_rfl) (by kernel_rfl) (fun _ _ _ h => h) (yields_rd (by rfl) _ rfl q21 rfl 80 (0, 0) (fun _ h => h.2)) HHD.out ?_
      try simp only [Act.put, List.setIfInBounds_toArray, List.set_cons_zero, List.set_cons_succ]
      refine wpAnyH_take (i := 2) (oi := ⟨some 122, _, _, _, _, _⟩) (v := .int .i64 0) rfl (by kernel_rfl) (by kernel_rfl) (by kernel_rfl) (fun _ _ _ h => h) (Or.inl ⟨by kernel_rfl, ?_⟩) HHD.out ?_
      · intro W' hW
        go_simp
      try simp only [Act.put, List.setIfInBounds_toArray, List.set_cons_zero, List.set_cons_succ]
      refine wpAnyH_take (i := 3) (oi := ⟨some 123, _, _, _, _, _⟩) (v := .bool true) rfl (by kernel_rfl) (by kernel_rfl) (by kernel_rfl) (fun _ _ _ h => h) (Or.inl ⟨by kernel_rfl, ?_⟩) HHD.out ?_
      · intro W' hW
        go_simp
      try simp only [Act.put, List.setIfInBounds_toArray, List.set_cons_zero, List.set_cons_succ]
      refine wpAnyH_take (i := 4) (oi := ⟨some 124, _, _, _, _, _⟩) (v := .bool true) rfl (by kernel_rfl) (by kernel_rfl) (by kernel_rfl) (fun _ _ _ h => h) (Or.inl ⟨by kernel_rfl, ?_⟩) HHD.out ?_
      · intro W' hW
        go_simp
      try simp only [Act.put, List.setIfInBounds_toArray, List.set_cons_zero, List.set_cons_succ]
      refine wpAnyH_take (i := 5) (oi := ⟨some 125, _, _, _, _, _⟩) (v := .int .i64 T) rfl (by kernel_rfl) (by kernel_rfl) (by kernel_rfl) (fun _ _ _ h => h) (Or.inl ⟨by kernel_rfl, ?_⟩) HHD.out ?_
      · intro W' hW
        go_simp
      try simp only [Act.put, List.setIfInBounds_toArray, List.set_cons_zero, List.set_cons_succ]
      refine wpAnyH_take (i := 6) (oi := ⟨some 126, _, _, _, _, _⟩) (v := (d.commitD n a.raw).val l1 l2) rfl (by kernel_rfl) (by kernel_rfl) (by kernel_rfl) (fun _ _ _ h => h) (yields_rd (by kernel_rfl) _ rfl q21 rfl 80 (0, 0) (fun _ h => h.2)) HHD.out ?_
      try simp only [Act.put, List.setIfInBounds_toArray, List.set_cons_zero, List.set_cons_succ]
      refine wpAnyH_ready (rs := [7]) (by kernel_rfl) (by simp) ?_
      refine AllReadyH.cons (o := ⟨some 127, _, _, _, _, _⟩) rfl (fun K hK => ?_) (AllReadyH.nil)
      go_simp
      refine (rnow_any wd HMD2.out HSTL.out).mono ?_
      rintro e we ⟨he, hb⟩
      rw [← HTT.out] at he
      subst he
      have HHE := Lib.hid (show we.heap[q17]? = some (.cells (stoCells (s.com a.raw).c (s.com a.raw).n (.map k1) (.map k2) (s.com a.raw).B (s.com a.raw).T) 57 (0, 0)) ∧ we.heap[q21]? = some (.cells (rCells l1 l2 (d.commitD n a.raw).R) 80 (0, 0)) from ⟨(hb.block _ (lt_of_block HHD.out.1)).trans HHD.out.1, (hb.block _ (lt_of_block HHD.out.2)).trans HHD.out.2⟩)
      have HIE := Lib.hid (HID.out.below hb)
      have HMF1 := Lib.hid (HMD1.out.below hb)
      have HME2 := Lib.hid (HMD2.out.below hb)
      clear hb HID HMD1 HMD2 HHD
      have HID := HIE
      have HMD1 := HMF1
      have HMD2 := HME2
      have HHD := HHE
      clear HIE HMF1 HME2 HHE
      refine hK.out _ _ HHD.out (fun hHeldq => ?_)
      clear hK hHeldq
      try simp only [Act.put, List.setIfInBounds_toArray, List.set_cons_zero, List.set_cons_succ]
      refine wpAnyH_take (i := 8) (oi := ⟨some 128, _, _, _, _, _⟩) (v := .bool true) rfl (by kernel_rfl) (by kernel_rfl) (by kernel_rfl) (fun _ _ _ h => h) (Or.inl ⟨by kernel_rfl, ?_⟩) HHD.out ?_
      · intro W' hW
        go_simp
      try simp only [Act.put, List.setIfInBounds_toArray, List.set_cons_zero, List.set_cons_succ]
      refine wpAnyH_take (i := 9) (oi := ⟨some 129, _, _, _, _, _⟩) (v := .bool true) rfl (by kernel_rfl) (by kernel_rfl) (by kernel_rfl) (fun _ _ _ h => h) (Or.inl ⟨by kernel_rfl, ?_⟩) HHD.out ?_
      · intro W' hW
        go_simp
      try simp only [Act.put, List.setIfInBounds_toArray, List.set_cons_zero, List.set_cons_succ]
      have P6D := Lib.hid HID.out.p6
      have P7D := Lib.hid HID.out.p7
      have HBD := Lib.hid HID.out.hB
      clear HID
      refine wpAnyH_ready (rs := [10]) (by kernel_rfl) (by simp) ?_
      refine AllReadyH.cons (o := ⟨none, _, _, _, _, _⟩) rfl (fun K hK => ?_) (AllReadyH.nil)
      refine Eq.mpr (if_pos (by kernel_rfl)) ?_
      refine wp_put_st (.tmp 6) (.tmp 120) rfl (w.heap.size + 3) rfl rfl P6D.out HMD1.out (fun h => by have h := h.1.2; omega) ?_
      intro wa hp ht
      have P6F := Lib.hid hp
      have HHA := Lib.hid (show wa.heap[q17]? = some (.cells (stoCells (s.com a.raw).c (s.com a.raw).n (.map k1) (.map k2) (s.com a.raw).B (s.com a.raw).T) 57 (0, 0)) ∧ wa.heap[q21]? = some (.cells (rCells l1 l2 (d.commitD n a.raw).R) 80 (0, 0)) from ⟨(ht.block (by have := HQq17.out; omega)).trans HHD.out.1, (ht.block (by have := HQq21.out; omega)).trans HHD.out.2⟩)
      have P7A := Lib.hid (ht.rat P7D.out (by omega) (fun h => h))
      have MA2 := Lib.hid (ht.mem HMD2.out (fun h => by have h := h.1.2; omega))
      have HBA := Lib.hid (ht.below HBD.out (by omega))
      clear hp ht HHD P6D P7D HMD1 HMD2 HBD
      refine hK.out _ _ HHA.out (fun hHeldq => ?_)
      clear hK hHeldq
      try simp only [Act.put]
      refine wpAnyH_ready (rs := [11]) (by kernel_rfl) (by simp) ?_
      refine AllReadyH.cons (o := ⟨none, _, _, _, _, _⟩) rfl (fun K hK => ?_) (AllReadyH.nil)
      refine Eq.mpr (if_pos (by kernel_rfl)) ?_
      refine wp_put_rr (.tmp 7) (.tmp 121) rfl (w.heap.size + 4) rfl rfl P7A.out MA2.out (fun h => by have h := h.1.2; omega) ?_
      intro wb hp ht
      have P7F := Lib.hid hp
      have HHB := Lib.hid (show wb.heap[q17]? = some (.cells (stoCells (s.com a.raw).c (s.com a.raw).n (.map k1) (.map k2) (s.com a.raw).B (s.com a.raw).T) 57 (0, 0)) ∧ wb.heap[q21]? = some (.cells (rCells l1 l2 (d.commitD n a.raw).R) 80 (0, 0)) from ⟨(ht.block (by have := HQq17.out; omega)).trans HHA.out.1, (ht.block (by have := HQq21.out; omega)).trans HHA.out.2⟩)
      have P6G := Lib.hid (ht.at P6F.out (by omega) (fun h => by have h := h.1.2; omega))
      have HBF := Lib.hid (ht.below HBA.out (by omega))
      clear hp ht P6F HHA P7A MA2 HBA
      have P6F := P6G
      clear P6G
      refine hK.out _ _ HHB.out (fun hHeldq => ?_)
      clear hK hHeldq
      try simp only [Act.put]
      refine wpAnyH_take (i := 12) (oi := ⟨some 8, _, _, _, _, _⟩) (v := .bool true) rfl (by kernel_rfl) (by kernel_rfl) (by kernel_rfl) (fun _ _ _ h => h) (Or.inl ⟨by kernel_rfl, ?_⟩) HHB.out ?_
      · intro W' hW
        go_simp
      try simp only [Act.put, List.setIfInBounds_toArray, List.set_cons_zero, List.set_cons_succ]
      refine wpAnyH_done (by kernel_rfl) ?_ _
      clear HHB
      have H6S := Lib.hid (fun b (h : (fun b => SQ S w.heap.size b ∧ b ≠ q17) b) => (show S b from h.1.1))
      have H7S := Lib.hid (fun b (h : (fun b => SQ S w.heap.size b ∧ b ≠ q21) b) => (show S b from h.1.1))
      go_wp2_with fail
      obtain ⟨c5, c6, hblk, hmaps⟩ := P6F.out
      obtain ⟨sa5, sv5, hblk2, hmem⟩ := P7F.out
      have hl := load_sto _ _ _ _ _ hblk rfl
      have hl2 := load_rd _ _ _ _ _ hblk2 rfl
      refine bodyPost_ret (v := .tuple #[(s.com a.raw).val c5 c6, (d.commitD n a.raw).val sa5 sv5, .bool true]) ?_ rfl ⟨c5, c6, sa5, sv5, by rw [HDS.out, HDD.out], by rw [HDS.out]; exact hmaps.more fun b _ h => H6S.out b h, by rw [HDD.out]; exact hmem.more fun b _ h => H7S.out b h, HBF.out⟩
      simp [results, Try.results39, asAddr, hl, hl2, Sn.val, sto, Rd.val, Result.andThen]
    · skip
      obtain ⟨E, hE⟩ : ∃ E, E = d.holds a.raw := ⟨_, rfl⟩
      have HHO := Lib.hid hE.symm
      have HCK := Lib.hid hck
      have HWE := Lib.hid (show s.wrongS a.raw = E from by rw [HERR.out, if_neg (fun x => x hck), hE])
      have hE0 : (E == 0) = false := by rw [hE]; simpa using hho
      have hE1 : (E != 0) = true := by rw [hE]; simpa using hho
      have HDD := Lib.hid (HDD0.out.trans (show d.com n a.raw = d from by unfold Rd.com; rw [if_neg (fun x => hho x.2)]))
      have HCT := Lib.hid (show s.comT a.raw = 0 from by unfold Sn.comT; rw [if_pos (by rw [HWE.out, hE]; exact hho)])
      clear hck hho hE HDD0 HERR
      go_wp2_with (with_reducible refine at_load_ (t := 57) ?_; refine get_sto rfl _ rfl w.heap.size rfl HI_1.out.p3 ?_)
      refine (scom_any (S := SQ S w.heap.size) (s := s) (b1 := b1) (b2 := b2) a.AR a.mr a.cr a.raw (HI_1.out.new HS.out) HI_1.out.hm (HREL.out.few HM9.out) HLn.out HLo.out (by have := HLM.out; omega) HLc.out HREL.out.hn0 (by have := HREL.out.hnm; have := HM9.out; omega) (fun e _ _ => HREL.out.add HM9.out e.loc)).mono ?_
      rintro e w7 ⟨b5, b6, rfl, hmc, hb⟩
      rw [HCT.out, HWE.out]
      have HMo := Lib.hid hmc
      have HI_2 := Lib.hid (HI_1.out.below hb)
      have HLn_2 := Lib.hid (HLn.out.below hb)
      clear HI_1 HLn
      clear hb hmc q0 q3
      have HMn := Lib.hid (HMo.out.more (S' := fun b => SQ S w.heap.size b ∧ b ≠ w7.heap.size) fun b hb h => ⟨h, by omega⟩)
      have HQq17 := Lib.hid HI_2.out.lt
      go_wp2_with (with_reducible refine at_alloc_ (t := 57) ?_; refine alloc_at (S := fun _ => False) rfl rfl ?_)
      intro w8 hp hb hz
      have RN := Lib.hid hp
      have HMm := Lib.hid (HMn.out.below hb)
      have HBB := Lib.hid hb
      clear hp hb hz HMn
      clear HMo
      go_wp2_with (with_reducible refine at_store_ (t := 57) ?_; refine Hid.out ?_)
      refine Lib.hid ?_
      refine put_at rfl (.tmp 17) (.tmp 96) rfl rfl w7.heap.size rfl rfl RN.out HMm.out (fun h => h.2 rfl) ?_
      intro w9 hp ht
      have hbb := ht.below HBB.out (Nat.le_refl _)
      have HI_3 := Lib.hid (HI_2.out.below hbb)
      have HLn_3 := Lib.hid (HLn_2.out.below hbb)
      clear HI_2 HLn_2
      have X17 := Lib.hid hp
      clear hp ht hbb RN HMm HBB
      generalize w7.heap.size = q17 at *
      go_wp2_with fail
      refine (check_any (S := SQ S w.heap.size) a.AR a.mr a.cr a.raw w9 HLn_3.out HLo.out (by have := HLM.out; omega) HLc.out).mono ?_
      rintro e w10 ⟨rfl, hb⟩
      rw [HCK.out]
      have HI_4 := Lib.hid (HI_3.out.below hb)
      have HLn_4 := Lib.hid (HLn_3.out.below hb)
      have X17_4 := Lib.hid (X17.out.below hb)
      clear HI_3 HLn_3 X17
      clear hb
      go_wp2_with (with_reducible refine at_load_ (t := 80) ?_; refine get_rd (d := d) (sa := sa) (sv := sv) rfl _ rfl (w.heap.size + 1) rfl HI_4.out.p4 ?_)
      refine (rholds_any (S := SQ S w.heap.size) n a.AR a.mr a.cr a.raw w10 HI_4.out.hd HW.out (by have := HN6.out; omega) HLn_4.out (by have := HLl.out; omega)).mono ?_
      rintro e w11 ⟨rfl, hb⟩
      rw [HHO.out]
      have HI_5 := Lib.hid (HI_4.out.below hb)
      have HLn_5 := Lib.hid (HLn_4.out.below hb)
      have X17_5 := Lib.hid (X17_4.out.below hb)
      clear HI_4 HLn_4 X17_4
      clear hb
      go_wp2_with fail
      obtain ⟨k1, k2, e1, hm1⟩ := X17_5.out
      have HF1 := Lib.hid e1
      have HF2 := Lib.hid HI_5.out.p4
      have HM1 := Lib.hid hm1
      have HM2 := Lib.hid HI_5.out.hd
      clear e1 hm1
      refine wp_region_held_drew (S := fun W => W.heap[q17]? = some (.cells (stoCells (s.com a.raw).c (s.com a.raw).n (.map k1) (.map k2) (s.com a.raw).B (s.com a.raw).T) 57 (0, 0)) ∧ W.heap[(w.heap.size + 1)]? = some (.cells (rCells sa sv d.R) 80 (0, 0))) (by kernel_rfl) ⟨HF1.out, HF2.out⟩ (fun hHeld => ?_)
      have HHD := Lib.hid hHeld
      have hbd : Below w11.heap.size w11 w11.drew := (Below.refl _ _).drew
      have HID := Lib.hid (HI_5.out.below hbd)
      have HMD1 := Lib.hid (HM1.out.below hbd)
      have HMD2 := Lib.hid (HM2.out.below hbd)
      clear hHeld hbd HF1 HF2 HM1 HM2 HI_5 HLn_5 X17_5
      generalize w11.drew = wd at *
      refine wpAnyH_take (i := 0) (oi := ⟨some 108, _, _, _, _, _⟩) (v := (s.com a.raw).val k1 k2) rfl (by kernel_rfl) (by kernel_rfl) (by kernel_rfl) (fun _ _ _ h => h) (yields_sto (by rfl) _ rfl q17 rfl 57 (0, 0) (fun _ h => h.1)) HHD.out ?_
      try simp only [Act.put, List.setIfInBounds_toArray, List.set_cons_zero, List.set_cons_succ]
      refine wpAnyH_take (i := 1) (oi := ⟨some 109, _, _, _, _, _⟩) (v := d.val sa sv) rfl (by kernel_rfl) (by kernel_rfl) (by kernel_rfl) (fun _ _ _ h => h) (yields_rd (by rfl) _ rfl (w.heap.size + 1) rfl 80 (0, 0) (fun _ h => h.2)) HHD.out ?_
      try simp only [Act.put, List.setIfInBounds_toArray, List.set_cons_zero, List.set_cons_succ]
      refine wpAnyH_take (i := 2) (oi := ⟨some 110, _, _, _, _, _⟩) (v := .int .i64 E) rfl (by kernel_rfl) (by kernel_rfl) (by kernel_rfl) (fun _ _ _ h => h) (Or.inl ⟨by kernel_rfl, ?_⟩) HHD.out ?_
      · intro W' hW
        go_simp
      try simp only [Act.put, List.setIfInBounds_toArray, List.set_cons_zero, List.set_cons_succ]
      refine wpAnyH_take (i := 3) (oi := ⟨some 111, _, _, _, _, _⟩) (v := .int .i64 E) rfl (by kernel_rfl) (by kernel_rfl) (by kernel_rfl) (fun _ _ _ h => h) (Or.inl ⟨by kernel_rfl, ?_⟩) HHD.out ?_
      · intro W' hW
        go_simp
      try simp only [Act.put, List.setIfInBounds_toArray, List.set_cons_zero, List.set_cons_succ]
      refine wpAnyH_take (i := 4) (oi := ⟨some 112, _, _, _, _, _⟩) (v := .bool true) rfl (by kernel_rfl) (by kernel_rfl) (by kernel_rfl) (fun _ _ _ h => h) (Or.inl ⟨by kernel_rfl, ?_⟩) HHD.out ?_
      · intro W' hW
        go_simp
      try simp only [Act.put, List.setIfInBounds_toArray, List.set_cons_zero, List.set_cons_succ]
      refine wpAnyH_take (i := 5) (oi := ⟨some 113, _, _, _, _, _⟩) (v := .bool true) rfl (by kernel_rfl) (by kernel_rfl) (by kernel_rfl) (fun _ _ _ h => h) (Or.inl ⟨by kernel_rfl, ?_⟩) HHD.out ?_
      · intro W' hW
        go_simp
      try simp only [Act.put, List.setIfInBounds_toArray, List.set_cons_zero, List.set_cons_succ]
      refine wpAnyH_take (i := 6) (oi := ⟨some 114, _, _, _, _, _⟩) (v := .int .i64 0) rfl (by kernel_rfl) (by kernel_rfl) (by kernel_rfl) (fun _ _ _ h => h) (Or.inl ⟨by kernel_rfl, ?_⟩) HHD.out ?_
      · intro W' hW
        go_simp
      try simp only [Act.put, List.setIfInBounds_toArray, List.set_cons_zero, List.set_cons_succ]
      refine wpAnyH_take (i := 7) (oi := ⟨some 115, _, _, _, _, _⟩) (v := .bool true) rfl (by kernel_rfl) (by kernel_rfl) (by kernel_rfl) (fun _ _ _ h => h) (Or.inl ⟨by kernel_rfl, ?_⟩) HHD.out ?_
      · intro W' hW
        go_simp
      try simp only [Act.put, List.setIfInBounds_toArray, List.set_cons_zero, List.set_cons_succ]
      refine wpAnyH_take (i := 8) (oi := ⟨some 116, _, _, _, _, _⟩) (v := .bool true) rfl (by kernel_rfl) (by kernel_rfl) (by kernel_rfl) (fun _ _ _ h => h) (Or.inl ⟨by kernel_rfl, ?_⟩) HHD.out ?_
      · intro W' hW
        go_simp
      try simp only [Act.put, List.setIfInBounds_toArray, List.set_cons_zero, List.set_cons_succ]
      have P6D := Lib.hid HID.out.p6
      have P7D := Lib.hid HID.out.p7
      have HBD := Lib.hid HID.out.hB
      clear HID
      refine wpAnyH_ready (rs := [9]) (by kernel_rfl) (by simp) ?_
      refine AllReadyH.cons (o := ⟨none, _, _, _, _, _⟩) rfl (fun K hK => ?_) (AllReadyH.nil)
      refine Eq.mpr (if_pos (by kernel_rfl)) ?_
      refine wp_put_st (.tmp 6) (.tmp 108) rfl (w.heap.size + 3) rfl rfl P6D.out HMD1.out (fun h => by have h := h.1.2; omega) ?_
      intro wa hp ht
      have P6F := Lib.hid hp
      have HHA := Lib.hid (show wa.heap[q17]? = some (.cells (stoCells (s.com a.raw).c (s.com a.raw).n (.map k1) (.map k2) (s.com a.raw).B (s.com a.raw).T) 57 (0, 0)) ∧ wa.heap[(w.heap.size + 1)]? = some (.cells (rCells sa sv d.R) 80 (0, 0)) from ⟨(ht.block (by have := HQq17.out; omega)).trans HHD.out.1, (ht.block (by omega)).trans HHD.out.2⟩)
      have P7A := Lib.hid (ht.rat P7D.out (by omega) (fun h => h))
      have MA2 := Lib.hid (ht.mem HMD2.out (fun h => by have h := h.2; omega))
      have HBA := Lib.hid (ht.below HBD.out (by omega))
      clear hp ht HHD P6D P7D HMD1 HMD2 HBD
      refine hK.out _ _ HHA.out (fun hHeldq => ?_)
      clear hK hHeldq
      try simp only [Act.put]
      refine wpAnyH_ready (rs := [10]) (by kernel_rfl) (by simp) ?_
      refine AllReadyH.cons (o := ⟨none, _, _, _, _, _⟩) rfl (fun K hK => ?_) (AllReadyH.nil)
      refine Eq.mpr (if_pos (by kernel_rfl)) ?_
      refine wp_put_rr (.tmp 7) (.tmp 109) rfl (w.heap.size + 4) rfl rfl P7A.out MA2.out (fun h => by have h := h.2; omega) ?_
      intro wb hp ht
      have P7F := Lib.hid hp
      have HHB := Lib.hid (show wb.heap[q17]? = some (.cells (stoCells (s.com a.raw).c (s.com a.raw).n (.map k1) (.map k2) (s.com a.raw).B (s.com a.raw).T) 57 (0, 0)) ∧ wb.heap[(w.heap.size + 1)]? = some (.cells (rCells sa sv d.R) 80 (0, 0)) from ⟨(ht.block (by have := HQq17.out; omega)).trans HHA.out.1, (ht.block (by omega)).trans HHA.out.2⟩)
      have P6G := Lib.hid (ht.at P6F.out (by omega) (fun h => by have h := h.1.2; omega))
      have HBF := Lib.hid (ht.below HBA.out (by omega))
      clear hp ht P6F HHA P7A MA2 HBA
      have P6F := P6G
      clear P6G
      refine hK.out _ _ HHB.out (fun hHeldq => ?_)
      clear hK hHeldq
      try simp only [Act.put]
      refine wpAnyH_take (i := 11) (oi := ⟨some 8, _, _, _, _, _⟩) (v := .bool true) rfl (by kernel_rfl) (by kernel_rfl) (by kernel_rfl) (fun _ _ _ h => h) (Or.inl ⟨by kernel_rfl, ?_⟩) HHB.out ?_
      · intro W' hW
        go_simp
      try simp only [Act.put, List.setIfInBounds_toArray, List.set_cons_zero, List.set_cons_succ]
      refine wpAnyH_done (by kernel_rfl) ?_ _
      clear HHB
      have H6S := Lib.hid (fun b (h : (fun b => SQ S w.heap.size b ∧ b ≠ q17) b) => (show S b from h.1.1))
      have H7S := Lib.hid (fun b (h : SQ S w.heap.size b) => (show S b from h.1))
      go_wp2_with fail
      obtain ⟨c5, c6, hblk, hmaps⟩ := P6F.out
      obtain ⟨sa5, sv5, hblk2, hmem⟩ := P7F.out
      have hl := load_sto _ _ _ _ _ hblk rfl
      have hl2 := load_rd _ _ _ _ _ hblk2 rfl
      refine bodyPost_ret (v := .tuple #[(s.com a.raw).val c5 c6, d.val sa5 sv5, .bool true]) ?_ rfl ⟨c5, c6, sa5, sv5, by rw [HDS.out, HDD.out], by rw [HDS.out]; exact hmaps.more fun b _ h => H6S.out b h, by rw [HDD.out]; exact hmem.more fun b _ h => H7S.out b h, HBF.out⟩
      simp [results, Try.results39, asAddr, hl, hl2, Sn.val, sto, Rd.val, Result.andThen]
  · skip
    obtain ⟨E, hE⟩ : ∃ E, E = chk a.raw := ⟨_, rfl⟩
    have HCK := Lib.hid hE.symm
    have HWE := Lib.hid (show s.wrongS a.raw = E from by rw [HERR.out, if_pos hck, hE])
    have hE0 : (E == 0) = false := by rw [hE]; simpa using hck
    have hE1 : (E != 0) = true := by rw [hE]; simpa using hck
    have HDD := Lib.hid (HDD0.out.trans (show d.com n a.raw = d from by unfold Rd.com; rw [if_neg (fun x => hck x.1)]))
    have HCT := Lib.hid (show s.comT a.raw = 0 from by unfold Sn.comT; rw [if_pos (by rw [HWE.out, hE]; exact hck)])
    clear hck hE HDD0 HERR
    go_wp2_with (with_reducible refine at_load_ (t := 57) ?_; refine get_sto rfl _ rfl w.heap.size rfl HI_1.out.p3 ?_)
    refine (scom_any (S := SQ S w.heap.size) (s := s) (b1 := b1) (b2 := b2) a.AR a.mr a.cr a.raw (HI_1.out.new HS.out) HI_1.out.hm (HREL.out.few HM9.out) HLn.out HLo.out (by have := HLM.out; omega) HLc.out HREL.out.hn0 (by have := HREL.out.hnm; have := HM9.out; omega) (fun e _ _ => HREL.out.add HM9.out e.loc)).mono ?_
    rintro e w7 ⟨b5, b6, rfl, hmc, hb⟩
    rw [HCT.out, HWE.out]
    have HMo := Lib.hid hmc
    have HI_2 := Lib.hid (HI_1.out.below hb)
    have HLn_2 := Lib.hid (HLn.out.below hb)
    clear HI_1 HLn
    clear hb hmc q0 q3
    have HMn := Lib.hid (HMo.out.more (S' := fun b => SQ S w.heap.size b ∧ b ≠ w7.heap.size) fun b hb h => ⟨h, by omega⟩)
    have HQq17 := Lib.hid HI_2.out.lt
    go_wp2_with (with_reducible refine at_alloc_ (t := 57) ?_; refine alloc_at (S := fun _ => False) rfl rfl ?_)
    intro w8 hp hb hz
    have RN := Lib.hid hp
    have HMm := Lib.hid (HMn.out.below hb)
    have HBB := Lib.hid hb
    clear hp hb hz HMn
    clear HMo
    go_wp2_with (with_reducible refine at_store_ (t := 57) ?_; refine Hid.out ?_)
    refine Lib.hid ?_
    refine put_at rfl (.tmp 17) (.tmp 96) rfl rfl w7.heap.size rfl rfl RN.out HMm.out (fun h => h.2 rfl) ?_
    intro w9 hp ht
    have hbb := ht.below HBB.out (Nat.le_refl _)
    have HI_3 := Lib.hid (HI_2.out.below hbb)
    have HLn_3 := Lib.hid (HLn_2.out.below hbb)
    clear HI_2 HLn_2
    have X17 := Lib.hid hp
    clear hp ht hbb RN HMm HBB
    generalize w7.heap.size = q17 at *
    go_wp2_with fail
    refine (check_any (S := SQ S w.heap.size) a.AR a.mr a.cr a.raw w9 HLn_3.out HLo.out (by have := HLM.out; omega) HLc.out).mono ?_
    rintro e w10 ⟨rfl, hb⟩
    rw [HCK.out]
    have HI_4 := Lib.hid (HI_3.out.below hb)
    have HLn_4 := Lib.hid (HLn_3.out.below hb)
    have X17_4 := Lib.hid (X17.out.below hb)
    clear HI_3 HLn_3 X17
    clear hb
    go_wp2_with fail
    obtain ⟨k1, k2, e1, hm1⟩ := X17_4.out
    have HF1 := Lib.hid e1
    have HF2 := Lib.hid HI_4.out.p4
    have HM1 := Lib.hid hm1
    have HM2 := Lib.hid HI_4.out.hd
    clear e1 hm1
    refine wp_region_held_drew (S := fun W => W.heap[q17]? = some (.cells (stoCells (s.com a.raw).c (s.com a.raw).n (.map k1) (.map k2) (s.com a.raw).B (s.com a.raw).T) 57 (0, 0)) ∧ W.heap[(w.heap.size + 1)]? = some (.cells (rCells sa sv d.R) 80 (0, 0))) (by kernel_rfl) ⟨HF1.out, HF2.out⟩ (fun hHeld => ?_)
    have HHD := Lib.hid hHeld
    have hbd : Below w10.heap.size w10 w10.drew := (Below.refl _ _).drew
    have HID := Lib.hid (HI_4.out.below hbd)
    have HMD1 := Lib.hid (HM1.out.below hbd)
    have HMD2 := Lib.hid (HM2.out.below hbd)
    clear hHeld hbd HF1 HF2 HM1 HM2 HI_4 HLn_4 X17_4
    generalize w10.drew = wd at *
    refine wpAnyH_take (i := 0) (oi := ⟨some 108, _, _, _, _, _⟩) (v := (s.com a.raw).val k1 k2) rfl (by kernel_rfl) (by kernel_rfl) (by kernel_rfl) (fun _ _ _ h => h) (yields_sto (by rfl) _ rfl q17 rfl 57 (0, 0) (fun _ h => h.1)) HHD.out ?_
    try simp only [Act.put, List.setIfInBounds_toArray, List.set_cons_zero, List.set_cons_succ]
    refine wpAnyH_take (i := 1) (oi := ⟨some 109, _, _, _, _, _⟩) (v := d.val sa sv) rfl (by kernel_rfl) (by kernel_rfl) (by kernel_rfl) (fun _ _ _ h => h) (yields_rd (by rfl) _ rfl (w.heap.size + 1) rfl 80 (0, 0) (fun _ h => h.2)) HHD.out ?_
    try simp only [Act.put, List.setIfInBounds_toArray, List.set_cons_zero, List.set_cons_succ]
    refine wpAnyH_take (i := 2) (oi := ⟨some 110, _, _, _, _, _⟩) (v := .int .i64 E) rfl (by kernel_rfl) (by kernel_rfl) (by kernel_rfl) (fun _ _ _ h => h) (Or.inl ⟨by kernel_rfl, ?_⟩) HHD.out ?_
    · intro W' hW
      go_simp
    try simp only [Act.put, List.setIfInBounds_toArray, List.set_cons_zero, List.set_cons_succ]
    refine wpAnyH_take (i := 3) (oi := ⟨some 111, _, _, _, _, _⟩) (v := .int .i64 E) rfl (by kernel_rfl) (by kernel_rfl) (by kernel_rfl) (fun _ _ _ h => h) (Or.inl ⟨by kernel_rfl, ?_⟩) HHD.out ?_
    · intro W' hW
      go_simp
    try simp only [Act.put, List.setIfInBounds_toArray, List.set_cons_zero, List.set_cons_succ]
    refine wpAnyH_take (i := 4) (oi := ⟨some 112, _, _, _, _, _⟩) (v := .bool true) rfl (by kernel_rfl) (by kernel_rfl) (by kernel_rfl) (fun _ _ _ h => h) (Or.inl ⟨by kernel_rfl, ?_⟩) HHD.out ?_
    · intro W' hW
      go_simp
    try simp only [Act.put, List.setIfInBounds_toArray, List.set_cons_zero, List.set_cons_succ]
    refine wpAnyH_take (i := 5) (oi := ⟨some 113, _, _, _, _, _⟩) (v := .bool true) rfl (by kernel_rfl) (by kernel_rfl) (by kernel_rfl) (fun _ _ _ h => h) (Or.inl ⟨by kernel_rfl, ?_⟩) HHD.out ?_
    · intro W' hW
      go_simp
    try simp only [Act.put, List.setIfInBounds_toArray, List.set_cons_zero, List.set_cons_succ]
    refine wpAnyH_take (i := 6) (oi := ⟨some 114, _, _, _, _, _⟩) (v := .int .i64 0) rfl (by kernel_rfl) (by kernel_rfl) (by kernel_rfl) (fun _ _ _ h => h) (Or.inl ⟨by kernel_rfl, ?_⟩) HHD.out ?_
    · intro W' hW
      go_simp
    try simp only [Act.put, List.setIfInBounds_toArray, List.set_cons_zero, List.set_cons_succ]
    refine wpAnyH_take (i := 7) (oi := ⟨some 115, _, _, _, _, _⟩) (v := .bool true) rfl (by kernel_rfl) (by kernel_rfl) (by kernel_rfl) (fun _ _ _ h => h) (Or.inl ⟨by kernel_rfl, ?_⟩) HHD.out ?_
    · intro W' hW
      go_simp
    try simp only [Act.put, List.setIfInBounds_toArray, List.set_cons_zero, List.set_cons_succ]
    refine wpAnyH_take (i := 8) (oi := ⟨some 116, _, _, _, _, _⟩) (v := .bool true) rfl (by kernel_rfl) (by kernel_rfl) (by kernel_rfl) (fun _ _ _ h => h) (Or.inl ⟨by kernel_rfl, ?_⟩) HHD.out ?_
    · intro W' hW
      go_simp
    try simp only [Act.put, List.setIfInBounds_toArray, List.set_cons_zero, List.set_cons_succ]
    have P6D := Lib.hid HID.out.p6
    have P7D := Lib.hid HID.out.p7
    have HBD := Lib.hid HID.out.hB
    clear HID
    refine wpAnyH_ready (rs := [9]) (by kernel_rfl) (by simp) ?_
    refine AllReadyH.cons (o := ⟨none, _, _, _, _, _⟩) rfl (fun K hK => ?_) (AllReadyH.nil)
    refine Eq.mpr (if_pos (by kernel_rfl)) ?_
    refine wp_put_st (.tmp 6) (.tmp 108) rfl (w.heap.size + 3) rfl rfl P6D.out HMD1.out (fun h => by have h := h.1.2; omega) ?_
    intro wa hp ht
    have P6F := Lib.hid hp
    have HHA := Lib.hid (show wa.heap[q17]? = some (.cells (stoCells (s.com a.raw).c (s.com a.raw).n (.map k1) (.map k2) (s.com a.raw).B (s.com a.raw).T) 57 (0, 0)) ∧ wa.heap[(w.heap.size + 1)]? = some (.cells (rCells sa sv d.R) 80 (0, 0)) from ⟨(ht.block (by have := HQq17.out; omega)).trans HHD.out.1, (ht.block (by omega)).trans HHD.out.2⟩)
    have P7A := Lib.hid (ht.rat P7D.out (by omega) (fun h => h))
    have MA2 := Lib.hid (ht.mem HMD2.out (fun h => by have h := h.2; omega))
    have HBA := Lib.hid (ht.below HBD.out (by omega))
    clear hp ht HHD P6D P7D HMD1 HMD2 HBD
    refine hK.out _ _ HHA.out (fun hHeldq => ?_)
    clear hK hHeldq
    try simp only [Act.put]
    refine wpAnyH_ready (rs := [10]) (by kernel_rfl) (by simp) ?_
    refine AllReadyH.cons (o := ⟨none, _, _, _, _, _⟩) rfl (fun K hK => ?_) (AllReadyH.nil)
    refine Eq.mpr (if_pos (by kernel_rfl)) ?_
    refine wp_put_rr (.tmp 7) (.tmp 109) rfl (w.heap.size + 4) rfl rfl P7A.out MA2.out (fun h => by have h := h.2; omega) ?_
    intro wb hp ht
    have P7F := Lib.hid hp
    have HHB := Lib.hid (show wb.heap[q17]? = some (.cells (stoCells (s.com a.raw).c (s.com a.raw).n (.map k1) (.map k2) (s.com a.raw).B (s.com a.raw).T) 57 (0, 0)) ∧ wb.heap[(w.heap.size + 1)]? = some (.cells (rCells sa sv d.R) 80 (0, 0)) from ⟨(ht.block (by have := HQq17.out; omega)).trans HHA.out.1, (ht.block (by omega)).trans HHA.out.2⟩)
    have P6G := Lib.hid (ht.at P6F.out (by omega) (fun h => by have h := h.1.2; omega))
    have HBF := Lib.hid (ht.below HBA.out (by omega))
    clear hp ht P6F HHA P7A MA2 HBA
    have P6F := P6G
    clear P6G
    refine hK.out _ _ HHB.out (fun hHeldq => ?_)
    clear hK hHeldq
    try simp only [Act.put]
    refine wpAnyH_take (i := 11) (oi := ⟨some 8, _, _, _, _, _⟩) (v := .bool true) rfl (by kernel_rfl) (by kernel_rfl) (by kernel_rfl) (fun _ _ _ h => h) (Or.inl ⟨by kernel_rfl, ?_⟩) HHB.out ?_
    · intro W' hW
      go_simp
    try simp only [Act.put, List.setIfInBounds_toArray, List.set_cons_zero, List.set_cons_succ]
    refine wpAnyH_done (by kernel_rfl) ?_ _
    clear HHB
    have H6S := Lib.hid (fun b (h : (fun b => SQ S w.heap.size b ∧ b ≠ q17) b) => (show S b from h.1.1))
    have H7S := Lib.hid (fun b (h : SQ S w.heap.size b) => (show S b from h.1))
    go_wp2_with fail
    obtain ⟨c5, c6, hblk, hmaps⟩ := P6F.out
    obtain ⟨sa5, sv5, hblk2, hmem⟩ := P7F.out
    have hl := load_sto _ _ _ _ _ hblk rfl
    have hl2 := load_rd _ _ _ _ _ hblk2 rfl
    refine bodyPost_ret (v := .tuple #[(s.com a.raw).val c5 c6, d.val sa5 sv5, .bool true]) ?_ rfl ⟨c5, c6, sa5, sv5, by rw [HDS.out, HDD.out], by rw [HDS.out]; exact hmaps.more fun b _ h => H6S.out b h, by rw [HDD.out]; exact hmem.more fun b _ h => H7S.out b h, HBF.out⟩
    simp [results, Try.results39, asAddr, hl, hl2, Sn.val, sto, Rd.val, Result.andThen]

set_option maxRecDepth 100000 in
set_option maxHeartbeats 12800000 in
theorem do_writes {S : Nat → Prop} (n : Nat) (s : Sn) (d : Rd) (m : Int) (a : SA) (b1 b2 : Option Nat) (sa sv : Value) (w : World) (hS : ∀ b, w.heap.size ≤ b → S b) (hr : Rel n s d m) (hm9 : m ≤ 900) (hn1 : 1 ≤ n) (hn6 : n ≤ 6)
    (hm : s.Maps w S b1 b2) (hd : d.Mem w S sa sv) (ha : a.ok w S) (h8 : a.ws.length ≤ 8) (h8r : a.raw.length ≤ 8) (hk : a.kind % 6 ≠ 3 ∧ a.kind % 6 ≠ 4 ∧ a.kind % 6 ≠ 5) :
    Calls Try.prog 39 #[s.val b1 b2, d.val sa sv, a.val] w fun e w' => ∃ c5 c6 sa' sv', e = .returned (.tuple #[(doS n s d a).val c5 c6, (doD n s d a).val sa' sv', .bool true]) ∧ (doS n s d a).Maps w' S c5 c6 ∧ (doD n s d a).Mem w' S sa' sv' ∧ Below w.heap.size w w' := by
  have HREL := Lib.hid hr
  have HM9 := Lib.hid hm9
  have HN6 := Lib.hid (And.intro hn1 hn6)
  have HL8 := Lib.hid (And.intro h8 h8r)
  have HS := Lib.hid hS
  have hk0 : 0 ≤ a.kind := ha.1.1
  have hk1 : a.kind ≤ 255 := ha.1.2
  have HM0 := Lib.hid (hm.more (S' := SQ S w.heap.size) fun b hb h => ⟨h, .inl hb⟩)
  have HD0 := Lib.hid (hd.more (S' := SQ S w.heap.size) fun b hb h => ⟨h, .inl hb⟩)
  have HA0 := Lib.hid (ha.more (S' := SQ S w.heap.size) fun b hb h => ⟨h, .inl hb⟩)
  have htm : a.kind.tmod 6 = a.kind % 6 := tmod_u8 hk0 rfl
  have hk3 : (a.kind % 6 == 3) = false := by simpa using hk.1
  have hk4 : (a.kind % 6 == 4) = false := by simpa using hk.2.1
  have hk5 : (a.kind % 6 == 5) = false := by simpa using hk.2.2
  have HDS := Lib.hid (show doS n s d a = s.com (d.ents n a.ws) from by unfold doS comL; rw [if_neg hk.1, if_neg hk.2.1, if_neg hk.2.2])
  have HDD0 := Lib.hid (show doD n s d a = d.com n (d.ents n a.ws) from by unfold doD comL; rw [if_neg hk.1, if_neg hk.2.1, if_neg hk.2.2])
  clear hk
  generalize a.kind % 6 = r at *
  clear hS hr hm9 hn1 hn6 hm hd ha h8 h8r
  unfold SA.val saC
  go_enter Try.func39, Try.ntmps39
  go_wp2_with (with_reducible refine at_box_ (t := 57) ?_; refine box_row rfl _ rfl rfl ?_)
  intro w1 e1 hb1 hz1
  have E1 := Lib.hid e1
  have B1 := Lib.hid hb1
  have Z1 := Lib.hid hz1
  have HD1 := Lib.hid (HD0.out.below hb1)
  clear e1 hb1 hz1
  go_wp2_with (with_reducible refine at_box_ (t := 80) ?_; refine box_rd rfl _ rfl rfl HD1.out ?_)
  intro w2 e2 _ hb2 hz2
  rw [Z1.out] at e2 hz2
  rw [Z1.out]
  have E2 := Lib.hid e2
  have E1' := Lib.hid ((hb2.block _ (lt_of_block E1.out)).trans E1.out)
  have B2 := Lib.hid (B1.out.trans (hb2.mono B1.out.size))
  have Z2 := Lib.hid (show w2.heap.size = w.heap.size + 2 by rw [hz2])
  clear e2 hb2 hz2 E1 B1 HD1 Z1
  have ba : Below w2.heap.size w2 (w2.alloc (.cells (saC a) 93)) := (Below.refl _ _).alloc (Nat.le_refl _) _
  have E5 := Lib.hid (show (w2.alloc (.cells (saC a) 93)).heap[w.heap.size + 2]? = some (.cells (saC a) 93 (0, 0)) from by have := heap_alloc_new w2 (.cells (saC a) 93); rw [Z2.out] at this; exact this)
  have E3 := Lib.hid ((ba.block _ (lt_of_block E1'.out)).trans E1'.out)
  have E4 := Lib.hid ((ba.block _ (lt_of_block E2.out)).trans E2.out)
  have B3 := Lib.hid (B2.out.trans (ba.mono B2.out.size))
  have Z3 := Lib.hid (show w2.heap.size + 1 = w.heap.size + 3 by rw [Z2.out])
  clear ba E1' E2 B2
  unfold saC at E5 E3 E4 B3
  go_wp2_with (with_reducible refine at_alloc_ (t := 57) ?_; refine alloc_at (S := fun _ => False) rfl rfl ?_)
  intro w4 hp hb hz
  rw [Z3.out] at hp hz
  rw [Z3.out, Z2.out]
  have P6 := Lib.hid hp
  have F3 := Lib.hid ((hb.block _ (by have := lt_of_block E3.out; simpa using this)).trans E3.out)
  have F4 := Lib.hid ((hb.block _ (by have := lt_of_block E4.out; simpa using this)).trans E4.out)
  have F5 := Lib.hid ((hb.block _ (by have := lt_of_block E5.out; simpa using this)).trans E5.out)
  have B4 := Lib.hid (B3.out.trans (hb.mono (by have := B3.out.size; simpa using this)))
  have Z4 := Lib.hid (show w4.heap.size = w.heap.size + 4 by rw [hz])
  clear hp hb hz E3 E4 E5 B3 Z3 Z2
  go_wp2_with (with_reducible refine at_alloc_ (t := 80) ?_; refine alloc_rd (S := fun _ => False) rfl rfl ?_)
  intro w5 hp hb hz
  rw [Z4.out] at hp
  rw [Z4.out]
  have HI := Lib.hid (show DoI w S a s d b1 b2 sa sv w5 from ⟨(hb.block _ (lt_of_block F3.out)).trans F3.out, (hb.block _ (lt_of_block F4.out)).trans F4.out, (hb.block _ (lt_of_block F5.out)).trans F5.out, P6.out.below hb, hp, HM0.out.below (B4.out.trans (hb.mono B4.out.size)), HD0.out.below (B4.out.trans (hb.mono B4.out.size)), HA0.out.below (B4.out.trans (hb.mono B4.out.size)), B4.out.trans (hb.mono B4.out.size)⟩)
  clear hp hb hz P6 F3 F4 F5 B4 Z4 HM0 HD0 HA0
  have q0 := (act_cells HI.out.p5).1
  have q1 := (act_cells HI.out.p5).2.1
  have HW := Lib.hid (HREL.out.wide HM9.out)
  go_wp2_with (with_reducible refine at_load_ (t := 80) ?_; refine get_rd (d := d) (sa := sa) (sv := sv) rfl _ rfl (w.heap.size + 1) rfl HI.out.p4 ?_)
  refine (entries_any (S := SQ S w.heap.size) n a.AW a.mw a.cw a.ws w5 (HI.out.new HS.out) HI.out.hd HW.out HN6.out.1 HN6.out.2 HI.out.ha.2.1 (by have := HL8.out.1; omega)).mono ?_
  rintro e w6 ⟨Ae, ce, rfl, hce, hen, hb⟩
  have HI_1 := Lib.hid (HI.out.below hb)
  clear HI
  have HLn := Lib.hid hen
  have HLc := Lib.hid hce
  have HLl := Lib.hid (show (d.ents n a.ws).length ≤ 8 from Nat.le_trans (entF_len d n a.ws) HL8.out.1)
  clear hce hen
  have HLo := Lib.hid (show ∀ e ∈ d.ents n a.ws, EntOk e from entF_all d n EntOk a.ws fun x hx => by
    have h0 := Int.emod_nonneg x.pl (show (n : Int) ≠ 0 by have := HN6.out; omega)
    have h1 := Int.emod_lt_of_pos x.pl (show (0 : Int) < (n : Int) by have := HN6.out; omega)
    obtain ⟨j, hj⟩ : ∃ j : Nat, x.pl % (n : Int) = (j : Int) := ⟨(x.pl % (n : Int)).toNat, by omega⟩
    have h2 := HREL.out.hv j (by omega)
    have h3 := HREL.out.hnm
    have h4 := HM9.out
    unfold Rd.entE EntOk
    rw [hj]
    dsimp only
    omega)
  generalize d.ents n a.ws = l at *
  clear hb q0 q1
  have hlm : l.length = l.length := HLn.out.1
  have HLM := Lib.hid (show l.length ≤ 8 by have := HLl.out; omega)
  clear hlm
  have q0 := (act_cells HI_1.out.p5).1
  have q3 := (act_cells HI_1.out.p5).2.2.2
  have HERR := Lib.hid (HREL.out.err l)
  by_cases hck : chk l = 0
  · skip
    by_cases hho : d.holds l = 0
    · skip
      have HHO := Lib.hid hho
      have HCK := Lib.hid hck
      have HWE := Lib.hid (show s.wrongS l = 0 from by rw [HERR.out, if_neg (fun x => x hck)]; exact hho)
      have hcd : d.com n l = d.commitD n l := by unfold Rd.com; rw [if_pos ⟨hck, hho⟩]
      have HDD := Lib.hid (HDD0.out.trans hcd)
      obtain ⟨T, hT⟩ : ∃ T, T = ((d.commitD n l).st.length : Int) - 1 := ⟨_, rfl⟩
      have HCT := Lib.hid (show s.comT l = T from by rw [hT, HREL.out.time l HWE.out, hcd])
      have HTT := Lib.hid hT
      have HSTL := Lib.hid (show (d.commitD n l).st.length ≤ 1000000 from by have h1 := (HREL.out.com HM9.out l).hst; have h2 := (HREL.out.com HM9.out l).hnm; have h3 := HM9.out; rw [hcd] at h1; omega)
      clear hck hho hT HDD0 HERR hcd
      go_wp2_with (with_reducible refine at_load_ (t := 57) ?_; refine get_sto rfl _ rfl w.heap.size rfl HI_1.out.p3 ?_)
      refine (scom_any (S := SQ S w.heap.size) (s := s) (b1 := b1) (b2 := b2) Ae l.length ce l (HI_1.out.new HS.out) HI_1.out.hm (HREL.out.few HM9.out) HLn.out HLo.out (by have := HLM.out; omega) HLc.out HREL.out.hn0 (by have := HREL.out.hnm; have := HM9.out; omega) (fun e _ _ => HREL.out.add HM9.out e.loc)).mono ?_
      rintro e w7 ⟨b5, b6, rfl, hmc, hb⟩
      rw [HCT.out, HWE.out]
      have HMo := Lib.hid hmc
      have HI_2 := Lib.hid (HI_1.out.below hb)
      have HLn_2 := Lib.hid (HLn.out.below hb)
      clear HI_1 HLn
      clear hb hmc q0 q3
      have HMn := Lib.hid (HMo.out.more (S' := fun b => SQ S w.heap.size b ∧ b ≠ w7.heap.size) fun b hb h => ⟨h, by omega⟩)
      have HQq17 := Lib.hid HI_2.out.lt
      go_wp2_with (with_reducible refine at_alloc_ (t := 57) ?_; refine alloc_at (S := fun _ => False) rfl rfl ?_)
      intro w8 hp hb hz
      have RN := Lib.hid hp
      have HMm := Lib.hid (HMn.out.below hb)
      have HBB := Lib.hid hb
      clear hp hb hz HMn
      clear HMo
      go_wp2_with (with_reducible refine at_store_ (t := 57) ?_; refine Hid.out ?_)
      refine Lib.hid ?_
      refine put_at rfl (.tmp 17) (.tmp 96) rfl rfl w7.heap.size rfl rfl RN.out HMm.out (fun h => h.2 rfl) ?_
      intro w9 hp ht
      have hbb := ht.below HBB.out (Nat.le_refl _)
      have HI_3 := Lib.hid (HI_2.out.below hbb)
      have HLn_3 := Lib.hid (HLn_2.out.below hbb)
      clear HI_2 HLn_2
      have X17 := Lib.hid hp
      clear hp ht hbb RN HMm HBB
      generalize w7.heap.size = q17 at *
      go_wp2_with fail
      refine (check_any (S := SQ S w.heap.size) Ae l.length ce l w9 HLn_3.out HLo.out (by have := HLM.out; omega) HLc.out).mono ?_
      rintro e w10 ⟨rfl, hb⟩
      rw [HCK.out]
      have HI_4 := Lib.hid (HI_3.out.below hb)
      have HLn_4 := Lib.hid (HLn_3.out.below hb)
      have X17_4 := Lib.hid (X17.out.below hb)
      clear HI_3 HLn_3 X17
      clear hb
      go_wp2_with (with_reducible refine at_load_ (t := 80) ?_; refine get_rd (d := d) (sa := sa) (sv := sv) rfl _ rfl (w.heap.size + 1) rfl HI_4.out.p4 ?_)
      refine (rholds_any (S := SQ S w.heap.size) n Ae l.length ce l w10 HI_4.out.hd HW.out (by have := HN6.out; omega) HLn_4.out (by have := HLl.out; omega)).mono ?_
      rintro e w11 ⟨rfl, hb⟩
      rw [HHO.out]
      have HI_5 := Lib.hid (HI_4.out.below hb)
      have HLn_5 := Lib.hid (HLn_4.out.below hb)
      have X17_5 := Lib.hid (X17_4.out.below hb)
      clear HI_4 HLn_4 X17_4
      clear hb
      have HCZ := Lib.hid (chk_zero HCK.out)
      go_wp2_with (with_reducible refine at_load_ (t := 80) ?_; refine get_rd (d := d) (sa := sa) (sv := sv) rfl _ rfl (w.heap.size + 1) rfl HI_5.out.p4 ?_)
      refine (rcommit_any (S := SQ S w.heap.size) n Ae l.length ce l w11 (HI_5.out.new HS.out) HI_5.out.hd HW.out ⟨HN6.out.1, by have := HN6.out; omega⟩ HLn_5.out (by have := HLl.out; omega) (HREL.out.inl HHO.out) (fun j hj _ => wr_dis HCZ.out.2.1 j hj) (fun j hj => by have := HREL.out.hv j hj; have := HREL.out.hnm; have := HM9.out; omega)).mono ?_
      rintro e w12 ⟨sa', sv', rfl, hmd, hb⟩
      have HDo := Lib.hid hmd
      have HI_6 := Lib.hid (HI_5.out.below hb)
      have HLn_6 := Lib.hid (HLn_5.out.below hb)
      have X17_6 := Lib.hid (X17_5.out.below hb)
      clear HI_5 HLn_5 X17_5
      clear hb hmd
      have HMn := Lib.hid (HDo.out.more (S' := fun b => SQ S w.heap.size b ∧ b ≠ w12.heap.size) fun b hb h => ⟨h, by omega⟩)
      have HQq21 := Lib.hid HI_6.out.lt
      go_wp2_with (with_reducible refine at_alloc_ (t := 80) ?_; refine alloc_rd (S := fun _ => False) rfl rfl ?_)
      intro w13 hp hb hz
      have RN := Lib.hid hp
      have HMm := Lib.hid (HMn.out.below hb)
      have HBB := Lib.hid hb
      clear hp hb hz HMn
      clear HDo
      go_wp2_with (with_reducible refine at_store_ (t := 80) ?_; refine Hid.out ?_)
      refine Lib.hid ?_
      refine put_rd rfl (.tmp 21) (.tmp 119) rfl rfl w12.heap.size rfl rfl RN.out HMm.out (fun h => h.2 rfl) ?_
      intro w14 hp ht
      have hbb := ht.below HBB.out (Nat.le_refl _)
      have HI_7 := Lib.hid (HI_6.out.below hbb)
      have HLn_7 := Lib.hid (HLn_6.out.below hbb)
      have X17_7 := Lib.hid (X17_6.out.below hbb)
      clear HI_6 HLn_6 X17_6
      have Y21 := Lib.hid hp
      clear hp ht hbb RN HMm HBB
      generalize w12.heap.size = q21 at *
      go_wp2_with fail
      obtain ⟨k1, k2, e1, hm1⟩ := X17_7.out
      obtain ⟨l1, l2, e2, hm2⟩ := Y21.out
      have HF1 := Lib.hid e1
      have HF2 := Lib.hid e2
      have HM1 := Lib.hid hm1
      have HM2 := Lib.hid hm2
      clear e1 hm1
      clear e2 hm2
      refine wp_region_held_drew (S := fun W => W.heap[q17]? = some (.cells (stoCells (s.com l).c (s.com l).n (.map k1) (.map k2) (s.com l).B (s.com l).T) 57 (0, 0)) ∧ W.heap[q21]? = some (.cells (rCells l1 l2 (d.commitD n l).R) 80 (0, 0))) (by kernel_rfl) ⟨HF1.out, HF2.out⟩ (fun hHeld => ?_)
      have HHD := Lib.hid hHeld
      have hbd : Below w14.heap.size w14 w14.drew := (Below.refl _ _).drew
      have HID := Lib.hid (HI_7.out.below hbd)
      have HMD1 := Lib.hid (HM1.out.below hbd)
      have HMD2 := Lib.hid (HM2.out.below hbd)
      clear hHeld hbd HF1 HF2 HM1 HM2 HI_7 HLn_7 X17_7 Y21
      generalize w14.drew = wd at *
      refine wpAnyH_take (i := 0) (oi := ⟨some 120, _, _, _, _, _⟩) (v := (s.com l).val k1 k2) rfl (by kernel_rfl) (by kernel_rfl) (by kernel_rfl) (fun _ _ _ h => h) (yields_sto (by rfl) _ rfl q17 rfl 57 (0, 0) (fun _ h => h.1)) HHD.out ?_
      try simp only [Act.put, List.setIfInBounds_toArray, List.set_cons_zero, List.set_cons_succ]
      refine wpAnyH_take (i := 1) (oi := ⟨some 121, _, _, _, _, _⟩) (v := (d.commitD n l).val l1 l2) rfl (by kernel_rfl) (by kernel_rfl) (by kernel_rfl) (fun _ _ _ h => h) (yields_rd (by rfl) _ rfl q21 rfl 80 (0, 0) (fun _ h => h.2)) HHD.out ?_
      try simp only [Act.put, List.setIfInBounds_toArray, List.set_cons_zero, List.set_cons_succ]
      refine wpAnyH_take (i := 2) (oi := ⟨some 122, _, _, _, _, _⟩) (v := .int .i64 0) rfl (by kernel_rfl) (by kernel_rfl) (by kernel_rfl) (fun _ _ _ h => h) (Or.inl ⟨by kernel_rfl, ?_⟩) HHD.out ?_
      · intro W' hW
        go_simp
      try simp only [Act.put, List.setIfInBounds_toArray, List.set_cons_zero, List.set_cons_succ]
      refine wpAnyH_take (i := 3) (oi := ⟨some 123, _, _, _, _, _⟩) (v := .bool true) rfl (by kernel_rfl) (by kernel_rfl) (by kernel_rfl) (fun _ _ _ h => h) (Or.inl ⟨by kernel_rfl, ?_⟩) HHD.out ?_
      · intro W' hW
        go_simp
      try simp only [Act.put, List.setIfInBounds_toArray, List.set_cons_zero, List.set_cons_succ]
      refine wpAnyH_take (i := 4) (oi := ⟨some 124, _, _, _, _, _⟩) (v := .bool true) rfl (by kernel_rfl) (by kernel_rfl) (by kernel_rfl) (fun _ _ _ h => h) (Or.inl ⟨by kernel_rfl, ?_⟩) HHD.out ?_
      · intro W' hW
        go_simp
      try simp only [Act.put, List.setIfInBounds_toArray, List.set_cons_zero, List.set_cons_succ]
      refine wpAnyH_take (i := 5) (oi := ⟨some 125, _, _, _, _, _⟩) (v := .int .i64 T) rfl (by kernel_rfl) (by kernel_rfl) (by kernel_rfl) (fun _ _ _ h => h) (Or.inl ⟨by kernel_rfl, ?_⟩) HHD.out ?_
      · intro W' hW
        go_simp
      try simp only [Act.put, List.setIfInBounds_toArray, List.set_cons_zero, List.set_cons_succ]
      refine wpAnyH_take (i := 6) (oi := ⟨some 126, _, _, _, _, _⟩) (v := (d.commitD n l).val l1 l2) rfl (by kernel_rfl) (by kernel_rfl) (by kernel_rfl) (fun _ _ _ h => h) (yields_rd (by kernel_rfl) _ rfl q21 rfl 80 (0, 0) (fun _ h => h.2)) HHD.out ?_
      try simp only [Act.put, List.setIfInBounds_toArray, List.set_cons_zero, List.set_cons_succ]
      refine wpAnyH_ready (rs := [7]) (by kernel_rfl) (by simp) ?_
      refine AllReadyH.cons (o := ⟨some 127, _, _, _, _, _⟩) rfl (fun K hK => ?_) (AllReadyH.nil)
      go_simp
      refine (rnow_any wd HMD2.out HSTL.out).mono ?_
      rintro e we ⟨he, hb⟩
      rw [← HTT.out] at he
      subst he
      have HHE := Lib.hid (show we.heap[q17]? = some (.cells (stoCells (s.com l).c (s.com l).n (.map k1) (.map k2) (s.com l).B (s.com l).T) 57 (0, 0)) ∧ we.heap[q21]? = some (.cells (rCells l1 l2 (d.commitD n l).R) 80 (0, 0)) from ⟨(hb.block _ (lt_of_block HHD.out.1)).trans HHD.out.1, (hb.block _ (lt_of_block HHD.out.2)).trans HHD.out.2⟩)
      have HIE := Lib.hid (HID.out.below hb)
      have HMF1 := Lib.hid (HMD1.out.below hb)
      have HME2 := Lib.hid (HMD2.out.below hb)
      clear hb HID HMD1 HMD2 HHD
      have HID := HIE
      have HMD1 := HMF1
      have HMD2 := HME2
      have HHD := HHE
      clear HIE HMF1 HME2 HHE
      refine hK.out _ _ HHD.out (fun hHeldq => ?_)
      clear hK hHeldq
      try simp only [Act.put, List.setIfInBounds_toArray, List.set_cons_zero, List.set_cons_succ]
      refine wpAnyH_take (i := 8) (oi := ⟨some 128, _, _, _, _, _⟩) (v := .bool true) rfl (by kernel_rfl) (by kernel_rfl) (by kernel_rfl) (fun _ _ _ h => h) (Or.inl ⟨by kernel_rfl, ?_⟩) HHD.out ?_
      · intro W' hW
        go_simp
      try simp only [Act.put, List.setIfInBounds_toArray, List.set_cons_zero, List.set_cons_succ]
      refine wpAnyH_take (i := 9) (oi := ⟨some 129, _, _, _, _, _⟩) (v := .bool true) rfl (by kernel_rfl) (by kernel_rfl) (by kernel_rfl) (fun _ _ _ h => h) (Or.inl ⟨by kernel_rfl, ?_⟩) HHD.out ?_
      · intro W' hW
        go_simp
      try simp only [Act.put, List.setIfInBounds_toArray, List.set_cons_zero, List.set_cons_succ]
      have P6D := Lib.hid HID.out.p6
      have P7D := Lib.hid HID.out.p7
      have HBD := Lib.hid HID.out.hB
      clear HID
      refine wpAnyH_ready (rs := [10]) (by kernel_rfl) (by simp) ?_
      refine AllReadyH.cons (o := ⟨none, _, _, _, _, _⟩) rfl (fun K hK => ?_) (AllReadyH.nil)
      refine Eq.mpr (if_pos (by kernel_rfl)) ?_
      refine wp_put_st (.tmp 6) (.tmp 120) rfl (w.heap.size + 3) rfl rfl P6D.out HMD1.out (fun h => by have h := h.1.2; omega) ?_
      intro wa hp ht
      have P6F := Lib.hid hp
      have HHA := Lib.hid (show wa.heap[q17]? = some (.cells (stoCells (s.com l).c (s.com l).n (.map k1) (.map k2) (s.com l).B (s.com l).T) 57 (0, 0)) ∧ wa.heap[q21]? = some (.cells (rCells l1 l2 (d.commitD n l).R) 80 (0, 0)) from ⟨(ht.block (by have := HQq17.out; omega)).trans HHD.out.1, (ht.block (by have := HQq21.out; omega)).trans HHD.out.2⟩)
      have P7A := Lib.hid (ht.rat P7D.out (by omega) (fun h => h))
      have MA2 := Lib.hid (ht.mem HMD2.out (fun h => by have h := h.1.2; omega))
      have HBA := Lib.hid (ht.below HBD.out (by omega))
      clear hp ht HHD P6D P7D HMD1 HMD2 HBD
      refine hK.out _ _ HHA.out (fun hHeldq => ?_)
      clear hK hHeldq
      try simp only [Act.put]
      refine wpAnyH_ready (rs := [11]) (by kernel_rfl) (by simp) ?_
      refine AllReadyH.cons (o := ⟨none, _, _, _, _, _⟩) rfl (fun K hK => ?_) (AllReadyH.nil)
      refine Eq.mpr (if_pos (by kernel_rfl)) ?_
      refine wp_put_rr (.tmp 7) (.tmp 121) rfl (w.heap.size + 4) rfl rfl P7A.out MA2.out (fun h => by have h := h.1.2; omega) ?_
      intro wb hp ht
      have P7F := Lib.hid hp
      have HHB := Lib.hid (show wb.heap[q17]? = some (.cells (stoCells (s.com l).c (s.com l).n (.map k1) (.map k2) (s.com l).B (s.com l).T) 57 (0, 0)) ∧ wb.heap[q21]? = some (.cells (rCells l1 l2 (d.commitD n l).R) 80 (0, 0)) from ⟨(ht.block (by have := HQq17.out; omega)).trans HHA.out.1, (ht.block (by have := HQq21.out; omega)).trans HHA.out.2⟩)
      have P6G := Lib.hid (ht.at P6F.out (by omega) (fun h => by have h := h.1.2; omega))
      have HBF := Lib.hid (ht.below HBA.out (by omega))
      clear hp ht P6F HHA P7A MA2 HBA
      have P6F := P6G
      clear P6G
      refine hK.out _ _ HHB.out (fun hHeldq => ?_)
      clear hK hHeldq
      try simp only [Act.put]
      refine wpAnyH_take (i := 12) (oi := ⟨some 8, _, _, _, _, _⟩) (v := .bool true) rfl (by kernel_rfl) (by kernel_rfl) (by kernel_rfl) (fun _ _ _ h => h) (Or.inl ⟨by kernel_rfl, ?_⟩) HHB.out ?_
      · intro W' hW
        go_simp
      try simp only [Act.put, List.setIfInBounds_toArray, List.set_cons_zero, List.set_cons_succ]
      refine wpAnyH_done (by kernel_rfl) ?_ _
      clear HHB
      have H6S := Lib.hid (fun b (h : (fun b => SQ S w.heap.size b ∧ b ≠ q17) b) => (show S b from h.1.1))
      have H7S := Lib.hid (fun b (h : (fun b => SQ S w.heap.size b ∧ b ≠ q21) b) => (show S b from h.1.1))
      go_wp2_with fail
      obtain ⟨c5, c6, hblk, hmaps⟩ := P6F.out
      obtain ⟨sa5, sv5, hblk2, hmem⟩ := P7F.out
      have hl := load_sto _ _ _ _ _ hblk rfl
      have hl2 := load_rd _ _ _ _ _ hblk2 rfl
      refine bodyPost_ret (v := .tuple #[(s.com l).val c5 c6, (d.commitD n l).val sa5 sv5, .bool true]) ?_ rfl ⟨c5, c6, sa5, sv5, by rw [HDS.out, HDD.out], by rw [HDS.out]; exact hmaps.more fun b _ h => H6S.out b h, by rw [HDD.out]; exact hmem.more fun b _ h => H7S.out b h, HBF.out⟩
      simp [results, Try.results39, asAddr, hl, hl2, Sn.val, sto, Rd.val, Result.andThen]
    · skip
      obtain ⟨E, hE⟩ : ∃ E, E = d.holds l := ⟨_, rfl⟩
      have HHO := Lib.hid hE.symm
      have HCK := Lib.hid hck
      have HWE := Lib.hid (show s.wrongS l = E from by rw [HERR.out, if_neg (fun x => x hck), hE])
      have hE0 : (E == 0) = false := by rw [hE]; simpa using hho
      have hE1 : (E != 0) = true := by rw [hE]; simpa using hho
      have HDD := Lib.hid (HDD0.out.trans (show d.com n l = d from by unfold Rd.com; rw [if_neg (fun x => hho x.2)]))
      have HCT := Lib.hid (show s.comT l = 0 from by unfold Sn.comT; rw [if_pos (by rw [HWE.out, hE]; exact hho)])
      clear hck hho hE HDD0 HERR
      go_wp2_with (with_reducible refine at_load_ (t := 57) ?_; refine get_sto rfl _ rfl w.heap.size rfl HI_1.out.p3 ?_)
      refine (scom_any (S := SQ S w.heap.size) (s := s) (b1 := b1) (b2 := b2) Ae l.length ce l (HI_1.out.new HS.out) HI_1.out.hm (HREL.out.few HM9.out) HLn.out HLo.out (by have := HLM.out; omega) HLc.out HREL.out.hn0 (by have := HREL.out.hnm; have := HM9.out; omega) (fun e _ _ => HREL.out.add HM9.out e.loc)).mono ?_
      rintro e w7 ⟨b5, b6, rfl, hmc, hb⟩
      rw [HCT.out, HWE.out]
      have HMo := Lib.hid hmc
      have HI_2 := Lib.hid (HI_1.out.below hb)
      have HLn_2 := Lib.hid (HLn.out.below hb)
      clear HI_1 HLn
      clear hb hmc q0 q3
      have HMn := Lib.hid (HMo.out.more (S' := fun b => SQ S w.heap.size b ∧ b ≠ w7.heap.size) fun b hb h => ⟨h, by omega⟩)
      have HQq17 := Lib.hid HI_2.out.lt
      go_wp2_with (with_reducible refine at_alloc_ (t := 57) ?_; refine alloc_at (S := fun _ => False) rfl rfl ?_)
      intro w8 hp hb hz
      have RN := Lib.hid hp
      have HMm := Lib.hid (HMn.out.below hb)
      have HBB := Lib.hid hb
      clear hp hb hz HMn
      clear HMo
      go_wp2_with (with_reducible refine at_store_ (t := 57) ?_; refine Hid.out ?_)
      refine Lib.hid ?_
      refine put_at rfl (.tmp 17) (.tmp 96) rfl rfl w7.heap.size rfl rfl RN.out HMm.out (fun h => h.2 rfl) ?_
      intro w9 hp ht
      have hbb := ht.below HBB.out (Nat.le_refl _)
      have HI_3 := Lib.hid (HI_2.out.below hbb)
      have HLn_3 := Lib.hid (HLn_2.out.below hbb)
      clear HI_2 HLn_2
      have X17 := Lib.hid hp
      clear hp ht hbb RN HMm HBB
      generalize w7.heap.size = q17 at *
      go_wp2_with fail
      refine (check_any (S := SQ S w.heap.size) Ae l.length ce l w9 HLn_3.out HLo.out (by have := HLM.out; omega) HLc.out).mono ?_
      rintro e w10 ⟨rfl, hb⟩
      rw [HCK.out]
      have HI_4 := Lib.hid (HI_3.out.below hb)
      have HLn_4 := Lib.hid (HLn_3.out.below hb)
      have X17_4 := Lib.hid (X17.out.below hb)
      clear HI_3 HLn_3 X17
      clear hb
      go_wp2_with (with_reducible refine at_load_ (t := 80) ?_; refine get_rd (d := d) (sa := sa) (sv := sv) rfl _ rfl (w.heap.size + 1) rfl HI_4.out.p4 ?_)
      refine (rholds_any (S := SQ S w.heap.size) n Ae l.length ce l w10 HI_4.out.hd HW.out (by have := HN6.out; omega) HLn_4.out (by have := HLl.out; omega)).mono ?_
      rintro e w11 ⟨rfl, hb⟩
      rw [HHO.out]
      have HI_5 := Lib.hid (HI_4.out.below hb)
      have HLn_5 := Lib.hid (HLn_4.out.below hb)
      have X17_5 := Lib.hid (X17_4.out.below hb)
      clear HI_4 HLn_4 X17_4
      clear hb
      go_wp2_with fail
      obtain ⟨k1, k2, e1, hm1⟩ := X17_5.out
      have HF1 := Lib.hid e1
      have HF2 := Lib.hid HI_5.out.p4
      have HM1 := Lib.hid hm1
      have HM2 := Lib.hid HI_5.out.hd
      clear e1 hm1
      refine wp_region_held_drew (S := fun W => W.heap[q17]? = some (.cells (stoCells (s.com l).c (s.com l).n (.map k1) (.map k2) (s.com l).B (s.com l).T) 57 (0, 0)) ∧ W.heap[(w.heap.size + 1)]? = some (.cells (rCells sa sv d.R) 80 (0, 0))) (by kernel_rfl) ⟨HF1.out, HF2.out⟩ (fun hHeld => ?_)
      have HHD := Lib.hid hHeld
      have hbd : Below w11.heap.size w11 w11.drew := (Below.refl _ _).drew
      have HID := Lib.hid (HI_5.out.below hbd)
      have HMD1 := Lib.hid (HM1.out.below hbd)
      have HMD2 := Lib.hid (HM2.out.below hbd)
      clear hHeld hbd HF1 HF2 HM1 HM2 HI_5 HLn_5 X17_5
      generalize w11.drew = wd at *
      refine wpAnyH_take (i := 0) (oi := ⟨some 108, _, _, _, _, _⟩) (v := (s.com l).val k1 k2) rfl (by kernel_rfl) (by kernel_rfl) (by kernel_rfl) (fun _ _ _ h => h) (yields_sto (by rfl) _ rfl q17 rfl 57 (0, 0) (fun _ h => h.1)) HHD.out ?_
      try simp only [Act.put, List.setIfInBounds_toArray, List.set_cons_zero, List.set_cons_succ]
      refine wpAnyH_take (i := 1) (oi := ⟨some 109, _, _, _, _, _⟩) (v := d.val sa sv) rfl (by kernel_rfl) (by kernel_rfl) (by kernel_rfl) (fun _ _ _ h => h) (yields_rd (by rfl) _ rfl (w.heap.size + 1) rfl 80 (0, 0) (fun _ h => h.2)) HHD.out ?_
      try simp only [Act.put, List.setIfInBounds_toArray, List.set_cons_zero, List.set_cons_succ]
      refine wpAnyH_take (i := 2) (oi := ⟨some 110, _, _, _, _, _⟩) (v := .int .i64 E) rfl (by kernel_rfl) (by kernel_rfl) (by kernel_rfl) (fun _ _ _ h => h) (Or.inl ⟨by kernel_rfl, ?_⟩) HHD.out ?_
      · intro W' hW
        go_simp
      try simp only [Act.put, List.setIfInBounds_toArray, List.set_cons_zero, List.set_cons_succ]
      refine wpAnyH_take (i := 3) (oi := ⟨some 111, _, _, _, _, _⟩) (v := .int .i64 E) rfl (by kernel_rfl) (by kernel_rfl) (by kernel_rfl) (fun _ _ _ h => h) (Or.inl ⟨by kernel_rfl, ?_⟩) HHD.out ?_
      · intro W' hW
        go_simp
      try simp only [Act.put, List.setIfInBounds_toArray, List.set_cons_zero, List.set_cons_succ]
      refine wpAnyH_take (i := 4) (oi := ⟨some 112, _, _, _, _, _⟩) (v := .bool true) rfl (by kernel_rfl) (by kernel_rfl) (by kernel_rfl) (fun _ _ _ h => h) (Or.inl ⟨by kernel_rfl, ?_⟩) HHD.out ?_
      · intro W' hW
        go_simp
      try simp only [Act.put, List.setIfInBounds_toArray, List.set_cons_zero, List.set_cons_succ]
      refine wpAnyH_take (i := 5) (oi := ⟨some 113, _, _, _, _, _⟩) (v := .bool true) rfl (by kernel_rfl) (by kernel_rfl) (by kernel_rfl) (fun _ _ _ h => h) (Or.inl ⟨by kernel_rfl, ?_⟩) HHD.out ?_
      · intro W' hW
        go_simp
      try simp only [Act.put, List.setIfInBounds_toArray, List.set_cons_zero, List.set_cons_succ]
      refine wpAnyH_take (i := 6) (oi := ⟨some 114, _, _, _, _, _⟩) (v := .int .i64 0) rfl (by kernel_rfl) (by kernel_rfl) (by kernel_rfl) (fun _ _ _ h => h) (Or.inl ⟨by kernel_rfl, ?_⟩) HHD.out ?_
      · intro W' hW
        go_simp
      try simp only [Act.put, List.setIfInBounds_toArray, List.set_cons_zero, List.set_cons_succ]
      refine wpAnyH_take (i := 7) (oi := ⟨some 115, _, _, _, _, _⟩) (v := .bool true) rfl (by kernel_rfl) (by kernel_rfl) (by kernel_rfl) (fun _ _ _ h => h) (Or.inl ⟨by kernel_rfl, ?_⟩) HHD.out ?_
      · intro W' hW
        go_simp
      try simp only [Act.put, List.setIfInBounds_toArray, List.set_cons_zero, List.set_cons_succ]
      refine wpAnyH_take (i := 8) (oi := ⟨some 116, _, _, _, _, _⟩) (v := .bool true) rfl (by kernel_rfl) (by kernel_rfl) (by kernel_rfl) (fun _ _ _ h => h) (Or.inl ⟨by kernel_rfl, ?_⟩) HHD.out ?_
      · intro W' hW
        go_simp
      try simp only [Act.put, List.setIfInBounds_toArray, List.set_cons_zero, List.set_cons_succ]
      have P6D := Lib.hid HID.out.p6
      have P7D := Lib.hid HID.out.p7
      have HBD := Lib.hid HID.out.hB
      clear HID
      refine wpAnyH_ready (rs := [9]) (by kernel_rfl) (by simp) ?_
      refine AllReadyH.cons (o := ⟨none, _, _, _, _, _⟩) rfl (fun K hK => ?_) (AllReadyH.nil)
      refine Eq.mpr (if_pos (by kernel_rfl)) ?_
      refine wp_put_st (.tmp 6) (.tmp 108) rfl (w.heap.size + 3) rfl rfl P6D.out HMD1.out (fun h => by have h := h.1.2; omega) ?_
      intro wa hp ht
      have P6F := Lib.hid hp
      have HHA := Lib.hid (show wa.heap[q17]? = some (.cells (stoCells (s.com l).c (s.com l).n (.map k1) (.map k2) (s.com l).B (s.com l).T) 57 (0, 0)) ∧ wa.heap[(w.heap.size + 1)]? = some (.cells (rCells sa sv d.R) 80 (0, 0)) from ⟨(ht.block (by have := HQq17.out; omega)).trans HHD.out.1, (ht.block (by omega)).trans HHD.out.2⟩)
      have P7A := Lib.hid (ht.rat P7D.out (by omega) (fun h => h))
      have MA2 := Lib.hid (ht.mem HMD2.out (fun h => by have h := h.2; omega))
      have HBA := Lib.hid (ht.below HBD.out (by omega))
      clear hp ht HHD P6D P7D HMD1 HMD2 HBD
      refine hK.out _ _ HHA.out (fun hHeldq => ?_)
      clear hK hHeldq
      try simp only [Act.put]
      refine wpAnyH_ready (rs := [10]) (by kernel_rfl) (by simp) ?_
      refine AllReadyH.cons (o := ⟨none, _, _, _, _, _⟩) rfl (fun K hK => ?_) (AllReadyH.nil)
      refine Eq.mpr (if_pos (by kernel_rfl)) ?_
      refine wp_put_rr (.tmp 7) (.tmp 109) rfl (w.heap.size + 4) rfl rfl P7A.out MA2.out (fun h => by have h := h.2; omega) ?_
      intro wb hp ht
      have P7F := Lib.hid hp
      have HHB := Lib.hid (show wb.heap[q17]? = some (.cells (stoCells (s.com l).c (s.com l).n (.map k1) (.map k2) (s.com l).B (s.com l).T) 57 (0, 0)) ∧ wb.heap[(w.heap.size + 1)]? = some (.cells (rCells sa sv d.R) 80 (0, 0)) from ⟨(ht.block (by have := HQq17.out; omega)).trans HHA.out.1, (ht.block (by omega)).trans HHA.out.2⟩)
      have P6G := Lib.hid (ht.at P6F.out (by omega) (fun h => by have h := h.1.2; omega))
      have HBF := Lib.hid (ht.below HBA.out (by omega))
      clear hp ht P6F HHA P7A MA2 HBA
      have P6F := P6G
      clear P6G
      refine hK.out _ _ HHB.out (fun hHeldq => ?_)
      clear hK hHeldq
      try simp only [Act.put]
      refine wpAnyH_take (i := 11) (oi := ⟨some 8, _, _, _, _, _⟩) (v := .bool true) rfl (by kernel_rfl) (by kernel_rfl) (by kernel_rfl) (fun _ _ _ h => h) (Or.inl ⟨by kernel_rfl, ?_⟩) HHB.out ?_
      · intro W' hW
        go_simp
      try simp only [Act.put, List.setIfInBounds_toArray, List.set_cons_zero, List.set_cons_succ]
      refine wpAnyH_done (by kernel_rfl) ?_ _
      clear HHB
      have H6S := Lib.hid (fun b (h : (fun b => SQ S w.heap.size b ∧ b ≠ q17) b) => (show S b from h.1.1))
      have H7S := Lib.hid (fun b (h : SQ S w.heap.size b) => (show S b from h.1))
      go_wp2_with fail
      obtain ⟨c5, c6, hblk, hmaps⟩ := P6F.out
      obtain ⟨sa5, sv5, hblk2, hmem⟩ := P7F.out
      have hl := load_sto _ _ _ _ _ hblk rfl
      have hl2 := load_rd _ _ _ _ _ hblk2 rfl
      refine bodyPost_ret (v := .tuple #[(s.com l).val c5 c6, d.val sa5 sv5, .bool true]) ?_ rfl ⟨c5, c6, sa5, sv5, by rw [HDS.out, HDD.out], by rw [HDS.out]; exact hmaps.more fun b _ h => H6S.out b h, by rw [HDD.out]; exact hmem.more fun b _ h => H7S.out b h, HBF.out⟩
      simp [results, Try.results39, asAddr, hl, hl2, Sn.val, sto, Rd.val, Result.andThen]
  · skip
    obtain ⟨E, hE⟩ : ∃ E, E = chk l := ⟨_, rfl⟩
    have HCK := Lib.hid hE.symm
    have HWE := Lib.hid (show s.wrongS l = E from by rw [HERR.out, if_pos hck, hE])
    have hE0 : (E == 0) = false := by rw [hE]; simpa using hck
    have hE1 : (E != 0) = true := by rw [hE]; simpa using hck
    have HDD := Lib.hid (HDD0.out.trans (show d.com n l = d from by unfold Rd.com; rw [if_neg (fun x => hck x.1)]))
    have HCT := Lib.hid (show s.comT l = 0 from by unfold Sn.comT; rw [if_pos (by rw [HWE.out, hE]; exact hck)])
    clear hck hE HDD0 HERR
    go_wp2_with (with_reducible refine at_load_ (t := 57) ?_; refine get_sto rfl _ rfl w.heap.size rfl HI_1.out.p3 ?_)
    refine (scom_any (S := SQ S w.heap.size) (s := s) (b1 := b1) (b2 := b2) Ae l.length ce l (HI_1.out.new HS.out) HI_1.out.hm (HREL.out.few HM9.out) HLn.out HLo.out (by have := HLM.out; omega) HLc.out HREL.out.hn0 (by have := HREL.out.hnm; have := HM9.out; omega) (fun e _ _ => HREL.out.add HM9.out e.loc)).mono ?_
    rintro e w7 ⟨b5, b6, rfl, hmc, hb⟩
    rw [HCT.out, HWE.out]
    have HMo := Lib.hid hmc
    have HI_2 := Lib.hid (HI_1.out.below hb)
    have HLn_2 := Lib.hid (HLn.out.below hb)
    clear HI_1 HLn
    clear hb hmc q0 q3
    have HMn := Lib.hid (HMo.out.more (S' := fun b => SQ S w.heap.size b ∧ b ≠ w7.heap.size) fun b hb h => ⟨h, by omega⟩)
    have HQq17 := Lib.hid HI_2.out.lt
    go_wp2_with (with_reducible refine at_alloc_ (t := 57) ?_; refine alloc_at (S := fun _ => False) rfl rfl ?_)
    intro w8 hp hb hz
    have RN := Lib.hid hp
    have HMm := Lib.hid (HMn.out.below hb)
    have HBB := Lib.hid hb
    clear hp hb hz HMn
    clear HMo
    go_wp2_with (with_reducible refine at_store_ (t := 57) ?_; refine Hid.out ?_)
    refine Lib.hid ?_
    refine put_at rfl (.tmp 17) (.tmp 96) rfl rfl w7.heap.size rfl rfl RN.out HMm.out (fun h => h.2 rfl) ?_
    intro w9 hp ht
    have hbb := ht.below HBB.out (Nat.le_refl _)
    have HI_3 := Lib.hid (HI_2.out.below hbb)
    have HLn_3 := Lib.hid (HLn_2.out.below hbb)
    clear HI_2 HLn_2
    have X17 := Lib.hid hp
    clear hp ht hbb RN HMm HBB
    generalize w7.heap.size = q17 at *
    go_wp2_with fail
    refine (check_any (S := SQ S w.heap.size) Ae l.length ce l w9 HLn_3.out HLo.out (by have := HLM.out; omega) HLc.out).mono ?_
    rintro e w10 ⟨rfl, hb⟩
    rw [HCK.out]
    have HI_4 := Lib.hid (HI_3.out.below hb)
    have HLn_4 := Lib.hid (HLn_3.out.below hb)
    have X17_4 := Lib.hid (X17.out.below hb)
    clear HI_3 HLn_3 X17
    clear hb
    go_wp2_with fail
    obtain ⟨k1, k2, e1, hm1⟩ := X17_4.out
    have HF1 := Lib.hid e1
    have HF2 := Lib.hid HI_4.out.p4
    have HM1 := Lib.hid hm1
    have HM2 := Lib.hid HI_4.out.hd
    clear e1 hm1
    refine wp_region_held_drew (S := fun W => W.heap[q17]? = some (.cells (stoCells (s.com l).c (s.com l).n (.map k1) (.map k2) (s.com l).B (s.com l).T) 57 (0, 0)) ∧ W.heap[(w.heap.size + 1)]? = some (.cells (rCells sa sv d.R) 80 (0, 0))) (by kernel_rfl) ⟨HF1.out, HF2.out⟩ (fun hHeld => ?_)
    have HHD := Lib.hid hHeld
    have hbd : Below w10.heap.size w10 w10.drew := (Below.refl _ _).drew
    have HID := Lib.hid (HI_4.out.below hbd)
    have HMD1 := Lib.hid (HM1.out.below hbd)
    have HMD2 := Lib.hid (HM2.out.below hbd)
    clear hHeld hbd HF1 HF2 HM1 HM2 HI_4 HLn_4 X17_4
    generalize w10.drew = wd at *
    refine wpAnyH_take (i := 0) (oi := ⟨some 108, _, _, _, _, _⟩) (v := (s.com l).val k1 k2) rfl (by kernel_rfl) (by kernel_rfl) (by kernel_rfl) (fun _ _ _ h => h) (yields_sto (by rfl) _ rfl q17 rfl 57 (0, 0) (fun _ h => h.1)) HHD.out ?_
    try simp only [Act.put, List.setIfInBounds_toArray, List.set_cons_zero, List.set_cons_succ]
    refine wpAnyH_take (i := 1) (oi := ⟨some 109, _, _, _, _, _⟩) (v := d.val sa sv) rfl (by kernel_rfl) (by kernel_rfl) (by kernel_rfl) (fun _ _ _ h => h) (yields_rd (by rfl) _ rfl (w.heap.size + 1) rfl 80 (0, 0) (fun _ h => h.2)) HHD.out ?_
    try simp only [Act.put, List.setIfInBounds_toArray, List.set_cons_zero, List.set_cons_succ]
    refine wpAnyH_take (i := 2) (oi := ⟨some 110, _, _, _, _, _⟩) (v := .int .i64 E) rfl (by kernel_rfl) (by kernel_rfl) (by kernel_rfl) (fun _ _ _ h => h) (Or.inl ⟨by kernel_rfl, ?_⟩) HHD.out ?_
    · intro W' hW
      go_simp
    try simp only [Act.put, List.setIfInBounds_toArray, List.set_cons_zero, List.set_cons_succ]
    refine wpAnyH_take (i := 3) (oi := ⟨some 111, _, _, _, _, _⟩) (v := .int .i64 E) rfl (by kernel_rfl) (by kernel_rfl) (by kernel_rfl) (fun _ _ _ h => h) (Or.inl ⟨by kernel_rfl, ?_⟩) HHD.out ?_
    · intro W' hW
      go_simp
    try simp only [Act.put, List.setIfInBounds_toArray, List.set_cons_zero, List.set_cons_succ]
    refine wpAnyH_take (i := 4) (oi := ⟨some 112, _, _, _, _, _⟩) (v := .bool true) rfl (by kernel_rfl) (by kernel_rfl) (by kernel_rfl) (fun _ _ _ h => h) (Or.inl ⟨by kernel_rfl, ?_⟩) HHD.out ?_
    · intro W' hW
      go_simp
    try simp only [Act.put, List.setIfInBounds_toArray, List.set_cons_zero, List.set_cons_succ]
    refine wpAnyH_take (i := 5) (oi := ⟨some 113, _, _, _, _, _⟩) (v := .bool true) rfl (by kernel_rfl) (by kernel_rfl) (by kernel_rfl) (fun _ _ _ h => h) (Or.inl ⟨by kernel_rfl, ?_⟩) HHD.out ?_
    · intro W' hW
      go_simp
    try simp only [Act.put, List.setIfInBounds_toArray, List.set_cons_zero, List.set_cons_succ]
    refine wpAnyH_take (i := 6) (oi := ⟨some 114, _, _, _, _, _⟩) (v := .int .i64 0) rfl (by kernel_rfl) (by kernel_rfl) (by kernel_rfl) (fun _ _ _ h => h) (Or.inl ⟨by kernel_rfl, ?_⟩) HHD.out ?_
    · intro W' hW
      go_simp
    try simp only [Act.put, List.setIfInBounds_toArray, List.set_cons_zero, List.set_cons_succ]
    refine wpAnyH_take (i := 7) (oi := ⟨some 115, _, _, _, _, _⟩) (v := .bool true) rfl (by kernel_rfl) (by kernel_rfl) (by kernel_rfl) (fun _ _ _ h => h) (Or.inl ⟨by kernel_rfl, ?_⟩) HHD.out ?_
    · intro W' hW
      go_simp
    try simp only [Act.put, List.setIfInBounds_toArray, List.set_cons_zero, List.set_cons_succ]
    refine wpAnyH_take (i := 8) (oi := ⟨some 116, _, _, _, _, _⟩) (v := .bool true) rfl (by kernel_rfl) (by kernel_rfl) (by kernel_rfl) (fun _ _ _ h => h) (Or.inl ⟨by kernel_rfl, ?_⟩) HHD.out ?_
    · intro W' hW
      go_simp
    try simp only [Act.put, List.setIfInBounds_toArray, List.set_cons_zero, List.set_cons_succ]
    have P6D := Lib.hid HID.out.p6
    have P7D := Lib.hid HID.out.p7
    have HBD := Lib.hid HID.out.hB
    clear HID
    refine wpAnyH_ready (rs := [9]) (by kernel_rfl) (by simp) ?_
    refine AllReadyH.cons (o := ⟨none, _, _, _, _, _⟩) rfl (fun K hK => ?_) (AllReadyH.nil)
    refine Eq.mpr (if_pos (by kernel_rfl)) ?_
    refine wp_put_st (.tmp 6) (.tmp 108) rfl (w.heap.size + 3) rfl rfl P6D.out HMD1.out (fun h => by have h := h.1.2; omega) ?_
    intro wa hp ht
    have P6F := Lib.hid hp
    have HHA := Lib.hid (show wa.heap[q17]? = some (.cells (stoCells (s.com l).c (s.com l).n (.map k1) (.map k2) (s.com l).B (s.com l).T) 57 (0, 0)) ∧ wa.heap[(w.heap.size + 1)]? = some (.cells (rCells sa sv d.R) 80 (0, 0)) from ⟨(ht.block (by have := HQq17.out; omega)).trans HHD.out.1, (ht.block (by omega)).trans HHD.out.2⟩)
    have P7A := Lib.hid (ht.rat P7D.out (by omega) (fun h => h))
    have MA2 := Lib.hid (ht.mem HMD2.out (fun h => by have h := h.2; omega))
    have HBA := Lib.hid (ht.below HBD.out (by omega))
    clear hp ht HHD P6D P7D HMD1 HMD2 HBD
    refine hK.out _ _ HHA.out (fun hHeldq => ?_)
    clear hK hHeldq
    try simp only [Act.put]
    refine wpAnyH_ready (rs := [10]) (by kernel_rfl) (by simp) ?_
    refine AllReadyH.cons (o := ⟨none, _, _, _, _, _⟩) rfl (fun K hK => ?_) (AllReadyH.nil)
    refine Eq.mpr (if_pos (by kernel_rfl)) ?_
    refine wp_put_rr (.tmp 7) (.tmp 109) rfl (w.heap.size + 4) rfl rfl P7A.out MA2.out (fun h => by have h := h.2; omega) ?_
    intro wb hp ht
    have P7F := Lib.hid hp
    have HHB := Lib.hid (show wb.heap[q17]? = some (.cells (stoCells (s.com l).c (s.com l).n (.map k1) (.map k2) (s.com l).B (s.com l).T) 57 (0, 0)) ∧ wb.heap[(w.heap.size + 1)]? = some (.cells (rCells sa sv d.R) 80 (0, 0)) from ⟨(ht.block (by have := HQq17.out; omega)).trans HHA.out.1, (ht.block (by omega)).trans HHA.out.2⟩)
    have P6G := Lib.hid (ht.at P6F.out (by omega) (fun h => by have h := h.1.2; omega))
    have HBF := Lib.hid (ht.below HBA.out (by omega))
    clear hp ht P6F HHA P7A MA2 HBA
    have P6F := P6G
    clear P6G
    refine hK.out _ _ HHB.out (fun hHeldq => ?_)
    clear hK hHeldq
    try simp only [Act.put]
    refine wpAnyH_take (i := 11) (oi := ⟨some 8, _, _, _, _, _⟩) (v := .bool true) rfl (by kernel_rfl) (by kernel_rfl) (by kernel_rfl) (fun _ _ _ h => h) (Or.inl ⟨by kernel_rfl, ?_⟩) HHB.out ?_
    · intro W' hW
      go_simp
    try simp only [Act.put, List.setIfInBounds_toArray, List.set_cons_zero, List.set_cons_succ]
    refine wpAnyH_done (by kernel_rfl) ?_ _
    clear HHB
    have H6S := Lib.hid (fun b (h : (fun b => SQ S w.heap.size b ∧ b ≠ q17) b) => (show S b from h.1.1))
    have H7S := Lib.hid (fun b (h : SQ S w.heap.size b) => (show S b from h.1))
    go_wp2_with fail
    obtain ⟨c5, c6, hblk, hmaps⟩ := P6F.out
    obtain ⟨sa5, sv5, hblk2, hmem⟩ := P7F.out
    have hl := load_sto _ _ _ _ _ hblk rfl
    have hl2 := load_rd _ _ _ _ _ hblk2 rfl
    refine bodyPost_ret (v := .tuple #[(s.com l).val c5 c6, d.val sa5 sv5, .bool true]) ?_ rfl ⟨c5, c6, sa5, sv5, by rw [HDS.out, HDD.out], by rw [HDS.out]; exact hmaps.more fun b _ h => H6S.out b h, by rw [HDD.out]; exact hmem.more fun b _ h => H7S.out b h, HBF.out⟩
    simp [results, Try.results39, asAddr, hl, hl2, Sn.val, sto, Rd.val, Result.andThen]
end Go.Proofs.Ytpejhgkcofilmaa
