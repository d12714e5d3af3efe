/- The walk of the law TrimKeeps: true. No condition. -/
import Derived.Test.YtpejhgkcofilmaaTrN
import Derived.Test.YtpejhgkcofilmaaTrQ
set_option linter.unusedVariables false
namespace Go.Proofs.Ytpejhgkcofilmaa
open Go.RowKit

theorem meas_stamp (n t : Int) (h : t ≤ n) : (n + 1 - (t + 1)).toNat < (n + 1 - t).toNat := by omega

set_option maxRecDepth 100000 in
set_option maxHeartbeats 51200000 in
theorem keeps_ok (a r : Int) (cn : Nat) (A : Option Addr) (n c : Nat) (l : List TAct) (w : World) (hl : TActs w (fun _ => True) A n l) (h0 : 0 ≤ a) (h1 : a ≤ 255) (hr : r = a % 6) (hcn : 1 + r = (cn : Int)) (hg : greatB l = false) :
    Calls Try.prog 18 #[.int .u8 a, .slice A n c] w fun e w' => e = .returned (.bool true) ∧ Below w.heap.size w w' := by
  obtain ⟨hg1, hg2⟩ := great_no hg
  have hmod : a.tmod 6 = r := tmod_pos h0 hr.symm
  have hr0 : 0 ≤ r := by omega
  have hr5 : r ≤ 5 := by omega
  have hc1 : 1 ≤ cn := by omega
  have hc6 : cn ≤ 6 := by omega
  have CM0 := made51_any (S := fun _ => True) cn A n c l w hc1 hc6 (fun _ _ => trivial) hl hg1 hg2
  have HG0 := good_made (cn : Int) (by omega) (by omega) l l.length (Nat.le_refl _) (by omega)
  rw [List.take_length] at HG0
  generalize madeF (cn : Int) l = x at CM0 HG0
  obtain ⟨s, all⟩ := x
  dsimp only at CM0 HG0
  rw [← hcn] at CM0
  have CM := Lib.hid CM0
  have HGd := Lib.hid HG0
  have HC := Lib.hid (And.intro hc1 hc6)
  have HCN := Lib.hid hcn
  have HM40 := Lib.hid (show (l.length : Int) ≤ 1000 by omega)
  have GR := Lib.hid (great51_any A n c l w hl)
  rw [hg] at GR
  clear CM0 HG0 hg hg1 hg2 hl hr hc1 hc6 hcn
  go_enter Try.func18, Try.ntmps18
  go_wp2_with fail
  refine GR.out.mono ?_
  rintro e w1 ⟨rfl, hw⟩
  subst w1
  clear GR
  go_wp2_with fail
  refine CM.out.mono ?_
  rintro e w2 ⟨b1, b2, Aw, cw, rfl, hm, hra, hb⟩
  have HM2 := Lib.hid (hm.more (S' := fun b => b ≠ w2.heap.size) fun b hb _ => by omega)
  have HR2 := Lib.hid hra
  have HB2 := Lib.hid hb
  clear hm hra hb CM
  go_wp2_with (with_reducible refine at_alloc_ (t := 57) ?_; refine alloc_at (S := fun _ => False) rfl rfl ?_)
  intro w3 hp hb hz
  have P3 := Lib.hid hp
  have HM3 := Lib.hid (HM2.out.below hb)
  have HR3 := Lib.hid (HR2.out.below hb)
  have HB3 := Lib.hid (HB2.out.trans (hb.mono HB2.out.size))
  have HZ3 := Lib.hid (show w.heap.size ≤ w2.heap.size from HB2.out.size)
  have HX3 := Lib.hid (fun (o : Nat) (h : w2.heap.size ≤ o) => h)
  have HRS := Lib.hid (show Reads w3 (fun b => b ≠ w2.heap.size) 3 Aw all.length (all.flatMap w3C) from ((HR2.out.more (S' := fun b => b ≠ w2.heap.size) fun b hb _ => by omega).below hb))
  generalize w2.heap.size = p at *
  clear hp hb hz HM2 HR2 HB2 HR3 HX3
  go_wp2_with (with_reducible refine at_store_ (t := 57) ?_; refine Hid.out ?_)
  refine Lib.hid ?_
  refine put_at rfl (.tmp 6) (.tmp 35) rfl rfl p rfl rfl P3.out HM3.out (fun h => h rfl) ?_
  intro w4 hp ht
  have P4 := Lib.hid hp
  have HB4 := Lib.hid (ht.below HB3.out HZ3.out)
  have HR4 := Lib.hid (ht.reads HRS.out (fun h => h rfl))
  clear hp ht P3 HM3 HB3 HRS
  clear HR4
  go_wp2_with (with_reducible refine at_load_ (t := 57) ?_; refine get_at rfl _ rfl p rfl P4.out ?_)
  intro b1 b2 hm
  have HM := Lib.hid hm
  clear hm
  try simp only [Act.put, List.setIfInBounds_toArray, List.set_cons_zero, List.set_cons_succ]
  go_wp2_with fail
  refine (all_any (S := fun _ => True) w4 (fun _ _ => trivial) (HM.out.more fun _ _ _ => trivial) (HGd.out.okS (by have := HM40.out; omega))).mono ?_
  rintro e w5 ⟨b5, b6, rfl, hm, hb⟩
  have P5 := Lib.hid (P4.out.below hb)
  have HB5 := Lib.hid (HB4.out.trans (hb.mono HB4.out.size))
  clear P4 HB4
  clear hb HM
  have HMn := Lib.hid (hm.more (S' := fun b => b ≠ w5.heap.size) fun b hb _ => by omega)
  clear hm
  have HZq := Lib.hid (show w.heap.size ≤ w5.heap.size from HB5.out.size)
  go_wp2_with (with_reducible refine at_alloc_ (t := 57) ?_; refine alloc_at (S := fun _ => False) rfl rfl ?_)
  intro w6 hp hb hz
  have RN := Lib.hid hp
  have HMm := Lib.hid (HMn.out.below hb)
  have HBB := Lib.hid hb
  clear hp hb hz HMn
  go_wp2_with (with_reducible refine at_store_ (t := 57) ?_; refine Hid.out ?_)
  refine Lib.hid ?_
  refine put_at rfl (.tmp 9) (.tmp 43) rfl rfl w5.heap.size rfl rfl RN.out HMm.out (fun h => h rfl) ?_
  intro w7 hp ht
  have hbb := ht.below HBB.out (Nat.le_refl _)
  have P7 := Lib.hid (P5.out.below hbb)
  have HB7 := Lib.hid (HB5.out.trans (hbb.mono HB5.out.size))
  clear P5 HB5
  have X := Lib.hid hp
  clear hp ht hbb RN HMm HBB
  generalize w5.heap.size = q at *
  go_wp2_with (with_reducible refine at_load_ (t := 57) ?_; refine get_at rfl _ rfl q rfl X.out ?_)
  intro b1 b2 hm
  have HM := Lib.hid hm
  clear hm
  try simp only [Act.put, List.setIfInBounds_toArray, List.set_cons_zero, List.set_cons_succ]
  go_wp2_with fail
  refine (all_any (S := fun _ => True) w7 (fun _ _ => trivial) (HM.out.more fun _ _ _ => trivial) (all_ok (HGd.out.okS (by have := HM40.out; omega)))).mono ?_
  rintro e w8 ⟨b5, b6, rfl, hm, hb⟩
  have P8 := Lib.hid (P7.out.below hb)
  have HB8 := Lib.hid (HB7.out.trans (hb.mono HB7.out.size))
  have X8 := Lib.hid (X.out.below hb)
  clear P7 HB7 X
  clear hb HM
  have HMn := Lib.hid (hm.more (S' := fun b => b ≠ w8.heap.size) fun b hb _ => by omega)
  clear hm
  have HZo := Lib.hid (show w.heap.size ≤ w8.heap.size from HB8.out.size)
  go_wp2_with (with_reducible refine at_alloc_ (t := 57) ?_; refine alloc_at (S := fun _ => False) rfl rfl ?_)
  intro w9 hp hb hz
  have RN := Lib.hid hp
  have HMm := Lib.hid (HMn.out.below hb)
  have HBB := Lib.hid hb
  clear hp hb hz HMn
  go_wp2_with (with_reducible refine at_store_ (t := 57) ?_; refine Hid.out ?_)
  refine Lib.hid ?_
  refine put_at rfl (.tmp 11) (.tmp 48) rfl rfl w8.heap.size rfl rfl RN.out HMm.out (fun h => h rfl) ?_
  intro wx hp ht
  have hbb := ht.below HBB.out (Nat.le_refl _)
  have P9 := Lib.hid (P8.out.below hbb)
  have HB9 := Lib.hid (HB8.out.trans (hbb.mono HB8.out.size))
  have X9 := Lib.hid (X8.out.below hbb)
  clear P8 HB8 X8
  have Y := Lib.hid hp
  clear hp ht hbb RN HMm HBB
  generalize w8.heap.size = o at *
  have hoks := (HGd.out.okS (by have := HM40.out; omega))
  have hoka := all_ok hoks
  have hokb := all_ok hoka
  have hag := HGd.out.again HC.out.2
  have hlk := all_like s
  have hrs := fun r k => HGd.out.reads_same HC.out.2 r k
  have hats := fun t k a b c d => HGd.out.ats_same HC.out.2 t k a b c d
  have hol := HGd.out.old_le
  generalize s.all = z at *
  obtain ⟨sa, da⟩ := z
  dsimp only at hag hlk hrs hats hoka hokb X9 Y ⊢
  generalize sa.all = z at *
  obtain ⟨sb, db⟩ := z
  dsimp only at hag hokb Y ⊢
  obtain ⟨hd0, hkb⟩ := hag
  subst hd0
  have KB := Lib.hid hkb
  have EN := Lib.hid hlk.2.1
  have EB := Lib.hid hlk.2.2.2.1
  have ET := Lib.hid hlk.2.2.2.2
  have RS := Lib.hid hrs
  have AS := Lib.hid hats
  have OL := Lib.hid hol
  have OKS := Lib.hid hoks
  have OKA := Lib.hid hoka
  have OKB := Lib.hid hokb
  clear hkb hlk hrs hats hol hoks hoka hokb
  go_wp2_with fail
  obtain ⟨c1, c2, p0, hm0⟩ := P9.out
  obtain ⟨d1, d2, p1, hm1⟩ := X9.out
  obtain ⟨e1, e2, p2, hm2⟩ := Y.out
  have HM0 := Lib.hid (hm0.more (S' := fun _ => True) fun _ _ _ => trivial)
  have HM1 := Lib.hid (hm1.more (S' := fun _ => True) fun _ _ _ => trivial)
  have HM2 := Lib.hid (hm2.more (S' := fun _ => True) fun _ _ _ => trivial)
  refine wp_region_held_drew (S := fun W => W.heap[p]? = some (.cells (stoCells s.c s.n (.map c1) (.map c2) s.B s.T) 57 (0, 0)) ∧ W.heap[q]? = some (.cells (stoCells sa.c sa.n (.map d1) (.map d2) sa.B sa.T) 57 (0, 0)) ∧ W.heap[o]? = some (.cells (stoCells sb.c sb.n (.map e1) (.map e2) sb.B sb.T) 57 (0, 0))) (by kernel_rfl) ⟨p0, p1, p2⟩ (fun hHeld => ?_)
  have HHD := Lib.hid hHeld
  have hbd : Below wx.heap.size wx wx.drew := (Below.refl _ _).drew
  have Pd := Lib.hid (P9.out.below hbd)
  have Xd := Lib.hid (X9.out.below hbd)
  have Yd := Lib.hid (Y.out.below hbd)
  have HBd := Lib.hid (HB9.out.trans (hbd.mono HB9.out.size))
  have M0d := Lib.hid (HM0.out.below hbd)
  have M1d := Lib.hid (HM1.out.below hbd)
  have M2d := Lib.hid (HM2.out.below hbd)
  clear P9 X9 Y HB9 HM0 HM1 HM2
  clear hHeld hbd p0 p1 p2 hm0 hm1 hm2
  generalize wx.drew = wd at *
  refine wpAnyH_take (i := 0) (oi := ⟨some 50, _, _, _, _, _⟩) (v := .int .i64 0) rfl (by kernel_rfl) (by kernel_rfl) (by kernel_rfl) (fun _ _ _ h => h) (Or.inl ⟨by rfl, ?_⟩) HHD.out ?_
  · intro W' hW
    go_simp
  try simp only [Act.put, List.setIfInBounds_toArray, List.set_cons_zero, List.set_cons_succ]
  refine wpAnyH_take (i := 1) (oi := ⟨some 51, _, _, _, _, _⟩) (v := .bool false) rfl (by kernel_rfl) (by kernel_rfl) (by kernel_rfl) (fun _ _ _ h => h) (Or.inl ⟨by rfl, ?_⟩) HHD.out ?_
  · intro W' hW
    go_simp
  try simp only [Act.put, List.setIfInBounds_toArray, List.set_cons_zero, List.set_cons_succ]
  refine wpAnyH_take (i := 2) (oi := ⟨some 52, _, _, _, _, _⟩) (v := .bool false) rfl (by kernel_rfl) (by kernel_rfl) (by kernel_rfl) (fun _ _ _ h => h) (Or.inl ⟨by rfl, ?_⟩) HHD.out ?_
  · intro W' hW
    go_simp
  try simp only [Act.put, List.setIfInBounds_toArray, List.set_cons_zero, List.set_cons_succ]
  refine wpAnyH_take (i := 3) (oi := ⟨some 53, _, _, _, _, _⟩) (v := sa.val d1 d2) rfl (by kernel_rfl) (by kernel_rfl) (by kernel_rfl) (fun _ _ _ h => h) (yields_sto (by kernel_rfl) _ rfl q rfl 57 (0, 0) (fun _ h => h.2.1)) HHD.out ?_
  try simp only [Act.put, List.setIfInBounds_toArray, List.set_cons_zero, List.set_cons_succ]
  refine wpAnyH_take (i := 5) (oi := ⟨some 55, _, _, _, _, _⟩) (v := s.val c1 c2) rfl (by kernel_rfl) (by kernel_rfl) (by kernel_rfl) (fun _ _ _ h => h) (yields_sto (by kernel_rfl) _ rfl p rfl 57 (0, 0) (fun _ h => h.1)) HHD.out ?_
  try simp only [Act.put, List.setIfInBounds_toArray, List.set_cons_zero, List.set_cons_succ]
  refine wpAnyH_ready (rs := [4]) (by kernel_rfl) (by simp) ?_
  refine AllReadyH.cons (o := ⟨some 54, _, _, _, _, _⟩) rfl (fun K hK => ?_) (AllReadyH.nil)
  go_simp
  refine (st_now (s := sa) (b1 := d1) (b2 := d2) wd).mono ?_
  rintro e we ⟨he, hb⟩
  rw [EN.out] at he
  subst he
  have HHE := Lib.hid (And.intro ((hb.block p (lt_of_block HHD.out.1)).trans HHD.out.1) (And.intro ((hb.block q (lt_of_block HHD.out.2.1)).trans HHD.out.2.1) ((hb.block o (lt_of_block HHD.out.2.2)).trans HHD.out.2.2)))
  have Pe := Lib.hid (Pd.out.below hb)
  have Xe := Lib.hid (Xd.out.below hb)
  have Ye := Lib.hid (Yd.out.below hb)
  have HBe := Lib.hid (HBd.out.trans (hb.mono HBd.out.size))
  have M0e := Lib.hid (M0d.out.below hb)
  have M1e := Lib.hid (M1d.out.below hb)
  have M2e := Lib.hid (M2d.out.below hb)
  clear Pd Xd Yd HBd M0d M1d M2d HHD
  clear hb
  refine hK.out _ _ HHE.out (fun hHeldq => ?_)
  clear hK hHeldq
  try simp only [Act.put, List.setIfInBounds_toArray, List.set_cons_zero, List.set_cons_succ]
  refine wpAnyH_ready (rs := [6]) (by kernel_rfl) (by simp) ?_
  refine AllReadyH.cons (o := ⟨some 56, _, _, _, _, _⟩) rfl (fun K hK => ?_) (AllReadyH.nil)
  go_simp
  refine (st_now (s := s) (b1 := c1) (b2 := c2) we).mono ?_
  rintro e wf ⟨rfl, hb⟩
  have HHF := Lib.hid (And.intro ((hb.block p (lt_of_block HHE.out.1)).trans HHE.out.1) (And.intro ((hb.block q (lt_of_block HHE.out.2.1)).trans HHE.out.2.1) ((hb.block o (lt_of_block HHE.out.2.2)).trans HHE.out.2.2)))
  have Pf := Lib.hid (Pe.out.below hb)
  have Xf := Lib.hid (Xe.out.below hb)
  have Yf := Lib.hid (Ye.out.below hb)
  have HBf := Lib.hid (HBe.out.trans (hb.mono HBe.out.size))
  have M0f := Lib.hid (M0e.out.below hb)
  have M1f := Lib.hid (M1e.out.below hb)
  have M2f := Lib.hid (M2e.out.below hb)
  clear Pe Xe Ye HBe M0e M1e M2e HHE
  clear hb
  refine hK.out _ _ HHF.out (fun hHeldq => ?_)
  clear hK hHeldq
  try simp only [Act.put, List.setIfInBounds_toArray, List.set_cons_zero, List.set_cons_succ]
  refine wpAnyH_take (i := 7) (oi := ⟨some 57, _, _, _, _, _⟩) (v := .bool false) rfl (by kernel_rfl) (by kernel_rfl) (by kernel_rfl) (fun _ _ _ h => h) (Or.inl ⟨by rfl, ?_⟩) HHF.out ?_
  · intro W' hW
    go_simp
  try simp only [Act.put, List.setIfInBounds_toArray, List.set_cons_zero, List.set_cons_succ]
  refine wpAnyH_take (i := 8) (oi := ⟨some 58, _, _, _, _, _⟩) (v := .bool false) rfl (by kernel_rfl) (by kernel_rfl) (by kernel_rfl) (fun _ _ _ h => h) (Or.inl ⟨by rfl, ?_⟩) HHF.out ?_
  · intro W' hW
    go_simp
  try simp only [Act.put, List.setIfInBounds_toArray, List.set_cons_zero, List.set_cons_succ]
  refine wpAnyH_take (i := 9) (oi := ⟨some 59, _, _, _, _, _⟩) (v := .bool false) rfl (by kernel_rfl) (by kernel_rfl) (by kernel_rfl) (fun _ _ _ h => h) (Or.inl ⟨by rfl, ?_⟩) HHF.out ?_
  · intro W' hW
    go_simp
  try simp only [Act.put, List.setIfInBounds_toArray, List.set_cons_zero, List.set_cons_succ]
  refine wpAnyH_take (i := 10) (oi := ⟨some 60, _, _, _, _, _⟩) (v := sa.val d1 d2) rfl (by kernel_rfl) (by kernel_rfl) (by kernel_rfl) (fun _ _ _ h => h) (yields_sto (by kernel_rfl) _ rfl q rfl 57 (0, 0) (fun _ h => h.2.1)) HHF.out ?_
  try simp only [Act.put, List.setIfInBounds_toArray, List.set_cons_zero, List.set_cons_succ]
  refine wpAnyH_take (i := 13) (oi := ⟨some 63, _, _, _, _, _⟩) (v := s.val c1 c2) rfl (by kernel_rfl) (by kernel_rfl) (by kernel_rfl) (fun _ _ _ h => h) (yields_sto (by kernel_rfl) _ rfl p rfl 57 (0, 0) (fun _ h => h.1)) HHF.out ?_
  try simp only [Act.put, List.setIfInBounds_toArray, List.set_cons_zero, List.set_cons_succ]
  refine wpAnyH_ready (rs := [11]) (by kernel_rfl) (by simp) ?_
  refine AllReadyH.cons (o := ⟨some 61, _, _, _, _, _⟩) rfl (fun K hK => ?_) (AllReadyH.nil)
  go_simp
  refine (st_readers (s := sa) (b1 := d1) (b2 := d2) wf).mono ?_
  rintro e wg ⟨v, rfl, ho, hb⟩
  obtain ⟨xA, xc, rfl, g1, g2, g3⟩ := own_reads ho (S := fun _ => True) (fun b hb => trivial)
  have xL := rdL_le sa.B sa.T 8
  generalize hx : (rdL sa.B sa.T 8).length = xm at *
  rw [EB.out, ET.out] at hx
  have xE := Lib.hid hx
  have xb : (xm : Int) ≤ 8 := by omega
  have HHG := Lib.hid (And.intro ((hb.block p (lt_of_block HHF.out.1)).trans HHF.out.1) (And.intro ((hb.block q (lt_of_block HHF.out.2.1)).trans HHF.out.2.1) ((hb.block o (lt_of_block HHF.out.2.2)).trans HHF.out.2.2)))
  have Pg := Lib.hid (Pf.out.below hb)
  have Xg := Lib.hid (Xf.out.below hb)
  have Yg := Lib.hid (Yf.out.below hb)
  have HBg := Lib.hid (HBf.out.trans (hb.mono HBf.out.size))
  have M0g := Lib.hid (M0f.out.below hb)
  have M1g := Lib.hid (M1f.out.below hb)
  have M2g := Lib.hid (M2f.out.below hb)
  clear Pf Xf Yf HBf M0f M1f M2f HHF
  clear hb ho g1 g2 g3 xL hx
  refine hK.out _ _ HHG.out (fun hHeldq => ?_)
  clear hK hHeldq
  try simp only [Act.put, List.setIfInBounds_toArray, List.set_cons_zero, List.set_cons_succ]
  refine wpAnyH_take (i := 12) (oi := ⟨some 62, _, _, _, _, _⟩) (v := .int .i64 xm) rfl (by kernel_rfl) (by kernel_rfl) (by kernel_rfl) (fun _ _ _ h => h) (Or.inl ⟨by rfl, ?_⟩) HHG.out ?_
  · intro W' hW
    go_simp
  try simp only [Act.put, List.setIfInBounds_toArray, List.set_cons_zero, List.set_cons_succ]
  refine wpAnyH_ready (rs := [14]) (by kernel_rfl) (by simp) ?_
  refine AllReadyH.cons (o := ⟨some 64, _, _, _, _, _⟩) rfl (fun K hK => ?_) (AllReadyH.nil)
  go_simp
  refine (st_readers (s := s) (b1 := c1) (b2 := c2) wg).mono ?_
  rintro e wh ⟨v, rfl, ho, hb⟩
  obtain ⟨yA, yc, rfl, g1, g2, g3⟩ := own_reads ho (S := fun _ => True) (fun b hb => trivial)
  have yL := rdL_le s.B s.T 8
  generalize hy : (rdL s.B s.T 8).length = ym at *
  have yE := Lib.hid hy
  have yb : (ym : Int) ≤ 8 := by omega
  have HHH := Lib.hid (And.intro ((hb.block p (lt_of_block HHG.out.1)).trans HHG.out.1) (And.intro ((hb.block q (lt_of_block HHG.out.2.1)).trans HHG.out.2.1) ((hb.block o (lt_of_block HHG.out.2.2)).trans HHG.out.2.2)))
  have Ph := Lib.hid (Pg.out.below hb)
  have Xh := Lib.hid (Xg.out.below hb)
  have Yh := Lib.hid (Yg.out.below hb)
  have HBh := Lib.hid (HBg.out.trans (hb.mono HBg.out.size))
  have M0h := Lib.hid (M0g.out.below hb)
  have M1h := Lib.hid (M1g.out.below hb)
  have M2h := Lib.hid (M2g.out.below hb)
  clear Pg Xg Yg HBg M0g M1g M2g HHG
  clear hb ho g1 g2 g3 yL hy
  refine hK.out _ _ HHH.out (fun hHeldq => ?_)
  clear hK hHeldq
  try simp only [Act.put, List.setIfInBounds_toArray, List.set_cons_zero, List.set_cons_succ]
  obtain rfl : xm = ym := by have := xE.out; have := yE.out; omega
  refine wpAnyH_take (i := 15) (oi := ⟨some 65, _, _, _, _, _⟩) (v := .int .i64 xm) rfl (by kernel_rfl) (by kernel_rfl) (by kernel_rfl) (fun _ _ _ h => h) (Or.inl ⟨by rfl, ?_⟩) HHH.out ?_
  · intro W' hW
    go_simp
  try simp only [Act.put, List.setIfInBounds_toArray, List.set_cons_zero, List.set_cons_succ]
  refine wpAnyH_take (i := 16) (oi := ⟨some 66, _, _, _, _, _⟩) (v := .bool false) rfl (by kernel_rfl) (by kernel_rfl) (by kernel_rfl) (fun _ _ _ h => h) (Or.inl ⟨by rfl, ?_⟩) HHH.out ?_
  · intro W' hW
    go_simp
  try simp only [Act.put, List.setIfInBounds_toArray, List.set_cons_zero, List.set_cons_succ]
  refine wpAnyH_take (i := 17) (oi := ⟨some 67, _, _, _, _, _⟩) (v := .bool false) rfl (by kernel_rfl) (by kernel_rfl) (by kernel_rfl) (fun _ _ _ h => h) (Or.inl ⟨by rfl, ?_⟩) HHH.out ?_
  · intro W' hW
    go_simp
  try simp only [Act.put, List.setIfInBounds_toArray, List.set_cons_zero, List.set_cons_succ]
  refine wpAnyH_take (i := 18) (oi := ⟨some 68, _, _, _, _, _⟩) (v := .bool false) rfl (by kernel_rfl) (by kernel_rfl) (by kernel_rfl) (fun _ _ _ h => h) (Or.inl ⟨by rfl, ?_⟩) HHH.out ?_
  · intro W' hW
    go_simp
  try simp only [Act.put, List.setIfInBounds_toArray, List.set_cons_zero, List.set_cons_succ]
  refine wpAnyH_take (i := 19) (oi := ⟨some 69, _, _, _, _, _⟩) (v := sb.val e1 e2) rfl (by kernel_rfl) (by kernel_rfl) (by kernel_rfl) (fun _ _ _ h => h) (yields_sto (by kernel_rfl) _ rfl o rfl 57 (0, 0) (fun _ h => h.2.2)) HHH.out ?_
  try simp only [Act.put, List.setIfInBounds_toArray, List.set_cons_zero, List.set_cons_succ]
  refine wpAnyH_take (i := 21) (oi := ⟨some 71, _, _, _, _, _⟩) (v := sa.val d1 d2) rfl (by kernel_rfl) (by kernel_rfl) (by kernel_rfl) (fun _ _ _ h => h) (yields_sto (by kernel_rfl) _ rfl q rfl 57 (0, 0) (fun _ h => h.2.1)) HHH.out ?_
  try simp only [Act.put, List.setIfInBounds_toArray, List.set_cons_zero, List.set_cons_succ]
  generalize hkv : sa.keptN 2048 = kv at *
  have HKV := Lib.hid hkv
  clear hkv
  refine wpAnyH_ready (rs := [20]) (by kernel_rfl) (by simp) ?_
  refine AllReadyH.cons (o := ⟨some 70, _, _, _, _, _⟩) rfl (fun K hK => ?_) (AllReadyH.nil)
  go_simp
  refine (kept_any (S := fun _ => True) wh (fun _ _ => trivial) M2h.out OKB.out.2).mono ?_
  rintro e wi ⟨he, hb⟩
  rw [KB.out] at he
  subst he
  have HHI := Lib.hid (And.intro ((hb.block p (lt_of_block HHH.out.1)).trans HHH.out.1) (And.intro ((hb.block q (lt_of_block HHH.out.2.1)).trans HHH.out.2.1) ((hb.block o (lt_of_block HHH.out.2.2)).trans HHH.out.2.2)))
  have Pi := Lib.hid (Ph.out.below hb)
  have Xi := Lib.hid (Xh.out.below hb)
  have Yi := Lib.hid (Yh.out.below hb)
  have HBi := Lib.hid (HBh.out.trans (hb.mono HBh.out.size))
  have M0i := Lib.hid (M0h.out.below hb)
  have M1i := Lib.hid (M1h.out.below hb)
  have M2i := Lib.hid (M2h.out.below hb)
  clear Ph Xh Yh HBh M0h M1h M2h HHH
  clear hb
  refine hK.out _ _ HHI.out (fun hHeldq => ?_)
  clear hK hHeldq
  try simp only [Act.put, List.setIfInBounds_toArray, List.set_cons_zero, List.set_cons_succ]
  refine wpAnyH_ready (rs := [22]) (by kernel_rfl) (by simp) ?_
  refine AllReadyH.cons (o := ⟨some 72, _, _, _, _, _⟩) rfl (fun K hK => ?_) (AllReadyH.nil)
  go_simp
  refine (kept_any (S := fun _ => True) wi (fun _ _ => trivial) M1i.out OKA.out.2).mono ?_
  rintro e wj ⟨he, hb⟩
  rw [HKV.out] at he
  subst he
  have HHJ := Lib.hid (And.intro ((hb.block p (lt_of_block HHI.out.1)).trans HHI.out.1) (And.intro ((hb.block q (lt_of_block HHI.out.2.1)).trans HHI.out.2.1) ((hb.block o (lt_of_block HHI.out.2.2)).trans HHI.out.2.2)))
  have Pj := Lib.hid (Pi.out.below hb)
  have Xj := Lib.hid (Xi.out.below hb)
  have Yj := Lib.hid (Yi.out.below hb)
  have HBj := Lib.hid (HBi.out.trans (hb.mono HBi.out.size))
  have M0j := Lib.hid (M0i.out.below hb)
  have M1j := Lib.hid (M1i.out.below hb)
  have M2j := Lib.hid (M2i.out.below hb)
  clear Pi Xi Yi HBi M0i M1i M2i HHI
  clear hb
  refine hK.out _ _ HHJ.out (fun hHeldq => ?_)
  clear hK hHeldq
  try simp only [Act.put, List.setIfInBounds_toArray, List.set_cons_zero, List.set_cons_succ]
  refine wpAnyH_take (i := 23) (oi := ⟨some 73, _, _, _, _, _⟩) (v := .bool false) rfl (by kernel_rfl) (by kernel_rfl) (by kernel_rfl) (fun _ _ _ h => h) (Or.inl ⟨by rfl, ?_⟩) HHJ.out ?_
  · intro W' hW
    go_simp
  try simp only [Act.put, List.setIfInBounds_toArray, List.set_cons_zero, List.set_cons_succ]
  refine wpAnyH_take (i := 24) (oi := ⟨some 74, _, _, _, _, _⟩) (v := .bool false) rfl (by kernel_rfl) (by kernel_rfl) (by kernel_rfl) (fun _ _ _ h => h) (Or.inl ⟨by rfl, ?_⟩) HHJ.out ?_
  · intro W' hW
    go_simp
  try simp only [Act.put, List.setIfInBounds_toArray, List.set_cons_zero, List.set_cons_succ]
  refine wpAnyH_done (by kernel_rfl) ?_ _
  clear HHJ M0j M1j M2j Yj xb
  go_wp2
  go_loopw [13] (fun i wr => ∃ k : Nat, k ≤ cn ∧ i = .int .i64 k ∧ Hid (s.At wr (fun b => b ≠ p) p) ∧ Hid (sa.At wr (fun b => b ≠ q) q) ∧ Hid (Below w.heap.size w wr)) (fun i _ => cn - (intOf i).toNat)
  case atStart => exact ⟨0, by omega, rfl, Pj, Xj, HBj⟩
  case round =>
    clear Pj Xj HBj
    obtain ⟨k, hk, rfl, P, X, HB⟩ := hrel
    by_cases hlt : k < cn
    · skip
      have hki : (k : Int) < 1 + r := by have := HCN.out; omega
      have HK := Lib.hid hlt
      clear hk hlt
      go_wp2
      go_loopw [14] (fun i wr => ∃ j : Nat, j ≤ 8 ∧ i = .int .i64 ((j : Int) + 1) ∧ Hid (s.At wr (fun b => b ≠ p) p) ∧ Hid (sa.At wr (fun b => b ≠ q) q) ∧ Hid (Below w.heap.size w wr)) (fun i _ => 9 - (intOf i).toNat)
      case atStart => exact ⟨0, by omega, by go_num, P, X, HB⟩
      case round =>
        clear P X HB
        obtain ⟨j, hj, rfl, P, X, HB⟩ := hrel
        by_cases hj8 : j < 8
        · skip
          have hj1 : (j : Int) + 1 ≤ 8 := by omega
          have hj0 : (0 : Int) ≤ (j : Int) := by omega
          have HJ := Lib.hid hj8
          clear hj8 hj
          go_wp2_with (with_reducible refine at_load_ (t := 57) ?_; refine get_at rfl _ rfl p rfl P.out ?_)
          intro b1 b2 hm
          have HM := Lib.hid hm
          clear hm
          try simp only [Act.put, List.setIfInBounds_toArray, List.set_cons_zero, List.set_cons_succ]
          go_wp2_with fail
          refine (st_read (S := fun _ => True) (s := s) ((j : Int) + 1) (k : Int) (fun _ _ => trivial) (HM.out.more fun _ _ _ => trivial) (OKS.out.1 k) (Nat.le_trans (OKS.out.2 k) (by omega))).mono ?_
          rintro e wa ⟨rfl, hb⟩
          have Pa := Lib.hid (P.out.below hb)
          have Xa := Lib.hid (X.out.below hb)
          have HBa := Lib.hid (HB.out.trans (hb.mono HB.out.size))
          clear P X HB
          clear hb HM
          go_wp2_with (with_reducible refine at_load_ (t := 57) ?_; refine get_at rfl _ rfl q rfl Xa.out ?_)
          intro b1 b2 hm
          have HM := Lib.hid hm
          clear hm
          try simp only [Act.put, List.setIfInBounds_toArray, List.set_cons_zero, List.set_cons_succ]
          go_wp2_with fail
          refine (st_read (S := fun _ => True) (s := sa) ((j : Int) + 1) (k : Int) (fun _ _ => trivial) (HM.out.more fun _ _ _ => trivial) (OKA.out.1 k) (Nat.le_trans (OKA.out.2 k) (by omega))).mono ?_
          rintro e wb ⟨rfl, hb⟩
          have Pb := Lib.hid (Pa.out.below hb)
          have Xb := Lib.hid (Xa.out.below hb)
          have HBb := Lib.hid (HBa.out.trans (hb.mono HBa.out.size))
          clear Pa Xa HBa
          clear hb HM
          rw [(RS.out ((j : Int) + 1) k).1, (RS.out ((j : Int) + 1) k).2]
          generalize s.readV ((j : Int) + 1) k = rv at *
          generalize s.readE ((j : Int) + 1) k = re at *
          go_wp2
          go_roundw
          case rel => exact ⟨j + 1, by have := HJ.out; omega, by go_num, Pb, Xb, HBb⟩
          case measure => exact meas_close _ HJ.out
        · skip
          obtain rfl : j = 8 := by omega
          clear hj hj8
          go_wp2_with fail
          obtain ⟨c1, c2, p0, hm1⟩ := P.out
          have HM1 := Lib.hid hm1
          refine wp_region_held_drew (S := fun W => W.heap[p]? = some (.cells (stoCells s.c s.n (.map c1) (.map c2) s.B s.T) 57 (0, 0))) (by kernel_rfl) p0 (fun hHeld => ?_)
          have HHD := Lib.hid hHeld
          have hbd : Below wr.heap.size wr wr.drew := (Below.refl _ _).drew
          have P5d := Lib.hid (P.out.below hbd)
          have X5d := Lib.hid (X.out.below hbd)
          have HB5d := Lib.hid (HB.out.trans (hbd.mono HB.out.size))
          clear P X HB
          clear hHeld hbd p0 hm1
          generalize wr.drew = wrd at *
          refine wpAnyH_take (i := 0) (oi := ⟨some 106, _, _, _, _, _⟩) (v := s.val c1 c2) rfl (by kernel_rfl) (by kernel_rfl) (by kernel_rfl) (fun _ _ _ h => h) (yields_sto (by rfl) _ rfl p rfl 57 (0, 0) (fun _ h => h)) HHD.out ?_
          try simp only [Act.put, List.setIfInBounds_toArray, List.set_cons_zero, List.set_cons_succ]
          refine wpAnyH_take (i := 2) (oi := ⟨some 108, _, _, _, _, _⟩) (v := s.val c1 c2) rfl (by kernel_rfl) (by kernel_rfl) (by kernel_rfl) (fun _ _ _ h => h) (yields_sto (by rfl) _ rfl p rfl 57 (0, 0) (fun _ h => h)) HHD.out ?_
          try simp only [Act.put, List.setIfInBounds_toArray, List.set_cons_zero, List.set_cons_succ]
          refine wpAnyH_ready (rs := [1]) (by kernel_rfl) (by simp) ?_
          refine AllReadyH.cons (o := ⟨some 107, _, _, _, _, _⟩) rfl (fun K hK => ?_) (AllReadyH.nil)
          go_simp
          refine (st_now (s := s) (b1 := c1) (b2 := c2) wrd).mono ?_
          rintro e wre ⟨rfl, hb⟩
          have HHE := Lib.hid ((hb.block p (lt_of_block HHD.out)).trans HHD.out)
          have P5e := Lib.hid (P5d.out.below hb)
          have X5e := Lib.hid (X5d.out.below hb)
          have HB5e := Lib.hid (HB5d.out.trans (hb.mono HB5d.out.size))
          clear P5d X5d HB5d
          refine hK.out _ _ HHE.out (fun hHeld3 => ?_)
          clear hK hb HHD hHeld3
          try simp only [Act.put, List.setIfInBounds_toArray, List.set_cons_zero, List.set_cons_succ]
          refine wpAnyH_ready (rs := [3]) (by kernel_rfl) (by simp) ?_
          refine AllReadyH.cons (o := ⟨some 109, _, _, _, _, _⟩) rfl (fun K hK => ?_) (AllReadyH.nil)
          go_simp
          refine (st_readers (s := s) (b1 := c1) (b2 := c2) wre).mono ?_
          rintro e wrf ⟨v, rfl, ho, hb⟩
          obtain ⟨As, cs, rfl, g1, g2, g3⟩ := own_reads ho (S := fun _ => True) (fun b hb => trivial)
          have HI := Lib.hid (show Ints wrf (fun _ => True) As (rdL s.B s.T 8).length (rdI s.B s.T 8) from ⟨by rw [rdL_rdI, List.length_map], by have := g3; rw [rdL_rdI] at this ⊢; exact this⟩)
          have HC2 := Lib.hid (And.intro g1 g2)
          have HHF := Lib.hid ((hb.block p (lt_of_block HHE.out)).trans HHE.out)
          have P5f := Lib.hid (P5e.out.below hb)
          have X5f := Lib.hid (X5e.out.below hb)
          have HB5f := Lib.hid (HB5e.out.trans (hb.mono HB5e.out.size))
          clear P5e X5e HB5e
          generalize (rdL s.B s.T 8).length = mr at *
          refine hK.out _ _ HHF.out (fun hHeld4 => ?_)
          clear hK hb ho g1 g2 g3 HHE hHeld4
          try simp only [Act.put, List.setIfInBounds_toArray, List.set_cons_zero, List.set_cons_succ]
          refine wpAnyH_ready (rs := [4]) (by kernel_rfl) (by simp) ?_
          refine AllReadyH.cons (o := ⟨some 110, _, _, _, _, _⟩) rfl (fun K hK => ?_) (AllReadyH.nil)
          go_simp
          refine (least_any As mr cs (rdI s.B s.T 8) s.n wrf (fun _ _ => trivial) HI.out HC2.out.1 HC2.out.2 (Nat.le_trans (rdI_len _ _ 8) (by omega))).mono ?_
          rintro e wrg ⟨v, rfl, hv, hb⟩
          obtain rfl : v = s.old := isMin_eq hv (isMin_fold _ _)
          have HHG := Lib.hid ((hb.block p (lt_of_block HHF.out)).trans HHF.out)
          have P5g := Lib.hid (P5f.out.below hb)
          have X5g := Lib.hid (X5f.out.below hb)
          have HB5g := Lib.hid (HB5f.out.trans (hb.mono HB5f.out.size))
          clear P5f X5f HB5f
          refine hK.out _ _ HHG.out (fun hHeld5 => ?_)
          clear hK hb hv HHF HI HC2
          try simp only [Act.put, List.setIfInBounds_toArray, List.set_cons_zero, List.set_cons_succ]
          refine wpAnyH_take (i := 5) (oi := ⟨some 19, _, _, _, _, _⟩) (v := .int .i64 s.old) rfl (by kernel_rfl) (by kernel_rfl) (by kernel_rfl) (fun _ _ _ h => h) (Or.inl ⟨by rfl, ?_⟩) hHeld5 ?_
          · intro W' hW
            go_simp
          try simp only [Act.put, List.setIfInBounds_toArray, List.set_cons_zero, List.set_cons_succ]
          refine wpAnyH_done (by kernel_rfl) ?_ _
          clear hHeld5 HHG HM1
          go_wp2
          go_loopw [19] (fun i wr => ∃ t : Int, s.old ≤ t ∧ t ≤ s.n + 1 ∧ i = .int .i64 t ∧ Hid (s.At wr (fun b => b ≠ p) p) ∧ Hid (sa.At wr (fun b => b ≠ q) q) ∧ Hid (Below w.heap.size w wr)) (fun i _ => (s.n + 1 - intOf i).toNat)
          case atStart => exact ⟨s.old, Int.le_refl _, by have := OL.out; omega, rfl, P5g, X5g, HB5g⟩
          case round =>
            clear P5g X5g HB5g
            obtain ⟨t, ht0, ht1, rfl, P, X, HB⟩ := hrel
            go_wp2_with (with_reducible refine at_load_ (t := 57) ?_; refine get_at rfl _ rfl p rfl P.out ?_)
            intro b1 b2 hm
            have HM := Lib.hid hm
            clear hm
            try simp only [Act.put, List.setIfInBounds_toArray, List.set_cons_zero, List.set_cons_succ]
            go_wp2_with fail
            refine (st_now (s := s) (b1 := b1) (b2 := b2) wr).mono ?_
            rintro e wa ⟨rfl, hb⟩
            have Pa := Lib.hid (P.out.below hb)
            have Xa := Lib.hid (X.out.below hb)
            have HBa := Lib.hid (HB.out.trans (hb.mono HB.out.size))
            clear P X HB
            clear hb HM
            have hnb : s.n ≤ 1000 := by have := HGd.out.hnm; have := HM40.out; omega
            have ht2 : 0 ≤ t := by have := OL.out; omega
            by_cases htn : t ≤ s.n
            · skip
              have HT := Lib.hid htn
              have HA3 := Lib.hid (AS.out t k (by omega) (by have := HK.out; omega) ht0 htn)
              have HT0 := Lib.hid ht0
              clear ht0 ht1
              go_wp2_with (with_reducible refine at_load_ (t := 57) ?_; refine get_at rfl _ rfl p rfl Pa.out ?_)
              intro b1 b2 hm
              have HM := Lib.hid hm
              clear hm
              try simp only [Act.put, List.setIfInBounds_toArray, List.set_cons_zero, List.set_cons_succ]
              go_wp2_with fail
              refine (st_at (S := fun _ => True) (s := s) t (k : Int) (fun _ _ => trivial) (HM.out.more fun _ _ _ => trivial) (OKS.out.1 k) (Nat.le_trans (OKS.out.2 k) (by omega))).mono ?_
              rintro e wb ⟨rfl, hb⟩
              have Pb := Lib.hid (Pa.out.below hb)
              have Xb := Lib.hid (Xa.out.below hb)
              have HBb := Lib.hid (HBa.out.trans (hb.mono HBa.out.size))
              clear Pa Xa HBa
              clear hb HM
              rw [HA3.out.2.2]
              go_wp2_with (with_reducible refine at_load_ (t := 57) ?_; refine get_at rfl _ rfl q rfl Xb.out ?_)
              intro b1 b2 hm
              have HM := Lib.hid hm
              clear hm
              try simp only [Act.put, List.setIfInBounds_toArray, List.set_cons_zero, List.set_cons_succ]
              go_wp2_with fail
              refine (st_at (S := fun _ => True) (s := sa) t (k : Int) (fun _ _ => trivial) (HM.out.more fun _ _ _ => trivial) (OKA.out.1 k) (Nat.le_trans (OKA.out.2 k) (by omega))).mono ?_
              rintro e wc ⟨rfl, hb⟩
              have Pc := Lib.hid (Pb.out.below hb)
              have Xc := Lib.hid (Xb.out.below hb)
              have HBc := Lib.hid (HBb.out.trans (hb.mono HBb.out.size))
              clear Pb Xb HBb
              clear hb HM
              rw [HA3.out.1, HA3.out.2.1]
              generalize s.atV t k = av at *
              go_wp2
              go_roundw
              case rel => exact ⟨t + 1, by have := HT0.out; omega, by have := HT.out; omega, by go_num, Pc, Xc, HBc⟩
              case measure => exact meas_stamp _ _ HT.out
            · skip
              have hgt : s.n < t := by omega
              clear htn ht0 ht1
              go_wp2
              go_roundw
              case rel => exact ⟨k + 1, HK.out, by go_num, Pa, Xa, HBa⟩
              case measure => exact meas_up _ _ HK.out
    · skip
      obtain rfl : k = cn := by omega
      have hki : 1 + r ≤ (k : Int) := by have := HCN.out; omega
      clear hk hlt P X
      go_wp2_with fail
      refine (awake51_any wr).mono ?_
      rintro e w9 ⟨rfl, hb⟩
      have HB9 := Lib.hid (HB.out.trans (hb.mono HB.out.size))
      clear hb
      go_wp2
      go_ret
      exact ⟨rfl, HB9.out⟩

set_option maxRecDepth 100000 in
set_option maxHeartbeats 6400000 in
theorem keeps_great (a : Int) (A : Option Addr) (n c : Nat) (l : List TAct)  (w : World) (hl : TActs w (fun _ => True) A n l)  (hg : greatB l = true) :
    Calls Try.prog 18 #[.int .u8 a, .slice A n c] w fun e w' => e = .returned (.bool true) ∧ Below w.heap.size w w' := by
  have GR := Lib.hid (great51_any A n c l w hl)
  rw [hg] at GR
  clear hg hl
  go_enter Try.func18, Try.ntmps18
  go_wp2_with fail
  refine GR.out.mono ?_
  rintro e w1 ⟨rfl, hw⟩
  subst w1
  clear GR
  go_wp2_with fail
  refine (awake51_any w).mono ?_
  rintro e w2 ⟨rfl, hb⟩
  have HB := Lib.hid hb
  clear hb
  go_wp2
  go_ret
  exact ⟨rfl, HB.out⟩

theorem keeps_any (a : Int) (A : Option Addr) (n c : Nat) (l : List TAct) (w : World) (hl : TActs w (fun _ => True) A n l) (h0 : 0 ≤ a) (h1 : a ≤ 255) :
    Calls Try.prog 18 #[.int .u8 a, .slice A n c] w fun e w' => e = .returned (.bool true) ∧ Below w.heap.size w w' := by
  cases hg : greatB l with
  | true => exact keeps_great a A n c l w hl hg
  | false => exact keeps_ok a (a % 6) (1 + a % 6).toNat A n c l w hl h0 h1 rfl (by omega) hg
end Go.Proofs.Ytpejhgkcofilmaa
