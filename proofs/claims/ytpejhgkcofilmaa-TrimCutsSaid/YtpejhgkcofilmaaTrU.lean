/- The walk of the law TrimCuts: true. No condition. -/
import Derived.Test.YtpejhgkcofilmaaTrT
set_option linter.unusedVariables false
namespace Go.Proofs.Ytpejhgkcofilmaa
open Go.RowKit

theorem meas_stamp0 (n t : Int) (h : t ≤ n) : (n + 1 - (t + 1)).toNat < (n + 1 - t).toNat := by omega

set_option maxRecDepth 100000 in
set_option maxHeartbeats 51200000 in
theorem cuts_ok (a r : Int) (cn : Nat) (A : Option Addr) (n c : Nat) (l : List TAct) (A2 : Option Addr) (n2 c2 : Nat) (wl : List Int) (w : World) (hl : TActs w (fun _ => True) A n l) (hwl : Ints w (fun _ => True) A2 n2 wl) (hn20 : n2 ≤ 20) (h0 : 0 ≤ a) (h1 : a ≤ 255) (hr : r = a % 6) (hcn : 1 + r = (cn : Int)) (hg : greatB l = false) :
    Calls Try.prog 17 #[.int .u8 a, .slice A n c, .slice A2 n2 c2] w fun e w' => e = .returned (.bool true) ∧ Below w.heap.size w w' := by
  have hn2 : (n2 : Int) ≤ 20 := by omega
  have HWL0 := Lib.hid hwl
  have HN2 := Lib.hid hwl.1
  clear hwl hn20
  obtain ⟨hg1, hg2⟩ := great_no hg
  have hmod : a.tmod 6 = r := tmod_pos h0 hr.symm
  have hr0 : 0 ≤ r := by omega
  have hr5 : r ≤ 5 := by omega
  have hc1 : 1 ≤ cn := by omega
  have hc6 : cn ≤ 6 := by omega
  have CM0 := made51_any (S := fun _ => True) cn A n c l w hc1 hc6 (fun _ _ => trivial) hl hg1 hg2
  have HG0 := good_made (cn : Int) (by omega) (by omega) l l.length (Nat.le_refl _) (by omega)
  rw [List.take_length] at HG0
  generalize madeF (cn : Int) l = x at CM0 HG0
  obtain ⟨s, all⟩ := x
  dsimp only at CM0 HG0
  rw [← hcn] at CM0
  have CM := Lib.hid CM0
  have HGd := Lib.hid HG0
  have HC := Lib.hid (And.intro hc1 hc6)
  have HCN := Lib.hid hcn
  have HM40 := Lib.hid (show (l.length : Int) ≤ 1000 by omega)
  have GR := Lib.hid (great51_any A n c l w hl)
  rw [hg] at GR
  clear CM0 HG0 hg hg1 hg2 hl hr hc1 hc6 hcn
  go_enter Try.func17, Try.ntmps17
  go_wp2_with fail
  refine GR.out.mono ?_
  rintro e w1 ⟨rfl, hw⟩
  subst w1
  clear GR
  go_wp2_with fail
  refine CM.out.mono ?_
  rintro e w2 ⟨b1, b2, Aw, cw, rfl, hm, hra, hb⟩
  have HM2 := Lib.hid (hm.more (S' := fun b => b ≠ w2.heap.size) fun b hb _ => by omega)
  have HR2 := Lib.hid hra
  have HB2 := Lib.hid hb
  clear hm hra hb CM
  go_wp2_with (with_reducible refine at_alloc_ (t := 57) ?_; refine alloc_at (S := fun _ => False) rfl rfl ?_)
  intro w3 hp hb hz
  have P3 := Lib.hid hp
  have HM3 := Lib.hid (HM2.out.below hb)
  have HR3 := Lib.hid (HR2.out.below hb)
  have HB3 := Lib.hid (HB2.out.trans (hb.mono HB2.out.size))
  have HZ3 := Lib.hid (show w.heap.size ≤ w2.heap.size from HB2.out.size)
  have HX3 := Lib.hid (fun (o : Nat) (h : w2.heap.size ≤ o) => h)
  have HRS := Lib.hid (show Reads w3 (fun b => b ≠ w2.heap.size) 3 Aw all.length (all.flatMap w3C) from ((HR2.out.more (S' := fun b => b ≠ w2.heap.size) fun b hb _ => by omega).below hb))
  generalize w2.heap.size = p at *
  clear hp hb hz HM2 HR2 HB2 HR3 HX3
  go_wp2_with (with_reducible refine at_store_ (t := 57) ?_; refine Hid.out ?_)
  refine Lib.hid ?_
  refine put_at rfl (.tmp 8) (.tmp 40) rfl rfl p rfl rfl P3.out HM3.out (fun h => h rfl) ?_
  intro w4 hp ht
  have P4 := Lib.hid hp
  have HB4 := Lib.hid (ht.below HB3.out HZ3.out)
  have HR4 := Lib.hid (ht.reads HRS.out (fun h => h rfl))
  clear hp ht P3 HM3 HB3 HRS
  have HWL := Lib.hid (HWL0.out.below HB4.out)
  clear HWL0
  go_wp2_with (with_reducible refine at_load_ (t := 57) ?_; refine get_at rfl _ rfl p rfl P4.out ?_)
  intro b1 b2 hm
  have HM := Lib.hid hm
  clear hm
  try simp only [Act.put, List.setIfInBounds_toArray, List.set_cons_zero, List.set_cons_succ]
  go_wp2_with fail
  refine (cells_any (S := fun _ => True) A2 n2 c2 wl w4 (fun _ _ => trivial) (HM.out.more fun _ _ _ => trivial) (HGd.out.okS (by have := HM40.out; omega)) HWL.out (by have := HN2.out; omega)).mono ?_
  rintro e w5 ⟨b5, b6, rfl, hm, hb⟩
  have P5 := Lib.hid (P4.out.below hb)
  have HB5 := Lib.hid (HB4.out.trans (hb.mono HB4.out.size))
  have HR5 := Lib.hid (HR4.out.below hb)
  have HW5 := Lib.hid (HWL.out.below hb)
  clear P4 HB4 HR4 HWL
  clear hb HM
  change (partF s wl).1.Maps w5 _ b5 b6 at hm
  have OKX := Lib.hid (HGd.out.part_ok (by have := HM40.out; omega) wl).1
  have OKS := Lib.hid (HGd.out.okS (by have := HM40.out; omega))
  have LEN := Lib.hid fun k h => HGd.out.lens wl k h
  have VAS := Lib.hid fun k a b => HGd.out.v_asc (by have := HM40.out; omega) wl k a b
  have OAS := Lib.hid fun k a b => HGd.out.of_asc k a b
  have XAT := Lib.hid fun k t a b c => HGd.out.x_at (by have := HM40.out; omega) wl k t a b c
  have CE := Lib.hid (HGd.out.cuts_end HC.out.2 wl)
  have HOLD := Lib.hid (show (rdI s.B s.T 8).foldl min s.n = s.old from rfl)
  have HCD := Lib.hid (show s.cells wl = partF s wl from rfl)
  rw [HCD.out]
  generalize partF s wl = z at *
  obtain ⟨x, dx⟩ := z
  dsimp only at hm OKX LEN XAT CE ⊢
  have HMn := Lib.hid (hm.more (S' := fun b => b ≠ w5.heap.size) fun b hb _ => by omega)
  clear hm
  have HZq := Lib.hid (show w.heap.size ≤ w5.heap.size from HB5.out.size)
  go_wp2_with (with_reducible refine at_alloc_ (t := 57) ?_; refine alloc_at (S := fun _ => False) rfl rfl ?_)
  intro w6 hp hb hz
  have RN := Lib.hid hp
  have HMm := Lib.hid (HMn.out.below hb)
  have HBB := Lib.hid hb
  clear hp hb hz HMn
  go_wp2_with (with_reducible refine at_store_ (t := 57) ?_; refine Hid.out ?_)
  refine Lib.hid ?_
  refine put_at rfl (.tmp 11) (.tmp 49) rfl rfl w5.heap.size rfl rfl RN.out HMm.out (fun h => h rfl) ?_
  intro w7 hp ht
  have hbb := ht.below HBB.out (Nat.le_refl _)
  have P7 := Lib.hid (P5.out.below hbb)
  have HB7 := Lib.hid (HB5.out.trans (hbb.mono HB5.out.size))
  have HR7 := Lib.hid (HR5.out.below hbb)
  have HW7 := Lib.hid (HW5.out.below hbb)
  clear P5 HB5 HR5 HW5
  have X := Lib.hid hp
  clear hp ht hbb RN HMm HBB
  generalize w5.heap.size = q at *
  go_wp2_with fail
  obtain ⟨c1, c2, p0, hm1⟩ := P7.out
  have HM1 := Lib.hid hm1
  refine wp_region_held_drew (S := fun W => W.heap[p]? = some (.cells (stoCells s.c s.n (.map c1) (.map c2) s.B s.T) 57 (0, 0))) (by kernel_rfl) p0 (fun hHeld => ?_)
  have HHD := Lib.hid hHeld
  have hbd : Below w7.heap.size w7 w7.drew := (Below.refl _ _).drew
  have P8d := Lib.hid (P7.out.below hbd)
  have HB8d := Lib.hid (HB7.out.trans (hbd.mono HB7.out.size))
  have HR8d := Lib.hid (HR7.out.below hbd)
  have HW8d := Lib.hid (HW7.out.below hbd)
  have X8d := Lib.hid (X.out.below hbd)
  clear P7 HB7 HR7 HW7 X
  clear hHeld hbd p0 hm1
  generalize w7.drew = w7d at *
  refine wpAnyH_take (i := 0) (oi := ⟨some 51, _, _, _, _, _⟩) (v := s.val c1 c2) rfl (by kernel_rfl) (by kernel_rfl) (by kernel_rfl) (fun _ _ _ h => h) (yields_sto (by rfl) _ rfl p rfl 57 (0, 0) (fun _ h => h)) HHD.out ?_
  try simp only [Act.put, List.setIfInBounds_toArray, List.set_cons_zero, List.set_cons_succ]
  refine wpAnyH_take (i := 2) (oi := ⟨some 53, _, _, _, _, _⟩) (v := s.val c1 c2) rfl (by kernel_rfl) (by kernel_rfl) (by kernel_rfl) (fun _ _ _ h => h) (yields_sto (by rfl) _ rfl p rfl 57 (0, 0) (fun _ h => h)) HHD.out ?_
  try simp only [Act.put, List.setIfInBounds_toArray, List.set_cons_zero, List.set_cons_succ]
  refine wpAnyH_ready (rs := [1]) (by kernel_rfl) (by simp) ?_
  refine AllReadyH.cons (o := ⟨some 52, _, _, _, _, _⟩) rfl (fun K hK => ?_) (AllReadyH.nil)
  go_simp
  refine (st_now (s := s) (b1 := c1) (b2 := c2) w7d).mono ?_
  rintro e w7e ⟨rfl, hb⟩
  have HHE := Lib.hid ((hb.block p (lt_of_block HHD.out)).trans HHD.out)
  have P8e := Lib.hid (P8d.out.below hb)
  have HB8e := Lib.hid (HB8d.out.trans (hb.mono HB8d.out.size))
  have HR8e := Lib.hid (HR8d.out.below hb)
  have HW8e := Lib.hid (HW8d.out.below hb)
  have X8e := Lib.hid (X8d.out.below hb)
  clear P8d HB8d HR8d HW8d X8d
  refine hK.out _ _ HHE.out (fun hHeld3 => ?_)
  clear hK hb HHD hHeld3
  try simp only [Act.put, List.setIfInBounds_toArray, List.set_cons_zero, List.set_cons_succ]
  refine wpAnyH_ready (rs := [3]) (by kernel_rfl) (by simp) ?_
  refine AllReadyH.cons (o := ⟨some 54, _, _, _, _, _⟩) rfl (fun K hK => ?_) (AllReadyH.nil)
  go_simp
  refine (st_readers (s := s) (b1 := c1) (b2 := c2) w7e).mono ?_
  rintro e w7f ⟨v, rfl, ho, hb⟩
  obtain ⟨As, cs, rfl, g1, g2, g3⟩ := own_reads ho (S := fun _ => True) (fun b hb => trivial)
  have HI := Lib.hid (show Ints w7f (fun _ => True) As (rdL s.B s.T 8).length (rdI s.B s.T 8) from ⟨by rw [rdL_rdI, List.length_map], by have := g3; rw [rdL_rdI] at this ⊢; exact this⟩)
  have HC2 := Lib.hid (And.intro g1 g2)
  have HHF := Lib.hid ((hb.block p (lt_of_block HHE.out)).trans HHE.out)
  have P8f := Lib.hid (P8e.out.below hb)
  have HB8f := Lib.hid (HB8e.out.trans (hb.mono HB8e.out.size))
  have HR8f := Lib.hid (HR8e.out.below hb)
  have HW8f := Lib.hid (HW8e.out.below hb)
  have X8f := Lib.hid (X8e.out.below hb)
  clear P8e HB8e HR8e HW8e X8e
  generalize (rdL s.B s.T 8).length = mr at *
  refine hK.out _ _ HHF.out (fun hHeld4 => ?_)
  clear hK hb ho g1 g2 g3 HHE hHeld4
  try simp only [Act.put, List.setIfInBounds_toArray, List.set_cons_zero, List.set_cons_succ]
  refine wpAnyH_ready (rs := [4]) (by kernel_rfl) (by simp) ?_
  refine AllReadyH.cons (o := ⟨some 55, _, _, _, _, _⟩) rfl (fun K hK => ?_) (AllReadyH.nil)
  go_simp
  refine (rleast_any As mr cs (rdI s.B s.T 8) s.n w7f HI.out (Nat.le_trans (rdI_len _ _ 8) (by omega))).mono ?_
  rintro e w7g ⟨rfl, hw⟩
  have hb : Below w7f.heap.size w7f w7g := by rw [hw]; exact Below.refl _ _
  have HHG := Lib.hid ((hb.block p (lt_of_block HHF.out)).trans HHF.out)
  have P8g := Lib.hid (P8f.out.below hb)
  have HB8g := Lib.hid (HB8f.out.trans (hb.mono HB8f.out.size))
  have HR8g := Lib.hid (HR8f.out.below hb)
  have HW8g := Lib.hid (HW8f.out.below hb)
  have X8g := Lib.hid (X8f.out.below hb)
  clear P8f HB8f HR8f HW8f X8f
  refine hK.out _ _ HHG.out (fun hHeld5 => ?_)
  clear hK hb hw HHF HI HC2
  try simp only [Act.put, List.setIfInBounds_toArray, List.set_cons_zero, List.set_cons_succ]
  refine wpAnyH_take (i := 5) (oi := ⟨some 13, _, _, _, _, _⟩) (v := .int .i64 ((rdI s.B s.T 8).foldl min s.n)) rfl (by kernel_rfl) (by kernel_rfl) (by kernel_rfl) (fun _ _ _ h => h) (Or.inl ⟨by rfl, ?_⟩) hHeld5 ?_
  · intro W' hW
    go_simp
  try simp only [Act.put, List.setIfInBounds_toArray, List.set_cons_zero, List.set_cons_succ]
  refine wpAnyH_done (by kernel_rfl) ?_ _
  clear hHeld5 HHG HM1
  generalize (rdI s.B s.T 8).foldl min s.n = od at *
  have HOD := Lib.hid HOLD.out
  clear HOLD
  have hall : (all.length : Int) ≤ 6000 := by have := HGd.out.hall; have := HGd.out.hnm; have := HM40.out; omega
  have HALL := Lib.hid hall
  clear hall
  go_wp2
  go_loopw [14, 15, 16] (fun v14 v15 i wr => ∃ k : Nat, k ≤ cn ∧ i = .int .i64 k ∧ v14 = .int .i64 (s.keptN k - x.keptN k) ∧ v15 = .int .i64 (x.keptN k) ∧ Hid (s.At wr (fun b => b ≠ p) p) ∧ Hid (x.At wr (fun b => b ≠ q) q) ∧ Hid (Reads wr (fun b => b ≠ p) 3 Aw all.length (all.flatMap w3C)) ∧ Hid (Ints wr (fun _ => True) A2 n2 wl) ∧ Hid (Below w.heap.size w wr)) (fun _ _ i _ => cn - (intOf i).toNat)
  case atStart => exact ⟨0, by omega, rfl, rfl, rfl, P8g, X8g, HR8g, HW8g, HB8g⟩
  case round =>
    clear P8g X8g HR8g HW8g HB8g
    obtain ⟨k, hk, rfl, rfl, rfl, P, X, HR, HW, HB⟩ := hrel
    by_cases hlt : k < cn
    · skip
      have hki : (k : Int) < 1 + r := by have := HCN.out; omega
      have HK := Lib.hid hlt
      have hk6 : (k : Int) ≤ 6 := by have := HC.out; omega
      obtain ⟨s0, s1⟩ := Sn.kept_le OKS.out.2 k
      obtain ⟨x0, x1⟩ := Sn.kept_le OKX.out.2 k
      obtain ⟨l1, l2, l3⟩ := LEN.out k hlt
      have HSK := Lib.hid l1
      have HXK := Lib.hid l2
      have HVL := Lib.hid l3
      have hol := ofL_len all k
      have hol2 : ((ofL all k).length : Int) ≤ 6001 := by have := HALL.out; omega
      have HVLE := Lib.hid fun y => vT_len all wl s.old k y
      rw [← HOD.out] at HVLE
      have hs2 : s.keptN k ≤ 6000000 := by omega
      have hx2 : x.keptN k ≤ 6000000 := by omega
      clear s1 x1 l1 l2 l3 hol hk hlt
      generalize s.keptN k = sk at *
      generalize x.keptN k = xk at *
      go_wp2_with fail
      refine (of_any (S := fun b => b ≠ p) Aw all.length cw all (k : Int) wr ⟨rfl, HR.out⟩ (by have := HALL.out; omega)).mono ?_
      rintro e wa ⟨A1, c1, rfl, hc1, hc2, hv, hb⟩
      have Pa := Lib.hid (P.out.below hb)
      have Xa := Lib.hid (X.out.below hb)
      have HRa := Lib.hid (HR.out.below hb)
      have HWa := Lib.hid (HW.out.below hb)
      have HBa := Lib.hid (HB.out.trans (hb.mono HB.out.size))
      clear P X HR HW HB
      have HV0 := Lib.hid (show W3s wa (fun _ => True) A1 (vT all wl od k 0).length (vT all wl od k 0) from by rw [vT_zero]; exact ⟨hv.1, hv.2.more fun _ _ _ => trivial⟩)
      have HC0 := Lib.hid (show (vT all wl od k 0).length ≤ c1 ∧ (A1 = none → c1 = 0) from by rw [vT_zero]; exact ⟨hc1, hc2⟩)
      have HE0 := Lib.hid (show (ofL all k).length = (vT all wl od k 0).length from by rw [vT_zero])
      clear hb hv hc1 hc2
      rw [HE0.out]
      go_wp2
      go_loopw [17, 18] (fun v i wr => ∃ (y : Nat) (A' : Option Addr) (c' : Nat), y ≤ wl.length ∧ i = .int .i64 y ∧ v = .slice A' (vT all wl od k y).length c' ∧ Hid ((vT all wl od k y).length ≤ c' ∧ (A' = none → c' = 0)) ∧ Hid (W3s wr (fun _ => True) A' (vT all wl od k y).length (vT all wl od k y)) ∧ Hid (s.At wr (fun b => b ≠ p) p) ∧ Hid (x.At wr (fun b => b ≠ q) q) ∧ Hid (Reads wr (fun b => b ≠ p) 3 Aw all.length (all.flatMap w3C)) ∧ Hid (Ints wr (fun _ => True) A2 n2 wl) ∧ Hid (Below w.heap.size w wr)) (fun _ i _ => wl.length - (intOf i).toNat)
      case atStart => exact ⟨0, A1, c1, by omega, rfl, rfl, HC0, HV0, Pa, Xa, HRa, HWa, HBa⟩
      case round =>
        clear HC0 HV0 HE0 Pa Xa HRa HWa HBa
        obtain ⟨y, A', c', hy, rfl, rfl, HCc, HV, P, X, HR, HW, HB⟩ := hrel
        by_cases hyl : y < wl.length
        · skip
          have hyi : (y : Int) < (n2 : Int) := by have := HN2.out; omega
          obtain ⟨b2, o2, rfl, _, _, hcc⟩ := HW.out.cell y hyl
          have d2 := hcc wr (Below.refl _ _)
          have HY := Lib.hid hyl
          have HVN := Lib.hid (vT_next all wl od k y hyl)
          clear hcc hy
          generalize wl[y] = loc at *
          clear hyl
          by_cases hloc : loc = (k : Int)
          · skip
            have HV1 := Lib.hid (HVN.out.trans (if_pos hloc))
            clear HVN HV HCc
            subst hloc
            go_wp2_with fail
            refine (of_any (S := fun b => b ≠ p) Aw all.length cw all (k : Int) wr ⟨rfl, HR.out⟩ (by have := HALL.out; omega)).mono ?_
            rintro e wb ⟨A3, c3, rfl, hc1, hc2, hv, hb⟩
            have Pb := Lib.hid (P.out.below hb)
            have Xb := Lib.hid (X.out.below hb)
            have HRb := Lib.hid (HR.out.below hb)
            have HWb := Lib.hid (HW.out.below hb)
            have HBb := Lib.hid (HB.out.trans (hb.mono HB.out.size))
            clear P X HR HW HB
            have HO := Lib.hid hv
            have HOC := Lib.hid (And.intro hc1 hc2)
            clear hb hv hc1 hc2 d2
            go_wp2_with fail
            refine (rcut51_any A3 _ c3 (ofL all k) od wb HO.out (OAS.out k (by omega) (by have := HK.out; omega)) HOC.out.1 HOC.out.2 (by omega)).mono ?_
            rintro e wc ⟨A4, c4, rfl, hc1, hc2, hv, hw⟩
            subst wc
            have hv : W3s wb (fun b => wr.heap.size ≤ b) A4 (cutW (ofL all k) od).length (cutW (ofL all k) od) := hv
            have hc1 : (cutW (ofL all k) od).length ≤ c4 := hc1
            have HE4 := Lib.hid (show (List.drop (aft (stL (ofL all k)) od - 1) (ofL all k)).length = (vT all wl od k (y + 1)).length from by rw [HV1.out]; rfl)
            rw [← HV1.out] at hv hc1
            rw [HE4.out]
            have HV5 := Lib.hid (show W3s wb (fun _ => True) A4 (vT all wl od k (y + 1)).length (vT all wl od k (y + 1)) from ⟨hv.1, hv.2.more fun _ _ _ => trivial⟩)
            have HC5 := Lib.hid (And.intro hc1 hc2)
            clear hv hc1 hc2 HO HOC
            go_wp2
            go_roundw
            case rel => exact ⟨y + 1, A4, c4, HY.out, by go_num, rfl, HC5, HV5, Pb, Xb, HRb, HWb, HBb⟩
            case measure => exact meas_up _ _ HY.out
          · skip
            have HV1 := Lib.hid (HVN.out.trans (if_neg hloc))
            clear HVN
            have HE4 := Lib.hid (show (vT all wl od k y).length = (vT all wl od k (y + 1)).length from by rw [HV1.out])
            go_wp2
            go_roundw
            case rel => exact ⟨y + 1, A', c', HY.out, by go_num, by rw [HE4.out], by rw [HV1.out]; exact HCc, by rw [HV1.out]; exact HV, P, X, HR, HW, HB⟩
            case measure => exact meas_up _ _ HY.out
        · skip
          obtain rfl : y = wl.length := by omega
          have hyi : (n2 : Int) ≤ (wl.length : Int) := by have := HN2.out; omega
          have hvle := HVLE.out wl.length
          have HVS := Lib.hid (VAS.out k (by omega) (by have := HK.out; omega))
          have HXA := Lib.hid fun t c => XAT.out k t (by omega) (by have := HK.out; omega) c
          rw [← HOD.out] at HVS HXK HVL
          have hXA2 := HXA.out
          clear HXA
          rw [← HOD.out] at hXA2
          have HXA := Lib.hid hXA2
          clear hXA2
          clear hy hyl HCc
          generalize vT all wl od k wl.length = V at *
          have hv2 : (V.length : Int) ≤ 6001 := by omega
          have HVLN := Lib.hid hv2
          go_wp2_with fail
          refine (of_any (S := fun b => b ≠ p) Aw all.length cw all (k : Int) wr ⟨rfl, HR.out⟩ (by have := HALL.out; omega)).mono ?_
          rintro e wd ⟨A5, c5, rfl, _, _, _, hb⟩
          have Pd := Lib.hid (P.out.below hb)
          have Xd := Lib.hid (X.out.below hb)
          have HRd := Lib.hid (HR.out.below hb)
          have HWd := Lib.hid (HW.out.below hb)
          have HBd := Lib.hid (HB.out.trans (hb.mono HB.out.size))
          have HVd := Lib.hid (HV.out.below hb)
          clear P X HR HW HB HV
          clear hb hvle
          generalize hol3 : (ofL all k).length = ol at *
          have HOL := Lib.hid hol3
          clear hol3
          go_wp2_with (with_reducible refine at_load_ (t := 57) ?_; refine get_at rfl _ rfl q rfl Xd.out ?_)
          intro b1 b2 hm
          have HM := Lib.hid hm
          clear hm
          try simp only [Act.put, List.setIfInBounds_toArray, List.set_cons_zero, List.set_cons_succ]
          go_wp2_with fail
          refine (st_list (S := fun _ => True) (s := x) (k : Int) (fun _ _ => trivial) (HM.out.more fun _ _ _ => trivial)).mono ?_
          rintro e we ⟨u0, rfl, ⟨A6, n6, c6, rfl, _, _, hv⟩, hb⟩
          have hn6 : n6 = V.length := by rw [hv.1]; exact HVL.out.symm
          have Pe := Lib.hid (Pd.out.below hb)
          have Xe := Lib.hid (Xd.out.below hb)
          have HRe := Lib.hid (HRd.out.below hb)
          have HWe := Lib.hid (HWd.out.below hb)
          have HBe := Lib.hid (HBd.out.trans (hb.mono HBd.out.size))
          have HVe := Lib.hid (HVd.out.below hb)
          clear Pd Xd HRd HWd HBd HVd
          clear hb hv HM
          subst hn6
          go_wp2_with fail
          refine (len_any A6 V.length c6 we).mono ?_
          rintro e wf ⟨rfl, hb⟩
          have Pf := Lib.hid (Pe.out.below hb)
          have Xf := Lib.hid (Xe.out.below hb)
          have HRf := Lib.hid (HRe.out.below hb)
          have HWf := Lib.hid (HWe.out.below hb)
          have HBf := Lib.hid (HBe.out.trans (hb.mono HBe.out.size))
          have HVf := Lib.hid (HVe.out.below hb)
          clear Pe Xe HRe HWe HBe HVe
          clear hb
          go_wp2
          go_loopw [19] (fun i wr => ∃ t : Int, 0 ≤ t ∧ t ≤ s.n + 1 ∧ i = .int .i64 t ∧ Hid (W3s wr (fun _ => True) A' V.length V) ∧ Hid (s.At wr (fun b => b ≠ p) p) ∧ Hid (x.At wr (fun b => b ≠ q) q) ∧ Hid (Reads wr (fun b => b ≠ p) 3 Aw all.length (all.flatMap w3C)) ∧ Hid (Ints wr (fun _ => True) A2 n2 wl) ∧ Hid (Below w.heap.size w wr)) (fun i _ => (s.n + 1 - intOf i).toNat)
          case atStart => exact ⟨0, Int.le_refl _, by have := HGd.out.hn0; omega, rfl, HVf, Pf, Xf, HRf, HWf, HBf⟩
          case round =>
            clear HVf Pf Xf HRf HWf HBf
            obtain ⟨t, ht0, ht1, rfl, HV, P, X, HR, HW, HB⟩ := hrel
            go_wp2_with (with_reducible refine at_load_ (t := 57) ?_; refine get_at rfl _ rfl p rfl P.out ?_)
            intro b1 b2 hm
            have HM := Lib.hid hm
            clear hm
            try simp only [Act.put, List.setIfInBounds_toArray, List.set_cons_zero, List.set_cons_succ]
            go_wp2_with fail
            refine (st_now (s := s) (b1 := b1) (b2 := b2) wr).mono ?_
            rintro e wg ⟨rfl, hb⟩
            have Pg := Lib.hid (P.out.below hb)
            have Xg := Lib.hid (X.out.below hb)
            have HRg := Lib.hid (HR.out.below hb)
            have HWg := Lib.hid (HW.out.below hb)
            have HBg := Lib.hid (HB.out.trans (hb.mono HB.out.size))
            have HVg := Lib.hid (HV.out.below hb)
            clear P X HR HW HB HV
            clear hb HM
            have hnb : s.n ≤ 1000 := by have := HGd.out.hnm; have := HM40.out; omega
            by_cases htn : t ≤ s.n
            · skip
              have HT := Lib.hid htn
              have HXT := Lib.hid (HXA.out t htn)
              have HT0 := Lib.hid ht0
              go_wp2_with (with_reducible refine at_load_ (t := 57) ?_; refine get_at rfl _ rfl q rfl Xg.out ?_)
              intro b1 b2 hm
              have HM := Lib.hid hm
              clear hm
              try simp only [Act.put, List.setIfInBounds_toArray, List.set_cons_zero, List.set_cons_succ]
              go_wp2_with fail
              refine (st_at (S := fun _ => True) (s := x) t (k : Int) (fun _ _ => trivial) (HM.out.more fun _ _ _ => trivial) (OKX.out.1 k) (Nat.le_trans (OKX.out.2 k) (by omega))).mono ?_
              rintro e wh ⟨rfl, hb⟩
              rw [HXT.out.1, HXT.out.2]
              have Ph := Lib.hid (Pg.out.below hb)
              have Xh := Lib.hid (Xg.out.below hb)
              have HRh := Lib.hid (HRg.out.below hb)
              have HWh := Lib.hid (HWg.out.below hb)
              have HBh := Lib.hid (HBg.out.trans (hb.mono HBg.out.size))
              have HVh := Lib.hid (HVg.out.below hb)
              clear Pg Xg HRg HWg HBg HVg
              clear hb HM
              go_wp2_with fail
              refine (rat51_any A' V.length _ V t wh HVh.out HVS.out (by have := HVLN.out; omega)).mono ?_
              rintro e wi ⟨rfl, hw⟩
              subst wi
              generalize seeV (stL V) t = sv at *
              generalize seeB (stL V) t = sb at *
              go_wp2
              go_roundw
              case rel => exact ⟨t + 1, by have := HT0.out; omega, by have := HT.out; omega, by go_num, HVh, Ph, Xh, HRh, HWh, HBh⟩
              case measure => exact meas_stamp0 _ _ HT.out
            · skip
              have hgt : s.n < t := by omega
              clear htn ht0 ht1
              go_wp2
              go_roundw
              case rel => exact ⟨k + 1, HK.out, by go_num, by congr 1; have := HSK.out; have := HXK.out; omega, by congr 1; have := HXK.out; omega, Pg, Xg, HRg, HWg, HBg⟩
              case measure => exact meas_up _ _ HK.out
    · skip
      obtain rfl : k = cn := by omega
      have hki : 1 + r ≤ (k : Int) := by have := HCN.out; omega
      obtain ⟨ce1, ce2, ce3⟩ := CE.out
      have CE2 := Lib.hid ce2
      have CE3 := Lib.hid ce3
      have hdx : dx = s.keptN k - x.keptN k := ce1
      obtain ⟨s0, s1⟩ := Sn.kept_le OKS.out.2 k
      obtain ⟨x0, x1⟩ := Sn.kept_le OKX.out.2 k
      have hk6 : (k : Int) ≤ 6 := by have := HC.out; omega
      have hx2 : x.keptN k ≤ 6000000 := by omega
      have hs2 : s.keptN k ≤ 6000000 := by omega
      rw [← hdx]
      have hd0 : -6000000 ≤ dx := by omega
      have hd1 : dx ≤ 6000000 := by omega
      clear ce1 ce2 ce3 hdx s0 s1 x1 hk hlt hs2
      generalize x.keptN k = xk at *
      go_wp2_with fail
      obtain ⟨c1, c2', p0, hm0⟩ := P.out
      obtain ⟨d1, d2, p1, hm1⟩ := X.out
      have HM0 := Lib.hid (hm0.more (S' := fun _ => True) fun _ _ _ => trivial)
      have HM1 := Lib.hid (hm1.more (S' := fun _ => True) fun _ _ _ => trivial)
      refine wp_region_held_drew (S := fun W => W.heap[p]? = some (.cells (stoCells s.c s.n (.map c1) (.map c2') s.B s.T) 57 (0, 0)) ∧ W.heap[q]? = some (.cells (stoCells x.c x.n (.map d1) (.map d2) x.B x.T) 57 (0, 0))) (by kernel_rfl) ⟨p0, p1⟩ (fun hHeld => ?_)
      have HHD := Lib.hid hHeld
      have hbd : Below wr.heap.size wr wr.drew := (Below.refl _ _).drew
      have HBd := Lib.hid (HB.out.trans (hbd.mono HB.out.size))
      have M0d := Lib.hid (HM0.out.below hbd)
      have M1d := Lib.hid (HM1.out.below hbd)
      clear HB HM0 HM1
      clear hHeld hbd p0 p1 hm0 hm1 P X HR HW
      generalize wr.drew = wd at *
      refine wpAnyH_take (i := 0) (oi := ⟨some 128, _, _, _, _, _⟩) (v := .int .i64 dx) rfl (by kernel_rfl) (by kernel_rfl) (by kernel_rfl) (fun _ _ _ h => h) (Or.inl ⟨by rfl, ?_⟩) HHD.out ?_
      · intro W' hW
        go_simp
      try simp only [Act.put, List.setIfInBounds_toArray, List.set_cons_zero, List.set_cons_succ]
      refine wpAnyH_take (i := 1) (oi := ⟨some 129, _, _, _, _, _⟩) (v := .int .i64 dx) rfl (by kernel_rfl) (by kernel_rfl) (by kernel_rfl) (fun _ _ _ h => h) (Or.inl ⟨by rfl, ?_⟩) HHD.out ?_
      · intro W' hW
        go_simp
      try simp only [Act.put, List.setIfInBounds_toArray, List.set_cons_zero, List.set_cons_succ]
      refine wpAnyH_take (i := 2) (oi := ⟨some 130, _, _, _, _, _⟩) (v := .bool true) rfl (by kernel_rfl) (by kernel_rfl) (by kernel_rfl) (fun _ _ _ h => h) (Or.inl ⟨by rfl, ?_⟩) HHD.out ?_
      · intro W' hW
        go_simp
      try simp only [Act.put, List.setIfInBounds_toArray, List.set_cons_zero, List.set_cons_succ]
      refine wpAnyH_take (i := 3) (oi := ⟨some 131, _, _, _, _, _⟩) (v := .bool true) rfl (by kernel_rfl) (by kernel_rfl) (by kernel_rfl) (fun _ _ _ h => h) (Or.inl ⟨by rfl, ?_⟩) HHD.out ?_
      · intro W' hW
        go_simp
      try simp only [Act.put, List.setIfInBounds_toArray, List.set_cons_zero, List.set_cons_succ]
      refine wpAnyH_take (i := 4) (oi := ⟨some 132, _, _, _, _, _⟩) (v := x.val d1 d2) rfl (by kernel_rfl) (by kernel_rfl) (by kernel_rfl) (fun _ _ _ h => h) (yields_sto (by kernel_rfl) _ rfl q rfl 57 (0, 0) (fun _ h => h.2)) HHD.out ?_
      try simp only [Act.put, List.setIfInBounds_toArray, List.set_cons_zero, List.set_cons_succ]
      refine wpAnyH_take (i := 6) (oi := ⟨some 134, _, _, _, _, _⟩) (v := .int .i64 xk) rfl (by kernel_rfl) (by kernel_rfl) (by kernel_rfl) (fun _ _ _ h => h) (Or.inl ⟨by rfl, ?_⟩) HHD.out ?_
      · intro W' hW
        go_simp
      try simp only [Act.put, List.setIfInBounds_toArray, List.set_cons_zero, List.set_cons_succ]
      refine wpAnyH_ready (rs := [5]) (by kernel_rfl) (by simp) ?_
      refine AllReadyH.cons (o := ⟨some 133, _, _, _, _, _⟩) rfl (fun K hK => ?_) (AllReadyH.nil)
      go_simp
      refine (kept_any (S := fun _ => True) wd (fun _ _ => trivial) M1d.out OKX.out.2).mono ?_
      rintro e we ⟨he, hb⟩
      rw [CE2.out] at he
      subst he
      have HHE := Lib.hid (And.intro ((hb.block p (lt_of_block HHD.out.1)).trans HHD.out.1) ((hb.block q (lt_of_block HHD.out.2)).trans HHD.out.2))
      have HBe := Lib.hid (HBd.out.trans (hb.mono HBd.out.size))
      have M0e := Lib.hid (M0d.out.below hb)
      have M1e := Lib.hid (M1d.out.below hb)
      clear HBd M0d M1d HHD
      clear hb
      refine hK.out _ _ HHE.out (fun hHeldq => ?_)
      clear hK hHeldq
      try simp only [Act.put, List.setIfInBounds_toArray, List.set_cons_zero, List.set_cons_succ]
      refine wpAnyH_take (i := 7) (oi := ⟨some 135, _, _, _, _, _⟩) (v := .bool true) rfl (by kernel_rfl) (by kernel_rfl) (by kernel_rfl) (fun _ _ _ h => h) (Or.inl ⟨by rfl, ?_⟩) HHE.out ?_
      · intro W' hW
        go_simp
      try simp only [Act.put, List.setIfInBounds_toArray, List.set_cons_zero, List.set_cons_succ]
      refine wpAnyH_take (i := 8) (oi := ⟨some 136, _, _, _, _, _⟩) (v := .bool true) rfl (by kernel_rfl) (by kernel_rfl) (by kernel_rfl) (fun _ _ _ h => h) (Or.inl ⟨by rfl, ?_⟩) HHE.out ?_
      · intro W' hW
        go_simp
      try simp only [Act.put, List.setIfInBounds_toArray, List.set_cons_zero, List.set_cons_succ]
      refine wpAnyH_take (i := 9) (oi := ⟨some 137, _, _, _, _, _⟩) (v := .bool true) rfl (by kernel_rfl) (by kernel_rfl) (by kernel_rfl) (fun _ _ _ h => h) (Or.inl ⟨by rfl, ?_⟩) HHE.out ?_
      · intro W' hW
        go_simp
      try simp only [Act.put, List.setIfInBounds_toArray, List.set_cons_zero, List.set_cons_succ]
      refine wpAnyH_take (i := 10) (oi := ⟨some 138, _, _, _, _, _⟩) (v := s.val c1 c2') rfl (by kernel_rfl) (by kernel_rfl) (by kernel_rfl) (fun _ _ _ h => h) (yields_sto (by kernel_rfl) _ rfl p rfl 57 (0, 0) (fun _ h => h.1)) HHE.out ?_
      try simp only [Act.put, List.setIfInBounds_toArray, List.set_cons_zero, List.set_cons_succ]
      refine wpAnyH_take (i := 12) (oi := ⟨some 140, _, _, _, _, _⟩) (v := .int .i64 xk) rfl (by kernel_rfl) (by kernel_rfl) (by kernel_rfl) (fun _ _ _ h => h) (Or.inl ⟨by rfl, ?_⟩) HHE.out ?_
      · intro W' hW
        go_simp
      try simp only [Act.put, List.setIfInBounds_toArray, List.set_cons_zero, List.set_cons_succ]
      refine wpAnyH_take (i := 13) (oi := ⟨some 141, _, _, _, _, _⟩) (v := .int .i64 dx) rfl (by kernel_rfl) (by kernel_rfl) (by kernel_rfl) (fun _ _ _ h => h) (Or.inl ⟨by rfl, ?_⟩) HHE.out ?_
      · intro W' hW
        go_simp
      try simp only [Act.put, List.setIfInBounds_toArray, List.set_cons_zero, List.set_cons_succ]
      refine wpAnyH_take (i := 14) (oi := ⟨some 142, _, _, _, _, _⟩) (v := .int .i64 (xk + dx)) rfl (by kernel_rfl) (by kernel_rfl) (by kernel_rfl) (fun _ _ _ h => h) (Or.inl ⟨by rfl, ?_⟩) HHE.out ?_
      · intro W' hW
        go_simp
        simp [IntKind.wrap, IntKind.bits, IntKind.signed]; omega
      try simp only [Act.put, List.setIfInBounds_toArray, List.set_cons_zero, List.set_cons_succ]
      refine wpAnyH_ready (rs := [11]) (by kernel_rfl) (by simp) ?_
      refine AllReadyH.cons (o := ⟨some 139, _, _, _, _, _⟩) rfl (fun K hK => ?_) (AllReadyH.nil)
      go_simp
      refine (kept_any (S := fun _ => True) we (fun _ _ => trivial) M0e.out OKS.out.2).mono ?_
      rintro e wf ⟨he, hb⟩
      rw [CE3.out] at he
      subst he
      have HHF := Lib.hid (And.intro ((hb.block p (lt_of_block HHE.out.1)).trans HHE.out.1) ((hb.block q (lt_of_block HHE.out.2)).trans HHE.out.2))
      have HBf := Lib.hid (HBe.out.trans (hb.mono HBe.out.size))
      have M0f := Lib.hid (M0e.out.below hb)
      have M1f := Lib.hid (M1e.out.below hb)
      clear HBe M0e M1e HHE
      clear hb
      refine hK.out _ _ HHF.out (fun hHeldq => ?_)
      clear hK hHeldq
      try simp only [Act.put, List.setIfInBounds_toArray, List.set_cons_zero, List.set_cons_succ]
      refine wpAnyH_take (i := 15) (oi := ⟨some 143, _, _, _, _, _⟩) (v := .bool true) rfl (by kernel_rfl) (by kernel_rfl) (by kernel_rfl) (fun _ _ _ h => h) (Or.inl ⟨by rfl, ?_⟩) HHF.out ?_
      · intro W' hW
        go_simp
      try simp only [Act.put, List.setIfInBounds_toArray, List.set_cons_zero, List.set_cons_succ]
      refine wpAnyH_take (i := 16) (oi := ⟨some 144, _, _, _, _, _⟩) (v := .bool true) rfl (by kernel_rfl) (by kernel_rfl) (by kernel_rfl) (fun _ _ _ h => h) (Or.inl ⟨by rfl, ?_⟩) HHF.out ?_
      · intro W' hW
        go_simp
      try simp only [Act.put, List.setIfInBounds_toArray, List.set_cons_zero, List.set_cons_succ]
      refine wpAnyH_take (i := 17) (oi := ⟨some 145, _, _, _, _, _⟩) (v := .bool true) rfl (by kernel_rfl) (by kernel_rfl) (by kernel_rfl) (fun _ _ _ h => h) (Or.inl ⟨by rfl, ?_⟩) HHF.out ?_
      · intro W' hW
        go_simp
      try simp only [Act.put, List.setIfInBounds_toArray, List.set_cons_zero, List.set_cons_succ]
      refine wpAnyH_take (i := 18) (oi := ⟨some 146, _, _, _, _, _⟩) (v := s.val c1 c2') rfl (by kernel_rfl) (by kernel_rfl) (by kernel_rfl) (fun _ _ _ h => h) (yields_sto (by kernel_rfl) _ rfl p rfl 57 (0, 0) (fun _ h => h.1)) HHF.out ?_
      try simp only [Act.put, List.setIfInBounds_toArray, List.set_cons_zero, List.set_cons_succ]
      refine wpAnyH_take (i := 20) (oi := ⟨some 148, _, _, _, _, _⟩) (v := s.val c1 c2') rfl (by kernel_rfl) (by kernel_rfl) (by kernel_rfl) (fun _ _ _ h => h) (yields_sto (by kernel_rfl) _ rfl p rfl 57 (0, 0) (fun _ h => h.1)) HHF.out ?_
      try simp only [Act.put, List.setIfInBounds_toArray, List.set_cons_zero, List.set_cons_succ]
      refine wpAnyH_take (i := 23) (oi := ⟨some 151, _, _, _, _, _⟩) (v := .int .i64 od) rfl (by kernel_rfl) (by kernel_rfl) (by kernel_rfl) (fun _ _ _ h => h) (Or.inl ⟨by rfl, ?_⟩) HHF.out ?_
      · intro W' hW
        go_simp
      try simp only [Act.put, List.setIfInBounds_toArray, List.set_cons_zero, List.set_cons_succ]
      refine wpAnyH_ready (rs := [19]) (by kernel_rfl) (by simp) ?_
      refine AllReadyH.cons (o := ⟨some 147, _, _, _, _, _⟩) rfl (fun K hK => ?_) (AllReadyH.nil)
      go_simp
      refine (st_now (s := s) (b1 := c1) (b2 := c2') wf).mono ?_
      rintro e wg ⟨rfl, hb⟩
      have HHG := Lib.hid (And.intro ((hb.block p (lt_of_block HHF.out.1)).trans HHF.out.1) ((hb.block q (lt_of_block HHF.out.2)).trans HHF.out.2))
      have HBg := Lib.hid (HBf.out.trans (hb.mono HBf.out.size))
      have M0g := Lib.hid (M0f.out.below hb)
      have M1g := Lib.hid (M1f.out.below hb)
      clear HBf M0f M1f HHF
      clear hb
      refine hK.out _ _ HHG.out (fun hHeldq => ?_)
      clear hK hHeldq
      try simp only [Act.put, List.setIfInBounds_toArray, List.set_cons_zero, List.set_cons_succ]
      refine wpAnyH_ready (rs := [21]) (by kernel_rfl) (by simp) ?_
      refine AllReadyH.cons (o := ⟨some 149, _, _, _, _, _⟩) rfl (fun K hK => ?_) (AllReadyH.nil)
      go_simp
      refine (st_readers (s := s) (b1 := c1) (b2 := c2') wg).mono ?_
      rintro e wh ⟨v, rfl, ho, hb⟩
      obtain ⟨As, cs, rfl, g1, g2, g3⟩ := own_reads ho (S := fun _ => True) (fun b hb => trivial)
      have HI := Lib.hid (show Ints wh (fun _ => True) As (rdL s.B s.T 8).length (rdI s.B s.T 8) from ⟨by rw [rdL_rdI, List.length_map], by have := g3; rw [rdL_rdI] at this ⊢; exact this⟩)
      have HC2 := Lib.hid (And.intro g1 g2)
      generalize (rdL s.B s.T 8).length = mr at *
      have HHH := Lib.hid (And.intro ((hb.block p (lt_of_block HHG.out.1)).trans HHG.out.1) ((hb.block q (lt_of_block HHG.out.2)).trans HHG.out.2))
      have HBh := Lib.hid (HBg.out.trans (hb.mono HBg.out.size))
      have M0h := Lib.hid (M0g.out.below hb)
      have M1h := Lib.hid (M1g.out.below hb)
      clear HBg M0g M1g HHG
      clear hb ho g1 g2 g3
      refine hK.out _ _ HHH.out (fun hHeldq => ?_)
      clear hK hHeldq
      try simp only [Act.put, List.setIfInBounds_toArray, List.set_cons_zero, List.set_cons_succ]
      refine wpAnyH_ready (rs := [22]) (by kernel_rfl) (by simp) ?_
      refine AllReadyH.cons (o := ⟨some 150, _, _, _, _, _⟩) rfl (fun K hK => ?_) (AllReadyH.nil)
      go_simp
      refine (least_any As mr cs (rdI s.B s.T 8) s.n wh (fun _ _ => trivial) HI.out HC2.out.1 HC2.out.2 (Nat.le_trans (rdI_len _ _ 8) (by omega))).mono ?_
      rintro e wi ⟨v, rfl, hv, hb⟩
      obtain rfl : v = od := (isMin_eq hv (isMin_fold _ _)).trans HOD.out.symm
      have HHI := Lib.hid (And.intro ((hb.block p (lt_of_block HHH.out.1)).trans HHH.out.1) ((hb.block q (lt_of_block HHH.out.2)).trans HHH.out.2))
      have HBi := Lib.hid (HBh.out.trans (hb.mono HBh.out.size))
      have M0i := Lib.hid (M0h.out.below hb)
      have M1i := Lib.hid (M1h.out.below hb)
      clear HBh M0h M1h HHH
      clear hb hv
      refine hK.out _ _ HHI.out (fun hHeldq => ?_)
      clear hK hHeldq
      try simp only [Act.put, List.setIfInBounds_toArray, List.set_cons_zero, List.set_cons_succ]
      refine wpAnyH_take (i := 24) (oi := ⟨some 152, _, _, _, _, _⟩) (v := .bool true) rfl (by kernel_rfl) (by kernel_rfl) (by kernel_rfl) (fun _ _ _ h => h) (Or.inl ⟨by rfl, ?_⟩) HHI.out ?_
      · intro W' hW
        go_simp
      try simp only [Act.put, List.setIfInBounds_toArray, List.set_cons_zero, List.set_cons_succ]
      refine wpAnyH_take (i := 25) (oi := ⟨some 153, _, _, _, _, _⟩) (v := .bool true) rfl (by kernel_rfl) (by kernel_rfl) (by kernel_rfl) (fun _ _ _ h => h) (Or.inl ⟨by rfl, ?_⟩) HHI.out ?_
      · intro W' hW
        go_simp
      try simp only [Act.put, List.setIfInBounds_toArray, List.set_cons_zero, List.set_cons_succ]
      refine wpAnyH_take (i := 26) (oi := ⟨some 154, _, _, _, _, _⟩) (v := .bool true) rfl (by kernel_rfl) (by kernel_rfl) (by kernel_rfl) (fun _ _ _ h => h) (Or.inl ⟨by rfl, ?_⟩) HHI.out ?_
      · intro W' hW
        go_simp
      try simp only [Act.put, List.setIfInBounds_toArray, List.set_cons_zero, List.set_cons_succ]
      refine wpAnyH_ready (rs := [27]) (by kernel_rfl) (by simp) ?_
      refine AllReadyH.cons (o := ⟨some 155, _, _, _, _, _⟩) rfl (fun K hK => ?_) (AllReadyH.nil)
      go_simp
      refine (awake51_any wi).mono ?_
      rintro e wj ⟨rfl, hb⟩
      have HHJ := Lib.hid (And.intro ((hb.block p (lt_of_block HHI.out.1)).trans HHI.out.1) ((hb.block q (lt_of_block HHI.out.2)).trans HHI.out.2))
      have HBj := Lib.hid (HBi.out.trans (hb.mono HBi.out.size))
      have M0j := Lib.hid (M0i.out.below hb)
      have M1j := Lib.hid (M1i.out.below hb)
      clear HBi M0i M1i HHI
      clear hb
      refine hK.out _ _ HHJ.out (fun hHeldq => ?_)
      clear hK hHeldq
      try simp only [Act.put, List.setIfInBounds_toArray, List.set_cons_zero, List.set_cons_succ]
      refine wpAnyH_take (i := 28) (oi := ⟨some 156, _, _, _, _, _⟩) (v := .bool true) rfl (by kernel_rfl) (by kernel_rfl) (by kernel_rfl) (fun _ _ _ h => h) (Or.inl ⟨by rfl, ?_⟩) HHJ.out ?_
      · intro W' hW
        go_simp
      try simp only [Act.put, List.setIfInBounds_toArray, List.set_cons_zero, List.set_cons_succ]
      refine wpAnyH_take (i := 29) (oi := ⟨some 6, _, _, _, _, _⟩) (v := .bool true) rfl (by kernel_rfl) (by kernel_rfl) (by kernel_rfl) (fun _ _ _ h => h) (Or.inl ⟨by rfl, ?_⟩) HHJ.out ?_
      · intro W' hW
        go_simp
      try simp only [Act.put, List.setIfInBounds_toArray, List.set_cons_zero, List.set_cons_succ]
      refine wpAnyH_done (by kernel_rfl) ?_ _
      clear HHJ
      go_wp2
      go_ret
      exact ⟨rfl, HBj.out⟩

set_option maxRecDepth 100000 in
set_option maxHeartbeats 6400000 in
theorem cuts_great (a : Int) (A : Option Addr) (n c : Nat) (l : List TAct) (A2 : Option Addr) (n2 c2 : Nat) (w : World) (hl : TActs w (fun _ => True) A n l)  (hg : greatB l = true) :
    Calls Try.prog 17 #[.int .u8 a, .slice A n c, .slice A2 n2 c2] w fun e w' => e = .returned (.bool true) ∧ Below w.heap.size w w' := by
  have GR := Lib.hid (great51_any A n c l w hl)
  rw [hg] at GR
  clear hg hl
  go_enter Try.func17, Try.ntmps17
  go_wp2_with fail
  refine GR.out.mono ?_
  rintro e w1 ⟨rfl, hw⟩
  subst w1
  clear GR
  go_wp2_with fail
  refine (awake51_any w).mono ?_
  rintro e w2 ⟨rfl, hb⟩
  have HB := Lib.hid hb
  clear hb
  go_wp2
  go_ret
  exact ⟨rfl, HB.out⟩


set_option maxRecDepth 100000 in
set_option maxHeartbeats 6400000 in
theorem cuts_long (a : Int) (A : Option Addr) (n c : Nat) (l : List TAct) (A2 : Option Addr) (n2 c2 : Nat) (w : World) (hl : TActs w (fun _ => True) A n l) (hn : 20 < n2) (hg : greatB l = false) :
    Calls Try.prog 17 #[.int .u8 a, .slice A n c, .slice A2 n2 c2] w fun e w' => e = .returned (.bool true) ∧ Below w.heap.size w w' := by
  have GR := Lib.hid (great51_any A n c l w hl)
  rw [hg] at GR
  have hn2 : (20 : Int) < (n2 : Int) := by omega
  clear hg hl hn
  go_enter Try.func17, Try.ntmps17
  go_wp2_with fail
  refine GR.out.mono ?_
  rintro e w1 ⟨rfl, hw⟩
  subst w1
  clear GR
  go_wp2_with fail
  refine (awake51_any w).mono ?_
  rintro e w2 ⟨rfl, hb⟩
  have HB := Lib.hid hb
  clear hb
  go_wp2
  go_ret
  exact ⟨rfl, HB.out⟩
theorem cuts_any (a : Int) (A : Option Addr) (n c : Nat) (l : List TAct) (A2 : Option Addr) (n2 c2 : Nat) (wl : List Int) (w : World) (hl : TActs w (fun _ => True) A n l) (hwl : Ints w (fun _ => True) A2 n2 wl) (h0 : 0 ≤ a) (h1 : a ≤ 255) :
    Calls Try.prog 17 #[.int .u8 a, .slice A n c, .slice A2 n2 c2] w fun e w' => e = .returned (.bool true) ∧ Below w.heap.size w w' := by
  cases hg : greatB l with
  | true => exact cuts_great a A n c l A2 n2 c2 w hl hg
  | false =>
    by_cases hn : n2 ≤ 20
    · exact cuts_ok a (a % 6) (1 + a % 6).toNat A n c l A2 n2 c2 wl w hl hwl hn h0 h1 rfl (by omega) hg
    · exact cuts_long a A n c l A2 n2 c2 w hl (by omega) hg
end Go.Proofs.Ytpejhgkcofilmaa
