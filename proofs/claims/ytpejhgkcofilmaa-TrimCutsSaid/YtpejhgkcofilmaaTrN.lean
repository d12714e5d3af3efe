/- The walk of the law TrimBounds: true. No condition. -/
import Derived.Test.YtpejhgkcofilmaaTrM
set_option linter.unusedVariables false
namespace Go.Proofs.Ytpejhgkcofilmaa
open Go.RowKit

theorem w3_cell {w : World} {S : Nat → Prop} {A : Option Addr} {l : List W3} (h : Reads w S 3 A l.length (l.flatMap w3C)) (k : Nat) (hk : k < l.length) :
    ∃ b o, A = some ⟨b, o, none⟩ ∧ w.cell? ⟨b, o + k * 3, none⟩ = some (.int .i64 l[k].1) ∧ w.cell? ⟨b, o + k * 3 + 1, none⟩ = some (.int .i64 l[k].2.1) ∧ w.cell? ⟨b, o + k * 3 + 2, none⟩ = some (.int .i64 l[k].2.2) := by
  obtain ⟨b, o, e, hb, hS, hc⟩ := h.2 (by omega)
  have g := fun (j : Nat) (u : Value) (hj : j < 3) (hu : (w3C l[k])[j]? = some u) => hc (k * 3 + j) u ((flat_get2 (s := 3) (fun _ => rfl) l k hk j hj).trans hu)
  refine ⟨b, o, e, ?_, ?_, ?_⟩
  · have := g 0 _ (by omega) rfl; rwa [← Nat.add_assoc] at this
  · have := g 1 _ (by omega) rfl; rwa [← Nat.add_assoc] at this
  · have := g 2 _ (by omega) rfl; rwa [← Nat.add_assoc] at this
theorem meas_close (j : Nat) (h : j < 8) : 9 - ((j : Int) + 1 + 1).toNat < 9 - ((j : Int) + 1).toNat := by omega
theorem countP_take (p : W3 → Bool) (l : List W3) (k : Nat) (hk : k < l.length) : (l.take (k + 1)).countP p = (l.take k).countP p + (if p l[k] = true then 1 else 0) := by
  rw [List.take_succ_eq_append_getElem hk, List.countP_append, List.countP_cons, List.countP_nil]
  omega

set_option maxRecDepth 100000 in
set_option maxHeartbeats 25600000 in
theorem bounds_ok (a r : Int) (cn : Nat) (A : Option Addr) (n c : Nat) (l : List TAct) (w : World) (hl : TActs w (fun _ => True) A n l) (h0 : 0 ≤ a) (h1 : a ≤ 255) (hr : r = a % 6) (hcn : 1 + r = (cn : Int)) (hg : greatB l = false) :
    Calls Try.prog 14 #[.int .u8 a, .slice A n c] w fun e w' => e = .returned (.bool true) ∧ Below w.heap.size w w' := by
  obtain ⟨hg1, hg2⟩ := great_no hg
  have hmod : a.tmod 6 = r := tmod_pos h0 hr.symm
  have hr0 : 0 ≤ r := by omega
  have hr5 : r ≤ 5 := by omega
  have hc1 : 1 ≤ cn := by omega
  have hc6 : cn ≤ 6 := by omega
  have CM0 := made51_any (S := fun _ => True) cn A n c l w hc1 hc6 (fun _ _ => trivial) hl hg1 hg2
  have HG0 := good_made (cn : Int) (by omega) (by omega) l l.length (Nat.le_refl _) (by omega)
  rw [List.take_length] at HG0
  generalize madeF (cn : Int) l = x at CM0 HG0
  obtain ⟨s, all⟩ := x
  dsimp only at CM0 HG0
  rw [← hcn] at CM0
  have CM := Lib.hid CM0
  have HGd := Lib.hid HG0
  have HC := Lib.hid (And.intro hc1 hc6)
  have HCN := Lib.hid hcn
  have HM40 := Lib.hid (show (l.length : Int) ≤ 1000 by omega)
  have GR := Lib.hid (great51_any A n c l w hl)
  rw [hg] at GR
  clear CM0 HG0 hg hg1 hg2 hl hr hc1 hc6 hcn
  go_enter Try.func14, Try.ntmps14
  go_wp2_with fail
  refine GR.out.mono ?_
  rintro e w1 ⟨rfl, hw⟩
  subst w1
  clear GR
  go_wp2_with fail
  refine CM.out.mono ?_
  rintro e w2 ⟨b1, b2, Aw, cw, rfl, hm, hra, hb⟩
  have HM2 := Lib.hid (hm.more (S' := fun b => b ≠ w2.heap.size) fun b hb _ => by omega)
  have HR2 := Lib.hid hra
  have HB2 := Lib.hid hb
  clear hm hra hb CM
  go_wp2_with (with_reducible refine at_alloc_ (t := 57) ?_; refine alloc_at (S := fun _ => False) rfl rfl ?_)
  intro w3 hp hb hz
  have P3 := Lib.hid hp
  have HM3 := Lib.hid (HM2.out.below hb)
  have HR3 := Lib.hid (HR2.out.below hb)
  have HB3 := Lib.hid (HB2.out.trans (hb.mono HB2.out.size))
  have HZ3 := Lib.hid (show w.heap.size ≤ w2.heap.size from HB2.out.size)
  have HX3 := Lib.hid (fun (o : Nat) (h : w2.heap.size ≤ o) => h)
  have HRS := Lib.hid (show Reads w3 (fun b => b ≠ w2.heap.size) 3 Aw all.length (all.flatMap w3C) from ((HR2.out.more (S' := fun b => b ≠ w2.heap.size) fun b hb _ => by omega).below hb))
  generalize w2.heap.size = p at *
  clear hp hb hz HM2 HR2 HB2 HR3 HX3
  go_wp2_with (with_reducible refine at_store_ (t := 57) ?_; refine Hid.out ?_)
  refine Lib.hid ?_
  refine put_at rfl (.tmp 6) (.tmp 30) rfl rfl p rfl rfl P3.out HM3.out (fun h => h rfl) ?_
  intro w4 hp ht
  have P4 := Lib.hid hp
  have HB4 := Lib.hid (ht.below HB3.out HZ3.out)
  have HR4 := Lib.hid (ht.reads HRS.out (fun h => h rfl))
  clear hp ht P3 HM3 HB3 HRS
  go_wp2_with fail
  obtain ⟨c1, c2, p0, hm1⟩ := P4.out
  have HM1 := Lib.hid hm1
  refine wp_region_held_drew (S := fun W => W.heap[p]? = some (.cells (stoCells s.c s.n (.map c1) (.map c2) s.B s.T) 57 (0, 0))) (by kernel_rfl) p0 (fun hHeld => ?_)
  have HHD := Lib.hid hHeld
  have hbd : Below w4.heap.size w4 w4.drew := (Below.refl _ _).drew
  have P5d := Lib.hid (P4.out.below hbd)
  have HR5d := Lib.hid (HR4.out.below hbd)
  have HB5d := Lib.hid (HB4.out.trans (hbd.mono HB4.out.size))
  clear P4 HR4 HB4
  clear hHeld hbd p0 hm1
  generalize w4.drew = w4d at *
  refine wpAnyH_take (i := 0) (oi := ⟨some 35, _, _, _, _, _⟩) (v := s.val c1 c2) rfl (by kernel_rfl) (by kernel_rfl) (by kernel_rfl) (fun _ _ _ h => h) (yields_sto (by rfl) _ rfl p rfl 57 (0, 0) (fun _ h => h)) HHD.out ?_
  try simp only [Act.put, List.setIfInBounds_toArray, List.set_cons_zero, List.set_cons_succ]
  refine wpAnyH_take (i := 2) (oi := ⟨some 37, _, _, _, _, _⟩) (v := s.val c1 c2) rfl (by kernel_rfl) (by kernel_rfl) (by kernel_rfl) (fun _ _ _ h => h) (yields_sto (by rfl) _ rfl p rfl 57 (0, 0) (fun _ h => h)) HHD.out ?_
  try simp only [Act.put, List.setIfInBounds_toArray, List.set_cons_zero, List.set_cons_succ]
  refine wpAnyH_ready (rs := [1]) (by kernel_rfl) (by simp) ?_
  refine AllReadyH.cons (o := ⟨some 36, _, _, _, _, _⟩) rfl (fun K hK => ?_) (AllReadyH.nil)
  go_simp
  refine (st_now (s := s) (b1 := c1) (b2 := c2) w4d).mono ?_
  rintro e w4e ⟨rfl, hb⟩
  have HHE := Lib.hid ((hb.block p (lt_of_block HHD.out)).trans HHD.out)
  have P5e := Lib.hid (P5d.out.below hb)
  have HR5e := Lib.hid (HR5d.out.below hb)
  have HB5e := Lib.hid (HB5d.out.trans (hb.mono HB5d.out.size))
  clear P5d HR5d HB5d
  refine hK.out _ _ HHE.out (fun hHeld3 => ?_)
  clear hK hb HHD hHeld3
  try simp only [Act.put, List.setIfInBounds_toArray, List.set_cons_zero, List.set_cons_succ]
  refine wpAnyH_ready (rs := [3]) (by kernel_rfl) (by simp) ?_
  refine AllReadyH.cons (o := ⟨some 38, _, _, _, _, _⟩) rfl (fun K hK => ?_) (AllReadyH.nil)
  go_simp
  refine (st_readers (s := s) (b1 := c1) (b2 := c2) w4e).mono ?_
  rintro e w4f ⟨v, rfl, ho, hb⟩
  obtain ⟨As, cs, rfl, g1, g2, g3⟩ := own_reads ho (S := fun _ => True) (fun b hb => trivial)
  have HI := Lib.hid (show Ints w4f (fun _ => True) As (rdL s.B s.T 8).length (rdI s.B s.T 8) from ⟨by rw [rdL_rdI, List.length_map], by have := g3; rw [rdL_rdI] at this ⊢; exact this⟩)
  have HC2 := Lib.hid (And.intro g1 g2)
  have HHF := Lib.hid ((hb.block p (lt_of_block HHE.out)).trans HHE.out)
  have P5f := Lib.hid (P5e.out.below hb)
  have HR5f := Lib.hid (HR5e.out.below hb)
  have HB5f := Lib.hid (HB5e.out.trans (hb.mono HB5e.out.size))
  clear P5e HR5e HB5e
  generalize (rdL s.B s.T 8).length = mr at *
  refine hK.out _ _ HHF.out (fun hHeld4 => ?_)
  clear hK hb ho g1 g2 g3 HHE hHeld4
  try simp only [Act.put, List.setIfInBounds_toArray, List.set_cons_zero, List.set_cons_succ]
  refine wpAnyH_ready (rs := [4]) (by kernel_rfl) (by simp) ?_
  refine AllReadyH.cons (o := ⟨some 39, _, _, _, _, _⟩) rfl (fun K hK => ?_) (AllReadyH.nil)
  go_simp
  refine (least_any As mr cs (rdI s.B s.T 8) s.n w4f (fun _ _ => trivial) HI.out HC2.out.1 HC2.out.2 (Nat.le_trans (rdI_len _ _ 8) (by omega))).mono ?_
  rintro e w4g ⟨v, rfl, hv, hb⟩
  obtain rfl : v = s.old := isMin_eq hv (isMin_fold _ _)
  have HHG := Lib.hid ((hb.block p (lt_of_block HHF.out)).trans HHF.out)
  have P5g := Lib.hid (P5f.out.below hb)
  have HR5g := Lib.hid (HR5f.out.below hb)
  have HB5g := Lib.hid (HB5f.out.trans (hb.mono HB5f.out.size))
  clear P5f HR5f HB5f
  refine hK.out _ _ HHG.out (fun hHeld5 => ?_)
  clear hK hb hv HHF HI HC2
  try simp only [Act.put, List.setIfInBounds_toArray, List.set_cons_zero, List.set_cons_succ]
  refine wpAnyH_take (i := 5) (oi := ⟨some 9, _, _, _, _, _⟩) (v := .int .i64 s.old) rfl (by kernel_rfl) (by kernel_rfl) (by kernel_rfl) (fun _ _ _ h => h) (Or.inl ⟨by rfl, ?_⟩) hHeld5 ?_
  · intro W' hW
    go_simp
  try simp only [Act.put, List.setIfInBounds_toArray, List.set_cons_zero, List.set_cons_succ]
  refine wpAnyH_done (by kernel_rfl) ?_ _
  clear hHeld5 HHG HM1
  have HALL := Lib.hid (show (all.length : Int) ≤ 6000 by have := HGd.out.hall; have := HGd.out.hnm; have := HM40.out; omega)
  have HOLD := Lib.hid (show s.old = s.old from rfl)
  have HWR := Lib.hid (HGd.out.all_kept HC.out.2)
  have hlen : (all.length : Int) ≤ 6000 := HALL.out
  generalize hold : s.old = t at *
  have HT := Lib.hid hold
  clear hold HOLD
  go_wp2
  go_loopw [10, 11] (fun v i wr => ∃ k : Nat, k ≤ all.length ∧ i = .int .i64 k ∧ v = .int .i64 ((all.take k).countP fun x => decide (t < x.2.1) : Nat) ∧ wr = w4g) (fun _ i _ => all.length - (intOf i).toNat)
  case atStart => exact ⟨0, by omega, rfl, rfl, rfl⟩
  case round =>
    obtain ⟨k, hk, rfl, rfl, rfl⟩ := hrel
    by_cases hlt : k < all.length
    · have hi : (k : Int) < (all.length : Int) := by omega
      obtain ⟨bw, ow, rfl, hs⟩ := w3_cell HR5g.out k hlt
      have hs1 := hs.2.1
      clear hs
      have HE := Lib.hid (countP_take (fun x => decide (t < x.2.1)) all k hlt)
      have hcl : ((all.take k).countP fun x => decide (t < x.2.1) : Int) ≤ 6000 := by have := List.countP_le_length (p := fun x : W3 => decide (t < x.2.1)) (l := all.take k); rw [List.length_take] at this; omega
      have hc0 : (0 : Int) ≤ ((all.take k).countP fun x => decide (t < x.2.1) : Nat) := by omega
      have HK := Lib.hid hlt
      try dsimp only at HE
      clear hk
      generalize (all.take k).countP (fun x => decide (t < x.2.1)) = q at *
      generalize all[k].2.1 = st at *
      clear hlt
      by_cases hts : t < st
      · have HE2 := Lib.hid (HE.out.trans (by rw [if_pos (decide_eq_true hts)]))
        clear HE
        go_wp2
        go_roundw
        case rel => exact ⟨k + 1, HK.out, by go_num, by rw [HE2.out]; go_num, by first | rfl | trivial⟩
        case measure => exact meas_up _ _ HK.out
      · have HE2 := Lib.hid (HE.out.trans (by rw [if_neg (by simpa using hts)]))
        clear HE
        go_wp2
        go_roundw
        case rel => exact ⟨k + 1, HK.out, by go_num, by rw [HE2.out]; rfl, by first | rfl | trivial⟩
        case measure => exact meas_up _ _ HK.out
    · obtain rfl : k = all.length := by omega
      have hi : (all.length : Int) ≤ (all.length : Int) := Int.le_refl _
      rw [List.take_length]
      have hcl : (all.countP fun x => decide (t < x.2.1) : Int) ≤ 6000 := by have := List.countP_le_length (p := fun x : W3 => decide (t < x.2.1)) (l := all); omega
      have hc0 : (0 : Int) ≤ (all.countP fun x => decide (t < x.2.1) : Nat) := by omega
      clear hk hlt
      generalize all.countP (fun x => decide (t < x.2.1)) = wn at *
      go_wp2_with (with_reducible refine at_load_ (t := 57) ?_; refine get_at rfl _ rfl p rfl P5g.out ?_)
      intro b1 b2 hm
      have HM := Lib.hid hm
      clear hm
      try simp only [Act.put, List.setIfInBounds_toArray, List.set_cons_zero, List.set_cons_succ]
      go_wp2_with fail
      refine (all_any (S := fun _ => True) wr (fun _ _ => trivial) (HM.out.more fun _ _ _ => trivial) (HGd.out.okS (by have := HM40.out; omega))).mono ?_
      rintro e w5 ⟨b5, b6, rfl, hm, hb⟩
      have HB6 := Lib.hid (HB5g.out.trans (hb.mono HB5g.out.size))
      clear HB5g
      clear hb HM
      have HMn := Lib.hid (hm.more (S' := fun b => b ≠ w5.heap.size) fun b hb _ => by omega)
      clear hm
      have HZq := Lib.hid (show w.heap.size ≤ w5.heap.size from HB6.out.size)
      go_wp2_with (with_reducible refine at_alloc_ (t := 57) ?_; refine alloc_at (S := fun _ => False) rfl rfl ?_)
      intro w6 hp hb hz
      have RN := Lib.hid hp
      have HMm := Lib.hid (HMn.out.below hb)
      have HBB := Lib.hid hb
      clear hp hb hz HMn
      go_wp2_with (with_reducible refine at_store_ (t := 57) ?_; refine Hid.out ?_)
      refine Lib.hid ?_
      refine put_at rfl (.tmp 12) (.tmp 58) rfl rfl w5.heap.size rfl rfl RN.out HMm.out (fun h => h rfl) ?_
      intro w7 hp ht
      have hbb := ht.below HBB.out (Nat.le_refl _)
      have HB7 := Lib.hid (HB6.out.trans (hbb.mono HB6.out.size))
      clear HB6
      have X := Lib.hid hp
      clear hp ht hbb RN HMm HBB
      generalize w5.heap.size = q at *
      have hK : s.all.1.keptN 2048 = 1 + r + (wn : Int) := by rw [HWR.out, ← HCN.out]
      have HFX := Lib.hid (all_ok (HGd.out.okS (by have := HM40.out; omega))).2
      have CB := Lib.hid fun W => bound_any (1 + r) (wn : Int) W (by omega) (by omega)
      rw [show max (1 + r) 0 + max (wn : Int) 0 = 1 + r + (wn : Int) from by omega] at CB
      have HKK := Lib.hid hK
      clear hK
      go_wp2_with (with_reducible refine at_load_ (t := 57) ?_; refine get_at rfl _ rfl q rfl X.out ?_)
      intro b1 b2 hm
      have HM := Lib.hid hm
      clear hm
      try simp only [Act.put, List.setIfInBounds_toArray, List.set_cons_zero, List.set_cons_succ]
      go_wp2_with fail
      refine (kept_any (S := fun _ => True) w7 (fun _ _ => trivial) (HM.out.more fun _ _ _ => trivial) HFX.out).mono ?_
      rintro e w8 ⟨he, hb⟩
      rw [HKK.out] at he
      subst he
      have HB8 := Lib.hid (HB7.out.trans (hb.mono HB7.out.size))
      have X8 := Lib.hid (X.out.below hb)
      clear HB7 X
      clear hb HM
      go_wp2_with fail
      refine (CB.out w8).mono ?_
      rintro e w8' ⟨rfl, hw⟩
      subst w8'
      go_wp2_with (with_reducible refine at_load_ (t := 57) ?_; refine Hid.out ?_)
      refine Lib.hid ?_
      refine get_at_g (by kernel_rfl) (.tmp 12) rfl q rfl X8.out ?_
      intro b1 b2 hm
      have HM := Lib.hid hm
      clear hm
      try simp only [Act.put, List.setIfInBounds_toArray, List.set_cons_zero, List.set_cons_succ]
      go_wp2_with fail
      refine (kept_any (S := fun _ => True) w8 (fun _ _ => trivial) (HM.out.more fun _ _ _ => trivial) HFX.out).mono ?_
      rintro e w9 ⟨he, hb⟩
      rw [HKK.out] at he
      subst he
      have HB9 := Lib.hid (HB8.out.trans (hb.mono HB8.out.size))
      have X9 := Lib.hid (X8.out.below hb)
      clear HB8 X8
      clear hb HM
      clear CB HKK HWR hcl hc0 hi hlen
      go_wp2
      go_loopw [14] (fun i wr => ∃ j : Nat, j ≤ 8 ∧ i = .int .i64 ((j : Int) + 1) ∧ Hid ((s.all.1.closes j).At wr (fun b => b ≠ q) q) ∧ Hid (Below w.heap.size w wr)) (fun i _ => 9 - (intOf i).toNat)
      case atStart => exact ⟨0, by omega, by go_num, X9, HB9⟩
      case round =>
        clear X9 HB9
        obtain ⟨j, hj, rfl, X, HB⟩ := hrel
        by_cases hj8 : j < 8
        · skip
          have hj1 : (j : Int) + 1 ≤ 8 := by omega
          have hj0 : (0 : Int) ≤ (j : Int) := by omega
          have HJ := Lib.hid hj8
          clear hj8 hj
          go_wp2_with (with_reducible refine at_load_ (t := 57) ?_; refine get_at rfl _ rfl q rfl X.out ?_)
          intro b1 b2 hm
          have HM := Lib.hid hm
          clear hm
          try simp only [Act.put, List.setIfInBounds_toArray, List.set_cons_zero, List.set_cons_succ]
          go_wp2_with fail
          refine (st_close (s := s.all.1.closes j) (b1 := b1) (b2 := b2) ((j : Int) + 1) wr).mono ?_
          rintro e w5 ⟨E, rfl, hE, hb⟩
          have hm : (s.all.1.closes (j + 1)).Maps w5 (fun b => b ≠ q) b1 b2 := Sn.closeS_maps (HM.out.below hb) ((j : Int) + 1)
          have HE := Lib.hid hE
          have HBa := Lib.hid (HB.out.trans (hb.mono HB.out.size))
          have Xa := Lib.hid (X.out.below hb)
          clear HB X
          clear hb HM hE
          have HVAL := Lib.hid (show (s.all.1.closes j).closeS ((j : Int) + 1) = s.all.1.closes (j + 1) from rfl)
          rw [HVAL.out] at HE ⊢
          have hm2 := hm
          clear hm
          have hm := hm2
          clear hm2
          have HMn := Lib.hid (hm.more (S' := fun b => b ≠ q ∧ b ≠ w5.heap.size) fun b hb h => ⟨h, by omega⟩)
          clear hm
          have HZu := Lib.hid (show w.heap.size ≤ w5.heap.size from HBa.out.size)
          go_wp2_with (with_reducible refine at_alloc_ (t := 57) ?_; refine alloc_at (S := fun _ => False) rfl rfl ?_)
          intro w6 hp hb hz
          have RN := Lib.hid hp
          have HMm := Lib.hid (HMn.out.below hb)
          have HBB := Lib.hid hb
          clear hp hb hz HMn
          go_wp2_with (with_reducible refine at_store_ (t := 57) ?_; refine Hid.out ?_)
          refine Lib.hid ?_
          refine put_at rfl (.tmp 15) (.tmp 80) rfl rfl w5.heap.size rfl rfl RN.out HMm.out (fun h => h.2 rfl) ?_
          intro w7 hp ht
          have hbb := ht.below HBB.out (Nat.le_refl _)
          have HBb := Lib.hid (HBa.out.trans (hbb.mono HBa.out.size))
          have Xb := Lib.hid (Xa.out.below hbb)
          clear HBa Xa
          have Y := Lib.hid hp
          clear hp ht hbb RN HMm HBB
          generalize w5.heap.size = u at *
          rcases HE.out with rfl | ⟨rfl, hsame⟩
          · skip
            go_wp2_with (with_reducible refine at_load_ (t := 57) ?_; refine get_at rfl _ rfl u rfl Y.out ?_)
            intro b1 b2 hm
            have HM := Lib.hid hm
            clear hm
            try simp only [Act.put, List.setIfInBounds_toArray, List.set_cons_zero, List.set_cons_succ]
            go_wp2_with (with_reducible refine at_store_ (t := 57) ?_; refine Hid.out ?_)
            refine Lib.hid ?_
            refine put_at rfl (.tmp 12) (.tmp 84) rfl rfl q rfl rfl Xb.out HM.out (fun h => h.1 rfl) ?_
            intro w8 hp ht
            have X8 := Lib.hid (hp.more (S' := fun b => b ≠ q) fun b _ h => h.1)
            have HB8 := Lib.hid (ht.below HBb.out HZq.out)
            clear hp ht HM Xb Y HBb HE
            go_wp2
            go_roundw
            case rel => exact ⟨j + 1, by have := HJ.out; omega, by go_num, X8, HB8⟩
            case measure => exact meas_close _ HJ.out
          · have HSA := Lib.hid hsame
            clear hsame HE
            have X8 := Lib.hid (show (s.all.1.closes (j + 1)).At _ (fun b => b ≠ q) q from by rw [HSA.out]; exact Xb.out)
            clear Xb Y
            go_wp2
            go_roundw
            case rel => exact ⟨j + 1, by have := HJ.out; omega, by go_num, X8, HBb⟩
            case measure => exact meas_close _ HJ.out
        · skip
          obtain rfl : j = 8 := by omega
          clear hj hj8
          have hokc := Lib.hid (closes_ok (all_ok (HGd.out.okS (by have := HM40.out; omega))) 8)
          go_wp2_with (with_reducible refine at_load_ (t := 57) ?_; refine get_at rfl _ rfl q rfl X.out ?_)
          intro b1 b2 hm
          have HM := Lib.hid hm
          clear hm
          try simp only [Act.put, List.setIfInBounds_toArray, List.set_cons_zero, List.set_cons_succ]
          go_wp2_with fail
          refine (all_any (S := fun _ => True) wr (fun _ _ => trivial) (HM.out.more fun _ _ _ => trivial) hokc.out).mono ?_
          rintro e w5 ⟨b5, b6, rfl, hm, hb⟩
          have HBa := Lib.hid (HB.out.trans (hb.mono HB.out.size))
          clear HB
          clear hb HM X
          have HMn := Lib.hid (hm.more (S' := fun b => b ≠ w5.heap.size) fun b hb _ => by omega)
          clear hm
          have HZu := Lib.hid (show w.heap.size ≤ w5.heap.size from HBa.out.size)
          go_wp2_with (with_reducible refine at_alloc_ (t := 57) ?_; refine alloc_at (S := fun _ => False) rfl rfl ?_)
          intro w6 hp hb hz
          have RN := Lib.hid hp
          have HMm := Lib.hid (HMn.out.below hb)
          have HBB := Lib.hid hb
          clear hp hb hz HMn
          go_wp2_with (with_reducible refine at_store_ (t := 57) ?_; refine Hid.out ?_)
          refine Lib.hid ?_
          refine put_at rfl (.tmp 17) (.tmp 88) rfl rfl w5.heap.size rfl rfl RN.out HMm.out (fun h => h rfl) ?_
          intro w7 hp ht
          have hbb := ht.below HBB.out (Nat.le_refl _)
          have HBb := Lib.hid (HBa.out.trans (hbb.mono HBa.out.size))
          clear HBa
          have Y := Lib.hid hp
          clear hp ht hbb RN HMm HBB
          generalize w5.heap.size = u at *
          have HK2 := Lib.hid (show (s.all.1.closes 8).all.1.keptN 2048 = 1 + r by rw [HGd.out.closed HC.out.2, ← HCN.out])
          have HF2 := Lib.hid (all_ok hokc.out).2
          go_wp2_with (with_reducible refine at_load_ (t := 57) ?_; refine get_at rfl _ rfl u rfl Y.out ?_)
          intro b1 b2 hm
          have HM := Lib.hid hm
          clear hm
          try simp only [Act.put, List.setIfInBounds_toArray, List.set_cons_zero, List.set_cons_succ]
          go_wp2_with fail
          refine (kept_any (S := fun _ => True) w7 (fun _ _ => trivial) (HM.out.more fun _ _ _ => trivial) HF2.out).mono ?_
          rintro e w8 ⟨he, hb⟩
          rw [HK2.out] at he
          subst he
          have HB8 := Lib.hid (HBb.out.trans (hb.mono HBb.out.size))
          have Y8 := Lib.hid (Y.out.below hb)
          clear HBb Y
          clear hb HM
          go_wp2_with fail
          refine (awake51_any w8).mono ?_
          rintro e w9 ⟨rfl, hb⟩
          have HB9 := Lib.hid (HB8.out.trans (hb.mono HB8.out.size))
          clear hb
          go_wp2
          go_ret
          exact ⟨rfl, HB9.out⟩

set_option maxRecDepth 100000 in
set_option maxHeartbeats 6400000 in
theorem bounds_great (a : Int) (A : Option Addr) (n c : Nat) (l : List TAct)  (w : World) (hl : TActs w (fun _ => True) A n l)  (hg : greatB l = true) :
    Calls Try.prog 14 #[.int .u8 a, .slice A n c] w fun e w' => e = .returned (.bool true) ∧ Below w.heap.size w w' := by
  have GR := Lib.hid (great51_any A n c l w hl)
  rw [hg] at GR
  clear hg hl
  go_enter Try.func14, Try.ntmps14
  go_wp2_with fail
  refine GR.out.mono ?_
  rintro e w1 ⟨rfl, hw⟩
  subst w1
  clear GR
  go_wp2_with fail
  refine (awake51_any w).mono ?_
  rintro e w2 ⟨rfl, hb⟩
  have HB := Lib.hid hb
  clear hb
  go_wp2
  go_ret
  exact ⟨rfl, HB.out⟩

theorem bounds_any (a : Int) (A : Option Addr) (n c : Nat) (l : List TAct) (w : World) (hl : TActs w (fun _ => True) A n l) (h0 : 0 ≤ a) (h1 : a ≤ 255) :
    Calls Try.prog 14 #[.int .u8 a, .slice A n c] w fun e w' => e = .returned (.bool true) ∧ Below w.heap.size w w' := by
  cases hg : greatB l with
  | true => exact bounds_great a A n c l w hl hg
  | false => exact bounds_ok a (a % 6) (1 + a % 6).toNat A n c l w hl h0 h1 rfl (by omega) hg
end Go.Proofs.Ytpejhgkcofilmaa
