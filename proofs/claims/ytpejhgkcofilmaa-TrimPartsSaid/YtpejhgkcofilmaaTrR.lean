/- The walk of the law TrimParts: true. No condition. -/
import Derived.Test.YtpejhgkcofilmaaTrN
import Derived.Test.YtpejhgkcofilmaaTrQ
set_option linter.unusedVariables false
namespace Go.Proofs.Ytpejhgkcofilmaa
open Go.RowKit

/-- A store written over the cells of another. -/
theorem put_row {ops : Array Oper} {rest : List Oper} {a : Act} {w : World} {Q : Exit → Act → World → Prop} {o : Oper} {s : Sn} {S : Nat → Prop} {b1 b2 : Option Nat} (hg : o.guard = none) (x y : Operand) (ho : o.op = .store 57 x y) (hd : o.dst = none) (g : Nat) (hx : a.eval x = .pointer (some ⟨g, 0, none⟩)) (hy : a.eval y = s.val b1 b2)
    {c n : Int} {ml mw : Value} {B : Nat → Bool} {T : Nat → Int} (h1 : w.heap[g]? = some (.cells (stoCells c n ml mw B T) 57 (0, 0))) (hm : s.Maps w S b1 b2) (hS : ¬ S g) (k : ∀ w', s.At w' S g → Touch g w w' → wpList Try.prog ops Q rest a w') : wpList Try.prog ops Q (o :: rest) a w :=
  put_sto hg x y ho hd g hx hy h1 rfl (k _ ⟨b1, b2, setRow_heap _ _ _ _ _ _ h1, hm.setRow hS _⟩ ⟨_, rfl⟩)

set_option maxRecDepth 100000 in
set_option maxHeartbeats 25600000 in
theorem parts_ok (a r u : Int) (cn : Nat) (A : Option Addr) (n c : Nat) (l : List TAct) (w : World) (hl : TActs w (fun _ => True) A n l) (h0 : 0 ≤ a) (h1 : a ≤ 255) (hu0 : 0 ≤ u) (hu1 : u ≤ 255) (hr : r = a % 6) (hcn : 1 + r = (cn : Int)) (hg : greatB l = false) :
    Calls Try.prog 16 #[.int .u8 a, .slice A n c, .int .u8 u] w fun e w' => e = .returned (.bool true) ∧ Below w.heap.size w w' := by
  obtain ⟨hg1, hg2⟩ := great_no hg
  have hmod : a.tmod 6 = r := tmod_pos h0 hr.symm
  have hr0 : 0 ≤ r := by omega
  have hr5 : r ≤ 5 := by omega
  have hc1 : 1 ≤ cn := by omega
  have hc6 : cn ≤ 6 := by omega
  have CM0 := made51_any (S := fun _ => True) cn A n c l w hc1 hc6 (fun _ _ => trivial) hl hg1 hg2
  have HG0 := good_made (cn : Int) (by omega) (by omega) l l.length (Nat.le_refl _) (by omega)
  rw [List.take_length] at HG0
  generalize madeF (cn : Int) l = x at CM0 HG0
  obtain ⟨s, all⟩ := x
  dsimp only at CM0 HG0
  rw [← hcn] at CM0
  have CM := Lib.hid CM0
  have HGd := Lib.hid HG0
  have HC := Lib.hid (And.intro hc1 hc6)
  have HCN := Lib.hid hcn
  have HM40 := Lib.hid (show (l.length : Int) ≤ 1000 by omega)
  have GR := Lib.hid (great51_any A n c l w hl)
  rw [hg] at GR
  clear CM0 HG0 hg hg1 hg2 hl hr hc1 hc6 hcn
  go_enter Try.func16, Try.ntmps16
  go_wp2_with fail
  refine GR.out.mono ?_
  rintro e w1 ⟨rfl, hw⟩
  subst w1
  clear GR
  go_wp2_with fail
  refine CM.out.mono ?_
  rintro e w2 ⟨b1, b2, Aw, cw, rfl, hm, hra, hb⟩
  have HM2 := Lib.hid (hm.more (S' := fun b => b ≠ w2.heap.size) fun b hb _ => by omega)
  have HR2 := Lib.hid hra
  have HB2 := Lib.hid hb
  clear hm hra hb CM
  go_wp2_with (with_reducible refine at_alloc_ (t := 57) ?_; refine alloc_at (S := fun _ => False) rfl rfl ?_)
  intro w3 hp hb hz
  have P3 := Lib.hid hp
  have HM3 := Lib.hid (HM2.out.below hb)
  have HR3 := Lib.hid (HR2.out.below hb)
  have HB3 := Lib.hid (HB2.out.trans (hb.mono HB2.out.size))
  have HZ3 := Lib.hid (show w.heap.size ≤ w2.heap.size from HB2.out.size)
  have HX3 := Lib.hid (fun (o : Nat) (h : w2.heap.size ≤ o) => h)
  have HRS := Lib.hid (show Reads w3 (fun b => b ≠ w2.heap.size) 3 Aw all.length (all.flatMap w3C) from ((HR2.out.more (S' := fun b => b ≠ w2.heap.size) fun b hb _ => by omega).below hb))
  generalize w2.heap.size = p at *
  clear hp hb hz HM2 HR2 HB2 HR3 HX3
  go_wp2_with (with_reducible refine at_store_ (t := 57) ?_; refine Hid.out ?_)
  refine Lib.hid ?_
  refine put_at rfl (.tmp 8) (.tmp 33) rfl rfl p rfl rfl P3.out HM3.out (fun h => h rfl) ?_
  intro w4 hp ht
  have P4 := Lib.hid hp
  have HB4 := Lib.hid (ht.below HB3.out HZ3.out)
  have HR4 := Lib.hid (ht.reads HRS.out (fun h => h rfl))
  clear hp ht P3 HM3 HB3 HRS
  clear HR4
  go_wp2_with (with_reducible refine at_load_ (t := 57) ?_; refine get_at rfl _ rfl p rfl P4.out ?_)
  intro b1 b2 hm
  have HM := Lib.hid hm
  clear hm
  try simp only [Act.put, List.setIfInBounds_toArray, List.set_cons_zero, List.set_cons_succ]
  go_wp2_with fail
  refine (all_any (S := fun _ => True) w4 (fun _ _ => trivial) (HM.out.more fun _ _ _ => trivial) (HGd.out.okS (by have := HM40.out; omega))).mono ?_
  rintro e w5 ⟨b5, b6, rfl, hm, hb⟩
  have P5 := Lib.hid (P4.out.below hb)
  have HB5 := Lib.hid (HB4.out.trans (hb.mono HB4.out.size))
  clear P4 HB4
  clear hb HM
  have HMn := Lib.hid (hm.more (S' := fun b => b ≠ w5.heap.size) fun b hb _ => by omega)
  clear hm
  have HZq := Lib.hid (show w.heap.size ≤ w5.heap.size from HB5.out.size)
  go_wp2_with (with_reducible refine at_alloc_ (t := 57) ?_; refine alloc_at (S := fun _ => False) rfl rfl ?_)
  intro w6 hp hb hz
  have RN := Lib.hid hp
  have HMm := Lib.hid (HMn.out.below hb)
  have HBB := Lib.hid hb
  clear hp hb hz HMn
  go_wp2_with (with_reducible refine at_store_ (t := 57) ?_; refine Hid.out ?_)
  refine Lib.hid ?_
  refine put_at rfl (.tmp 11) (.tmp 41) rfl rfl w5.heap.size rfl rfl RN.out HMm.out (fun h => h rfl) ?_
  intro w7 hp ht
  have hbb := ht.below HBB.out (Nat.le_refl _)
  have P7 := Lib.hid (P5.out.below hbb)
  have HB7 := Lib.hid (HB5.out.trans (hbb.mono HB5.out.size))
  clear P5 HB5
  have X := Lib.hid hp
  clear hp ht hbb RN HMm HBB
  generalize w5.heap.size = q at *
  generalize hda : s.all.2 = da at *
  have HDA := Lib.hid hda
  clear hda
  go_wp2_with (with_reducible refine at_load_ (t := 57) ?_; refine get_at rfl _ rfl p rfl P7.out ?_)
  intro b1 b2 hm
  have HM := Lib.hid hm
  clear hm
  try simp only [Act.put, List.setIfInBounds_toArray, List.set_cons_zero, List.set_cons_succ]
  have X' := Lib.hid (X.out.more (S' := fun b => b ≠ q ∧ b ≠ w7.heap.size) fun b hb h => ⟨h, by omega⟩)
  clear X
  have hm := HM.out
  clear HM
  have HQO := Lib.hid (show q ≠ w7.heap.size from by have := X'.out.lt; omega)
  have HMn := Lib.hid (hm.more (S' := fun b => b ≠ w7.heap.size) fun b hb _ => by omega)
  clear hm
  have HZo := Lib.hid (show w.heap.size ≤ w7.heap.size from HB7.out.size)
  go_wp2_with (with_reducible refine at_alloc_ (t := 57) ?_; refine alloc_at (S := fun _ => False) rfl rfl ?_)
  intro w8 hp hb hz
  have RN := Lib.hid hp
  have HMm := Lib.hid (HMn.out.below hb)
  have HBB := Lib.hid hb
  clear hp hb hz HMn
  go_wp2_with (with_reducible refine at_store_ (t := 57) ?_; refine Hid.out ?_)
  refine Lib.hid ?_
  refine put_at rfl (.tmp 13) (.tmp 43) rfl rfl w7.heap.size rfl rfl RN.out HMm.out (fun h => h rfl) ?_
  intro w9 hp ht
  have hbb := ht.below HBB.out (Nat.le_refl _)
  have HB9 := Lib.hid (HB7.out.trans (hbb.mono HB7.out.size))
  have X9 := Lib.hid (X'.out.below hbb)
  clear HB7 X'
  have Z := Lib.hid hp
  clear hp ht hbb RN HMm HBB
  generalize w7.heap.size = o at *
  clear P7
  go_wp2
  go_loopw [14, 15] (fun v i wr => ∃ k : Nat, k ≤ cn ∧ i = .int .i64 k ∧ v = .int .i64 (partF s (turnL cn u k)).2 ∧ Hid ((partF s (turnL cn u k)).1.At wr (fun b => b ≠ o) o) ∧ Hid (s.all.1.At wr (fun b => b ≠ q ∧ b ≠ o) q) ∧ Hid (Below w.heap.size w wr)) (fun _ i _ => cn - (intOf i).toNat)
  case atStart => exact ⟨0, by omega, rfl, rfl, Z, X9, HB9⟩
  case round =>
    clear X9 Z HB9
    obtain ⟨k, hk, rfl, rfl, Z, X, HB⟩ := hrel
    by_cases hlt : k < cn
    · skip
      have hi : (k : Int) < 1 + r := by have := HCN.out; omega
      have HK := Lib.hid hlt
      have HSN := Lib.hid (turnL_snoc cn u k)
      have hz : ((k : Int) + u).tmod (1 + r) = ((k : Int) + u) % (cn : Int) := by rw [HCN.out]; exact tmod_pos (by omega) rfl
      have HCE := Lib.hid (partF_cells s (turnL cn u k) (((k : Int) + u) % (cn : Int)))
      rw [← HSN.out] at HCE
      obtain ⟨hok, hs0, hs1⟩ := HGd.out.part_ok (by have := HM40.out; omega) (turnL cn u k)
      obtain ⟨_, hs2, hs3⟩ := HGd.out.part_ok (by have := HM40.out; omega) (turnL cn u (k + 1))
      have hl1 : (turnL cn u k).length ≤ 6 := by unfold turnL; rw [List.length_map, List.length_range]; have := HC.out; omega
      have hl2 : (turnL cn u (k + 1)).length ≤ 6 := by unfold turnL; rw [List.length_map, List.length_range]; have := HC.out; omega
      have HOK := Lib.hid hok
      have hkk : (k : Int) ≤ 6 := by have := HC.out; omega
      generalize ((k : Int) + u) % (cn : Int) = z at *
      generalize hx : partF s (turnL cn u k) = x at *
      generalize hy : partF s (turnL cn u (k + 1)) = y at *
      obtain ⟨sx, dx⟩ := x
      obtain ⟨sy, dy⟩ := y
      dsimp only at *
      have HYE := Lib.hid hy
      have HE1 := Lib.hid HCE.out.1
      have HE2 := Lib.hid HCE.out.2
      have hb0 : 0 ≤ dx := hs0
      have hb1 : dx ≤ 6000000 := by omega
      have hb2 : -6000000 ≤ (sx.cells [z]).2 := by have := HCE.out.2; omega
      have hb3 : (sx.cells [z]).2 ≤ 6000000 := by have := HCE.out.2; omega
      clear hok hs0 hs1 hs2 hs3 hl1 hl2 hx hy HCE hlt hk
      go_wp2_with fail
      obtain ⟨c1, c2, p0, hm1⟩ := Z.out
      have HZM := Lib.hid hm1
      refine wp_region_held_drew (S := fun W => W.heap[o]? = some (.cells (stoCells sx.c sx.n (.map c1) (.map c2) sx.B sx.T) 57 (0, 0))) (by kernel_rfl) p0 (fun hHeld => ?_)
      have HHD := Lib.hid hHeld
      have hbd : Below wr.heap.size wr wr.drew := (Below.refl _ _).drew
      have XD := Lib.hid (X.out.below hbd)
      have HBD := Lib.hid (HB.out.trans (hbd.mono HB.out.size))
      have HMD := Lib.hid (HZM.out.below hbd)
      clear hHeld hbd p0 hm1 HZM X HB Z
      generalize wr.drew = wd at *
      refine wpAnyH_take (i := 0) (oi := ⟨some 50, _, _, _, _, _⟩) (v := sx.val c1 c2) rfl (by kernel_rfl) (by kernel_rfl) (by kernel_rfl) (fun _ _ _ h => h) (yields_sto (by rfl) _ rfl o rfl 57 (0, 0) (fun _ h => h)) HHD.out ?_
      try simp only [Act.put, List.setIfInBounds_toArray, List.set_cons_zero, List.set_cons_succ]
      refine wpAnyH_take (i := 1) (oi := ⟨some 51, _, _, _, _, _⟩) (v := .int .i64 k) rfl (by kernel_rfl) (by kernel_rfl) (by kernel_rfl) (fun _ _ _ h => h) (Or.inl ⟨by rfl, ?_⟩) HHD.out ?_
      · intro W' hW
        go_simp
      try simp only [Act.put, List.setIfInBounds_toArray, List.set_cons_zero, List.set_cons_succ]
      refine wpAnyH_take (i := 2) (oi := ⟨some 52, _, _, _, _, _⟩) (v := .int .u8 u) rfl (by kernel_rfl) (by kernel_rfl) (by kernel_rfl) (fun _ _ _ h => h) (Or.inl ⟨by rfl, ?_⟩) HHD.out ?_
      · intro W' hW
        go_simp
      try simp only [Act.put, List.setIfInBounds_toArray, List.set_cons_zero, List.set_cons_succ]
      refine wpAnyH_take (i := 3) (oi := ⟨some 53, _, _, _, _, _⟩) (v := .int .i64 u) rfl (by kernel_rfl) (by kernel_rfl) (by kernel_rfl) (fun _ _ _ h => h) (Or.inl ⟨by rfl, ?_⟩) HHD.out ?_
      · intro W' hW
        go_simp
        simp [IntKind.wrap, IntKind.bits, IntKind.signed]; omega
      try simp only [Act.put, List.setIfInBounds_toArray, List.set_cons_zero, List.set_cons_succ]
      refine wpAnyH_take (i := 4) (oi := ⟨some 54, _, _, _, _, _⟩) (v := .int .i64 ((k : Int) + u)) rfl (by kernel_rfl) (by kernel_rfl) (by kernel_rfl) (fun _ _ _ h => h) (Or.inl ⟨by rfl, ?_⟩) HHD.out ?_
      · intro W' hW
        go_simp
        simp [IntKind.wrap, IntKind.bits, IntKind.signed]; omega
      try simp only [Act.put, List.setIfInBounds_toArray, List.set_cons_zero, List.set_cons_succ]
      refine wpAnyH_take (i := 5) (oi := ⟨some 55, _, _, _, _, _⟩) (v := .int .i64 (1 + r)) rfl (by kernel_rfl) (by kernel_rfl) (by kernel_rfl) (fun _ _ _ h => h) (Or.inl ⟨by rfl, ?_⟩) HHD.out ?_
      · intro W' hW
        go_simp
      try simp only [Act.put, List.setIfInBounds_toArray, List.set_cons_zero, List.set_cons_succ]
      refine wpAnyH_take (i := 6) (oi := ⟨some 56, _, _, _, _, _⟩) (v := .int .i64 z) rfl (by kernel_rfl) (by kernel_rfl) (by kernel_rfl) (fun _ _ _ h => h) (Or.inl ⟨by rfl, ?_⟩) HHD.out ?_
      · intro W' hW
        go_simp
        omega
      try simp only [Act.put, List.setIfInBounds_toArray, List.set_cons_zero, List.set_cons_succ]
      refine wpAnyH_ready (rs := [7, 12]) (by kernel_rfl) (by simp) ?_
      refine AllReadyH.cons (o := ⟨some 57, _, _, _, _, _⟩) rfl (fun K hK => ?_) (AllReadyH.cons (o := ⟨some 16, _, _, _, _, _⟩) rfl (fun K hK => ?_) (AllReadyH.nil))
      · skip
        go_simp
        have hbb : Below wd.heap.size wd (wd.alloc (.cells #[.int .i64 z] 67)) := (Below.refl _ _).alloc (Nat.le_refl _) _
        have HI0 := Lib.hid (show Ints (wd.alloc (.cells #[.int .i64 z] 67)) (fun _ => True) (some ⟨wd.heap.size, 0, none⟩) 1 [z] from ⟨rfl, Reads.new wd #[.int .i64 z] 67 rfl trivial⟩)
        have HH1 := Lib.hid ((hbb.block o (lt_of_block HHD.out)).trans HHD.out)
        have X1 := Lib.hid (XD.out.below hbb)
        have HB1 := Lib.hid (HBD.out.trans (hbb.mono HBD.out.size))
        have HM1 := Lib.hid (HMD.out.below hbb)
        clear XD HBD HHD HMD
        clear hbb
        generalize wd.alloc (.cells #[.int .i64 z] 67) = wdb at *
        generalize wd.heap.size = ib at *
        refine hK.out _ _ HH1.out (fun hHeldq => ?_)
        clear hK hHeldq
        try simp only [Act.put, List.setIfInBounds_toArray, List.set_cons_zero, List.set_cons_succ]
        refine wpAnyH_ready (rs := [8, 12]) (by kernel_rfl) (by simp) ?_
        refine AllReadyH.cons (o := ⟨some 58, _, _, _, _, _⟩) rfl (fun K hK => ?_) (AllReadyH.cons (o := ⟨some 16, _, _, _, _, _⟩) rfl (fun K hK => ?_) (AllReadyH.nil))
        · skip
          go_simp
          refine (cells_any (S := fun b => b ≠ o) (some ⟨ib, 0, none⟩) 1 1 [z] wdb (fun b hb => by have := lt_of_block HH1.out; omega) HM1.out HOK.out HI0.out (by simp)).mono ?_
          rintro e wdbc ⟨b5, b6, rfl, hmy, hb⟩
          rw [HE1.out] at hmy ⊢
          have HH2 := Lib.hid ((hb.block o (lt_of_block HH1.out)).trans HH1.out)
          have X2 := Lib.hid (X1.out.below hb)
          have HB2 := Lib.hid (HB1.out.trans (hb.mono HB1.out.size))
          have HI2 := Lib.hid (HI0.out.below hb)
          clear X1 HB1 HH1 HI0
          have HMy0 := Lib.hid hmy
          clear hmy hb
          refine hK.out _ _ HH2.out (fun hHeldq => ?_)
          clear hK hHeldq
          try simp only [Act.put, List.setIfInBounds_toArray, List.set_cons_zero, List.set_cons_succ]
          refine wpAnyH_take (i := 9) (oi := ⟨some 49, _, _, _, _, _⟩) (v := .tuple #[sy.val b5 b6, .int .i64 (sx.cells [z]).2]) rfl (by kernel_rfl) (by kernel_rfl) (by kernel_rfl) (fun _ _ _ h => h) (Or.inl ⟨by rfl, ?_⟩) HH2.out ?_
          · intro W' hW
            go_simp
          try simp only [Act.put, List.setIfInBounds_toArray, List.set_cons_zero, List.set_cons_succ]
          refine wpAnyH_take (i := 10) (oi := ⟨some 59, _, _, _, _, _⟩) (v := sy.val b5 b6) rfl (by kernel_rfl) (by kernel_rfl) (by kernel_rfl) (fun _ _ _ h => h) (Or.inl ⟨by rfl, ?_⟩) HH2.out ?_
          · intro W' hW
            go_simp
          try simp only [Act.put, List.setIfInBounds_toArray, List.set_cons_zero, List.set_cons_succ]
          refine wpAnyH_take (i := 11) (oi := ⟨some 60, _, _, _, _, _⟩) (v := .int .i64 (sx.cells [z]).2) rfl (by kernel_rfl) (by kernel_rfl) (by kernel_rfl) (fun _ _ _ h => h) (Or.inl ⟨by rfl, ?_⟩) HH2.out ?_
          · intro W' hW
            go_simp
          try simp only [Act.put, List.setIfInBounds_toArray, List.set_cons_zero, List.set_cons_succ]
          refine wpAnyH_ready (rs := [12]) (by kernel_rfl) (by simp) ?_
          refine AllReadyH.cons (o := ⟨some 16, _, _, _, _, _⟩) rfl (fun K hK => ?_) (AllReadyH.nil)
          refine Eq.mpr (if_pos (by kernel_rfl)) ?_
          refine wp_alloc_at rfl ?_
          intro wdbca hp hb hz
          have HNV := Lib.hid (show q ≠ wdbc.heap.size ∧ o ≠ wdbc.heap.size from ⟨by have := X2.out.lt; omega, by have := lt_of_block HH2.out; omega⟩)
          have HNW := Lib.hid (show w.heap.size ≤ wdbc.heap.size from HB2.out.size)
          have Xn := Lib.hid (X2.out.more (S' := fun b => b ≠ q ∧ b ≠ o ∧ b ≠ wdbc.heap.size) fun b hb h => ⟨h.1, h.2, by omega⟩)
          clear X2
          have HMyn := Lib.hid (HMy0.out.more (S' := fun b => b ≠ o ∧ b ≠ wdbc.heap.size) fun b hb h => ⟨h, by omega⟩)
          clear HMy0
          have HH3 := Lib.hid ((hb.block o (lt_of_block HH2.out)).trans HH2.out)
          have X3 := Lib.hid (Xn.out.below hb)
          have HB3 := Lib.hid (HB2.out.trans (hb.mono HB2.out.size))
          have HI3 := Lib.hid (HI2.out.below hb)
          have HMy3 := Lib.hid (HMyn.out.below hb)
          clear Xn HB2 HH2 HI2 HMyn
          have RN0 := Lib.hid hp
          clear hp hb hz
          generalize wdbc.heap.size = nv at *
          refine hK.out _ _ HH3.out (fun hHeldq => ?_)
          clear hK hHeldq
          try simp only [Act.put, List.setIfInBounds_toArray, List.set_cons_zero, List.set_cons_succ]
          refine wpAnyH_ready (rs := [13]) (by kernel_rfl) (by simp) ?_
          refine AllReadyH.cons (o := ⟨none, _, _, _, _, _⟩) rfl (fun K hK => ?_) (AllReadyH.nil)
          refine Eq.mpr (if_pos (by kernel_rfl)) ?_
          refine wp_put_at (.tmp 16) (.tmp 59) rfl nv rfl rfl RN0.out HMy3.out (fun h => h.2 rfl) ?_
          intro wp hp ht
          have Y := Lib.hid hp
          have XP := Lib.hid ((ht.at X3.out HNV.out.1 (fun h => h.2.2 rfl)).more (S' := fun b => b ≠ q ∧ b ≠ o) fun b _ h => ⟨h.1, h.2.1⟩)
          have HBP := Lib.hid (ht.below HB3.out HNW.out)
          have HHP := Lib.hid ((ht.block HNV.out.2).trans HH3.out)
          refine hK.out _ _ HHP.out (fun hHeldq => ?_)
          clear hK hp ht hHeldq RN0 HMy3 X3 HB3 HH3
          try simp only [Act.put]
          refine wpAnyH_take (i := 14) (oi := ⟨some 17, _, _, _, _, _⟩) (v := .int .i64 (sx.cells [z]).2) rfl (by kernel_rfl) (by kernel_rfl) (by kernel_rfl) (fun _ _ _ h => h) (Or.inl ⟨by rfl, ?_⟩) HHP.out ?_
          · intro W' hW
            go_simp
          try simp only [Act.put, List.setIfInBounds_toArray, List.set_cons_zero, List.set_cons_succ]
          refine wpAnyH_done (by kernel_rfl) ?_ _
          skip
          generalize (sx.cells [z]).2 = dz at *
          go_wp2_with (with_reducible refine at_load_ (t := 57) ?_; refine get_at rfl _ rfl nv rfl Y.out ?_)
          intro b1 b2 hm
          have HM := Lib.hid hm
          clear hm
          try simp only [Act.put, List.setIfInBounds_toArray, List.set_cons_zero, List.set_cons_succ]
          go_wp2_with (with_reducible refine at_store_ (t := 57) ?_; refine Hid.out ?_)
          refine Lib.hid ?_
          refine put_row rfl (.tmp 13) (.tmp 61) rfl rfl o rfl rfl HHP.out HM.out (fun h => h.1 rfl) ?_
          intro wt hp ht
          have ZT := Lib.hid (hp.more (S' := fun b => b ≠ o) fun b _ h => h.1)
          have XT := Lib.hid (ht.at XP.out HQO.out (fun h => h.2 rfl))
          have HBT := Lib.hid (ht.below HBP.out HZo.out)
          clear hp ht HM XP HBP HHP Y
          go_wp2
          go_roundw
          case rel => exact ⟨k + 1, HK.out, by go_num, by rw [HYE.out, ← HE2.out], by rw [HYE.out]; exact ZT, XT, HBT⟩
          case measure => exact meas_up _ _ HK.out
        · skip
          refine Eq.mpr (if_pos (by kernel_rfl)) ?_
          refine wp_alloc_at rfl ?_
          intro wdba hp hb hz
          have HNV := Lib.hid (show q ≠ wdb.heap.size ∧ o ≠ wdb.heap.size from ⟨by have := X1.out.lt; omega, by have := lt_of_block HH1.out; omega⟩)
          have HNW := Lib.hid (show w.heap.size ≤ wdb.heap.size from HB1.out.size)
          have Xn := Lib.hid (X1.out.more (S' := fun b => b ≠ q ∧ b ≠ o ∧ b ≠ wdb.heap.size) fun b hb h => ⟨h.1, h.2, by omega⟩)
          clear X1
          have HMn := Lib.hid (HM1.out.more (S' := fun b => b ≠ o ∧ b ≠ wdb.heap.size) fun b hb h => ⟨h, by omega⟩)
          clear HM1
          have HH2 := Lib.hid ((hb.block o (lt_of_block HH1.out)).trans HH1.out)
          have X2 := Lib.hid (Xn.out.below hb)
          have HB2 := Lib.hid (HB1.out.trans (hb.mono HB1.out.size))
          have HM2 := Lib.hid (HMn.out.below hb)
          have HI2 := Lib.hid (HI0.out.below hb)
          clear Xn HB1 HH1 HMn HI0
          have RN0 := Lib.hid hp
          clear hp hb hz
          generalize wdb.heap.size = nv at *
          refine hK.out _ _ HH2.out (fun hHeldq => ?_)
          clear hK hHeldq
          try simp only [Act.put, List.setIfInBounds_toArray, List.set_cons_zero, List.set_cons_succ]
          refine wpAnyH_ready (rs := [8]) (by kernel_rfl) (by simp) ?_
          refine AllReadyH.cons (o := ⟨some 58, _, _, _, _, _⟩) rfl (fun K hK => ?_) (AllReadyH.nil)
          go_simp
          refine (cells_any (S := fun b => b ≠ o ∧ b ≠ nv) (some ⟨ib, 0, none⟩) 1 1 [z] wdba (fun b hb => ⟨by have := lt_of_block HH2.out; omega, by have := RN0.out.lt; omega⟩) HM2.out HOK.out HI2.out (by simp)).mono ?_
          rintro e wdbac ⟨b5, b6, rfl, hmy, hb⟩
          rw [HE1.out] at hmy ⊢
          have HH3 := Lib.hid ((hb.block o (lt_of_block HH2.out)).trans HH2.out)
          have X3 := Lib.hid (X2.out.below hb)
          have HB3 := Lib.hid (HB2.out.trans (hb.mono HB2.out.size))
          have RN3 := Lib.hid (RN0.out.below hb)
          have HI3 := Lib.hid (HI2.out.below hb)
          clear X2 HB2 HH2 RN0 HI2
          have HMy0 := Lib.hid hmy
          clear hmy hb
          refine hK.out _ _ HH3.out (fun hHeldq => ?_)
          clear hK hHeldq
          try simp only [Act.put, List.setIfInBounds_toArray, List.set_cons_zero, List.set_cons_succ]
          refine wpAnyH_take (i := 9) (oi := ⟨some 49, _, _, _, _, _⟩) (v := .tuple #[sy.val b5 b6, .int .i64 (sx.cells [z]).2]) rfl (by kernel_rfl) (by kernel_rfl) (by kernel_rfl) (fun _ _ _ h => h) (Or.inl ⟨by rfl, ?_⟩) HH3.out ?_
          · intro W' hW
            go_simp
          try simp only [Act.put, List.setIfInBounds_toArray, List.set_cons_zero, List.set_cons_succ]
          refine wpAnyH_take (i := 10) (oi := ⟨some 59, _, _, _, _, _⟩) (v := sy.val b5 b6) rfl (by kernel_rfl) (by kernel_rfl) (by kernel_rfl) (fun _ _ _ h => h) (Or.inl ⟨by rfl, ?_⟩) HH3.out ?_
          · intro W' hW
            go_simp
          try simp only [Act.put, List.setIfInBounds_toArray, List.set_cons_zero, List.set_cons_succ]
          refine wpAnyH_take (i := 11) (oi := ⟨some 60, _, _, _, _, _⟩) (v := .int .i64 (sx.cells [z]).2) rfl (by kernel_rfl) (by kernel_rfl) (by kernel_rfl) (fun _ _ _ h => h) (Or.inl ⟨by rfl, ?_⟩) HH3.out ?_
          · intro W' hW
            go_simp
          try simp only [Act.put, List.setIfInBounds_toArray, List.set_cons_zero, List.set_cons_succ]
          refine wpAnyH_ready (rs := [13]) (by kernel_rfl) (by simp) ?_
          refine AllReadyH.cons (o := ⟨none, _, _, _, _, _⟩) rfl (fun K hK => ?_) (AllReadyH.nil)
          refine Eq.mpr (if_pos (by kernel_rfl)) ?_
          refine wp_put_at (.tmp 16) (.tmp 59) rfl nv rfl rfl RN3.out HMy0.out (fun h => h.2 rfl) ?_
          intro wp hp ht
          have Y := Lib.hid hp
          have XP := Lib.hid ((ht.at X3.out HNV.out.1 (fun h => h.2.2 rfl)).more (S' := fun b => b ≠ q ∧ b ≠ o) fun b _ h => ⟨h.1, h.2.1⟩)
          have HBP := Lib.hid (ht.below HB3.out HNW.out)
          have HHP := Lib.hid ((ht.block HNV.out.2).trans HH3.out)
          refine hK.out _ _ HHP.out (fun hHeldq => ?_)
          clear hK hp ht hHeldq RN3 HMy0 X3 HB3 HH3
          try simp only [Act.put]
          refine wpAnyH_take (i := 14) (oi := ⟨some 17, _, _, _, _, _⟩) (v := .int .i64 (sx.cells [z]).2) rfl (by kernel_rfl) (by kernel_rfl) (by kernel_rfl) (fun _ _ _ h => h) (Or.inl ⟨by rfl, ?_⟩) HHP.out ?_
          · intro W' hW
            go_simp
          try simp only [Act.put, List.setIfInBounds_toArray, List.set_cons_zero, List.set_cons_succ]
          refine wpAnyH_done (by kernel_rfl) ?_ _
          skip
          generalize (sx.cells [z]).2 = dz at *
          go_wp2_with (with_reducible refine at_load_ (t := 57) ?_; refine get_at rfl _ rfl nv rfl Y.out ?_)
          intro b1 b2 hm
          have HM := Lib.hid hm
          clear hm
          try simp only [Act.put, List.setIfInBounds_toArray, List.set_cons_zero, List.set_cons_succ]
          go_wp2_with (with_reducible refine at_store_ (t := 57) ?_; refine Hid.out ?_)
          refine Lib.hid ?_
          refine put_row rfl (.tmp 13) (.tmp 61) rfl rfl o rfl rfl HHP.out HM.out (fun h => h.1 rfl) ?_
          intro wt hp ht
          have ZT := Lib.hid (hp.more (S' := fun b => b ≠ o) fun b _ h => h.1)
          have XT := Lib.hid (ht.at XP.out HQO.out (fun h => h.2 rfl))
          have HBT := Lib.hid (ht.below HBP.out HZo.out)
          clear hp ht HM XP HBP HHP Y
          go_wp2
          go_roundw
          case rel => exact ⟨k + 1, HK.out, by go_num, by rw [HYE.out, ← HE2.out], by rw [HYE.out]; exact ZT, XT, HBT⟩
          case measure => exact meas_up _ _ HK.out
      · skip
        refine Eq.mpr (if_pos (by kernel_rfl)) ?_
        refine wp_alloc_at rfl ?_
        intro wda hp hb hz
        have HNV := Lib.hid (show q ≠ wd.heap.size ∧ o ≠ wd.heap.size from ⟨by have := XD.out.lt; omega, by have := lt_of_block HHD.out; omega⟩)
        have HNW := Lib.hid (show w.heap.size ≤ wd.heap.size from HBD.out.size)
        have Xn := Lib.hid (XD.out.more (S' := fun b => b ≠ q ∧ b ≠ o ∧ b ≠ wd.heap.size) fun b hb h => ⟨h.1, h.2, by omega⟩)
        clear XD
        have HMn := Lib.hid (HMD.out.more (S' := fun b => b ≠ o ∧ b ≠ wd.heap.size) fun b hb h => ⟨h, by omega⟩)
        clear HMD
        have HH1 := Lib.hid ((hb.block o (lt_of_block HHD.out)).trans HHD.out)
        have X1 := Lib.hid (Xn.out.below hb)
        have HB1 := Lib.hid (HBD.out.trans (hb.mono HBD.out.size))
        have HM1 := Lib.hid (HMn.out.below hb)
        clear Xn HBD HHD HMn
        have RN0 := Lib.hid hp
        clear hp hb hz
        generalize wd.heap.size = nv at *
        refine hK.out _ _ HH1.out (fun hHeldq => ?_)
        clear hK hHeldq
        try simp only [Act.put, List.setIfInBounds_toArray, List.set_cons_zero, List.set_cons_succ]
        refine wpAnyH_ready (rs := [7]) (by kernel_rfl) (by simp) ?_
        refine AllReadyH.cons (o := ⟨some 57, _, _, _, _, _⟩) rfl (fun K hK => ?_) (AllReadyH.nil)
        go_simp
        have hbb : Below wda.heap.size wda (wda.alloc (.cells #[.int .i64 z] 67)) := (Below.refl _ _).alloc (Nat.le_refl _) _
        have HI0 := Lib.hid (show Ints (wda.alloc (.cells #[.int .i64 z] 67)) (fun _ => True) (some ⟨wda.heap.size, 0, none⟩) 1 [z] from ⟨rfl, Reads.new wda #[.int .i64 z] 67 rfl trivial⟩)
        have HH2 := Lib.hid ((hbb.block o (lt_of_block HH1.out)).trans HH1.out)
        have X2 := Lib.hid (X1.out.below hbb)
        have HB2 := Lib.hid (HB1.out.trans (hbb.mono HB1.out.size))
        have HM2 := Lib.hid (HM1.out.below hbb)
        have RN2 := Lib.hid (RN0.out.below hbb)
        clear X1 HB1 HH1 HM1 RN0
        clear hbb
        generalize wda.alloc (.cells #[.int .i64 z] 67) = wdab at *
        generalize wda.heap.size = ib at *
        refine hK.out _ _ HH2.out (fun hHeldq => ?_)
        clear hK hHeldq
        try simp only [Act.put, List.setIfInBounds_toArray, List.set_cons_zero, List.set_cons_succ]
        refine wpAnyH_ready (rs := [8]) (by kernel_rfl) (by simp) ?_
        refine AllReadyH.cons (o := ⟨some 58, _, _, _, _, _⟩) rfl (fun K hK => ?_) (AllReadyH.nil)
        go_simp
        refine (cells_any (S := fun b => b ≠ o ∧ b ≠ nv) (some ⟨ib, 0, none⟩) 1 1 [z] wdab (fun b hb => ⟨by have := lt_of_block HH2.out; omega, by have := RN2.out.lt; omega⟩) HM2.out HOK.out HI0.out (by simp)).mono ?_
        rintro e wdabc ⟨b5, b6, rfl, hmy, hb⟩
        rw [HE1.out] at hmy ⊢
        have HH3 := Lib.hid ((hb.block o (lt_of_block HH2.out)).trans HH2.out)
        have X3 := Lib.hid (X2.out.below hb)
        have HB3 := Lib.hid (HB2.out.trans (hb.mono HB2.out.size))
        have RN3 := Lib.hid (RN2.out.below hb)
        have HI3 := Lib.hid (HI0.out.below hb)
        clear X2 HB2 HH2 RN2 HI0
        have HMy0 := Lib.hid hmy
        clear hmy hb
        refine hK.out _ _ HH3.out (fun hHeldq => ?_)
        clear hK hHeldq
        try simp only [Act.put, List.setIfInBounds_toArray, List.set_cons_zero, List.set_cons_succ]
        refine wpAnyH_take (i := 9) (oi := ⟨some 49, _, _, _, _, _⟩) (v := .tuple #[sy.val b5 b6, .int .i64 (sx.cells [z]).2]) rfl (by kernel_rfl) (by kernel_rfl) (by kernel_rfl) (fun _ _ _ h => h) (Or.inl ⟨by rfl, ?_⟩) HH3.out ?_
        · intro W' hW
          go_simp
        try simp only [Act.put, List.setIfInBounds_toArray, List.set_cons_zero, List.set_cons_succ]
        refine wpAnyH_take (i := 10) (oi := ⟨some 59, _, _, _, _, _⟩) (v := sy.val b5 b6) rfl (by kernel_rfl) (by kernel_rfl) (by kernel_rfl) (fun _ _ _ h => h) (Or.inl ⟨by rfl, ?_⟩) HH3.out ?_
        · intro W' hW
          go_simp
        try simp only [Act.put, List.setIfInBounds_toArray, List.set_cons_zero, List.set_cons_succ]
        refine wpAnyH_take (i := 11) (oi := ⟨some 60, _, _, _, _, _⟩) (v := .int .i64 (sx.cells [z]).2) rfl (by kernel_rfl) (by kernel_rfl) (by kernel_rfl) (fun _ _ _ h => h) (Or.inl ⟨by rfl, ?_⟩) HH3.out ?_
        · intro W' hW
          go_simp
        try simp only [Act.put, List.setIfInBounds_toArray, List.set_cons_zero, List.set_cons_succ]
        refine wpAnyH_ready (rs := [13]) (by kernel_rfl) (by simp) ?_
        refine AllReadyH.cons (o := ⟨none, _, _, _, _, _⟩) rfl (fun K hK => ?_) (AllReadyH.nil)
        refine Eq.mpr (if_pos (by kernel_rfl)) ?_
        refine wp_put_at (.tmp 16) (.tmp 59) rfl nv rfl rfl RN3.out HMy0.out (fun h => h.2 rfl) ?_
        intro wp hp ht
        have Y := Lib.hid hp
        have XP := Lib.hid ((ht.at X3.out HNV.out.1 (fun h => h.2.2 rfl)).more (S' := fun b => b ≠ q ∧ b ≠ o) fun b _ h => ⟨h.1, h.2.1⟩)
        have HBP := Lib.hid (ht.below HB3.out HNW.out)
        have HHP := Lib.hid ((ht.block HNV.out.2).trans HH3.out)
        refine hK.out _ _ HHP.out (fun hHeldq => ?_)
        clear hK hp ht hHeldq RN3 HMy0 X3 HB3 HH3
        try simp only [Act.put]
        refine wpAnyH_take (i := 14) (oi := ⟨some 17, _, _, _, _, _⟩) (v := .int .i64 (sx.cells [z]).2) rfl (by kernel_rfl) (by kernel_rfl) (by kernel_rfl) (fun _ _ _ h => h) (Or.inl ⟨by rfl, ?_⟩) HHP.out ?_
        · intro W' hW
          go_simp
        try simp only [Act.put, List.setIfInBounds_toArray, List.set_cons_zero, List.set_cons_succ]
        refine wpAnyH_done (by kernel_rfl) ?_ _
        skip
        generalize (sx.cells [z]).2 = dz at *
        go_wp2_with (with_reducible refine at_load_ (t := 57) ?_; refine get_at rfl _ rfl nv rfl Y.out ?_)
        intro b1 b2 hm
        have HM := Lib.hid hm
        clear hm
        try simp only [Act.put, List.setIfInBounds_toArray, List.set_cons_zero, List.set_cons_succ]
        go_wp2_with (with_reducible refine at_store_ (t := 57) ?_; refine Hid.out ?_)
        refine Lib.hid ?_
        refine put_row rfl (.tmp 13) (.tmp 61) rfl rfl o rfl rfl HHP.out HM.out (fun h => h.1 rfl) ?_
        intro wt hp ht
        have ZT := Lib.hid (hp.more (S' := fun b => b ≠ o) fun b _ h => h.1)
        have XT := Lib.hid (ht.at XP.out HQO.out (fun h => h.2 rfl))
        have HBT := Lib.hid (ht.below HBP.out HZo.out)
        clear hp ht HM XP HBP HHP Y
        go_wp2
        go_roundw
        case rel => exact ⟨k + 1, HK.out, by go_num, by rw [HYE.out, ← HE2.out], by rw [HYE.out]; exact ZT, XT, HBT⟩
        case measure => exact meas_up _ _ HK.out
    · skip
      obtain rfl : k = cn := by omega
      have hi : 1 + r ≤ (k : Int) := by have := HCN.out; omega
      obtain ⟨pL, pK, pD⟩ := HGd.out.part_all HC.out.2 u
      obtain ⟨hokx, _, _⟩ := HGd.out.part_ok (by have := HM40.out; omega) (turnL k u k)
      have hoka := all_ok (HGd.out.okS (by have := HM40.out; omega))
      have hdx := pD.trans HDA.out
      clear pD HDA
      generalize partF s (turnL k u k) = y at *
      generalize s.all = z at *
      obtain ⟨sx, dx⟩ := y
      obtain ⟨sa, da'⟩ := z
      dsimp only at pL pK hokx hoka hdx Z X ⊢
      subst hdx
      have HOKA := Lib.hid hoka
      have HOKX := Lib.hid hokx
      have PL := Lib.hid pL
      have PK := Lib.hid pK
      clear hlt hk pL pK hokx hoka
      go_wp2_with fail
      obtain ⟨c1, c2, p0, hm1⟩ := Z.out
      obtain ⟨d1, d2, p1, hm2⟩ := X.out
      have HM1 := Lib.hid (hm1.more (S' := fun _ => True) fun _ _ _ => trivial)
      have HM2 := Lib.hid (hm2.more (S' := fun _ => True) fun _ _ _ => trivial)
      refine wp_region_held_drew (S := fun W => W.heap[o]? = some (.cells (stoCells sx.c sx.n (.map c1) (.map c2) sx.B sx.T) 57 (0, 0)) ∧ W.heap[q]? = some (.cells (stoCells sa.c sa.n (.map d1) (.map d2) sa.B sa.T) 57 (0, 0))) (by kernel_rfl) ⟨p0, p1⟩ (fun hHeld => ?_)
      have HHD := Lib.hid hHeld
      have hbd : Below wr.heap.size wr wr.drew := (Below.refl _ _).drew
      have Zd := Lib.hid (Z.out.below hbd)
      have Xd := Lib.hid (X.out.below hbd)
      have HBd := Lib.hid (HB.out.trans (hbd.mono HB.out.size))
      have M1d := Lib.hid (HM1.out.below hbd)
      have M2d := Lib.hid (HM2.out.below hbd)
      clear Z X HB HM1 HM2
      clear hHeld hbd p0 p1 hm1 hm2
      generalize wr.drew = wd at *
      refine wpAnyH_take (i := 0) (oi := ⟨some 65, _, _, _, _, _⟩) (v := .int .i64 dx) rfl (by kernel_rfl) (by kernel_rfl) (by kernel_rfl) (fun _ _ _ h => h) (Or.inl ⟨by rfl, ?_⟩) HHD.out ?_
      · intro W' hW
        go_simp
      try simp only [Act.put, List.setIfInBounds_toArray, List.set_cons_zero, List.set_cons_succ]
      refine wpAnyH_take (i := 1) (oi := ⟨some 66, _, _, _, _, _⟩) (v := .int .i64 dx) rfl (by kernel_rfl) (by kernel_rfl) (by kernel_rfl) (fun _ _ _ h => h) (Or.inl ⟨by rfl, ?_⟩) HHD.out ?_
      · intro W' hW
        go_simp
      try simp only [Act.put, List.setIfInBounds_toArray, List.set_cons_zero, List.set_cons_succ]
      refine wpAnyH_take (i := 2) (oi := ⟨some 67, _, _, _, _, _⟩) (v := .bool false) rfl (by kernel_rfl) (by kernel_rfl) (by kernel_rfl) (fun _ _ _ h => h) (Or.inl ⟨by rfl, ?_⟩) HHD.out ?_
      · intro W' hW
        go_simp
      try simp only [Act.put, List.setIfInBounds_toArray, List.set_cons_zero, List.set_cons_succ]
      refine wpAnyH_take (i := 3) (oi := ⟨some 68, _, _, _, _, _⟩) (v := .bool false) rfl (by kernel_rfl) (by kernel_rfl) (by kernel_rfl) (fun _ _ _ h => h) (Or.inl ⟨by rfl, ?_⟩) HHD.out ?_
      · intro W' hW
        go_simp
      try simp only [Act.put, List.setIfInBounds_toArray, List.set_cons_zero, List.set_cons_succ]
      refine wpAnyH_take (i := 4) (oi := ⟨some 69, _, _, _, _, _⟩) (v := sx.val c1 c2) rfl (by kernel_rfl) (by kernel_rfl) (by kernel_rfl) (fun _ _ _ h => h) (yields_sto (by kernel_rfl) _ rfl o rfl 57 (0, 0) (fun _ h => h.1)) HHD.out ?_
      try simp only [Act.put, List.setIfInBounds_toArray, List.set_cons_zero, List.set_cons_succ]
      refine wpAnyH_take (i := 6) (oi := ⟨some 71, _, _, _, _, _⟩) (v := sa.val d1 d2) rfl (by kernel_rfl) (by kernel_rfl) (by kernel_rfl) (fun _ _ _ h => h) (yields_sto (by kernel_rfl) _ rfl q rfl 57 (0, 0) (fun _ h => h.2)) HHD.out ?_
      try simp only [Act.put, List.setIfInBounds_toArray, List.set_cons_zero, List.set_cons_succ]
      generalize hkv : sa.keptN 2048 = kv at *
      have HKV := Lib.hid hkv
      clear hkv
      refine wpAnyH_ready (rs := [5]) (by kernel_rfl) (by simp) ?_
      refine AllReadyH.cons (o := ⟨some 70, _, _, _, _, _⟩) rfl (fun K hK => ?_) (AllReadyH.nil)
      go_simp
      refine (kept_any (S := fun _ => True) wd (fun _ _ => trivial) M1d.out HOKX.out.2).mono ?_
      rintro e we ⟨he, hb⟩
      rw [PK.out] at he
      subst he
      have HHE := Lib.hid (And.intro ((hb.block o (lt_of_block HHD.out.1)).trans HHD.out.1) ((hb.block q (lt_of_block HHD.out.2)).trans HHD.out.2))
      have Ze := Lib.hid (Zd.out.below hb)
      have Xe := Lib.hid (Xd.out.below hb)
      have HBe := Lib.hid (HBd.out.trans (hb.mono HBd.out.size))
      have M1e := Lib.hid (M1d.out.below hb)
      have M2e := Lib.hid (M2d.out.below hb)
      clear Zd Xd HBd M1d M2d HHD
      clear hb
      refine hK.out _ _ HHE.out (fun hHeldq => ?_)
      clear hK hHeldq
      try simp only [Act.put, List.setIfInBounds_toArray, List.set_cons_zero, List.set_cons_succ]
      refine wpAnyH_ready (rs := [7]) (by kernel_rfl) (by simp) ?_
      refine AllReadyH.cons (o := ⟨some 72, _, _, _, _, _⟩) rfl (fun K hK => ?_) (AllReadyH.nil)
      go_simp
      refine (kept_any (S := fun _ => True) we (fun _ _ => trivial) M2e.out HOKA.out.2).mono ?_
      rintro e wf ⟨he, hb⟩
      rw [HKV.out] at he
      subst he
      have HHF := Lib.hid (And.intro ((hb.block o (lt_of_block HHE.out.1)).trans HHE.out.1) ((hb.block q (lt_of_block HHE.out.2)).trans HHE.out.2))
      have Zf := Lib.hid (Ze.out.below hb)
      have Xf := Lib.hid (Xe.out.below hb)
      have HBf := Lib.hid (HBe.out.trans (hb.mono HBe.out.size))
      have M1f := Lib.hid (M1e.out.below hb)
      have M2f := Lib.hid (M2e.out.below hb)
      clear Ze Xe HBe M1e M2e HHE
      clear hb
      refine hK.out _ _ HHF.out (fun hHeldq => ?_)
      clear hK hHeldq
      try simp only [Act.put, List.setIfInBounds_toArray, List.set_cons_zero, List.set_cons_succ]
      refine wpAnyH_take (i := 8) (oi := ⟨some 73, _, _, _, _, _⟩) (v := .bool false) rfl (by kernel_rfl) (by kernel_rfl) (by kernel_rfl) (fun _ _ _ h => h) (Or.inl ⟨by rfl, ?_⟩) HHF.out ?_
      · intro W' hW
        go_simp
      try simp only [Act.put, List.setIfInBounds_toArray, List.set_cons_zero, List.set_cons_succ]
      refine wpAnyH_take (i := 9) (oi := ⟨some 74, _, _, _, _, _⟩) (v := .bool false) rfl (by kernel_rfl) (by kernel_rfl) (by kernel_rfl) (fun _ _ _ h => h) (Or.inl ⟨by rfl, ?_⟩) HHF.out ?_
      · intro W' hW
        go_simp
      try simp only [Act.put, List.setIfInBounds_toArray, List.set_cons_zero, List.set_cons_succ]
      refine wpAnyH_done (by kernel_rfl) ?_ _
      clear HHF M1f M2f
      go_wp2
      go_loopw [18] (fun i wr => ∃ j : Nat, j ≤ k ∧ i = .int .i64 j ∧ Hid (sx.At wr (fun b => b ≠ o) o) ∧ Hid (sa.At wr (fun b => b ≠ q ∧ b ≠ o) q) ∧ Hid (Below w.heap.size w wr)) (fun i _ => k - (intOf i).toNat)
      case atStart => exact ⟨0, by omega, rfl, Zf, Xf, HBf⟩
      case round =>
        clear Zf Xf HBf
        obtain ⟨j, hj, rfl, Z, X, HB⟩ := hrel
        by_cases hjk : j < k
        · skip
          have hji : (j : Int) < 1 + r := by have := HCN.out; omega
          have HJ := Lib.hid hjk
          clear hj hjk
          go_wp2_with fail
          obtain ⟨c1, c2, p0, hm1⟩ := Z.out
          obtain ⟨d1, d2, p1, hm2⟩ := X.out
          have HM1 := Lib.hid (hm1.more (S' := fun _ => True) fun _ _ _ => trivial)
          have HM2 := Lib.hid (hm2.more (S' := fun _ => True) fun _ _ _ => trivial)
          refine wp_region_held_drew (S := fun W => W.heap[o]? = some (.cells (stoCells sx.c sx.n (.map c1) (.map c2) sx.B sx.T) 57 (0, 0)) ∧ W.heap[q]? = some (.cells (stoCells sa.c sa.n (.map d1) (.map d2) sa.B sa.T) 57 (0, 0))) (by kernel_rfl) ⟨p0, p1⟩ (fun hHeld => ?_)
          have HHD := Lib.hid hHeld
          have hbd : Below wr.heap.size wr wr.drew := (Below.refl _ _).drew
          have Zd := Lib.hid (Z.out.below hbd)
          have Xd := Lib.hid (X.out.below hbd)
          have HBd := Lib.hid (HB.out.trans (hbd.mono HB.out.size))
          have M1d := Lib.hid (HM1.out.below hbd)
          have M2d := Lib.hid (HM2.out.below hbd)
          clear Z X HB HM1 HM2
          clear hHeld hbd p0 p1 hm1 hm2
          generalize wr.drew = wd at *
          refine wpAnyH_take (i := 0) (oi := ⟨some 80, _, _, _, _, _⟩) (v := sx.val c1 c2) rfl (by kernel_rfl) (by kernel_rfl) (by kernel_rfl) (fun _ _ _ h => h) (yields_sto (by rfl) _ rfl o rfl 57 (0, 0) (fun _ h => h.1)) HHD.out ?_
          try simp only [Act.put, List.setIfInBounds_toArray, List.set_cons_zero, List.set_cons_succ]
          refine wpAnyH_take (i := 1) (oi := ⟨some 81, _, _, _, _, _⟩) (v := .int .i64 j) rfl (by kernel_rfl) (by kernel_rfl) (by kernel_rfl) (fun _ _ _ h => h) (Or.inl ⟨by rfl, ?_⟩) HHD.out ?_
          · intro W' hW
            go_simp
          try simp only [Act.put, List.setIfInBounds_toArray, List.set_cons_zero, List.set_cons_succ]
          refine wpAnyH_take (i := 4) (oi := ⟨some 84, _, _, _, _, _⟩) (v := sa.val d1 d2) rfl (by kernel_rfl) (by kernel_rfl) (by kernel_rfl) (fun _ _ _ h => h) (yields_sto (by rfl) _ rfl q rfl 57 (0, 0) (fun _ h => h.2)) HHD.out ?_
          try simp only [Act.put, List.setIfInBounds_toArray, List.set_cons_zero, List.set_cons_succ]
          refine wpAnyH_take (i := 5) (oi := ⟨some 85, _, _, _, _, _⟩) (v := .int .i64 j) rfl (by kernel_rfl) (by kernel_rfl) (by kernel_rfl) (fun _ _ _ h => h) (Or.inl ⟨by rfl, ?_⟩) HHD.out ?_
          · intro W' hW
            go_simp
          try simp only [Act.put, List.setIfInBounds_toArray, List.set_cons_zero, List.set_cons_succ]
          refine wpAnyH_ready (rs := [2]) (by kernel_rfl) (by simp) ?_
          refine AllReadyH.cons (o := ⟨some 82, _, _, _, _, _⟩) rfl (fun K hK => ?_) (AllReadyH.nil)
          go_simp
          refine (st_list (S := fun _ => True) (s := sx) (j : Int) (fun _ _ => trivial) M1d.out).mono ?_
          rintro e we ⟨u0, rfl, ⟨xA, xn, xc, rfl, hc1, hc2, hv⟩, hb⟩
          rw [PL.out] at hv
          have HHE := Lib.hid (And.intro ((hb.block o (lt_of_block HHD.out.1)).trans HHD.out.1) ((hb.block q (lt_of_block HHD.out.2)).trans HHD.out.2))
          have Ze := Lib.hid (Zd.out.below hb)
          have Xe := Lib.hid (Xd.out.below hb)
          have HBe := Lib.hid (HBd.out.trans (hb.mono HBd.out.size))
          have M1e := Lib.hid (M1d.out.below hb)
          have M2e := Lib.hid (M2d.out.below hb)
          clear Zd Xd HBd M1d M2d HHD
          have xV := Lib.hid hv
          clear hb hv hc1 hc2
          refine hK.out _ _ HHE.out (fun hHeldq => ?_)
          clear hK hHeldq
          try simp only [Act.put, List.setIfInBounds_toArray, List.set_cons_zero, List.set_cons_succ]
          refine wpAnyH_ready (rs := [3]) (by kernel_rfl) (by simp) ?_
          refine AllReadyH.cons (o := ⟨some 83, _, _, _, _, _⟩) rfl (fun K hK => ?_) (AllReadyH.nil)
          go_simp
          refine (stamps_any xA xn xc (sa.L j) we xV.out (Nat.le_trans (HOKA.out.2 j) (by omega))).mono ?_
          rintro e wf ⟨v, rfl, ho, hb⟩
          obtain ⟨xB, xd, rfl, g1, g2, g3⟩ := own_reads ho (S := fun _ => True) (fun b hb => trivial)
          have xN := Lib.hid xV.out.1
          have HHF := Lib.hid (And.intro ((hb.block o (lt_of_block HHE.out.1)).trans HHE.out.1) ((hb.block q (lt_of_block HHE.out.2)).trans HHE.out.2))
          have Zf := Lib.hid (Ze.out.below hb)
          have Xf := Lib.hid (Xe.out.below hb)
          have HBf := Lib.hid (HBe.out.trans (hb.mono HBe.out.size))
          have M1f := Lib.hid (M1e.out.below hb)
          have M2f := Lib.hid (M2e.out.below hb)
          have xVf := Lib.hid (xV.out.below hb)
          clear Ze Xe HBe M1e M2e xV HHE
          have xR := Lib.hid g3
          clear hb ho g1 g2 g3 xVf
          refine hK.out _ _ HHF.out (fun hHeldq => ?_)
          clear hK hHeldq
          try simp only [Act.put, List.setIfInBounds_toArray, List.set_cons_zero, List.set_cons_succ]
          refine wpAnyH_ready (rs := [6]) (by kernel_rfl) (by simp) ?_
          refine AllReadyH.cons (o := ⟨some 86, _, _, _, _, _⟩) rfl (fun K hK => ?_) (AllReadyH.nil)
          go_simp
          refine (st_list (S := fun _ => True) (s := sa) (j : Int) (fun _ _ => trivial) M2f.out).mono ?_
          rintro e wg ⟨u0, rfl, ⟨yA, yn, yc, rfl, hc1, hc2, hv⟩, hb⟩
          have HHG := Lib.hid (And.intro ((hb.block o (lt_of_block HHF.out.1)).trans HHF.out.1) ((hb.block q (lt_of_block HHF.out.2)).trans HHF.out.2))
          have Zg := Lib.hid (Zf.out.below hb)
          have Xg := Lib.hid (Xf.out.below hb)
          have HBg := Lib.hid (HBf.out.trans (hb.mono HBf.out.size))
          have M1g := Lib.hid (M1f.out.below hb)
          have M2g := Lib.hid (M2f.out.below hb)
          have xRg := Lib.hid (xR.out.below hb)
          clear Zf Xf HBf M1f M2f xR HHF
          have yV := Lib.hid hv
          clear hb hv hc1 hc2
          refine hK.out _ _ HHG.out (fun hHeldq => ?_)
          clear hK hHeldq
          try simp only [Act.put, List.setIfInBounds_toArray, List.set_cons_zero, List.set_cons_succ]
          refine wpAnyH_ready (rs := [7]) (by kernel_rfl) (by simp) ?_
          refine AllReadyH.cons (o := ⟨some 87, _, _, _, _, _⟩) rfl (fun K hK => ?_) (AllReadyH.nil)
          go_simp
          refine (stamps_any yA yn yc (sa.L j) wg yV.out (Nat.le_trans (HOKA.out.2 j) (by omega))).mono ?_
          rintro e wh ⟨v, rfl, ho, hb⟩
          obtain ⟨yB, yd, rfl, g1, g2, g3⟩ := own_reads ho (S := fun _ => True) (fun b hb => trivial)
          have yN := Lib.hid yV.out.1
          have HHH := Lib.hid (And.intro ((hb.block o (lt_of_block HHG.out.1)).trans HHG.out.1) ((hb.block q (lt_of_block HHG.out.2)).trans HHG.out.2))
          have Zh := Lib.hid (Zg.out.below hb)
          have Xh := Lib.hid (Xg.out.below hb)
          have HBh := Lib.hid (HBg.out.trans (hb.mono HBg.out.size))
          have M1h := Lib.hid (M1g.out.below hb)
          have M2h := Lib.hid (M2g.out.below hb)
          have xRh := Lib.hid (xRg.out.below hb)
          have yVh := Lib.hid (yV.out.below hb)
          clear Zg Xg HBg M1g M2g xRg yV HHG
          have yR := Lib.hid g3
          clear hb ho g1 g2 g3 yVh
          refine hK.out _ _ HHH.out (fun hHeldq => ?_)
          clear hK hHeldq
          try simp only [Act.put, List.setIfInBounds_toArray, List.set_cons_zero, List.set_cons_succ]
          refine wpAnyH_take (i := 8) (oi := ⟨some 19, _, _, _, _, _⟩) (v := .slice xB xn xd) rfl (by kernel_rfl) (by kernel_rfl) (by kernel_rfl) (fun _ _ _ h => h) (Or.inl ⟨by rfl, ?_⟩) HHH.out ?_
          · intro W' hW
            go_simp
          try simp only [Act.put, List.setIfInBounds_toArray, List.set_cons_zero, List.set_cons_succ]
          refine wpAnyH_take (i := 9) (oi := ⟨some 20, _, _, _, _, _⟩) (v := .slice yB yn yd) rfl (by kernel_rfl) (by kernel_rfl) (by kernel_rfl) (fun _ _ _ h => h) (Or.inl ⟨by rfl, ?_⟩) HHH.out ?_
          · intro W' hW
            go_simp
          try simp only [Act.put, List.setIfInBounds_toArray, List.set_cons_zero, List.set_cons_succ]
          refine wpAnyH_done (by kernel_rfl) ?_ _
          clear HHH M1h M2h
          obtain rfl : xn = yn := by rw [xN.out, yN.out]
          have hxn : (xn : Int) ≤ 1000000 := by have := xN.out; have := HOKA.out.2 j; omega
          go_wp2
          go_loopw [21] (fun i wr => ∃ y : Nat, y ≤ xn ∧ i = .int .i64 y ∧ Hid (sx.At wr (fun b => b ≠ o) o) ∧ Hid (sa.At wr (fun b => b ≠ q ∧ b ≠ o) q) ∧ Hid (Below w.heap.size w wr) ∧ Hid (Reads wr (fun _ => True) 1 xB xn (stV (sa.L j))) ∧ Hid (Reads wr (fun _ => True) 1 yB xn (stV (sa.L j)))) (fun i _ => xn - (intOf i).toNat)
          case atStart => exact ⟨0, by omega, rfl, Zh, Xh, HBh, xRh, yR⟩
          case round =>
            clear Zh Xh HBh xRh yR
            obtain ⟨y, hy, rfl, Z, X, HB, XR, YR⟩ := hrel
            by_cases hyx : y < xn
            · skip
              have hyi : (y : Int) < (xn : Int) := by omega
              obtain ⟨xb, xo, rfl, hxb, _, hxc⟩ := XR.out.2 (by omega)
              obtain ⟨yb, yo, rfl, hyb, _, hyc⟩ := YR.out.2 (by omega)
              have e0 := stV_get (sa.L j) y (by have := xN.out; omega)
              have f1 := hxc y _ e0
              have f2 := hyc y _ e0
              have HY := Lib.hid hyx
              have hbd := fun nn => (show Below wr.heap.size wr (wr.drewN nn) from ⟨rfl, rfl, rfl, Nat.le_refl _, fun _ _ => rfl⟩)
              have ZN := Lib.hid fun nn => Z.out.below (hbd nn)
              have XN := Lib.hid fun nn => X.out.below (hbd nn)
              have HBN := Lib.hid fun nn => HB.out.trans ((hbd nn).mono HB.out.size)
              have XRN := Lib.hid fun nn => XR.out.below (hbd nn)
              have YRN := Lib.hid fun nn => YR.out.below (hbd nn)
              skip
              clear hxc hyc e0 hbd hy
              generalize hsv : ((sa.L j)[y]'(by have := xN.out; omega)).1 = sv at f1 f2
              clear hsv hyx Z X HB XR YR
              go_wp2
              go_quiet (fail)
              go_wp2
              go_roundw
              case rel => exact ⟨y + 1, HY.out, by go_num, Lib.hid (ZN.out _), Lib.hid (XN.out _), Lib.hid (HBN.out _), Lib.hid (XRN.out _), Lib.hid (YRN.out _)⟩
              case measure => exact meas_up _ _ HY.out
            · skip
              obtain rfl : y = xn := by omega
              have hyi : (y : Int) ≤ (y : Int) := Int.le_refl _
              clear hy hyx XR YR
              go_wp2
              go_roundw
              case rel => exact ⟨j + 1, HJ.out, by go_num, Z, X, HB⟩
              case measure => exact meas_up _ _ HJ.out
        · skip
          obtain rfl : j = k := by omega
          have hji : 1 + r ≤ (j : Int) := by have := HCN.out; omega
          clear hj hjk Z X
          go_wp2_with fail
          refine (awake51_any wr).mono ?_
          rintro e w9 ⟨rfl, hb⟩
          have HB9 := Lib.hid (HB.out.trans (hb.mono HB.out.size))
          clear hb
          go_wp2
          go_ret
          exact ⟨rfl, HB9.out⟩

set_option maxRecDepth 100000 in
set_option maxHeartbeats 6400000 in
theorem parts_great (a : Int) (A : Option Addr) (n c : Nat) (l : List TAct) (u : Int) (w : World) (hl : TActs w (fun _ => True) A n l)  (hg : greatB l = true) :
    Calls Try.prog 16 #[.int .u8 a, .slice A n c, .int .u8 u] w fun e w' => e = .returned (.bool true) ∧ Below w.heap.size w w' := by
  have GR := Lib.hid (great51_any A n c l w hl)
  rw [hg] at GR
  clear hg hl
  go_enter Try.func16, Try.ntmps16
  go_wp2_with fail
  refine GR.out.mono ?_
  rintro e w1 ⟨rfl, hw⟩
  subst w1
  clear GR
  go_wp2_with fail
  refine (awake51_any w).mono ?_
  rintro e w2 ⟨rfl, hb⟩
  have HB := Lib.hid hb
  clear hb
  go_wp2
  go_ret
  exact ⟨rfl, HB.out⟩

theorem parts_any (a u : Int) (A : Option Addr) (n c : Nat) (l : List TAct) (w : World) (hl : TActs w (fun _ => True) A n l) (h0 : 0 ≤ a) (h1 : a ≤ 255) (hu0 : 0 ≤ u) (hu1 : u ≤ 255) :
    Calls Try.prog 16 #[.int .u8 a, .slice A n c, .int .u8 u] w fun e w' => e = .returned (.bool true) ∧ Below w.heap.size w w' := by
  cases hg : greatB l with
  | true => exact parts_great a A n c l u w hl hg
  | false => exact parts_ok a (a % 6) u (1 + a % 6).toNat A n c l w hl h0 h1 hu0 hu1 rfl (by omega) hg
end Go.Proofs.Ytpejhgkcofilmaa
