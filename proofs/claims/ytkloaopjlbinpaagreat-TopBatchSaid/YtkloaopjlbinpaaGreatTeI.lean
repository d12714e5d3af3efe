/- The walks of space.New and of the space's Reads. No condition. -/
import Derived.Test.YtkloaopjlbinpaaGreatTeH
set_option linter.unusedVariables false
set_option linter.unusedSimpArgs false
namespace Go.Proofs.YtkloaopjlbinpaaGreat
open Go.RowKit Go.MapKept

theorem at_some {g : Mem} {k : Int} {u : Value} (h : g.at k = some u) : inM k ∧ u = .agg #[.int .i64 (g.val k), .int .u32 (g.ver k), .int .u32 0] := by
  unfold Mem.at at h
  split at h
  · rename_i hk
    injection h with h
    exact ⟨hk, h.symm⟩
  · cases h
theorem rdF_false : rdF (fun _ => false) = fun _ => none := by funext k; simp [rdF]
set_option maxRecDepth 100000 in
set_option maxHeartbeats 6400000 in
theorem new_any (g : Mem) (kb : Nat) (w : World) (hm : IntMap w kb g.at) :
    Calls Tryz.prog 32 #[.map (some kb)] w fun e w' => e = .returned (.pointer (some ⟨w.heap.size + 2, 0, none⟩)) ∧ Sp w' (fun b => w.heap.size ≤ b) w.heap.size (w.heap.size + 2) g (fun _ => false) [] ∧ Below w.heap.size w w' := by
  have hmm := @run_makeMap Tryz.prog
  obtain ⟨W1, hW1⟩ : ∃ W, W = w.alloc (.map #[] 0) := ⟨_, rfl⟩
  obtain ⟨W2, hW2⟩ : ∃ W, W = W1.alloc (.map #[] 0) := ⟨_, rfl⟩
  obtain ⟨W3, hW3⟩ : ∃ W, W = W2.alloc (.cells #[.map (some w.heap.size), .map (some (w.heap.size + 1)), .slice none 0 0, .int .i64 0, .bool false] 147) := ⟨_, rfl⟩
  have b1 : Below w.heap.size w W1 := by rw [hW1]; exact below_alloc _ _
  have b2 : Below W1.heap.size W1 W2 := by rw [hW2]; exact below_alloc _ _
  have b3 : Below W2.heap.size W2 W3 := by rw [hW3]; exact below_alloc _ _
  have s1 : W1.heap.size = w.heap.size + 1 := by rw [hW1]; exact World.size_alloc ..
  have s2 : W2.heap.size = w.heap.size + 2 := by rw [hW2, World.size_alloc, s1]
  have s3 : W3.heap.size = w.heap.size + 3 := by rw [hW3, World.size_alloc, s2]
  have bb : Below w.heap.size w W3 := b1.trans ((b2.mono (by omega)).trans (b3.mono (by omega)))
  have M1 := Lib.hid (show IntMap W3 w.heap.size (fun _ => none) from by
    have h0 := IntMap.made w
    rw [← hW1] at h0
    exact (h0.below b2).below b3)
  have M2 := Lib.hid (show IntMap W3 (w.heap.size + 1) (fun _ => none) from by
    have h0 := IntMap.made W1
    rw [← hW2, s1] at h0
    exact h0.below b3)
  have SB := Lib.hid (show HB 147 W3 (w.heap.size + 2) #[.map (some w.heap.size), .map (some (w.heap.size + 1)), .slice none 0 0, .int .i64 0, .bool false] from by rw [hW3, ← s2]; exact HB.new _ _ _)
  have hkb := hm.lt
  have HKB := Lib.hid hkb
  have hm' : IsMap W3 (fun _ => True) (.map (some kb)) g.at := .inr ⟨kb, rfl, trivial, by omega, hm.below bb⟩
  have HM := Lib.hid (hm.below bb)
  have BB := Lib.hid bb
  have S3 := Lib.hid s3
  rw [hW1] at hW2
  rw [hW2] at hW3
  clear hW1 hW2 b1 b2 b3 s1 s2 s3 bb hm hkb
  go_enter Tryz.func32, Tryz.ntmps32
  go_wp2_with (at_range; refine Hid.out ?_)
  refine Lib.hid ?_
  try rw [show w.heap.size + 1 + 1 = w.heap.size + 2 from rfl]
  rw [← hW3]
  clear hW3 hmm
  refine wpList_range_mine rfl (.tmp 10) 34 rfl 51 96 Tryz.underlying34 (fun _ => True) (.map (some kb)) g.at rfl hm' fun x left hit hnd hkeys => ?_
  have hbx : Below W3.heap.size W3 (W3.alloc x) := below_alloc _ _
  have IT := Lib.hid hit
  have ND := Lib.hid hnd
  have KEYS := Lib.hid (part_all hkeys)
  have SZ4 := Lib.hid (show w.heap.size + 4 ≤ (W3.alloc x).heap.size from by rw [World.size_alloc, S3.out]; exact Nat.le_refl _)
  rw [S3.out] at IT ⊢
  obtain h0 := M1.out
  clear M1
  have M1 := Lib.hid (h0.below hbx)
  clear h0
  obtain h0 := M2.out
  clear M2
  have M2 := Lib.hid (h0.below hbx)
  clear h0
  obtain h0 := SB.out
  clear SB
  have SB := Lib.hid (h0.below hbx)
  clear h0
  obtain h0 := HM.out
  clear HM
  have HM := Lib.hid (h0.below hbx)
  clear h0
  obtain h0 := BB.out
  clear BB
  have BB := Lib.hid (h0.trans (hbx.mono h0.size))
  clear h0
  clear hm' hit hnd hkeys hbx S3
  generalize W3.alloc x = W4 at *
  go_wp2
  try simp only [Act.put, List.setIfInBounds_toArray, List.set_cons_zero, List.set_cons_succ]
  go_loopw [4] (fun _ wr => ∃ left, Iter wr (w.heap.size + 3) (.map (some kb)) g.at left ∧ left.Nodup ∧ HB 147 wr (w.heap.size + 2) #[.map (some w.heap.size), .map (some (w.heap.size + 1)), .slice none 0 0, .int .i64 0, .bool false] ∧ IntMap wr w.heap.size (part g.at left) ∧ IntMap wr (w.heap.size + 1) (fun _ => none) ∧ Below w.heap.size w wr ∧ w.heap.size + 4 ≤ wr.heap.size) (fun _ wr => iterLeft wr (w.heap.size + 3) (.map (some kb)))
  case atStart => exact ⟨left, IT.out, ND.out, SB.out, by rw [KEYS.out]; exact M1.out, M2.out, BB.out, SZ4.out⟩
  case round =>
    clear IT ND KEYS SB M1 M2 BB SZ4 HM
    obtain ⟨left2, hit, hnd, hsb, hm1, hm2, hbb, hsz⟩ := hrel
    have IT := Lib.hid hit
    have ND := Lib.hid hnd
    have SB := Lib.hid hsb
    have M1 := Lib.hid hm1
    have M2 := Lib.hid hm2
    have BB := Lib.hid hbb
    have SZ := Lib.hid hsz
    clear hit hnd hsb hm1 hm2 hbb hsz
    go_wp2_with (at_next; refine Hid.out ?_)
    refine Lib.hid ?_
    refine wpList_next_mine rfl (.tmp 11) rfl (w.heap.size + 3) (.map (some kb)) g.at left2 rfl IT.out (fun hleft => ?_) (fun k u w2 hk hf hent hit hgr hsz hlt => ?_)
    · subst hleft
      have M1' := M1.out
      rw [part_nil] at M1'
      have FIN := Lib.hid (show Sp wr (fun b => w.heap.size ≤ b) w.heap.size (w.heap.size + 2) g (fun _ => false) [] from
        ⟨⟨w.heap.size, w.heap.size + 1, .slice none 0 0, SB.out, M1', by rw [rdF_false]; exact M2.out, World.ownsRow_nil _ _ _ _, ⟨by omega, by omega, by omega⟩, ⟨by omega, by omega, by omega⟩, ⟨BB.out.size, fun _ => rfl⟩, (fun k hk => by cases hk)⟩, (fun p hp => by cases hp), (fun k hk => by simp at hk)⟩)
      clear M1'
      go_wp2
      go_ret
      exact ⟨rfl, FIN.out, BB.out⟩
    · obtain ⟨hin, rfl⟩ := at_some hf
      obtain ⟨W5, hW5⟩ : ∃ W, W = w2.alloc (.cells #[.int .i64 (g.val k), .int .u32 (g.ver k), .int .u32 0] 96) := ⟨_, rfl⟩
      have b5 : Below w2.heap.size w2 W5 := by rw [hW5]; exact below_alloc _ _
      have k25 : KX (fun b => b = w.heap.size + 3) wr W5 := (KX.of_grown hgr fun k e => (Option.some.inj e).symm).trans (KX.of_below b5)
      have WB := Lib.hid (show HB 96 W5.drew w2.heap.size #[.int .i64 (g.val k), .int .u32 (g.ver k), .int .u32 0] from by rw [hW5]; exact HB.new _ _ _)
      have c2 : W5.cell? ⟨w2.heap.size, 2, none⟩ = some (.int .u32 0) := by rw [hW5]; exact (HB.new _ _ _).cell 2
      have KD : KX (fun _ => False) W5 W5.drew := ⟨rfl, rfl, rfl, Nat.le_refl _, fun _ _ _ => rfl⟩
      have kk : KX (fun b => b = w.heap.size + 3) wr W5.drew := k25.trans (KD.mono fun _ _ h => h.elim)
      have SB5 := Lib.hid (SB.out.kx kk (by omega))
      have M15 := Lib.hid (M1.out.keep (kk.block _ M1.out.lt (by omega)))
      have M25 := Lib.hid (M2.out.keep (kk.block _ M2.out.lt (by omega)))
      have IT5 := Lib.hid (hit.kx (X := fun _ => False) ((KX.of_below b5).trans KD) (by rw [hsz]; have := SZ.out; omega) (by rw [hsz]; have := SZ.out; have := HKB.out; omega) (fun h => h) (fun h => h))
      have BB5 := Lib.hid (show Below w.heap.size w W5.drew from BB.out.trans (kk.below BB.out.size (fun b hb => by omega)))
      have SZ5 := Lib.hid (show w.heap.size + 4 ≤ W5.drew.heap.size from Nat.le_trans SZ.out kk.size)
      have W2B := Lib.hid (show w.heap.size + 4 ≤ w2.heap.size from by rw [hsz]; exact SZ.out)
      have HPS := Lib.hid (part_step ND.out hf)
      have NDE := Lib.hid (ND.out.erase k)
      have HLT := Lib.hid hlt
      clear hk hf hit hgr hsz hlt hin b5 k25 KD kk IT ND SB M1 M2 BB SZ
      go_upto_region 5 with fail
      rw [← hW5]
      clear hW5 hent
      go_upto_region 6 with fail
      refine wp_region_held_drew (S := fun W => HB 96 W w2.heap.size #[.int .i64 (g.val k), .int .u32 (g.ver k), .int .u32 0] ∧ HB 147 W (w.heap.size + 2) #[.map (some w.heap.size), .map (some (w.heap.size + 1)), .slice none 0 0, .int .i64 0, .bool false]) (by kernel_rfl) ⟨WB.out, SB5.out⟩ (fun hHeld => ?_)
      have SW := Lib.hid hHeld
      clear hHeld c2
      generalize W5.drew = wq at *
      refine wpAnyH_take (i := 0) (oi := ⟨some 20, _, _, _, _, _⟩) (v := .pointer (some ⟨w.heap.size + 2, 0, none⟩)) rfl (by kernel_rfl) (by kernel_rfl) (by kernel_rfl) (fun _ _ _ h => h) (Or.inl ⟨by rfl, ?_⟩) SW.out ?_
      · intro W' hW
        go_simp
      try simp only [Act.put, List.setIfInBounds_toArray, List.set_cons_zero, List.set_cons_succ]
      refine wpAnyH_take (i := 1) (oi := ⟨some 21, _, _, _, _, _⟩) (v := .pointer (some ⟨w.heap.size + 2, 0, none⟩)) rfl (by kernel_rfl) (by kernel_rfl) (by kernel_rfl) (fun _ _ _ h => h) (Or.inl ⟨by rfl, ?_⟩) SW.out ?_
      · intro W' hW
        go_simp
      try simp only [Act.put, List.setIfInBounds_toArray, List.set_cons_zero, List.set_cons_succ]
      refine wpAnyH_take (i := 2) (oi := ⟨some 22, _, _, _, _, _⟩) (v := .pointer (some ⟨w.heap.size + 2, 0, none⟩)) rfl (by kernel_rfl) (by kernel_rfl) (by kernel_rfl) (fun _ _ _ h => h) (Or.inl ⟨by rfl, ?_⟩) SW.out ?_
      · intro W' hW
        go_simp
      try simp only [Act.put, List.setIfInBounds_toArray, List.set_cons_zero, List.set_cons_succ]
      refine wpAnyH_take (i := 3) (oi := ⟨some 23, _, _, _, _, _⟩) (v := .map (some w.heap.size)) rfl (by kernel_rfl) (by kernel_rfl) (by kernel_rfl) (fun _ _ _ h => h) (Or.inl ⟨by rfl, ?_⟩) SW.out ?_
      · intro W' hW
        have c9 : _ = some (Value.map (some w.heap.size)) := HB.cell hW.2 0
        go_simp
      try simp only [Act.put, List.setIfInBounds_toArray, List.set_cons_zero, List.set_cons_succ]
      refine wpAnyH_take (i := 4) (oi := ⟨some 24, _, _, _, _, _⟩) (v := .int .i64 k) rfl (by kernel_rfl) (by kernel_rfl) (by kernel_rfl) (fun _ _ _ h => h) (Or.inl ⟨by rfl, ?_⟩) SW.out ?_
      · intro W' hW
        go_simp
      try simp only [Act.put, List.setIfInBounds_toArray, List.set_cons_zero, List.set_cons_succ]
      refine wpAnyH_take (i := 5) (oi := ⟨some 25, _, _, _, _, _⟩) (v := .agg #[.int .i64 (g.val k), .int .u32 (g.ver k), .int .u32 0]) rfl (by kernel_rfl) (by kernel_rfl) (by kernel_rfl) (fun _ _ _ h => h) (Or.inl ⟨by rfl, ?_⟩) SW.out ?_
      · intro W' hW
        have d0 : _ = some (Value.int .i64 (g.val k)) := HB.cell hW.1 0
        have d1 : _ = some (Value.int .u32 (g.ver k)) := HB.cell hW.1 1
        have d2 : _ = some (Value.int .u32 0) := HB.cell hW.1 2
        go_simp
      try simp only [Act.put, List.setIfInBounds_toArray, List.set_cons_zero, List.set_cons_succ]
      refine wpAnyH_ready (rs := [6]) (by kernel_rfl) (by simp) ?_
      refine AllReadyH.cons (o := ⟨none, _, _, _, _, _⟩) rfl (fun K hK => ?_) AllReadyH.nil
      refine step_mapUpdate (.tmp 23) (.tmp 24) (.tmp 25) rfl Tryz.underlying34 Tryz.underlying51 w.heap.size _ M15.out rfl k rfl (.agg #[.int .i64 (g.val k), .int .u32 (g.ver k), .int .u32 0]) rfl (fun w6 hm6 hg6 hs6 => ?_)
      have hk6 : KX (fun b => b = w.heap.size) wq w6 := KX.of_grown hg6 fun k e => (Option.some.inj e).symm
      have SW6 : HB 96 w6 w2.heap.size #[.int .i64 (g.val k), .int .u32 (g.ver k), .int .u32 0] ∧ HB 147 w6 (w.heap.size + 2) #[.map (some w.heap.size), .map (some (w.heap.size + 1)), .slice none 0 0, .int .i64 0, .bool false] := ⟨SW.out.1.kx hk6 (by have := W2B.out; omega), SW.out.2.kx hk6 (by omega)⟩
      refine hK.out _ _ SW6 (fun hHeld => ?_)
      clear hK hHeld
      try simp only [Act.put, List.setIfInBounds_toArray, List.set_cons_zero, List.set_cons_succ]
      refine wpAnyH_done (by kernel_rfl) ?_ _
      rw [HPS.out] at hm6
      have IT6 := IT5.out.1.kx hk6 (by have := SZ5.out; omega) (by have := SZ5.out; have := HKB.out; omega) (by omega) (by have := HKB.out; omega)
      have FIT := Lib.hid IT6
      have FM := Lib.hid hm6
      have FM2 := Lib.hid (M25.out.keep (hk6.block _ M25.out.lt (by omega)))
      have FB := Lib.hid (show Below w.heap.size w w6 from BB5.out.trans (hk6.below BB5.out.size (fun b hb => by omega)))
      have FZ := Lib.hid (show w.heap.size + 4 ≤ w6.heap.size from by rw [hs6]; exact SZ5.out)
      have FSB := Lib.hid SW6.2
      have FLT := Lib.hid (show iterLeft w6 (w.heap.size + 3) (.map (some kb)) < iterLeft wr (w.heap.size + 3) (.map (some kb)) from by rw [FIT.out.2, IT5.out.2]; exact HLT.out)
      clear hm6 hg6 hs6 hk6 SW6 IT6 HLT IT5 M15 M25 BB5 SZ5 SB5 WB SW
      go_wp2_with fail
      go_roundw
      case rel => exact ⟨left2.erase k, FIT.out.1, NDE.out, FSB.out, FM.out, FM2.out, FB.out, FZ.out⟩
      case measure => exact FLT.out
end Go.Proofs.YtkloaopjlbinpaaGreat
