/- The walk of the reference's New. Condition: one to six cells. -/
import Derived.Test.YtpejhgkcofilmaaRb
import Derived.Deep.OwnRows
set_option linter.unusedVariables false
namespace Go.Proofs.Ytpejhgkcofilmaa
open Go.RowKit

/-- The reference's new store. -/
def Rd.new (n : Nat) : Rd := ⟨[List.replicate n 0], List.replicate n 0, fun j => if j < 8 then -1 else 0⟩
theorem rep_next (k : Nat) : updR (fun j => if j < k then (-1 : Int) else 0) k (-1) = fun j => if j < k + 1 then -1 else 0 := by
  funext j
  unfold updR
  by_cases h : j = k
  · rw [if_pos h, if_pos (by omega)]
  · rw [if_neg h]
    by_cases h2 : j < k
    · show (if j < k then (-1 : Int) else 0) = _
      rw [if_pos h2, if_pos (by omega)]
    · show (if j < k then (-1 : Int) else 0) = _
      rw [if_neg h2, if_neg (by omega)]

set_option maxRecDepth 100000 in
set_option maxHeartbeats 12800000 in
theorem rnew_any {S : Nat → Prop} (n : Nat) (h1 : 1 ≤ n) (h6 : n ≤ 6) (w : World) (hS : ∀ b, w.heap.size ≤ b → S b) :
    Calls Try.prog 66 #[.int .i64 n] w fun e w' => ∃ sa sv, e = .returned ((Rd.new n).val sa sv) ∧ (Rd.new n).Mem w' S sa sv ∧ Below w.heap.size w w' := by
  obtain ⟨is, his0, his1, his2, his3⟩ := info_parts (P := Try.prog) (e := 40) (z := .slice none 0 0) (size := 1) (bytes := 24) (by kernel_rfl)
  have hmu := run_make_row' (P := Try.prog) 77 60 (.int .u32 0) 4 Try.underlying77 (by kernel_rfl) rfl .i64 .i64 n (by omega) (by omega)
  have hmi := run_make_row' (P := Try.prog) 40 2 (.int .i64 0) 8 Try.underlying40 (by kernel_rfl) rfl .i64 .i64 n (by omega) (by omega)
  have HS := Lib.hid hS
  have HN := Lib.hid (And.intro h1 h6)
  have hn6 : (n : Int) ≤ 6 := by omega
  have hn1 : (1 : Int) ≤ (n : Int) := by omega
  clear hS h1 h6
  go_enter Try.func66, Try.ntmps66
  go_wp2_with (with_reducible refine at_alloc_ (t := 80) ?_; refine alloc_rd (S := fun _ => False) rfl rfl ?_)
  intro w1 hp hb hz
  have R1 := Lib.hid hp
  have HB1 := Lib.hid hb
  have HZ1 := Lib.hid hz
  clear hp hb hz
  have HV := Lib.hid (Reads.newAt (S := fun b => b = w.heap.size + 1) (size := 1) (n := n) w1 (w.heap.size + 1) (madeCells #[Value.int .u32 0] n) 60 HZ1.out (by rw [size_madeCells, Nat.mul_one]) rfl)
  have R2 := Lib.hid (R1.out.below ((Below.refl w1.heap.size w1).alloc (Nat.le_refl _) (.cells (madeCells #[Value.int .u32 0] n) 60)))
  have HB2 := Lib.hid (HB1.out.alloc HB1.out.size (.cells (madeCells #[Value.int .u32 0] n) 60))
  have HZ2 := Lib.hid (show (w1.alloc (.cells (madeCells #[Value.int .u32 0] n) 60)).heap.size = w.heap.size + 2 by simp [HZ1.out])
  go_wp2_with (with_reducible refine at_alloc_ (t := 80) ?_; refine alloc_rd (S := fun _ => False) rfl rfl ?_)
  clear R1 HB1
  generalize w1.alloc (.cells (madeCells #[Value.int .u32 0] n) 60) = w2 at *
  intro w3 hp hb hz
  rw [HZ1.out] at hp hb hz ⊢
  have hb : Below w2.heap.size w2 w3 := by rw [HZ2.out]; exact hb
  have P3 := Lib.hid hp
  have R3 := Lib.hid (R2.out.below hb)
  have HV3 := Lib.hid (HV.out.below hb)
  have HB3 := Lib.hid (HB2.out.trans (hb.mono HB2.out.size))
  have HZ3 := Lib.hid (show w3.heap.size = w.heap.size + 3 by omega)
  clear hp hb hz R2 HV HB2 HZ2 HZ1
  go_wp2_with (with_reducible refine at_store_ (t := 80) ?_; refine Hid.out ?_)
  refine Lib.hid ?_
  refine put_rd_row (d := ⟨[], [], fun _ => 0⟩) (sa := .slice none 0 0) (sv := .slice (some ⟨w.heap.size + 1, 0, none⟩) n n) rfl (.tmp 3) (.tmp 7) rfl rfl (w.heap.size + 1 + 1) rfl rfl P3.out ⟨_, _, _, rfl⟩ ⟨_, _, _, rfl⟩ ?_
  intro w4 hp ht
  have P4 := Lib.hid hp
  have R4 := Lib.hid (ht.rat R3.out (by omega) (fun h => h))
  have HV4 := Lib.hid (ht.reads HV3.out (by omega))
  have HB4 := Lib.hid (ht.below HB3.out (by omega))
  have HZ4 := Lib.hid (show w4.heap.size = w.heap.size + 3 by have := HZ3.out; have := ht.size; omega)
  clear hp ht P3 R3 HV3 HB3 HZ3
  go_wp2_with fail
  refine wp_region_held_drew (S := fun _ => True) (by kernel_rfl) trivial (fun hHeld => ?_)
  have hbd : Below w4.heap.size w4 w4.drew := (Below.refl _ _).drew
  have HHD := Lib.hid (show w4.drew.heap[w.heap.size + 1 + 1]? = some (.cells (rCells (.slice none 0 0) (.slice (some ⟨w.heap.size + 1, 0, none⟩) n n) (fun _ => 0)) 80 (0, 0)) from P4.out)
  have RD := Lib.hid (R4.out.below hbd)
  have VD := Lib.hid (HV4.out.below hbd)
  have HBD := Lib.hid (HB4.out.trans (hbd.mono HB4.out.size))
  have HZD := Lib.hid (show w4.drew.heap.size = w.heap.size + 3 from HZ4.out)
  clear hHeld hbd P4 R4 HV4 HB4 HZ4
  generalize w4.drew = w5 at *
  refine wpAnyH_take (i := 0) (oi := ⟨some 8, _, _, _, _, _⟩) (v := .pointer (some ⟨w.heap.size + 1 + 1, 0, none⟩)) rfl (by kernel_rfl) (by kernel_rfl) (by kernel_rfl) (fun _ _ _ h => h) (Or.inl ⟨by rfl, ?_⟩) trivial ?_
  · intro W' hW
    go_simp
  try simp only [Act.put, List.setIfInBounds_toArray, List.set_cons_zero, List.set_cons_succ]
  refine wpAnyH_take (i := 2) (oi := ⟨some 10, _, _, _, _, _⟩) (v := .int .i64 n) rfl (by kernel_rfl) (by kernel_rfl) (by kernel_rfl) (fun _ _ _ h => h) (Or.inl ⟨by rfl, ?_⟩) trivial ?_
  · intro W' hW
    go_simp
  try simp only [Act.put, List.setIfInBounds_toArray, List.set_cons_zero, List.set_cons_succ]
  refine wpAnyH_ready (rs := [1, 3]) (by kernel_rfl) (by simp) ?_
  refine AllReadyH.cons (o := ⟨some 9, _, _, _, _, _⟩) rfl (fun K hK => ?_) (AllReadyH.cons (o := ⟨some 11, _, _, _, _, _⟩) rfl (fun K hK => ?_) (AllReadyH.nil))
  · skip
    have hc0 := (rd_all HHD.out).1
    go_simp
    clear hc0
    refine hK.out _ _ trivial (fun hHeldq => ?_)
    clear hK hHeldq
    try simp only [Act.put, List.setIfInBounds_toArray, List.set_cons_zero, List.set_cons_succ]
    refine wpAnyH_ready (rs := [3]) (by kernel_rfl) (by simp) ?_
    refine AllReadyH.cons (o := ⟨some 11, _, _, _, _, _⟩) rfl (fun K hK => ?_) (AllReadyH.nil)
    go_simp
    have hbb : Below w5.heap.size w5 (w5.alloc (.cells (madeCells #[Value.int .i64 0] n) 2)) := (Below.refl _ _).alloc (Nat.le_refl _) _
    have ZE := Lib.hid (Reads.newAt (S := fun b => b = w.heap.size + 3) (size := 1) (n := n) w5 (w.heap.size + 3) (madeCells #[Value.int .i64 0] n) 2 HZD.out (by rw [size_madeCells, Nat.mul_one]) rfl)
    have HZE := Lib.hid (show (w5.alloc (.cells (madeCells #[Value.int .i64 0] n) 2)).heap.size = w.heap.size + 4 by simp [HZD.out])
    have HHE := Lib.hid ((hbb.block _ (lt_of_block HHD.out)).trans HHD.out)
    have RE := Lib.hid (RD.out.below hbb)
    have VE := Lib.hid (VD.out.below hbb)
    have HBE := Lib.hid (HBD.out.trans (hbb.mono HBD.out.size))
    clear HHD RD VD HBD
    rw [HZD.out]
    generalize w5.alloc (.cells (madeCells #[Value.int .i64 0] n) 2) = w6 at *
    refine hK.out _ _ trivial (fun hHeldq => ?_)
    clear hK hHeldq hbb HZD
    try simp only [Act.put, List.setIfInBounds_toArray, List.set_cons_zero, List.set_cons_succ]
    refine wpAnyH_ready (rs := [4]) (by kernel_rfl) (by simp) ?_
    refine AllReadyH.cons (o := ⟨some 12, _, _, _, _, _⟩) rfl (fun K hK => ?_) (AllReadyH.nil)
    go_simp
    have hbb : Below w6.heap.size w6 (w6.alloc (.cells #[.slice (some ⟨w.heap.size + 3, 0, none⟩) n n] 40)) := (Below.refl _ _).alloc (Nat.le_refl _) _
    have YF := Lib.hid (Reads.newAt (S := fun b => b = w.heap.size + 4) (size := 1) (n := 1) w6 (w.heap.size + 4) #[.slice (some ⟨w.heap.size + 3, 0, none⟩) n n] 40 HZE.out rfl rfl)
    have HZF := Lib.hid (show (w6.alloc (.cells #[.slice (some ⟨w.heap.size + 3, 0, none⟩) n n] 40)).heap.size = w.heap.size + 5 by simp [HZE.out])
    have HHF := Lib.hid ((hbb.block _ (lt_of_block HHE.out)).trans HHE.out)
    have RF := Lib.hid (RE.out.below hbb)
    have VF := Lib.hid (VE.out.below hbb)
    have ZF := Lib.hid (ZE.out.below hbb)
    have HBF := Lib.hid (HBE.out.trans (hbb.mono HBE.out.size))
    clear HHE RE VE HBE ZE
    rw [HZE.out]
    generalize w6.alloc (.cells #[.slice (some ⟨w.heap.size + 3, 0, none⟩) n n] 40) = w7 at *
    refine hK.out _ _ trivial (fun hHeldq => ?_)
    clear hK hHeldq hbb HZE
    try simp only [Act.put, List.setIfInBounds_toArray, List.set_cons_zero, List.set_cons_succ]
    refine wpAnyH_ready (rs := [5]) (by kernel_rfl) (by simp) ?_
    refine AllReadyH.cons (o := ⟨some 13, _, _, _, _, _⟩) rfl (fun K hK => ?_) (AllReadyH.nil)
    refine Eq.mpr (if_pos (by kernel_rfl)) ?_
    refine wp_app_any (.tmp 9) (.tmp 12) 76 rfl (w.heap.size + 5) 40 is _ 1 24 Try.underlying76 his0 his1 his2 his3 rfl (by omega) (.slice none 0 0) 0 [] rfl (World.ownsRow_nil _ _ _ _) _ _ 1 1 _ rfl YF.out (by intro u hu; simp at hu; subst hu; rfl) (by simp only [maxLen]; omega) (by omega) (by have := HZF.out; omega) ?_
    intro v' w8 ho hg _
    have hb8 : Below w7.heap.size w7 w8 := (Below.refl _ _).grown hg (Nat.le_refl _) (by simp [Value.ownBlock])
    obtain ⟨A', c', rfl, g1, g2, g3⟩ := own_reads ho (S := fun b => w.heap.size + 5 ≤ b) (fun b hb => hb)
    have XG := Lib.hid g3
    have HG := Lib.hid (And.intro g1 g2)
    have HHG := Lib.hid ((hb8.block _ (lt_of_block HHF.out)).trans HHF.out)
    have RG := Lib.hid (RF.out.below hb8)
    have VG := Lib.hid (VF.out.below hb8)
    have ZG := Lib.hid (ZF.out.below hb8)
    have HBG := Lib.hid (HBF.out.trans (hb8.mono HBF.out.size))
    clear HHF RF VF HBF ZF
    clear ho hg hb8 g1 g2 g3 YF HZF
    refine hK.out _ _ trivial (fun hHeldq => ?_)
    clear hK hHeldq
    try simp only [Act.put, List.setIfInBounds_toArray, List.set_cons_zero, List.set_cons_succ]
    refine wpAnyH_take (i := 6) (oi := ⟨some 14, _, _, _, _, _⟩) (v := .pointer (some ⟨w.heap.size + 1 + 1, 0, none⟩)) rfl (by kernel_rfl) (by kernel_rfl) (by kernel_rfl) (fun _ _ _ h => h) (Or.inl ⟨by rfl, ?_⟩) trivial ?_
    · intro W' hW
      go_simp
    try simp only [Act.put, List.setIfInBounds_toArray, List.set_cons_zero, List.set_cons_succ]
    refine wpAnyH_ready (rs := [7]) (by kernel_rfl) (by simp) ?_
    refine AllReadyH.cons (o := ⟨none, _, _, _, _, _⟩) rfl (fun K hK => ?_) (AllReadyH.nil)
    have hz := not_frozen HHG.out 0
    have hc0 := (rd_all HHG.out).1
    go_simp
    clear hz hc0
    have HHH := Lib.hid (show (w8.setCell ⟨w.heap.size + 1 + 1, 0, none⟩ (.slice A' 1 c')).heap[w.heap.size + 1 + 1]? = some (.cells (rCells (.slice A' 1 c') (.slice (some ⟨w.heap.size + 1, 0, none⟩) n n) (fun j => if j < 0 then -1 else 0)) 80 (0, 0)) from setCell_block HHG.out _)
    have RH := Lib.hid (show Rd.zero.At (w8.setCell ⟨w.heap.size + 1 + 1, 0, none⟩ (.slice A' 1 c')) (fun _ => False) w.heap.size from by
      obtain ⟨sa0, sv0, h1, h2⟩ := RG.out
      exact ⟨sa0, sv0, (heap_setCell_other _ ⟨w.heap.size + 1 + 1, 0, none⟩ _ _ (by simp; omega)).trans h1, h2.keep (by simp [World.setCell]) (fun p _ hp => hp.elim)⟩)
    have HBH := Lib.hid (HBG.out.setCell (p := ⟨w.heap.size + 1 + 1, 0, none⟩) (by show w.heap.size ≤ w.heap.size + 1 + 1; omega) (.slice A' 1 c'))
    have VH := Lib.hid (VG.out.setCell (p := ⟨w.heap.size + 1 + 1, 0, none⟩) (by show ¬ (w.heap.size + 1 + 1 = w.heap.size + 1); omega) (.slice A' 1 c'))
    have ZH := Lib.hid (ZG.out.setCell (p := ⟨w.heap.size + 1 + 1, 0, none⟩) (by show ¬ (w.heap.size + 1 + 1 = w.heap.size + 3); omega) (.slice A' 1 c'))
    have XH := Lib.hid (XG.out.setCell (p := ⟨w.heap.size + 1 + 1, 0, none⟩) (by show ¬ (w.heap.size + 5 ≤ w.heap.size + 1 + 1); omega) (.slice A' 1 c'))
    generalize w8.setCell ⟨w.heap.size + 1 + 1, 0, none⟩ (.slice A' 1 c') = w9 at *
    clear HHG RG HBG VG ZG XG
    refine hK.out _ _ trivial (fun hHeldq => ?_)
    clear hK hHeldq
    try simp only [Act.put]
    refine wpAnyH_done (by kernel_rfl) ?_ _
    go_wp2
    go_loopw [4] (fun i wr => ∃ k : Nat, k ≤ 8 ∧ i = .int .i64 k ∧ Hid (wr.heap[w.heap.size + 1 + 1]? = some (.cells (rCells (.slice A' 1 c') (.slice (some ⟨w.heap.size + 1, 0, none⟩) n n) (fun j => if j < k then -1 else 0)) 80 (0, 0))) ∧ Hid (Rd.zero.At wr (fun _ => False) w.heap.size) ∧ Hid (Below w.heap.size w wr) ∧ Hid (Reads wr (fun b => b = w.heap.size + 1) 1 (some ⟨w.heap.size + 1, 0, none⟩) n (madeCells #[Value.int .u32 0] n).toList) ∧ Hid (Reads wr (fun b => b = w.heap.size + 3) 1 (some ⟨w.heap.size + 3, 0, none⟩) n (madeCells #[Value.int .i64 0] n).toList) ∧ Hid (Reads wr (fun b => w.heap.size + 5 ≤ b) 1 A' 1 [.slice (some ⟨w.heap.size + 3, 0, none⟩) n n])) (fun i _ => 8 - (intOf i).toNat)
    case atStart => exact ⟨0, by omega, rfl, HHH, RH, HBH, VH, ZH, Lib.hid (by simpa using XH.out)⟩
    case round =>
      clear HHH RH HBH VH ZH XH
      obtain ⟨k, hk, rfl, P, R, HB, V, Z, X⟩ := hrel
      by_cases hk8 : k < 8
      · have h8 : (k : Int) < 8 := by omega
        have c0 := (rd_all P.out).2.2 k hk8
        have hz : ∀ i, wr.frozen? ⟨w.heap.size + 1 + 1, i, none⟩ = false := fun i => not_frozen P.out i
        have P' := Lib.hid (show (wr.setCell ⟨w.heap.size + 1 + 1, 2 + k, none⟩ (.int .i64 (-1))).heap[w.heap.size + 1 + 1]? = some (.cells (rCells (.slice A' 1 c') (.slice (some ⟨w.heap.size + 1, 0, none⟩) n n) (fun j => if j < k + 1 then -1 else 0)) 80 (0, 0)) from by rw [← rep_next]; exact rd_set P.out k hk8 (-1))
        have R' := Lib.hid (show Rd.zero.At (wr.setCell ⟨w.heap.size + 1 + 1, 2 + k, none⟩ (.int .i64 (-1))) (fun _ => False) w.heap.size from by
          obtain ⟨sa0, sv0, h1, h2⟩ := R.out
          exact ⟨sa0, sv0, (heap_setCell_other _ ⟨w.heap.size + 1 + 1, 2 + k, none⟩ _ _ (by simp; omega)).trans h1, h2.keep (by simp [World.setCell]) (fun p _ hp => hp.elim)⟩)
        have HB' := Lib.hid (HB.out.setCell (p := ⟨w.heap.size + 1 + 1, 2 + k, none⟩) (by show w.heap.size ≤ w.heap.size + 1 + 1; omega) (.int .i64 (-1)))
        have V' := Lib.hid (V.out.setCell (p := ⟨w.heap.size + 1 + 1, 2 + k, none⟩) (by show ¬ (w.heap.size + 1 + 1 = w.heap.size + 1); omega) (.int .i64 (-1)))
        have Z' := Lib.hid (Z.out.setCell (p := ⟨w.heap.size + 1 + 1, 2 + k, none⟩) (by show ¬ (w.heap.size + 1 + 1 = w.heap.size + 3); omega) (.int .i64 (-1)))
        have X' := Lib.hid (X.out.setCell (p := ⟨w.heap.size + 1 + 1, 2 + k, none⟩) (by show ¬ (w.heap.size + 5 ≤ w.heap.size + 1 + 1); omega) (.int .i64 (-1)))
        have HK := Lib.hid hk8
        clear P R HB V Z X hk hk8
        skip
        go_wp2
        go_roundw
        case rel => exact ⟨k + 1, by have := HK.out; omega, by go_num, P', R', HB', V', Z', X'⟩
        case measure => exact meas_up _ _ HK.out
      · obtain rfl : k = 8 := by omega
        clear hk hk8
        have HMM := Lib.hid (show (Rd.new n).Mem wr (fun b => S b ∧ b ≠ w.heap.size) (.slice A' 1 c') (.slice (some ⟨w.heap.size + 1, 0, none⟩) n n) from by
          have hz := Z.out
          have hv := V.out
          rw [toList_madeCells_one] at hz hv
          refine ⟨⟨A', c', _, rfl, HG.out.1, HG.out.2, X.out.more fun b _ h => ⟨HS.out b (by omega), by omega⟩, fun i hi => ?_⟩, some ⟨w.heap.size + 1, 0, none⟩, n, by simp [Rd.new], by simp [Rd.new], by simp, ?_⟩
          · have hi : i < 1 := hi
            obtain rfl : i = 0 := by omega
            refine ⟨_, rfl, some ⟨w.heap.size + 3, 0, none⟩, n, by simp [Rd.new], by simp [Rd.new], by simp, ?_⟩
            show Reads wr _ 1 _ (List.replicate n (0 : Int)).length ((List.replicate n (0 : Int)).map _)
            rw [List.length_replicate, List.map_replicate]
            exact hz.more fun b _ h => by have h : b = w.heap.size + 3 := h; exact ⟨HS.out b (by omega), by omega⟩
          · show Reads wr _ 1 _ (List.replicate n (0 : Int)).length ((List.replicate n (0 : Int)).map _)
            rw [List.length_replicate, List.map_replicate]
            exact hv.more fun b _ h => by have h : b = w.heap.size + 1 := h; exact ⟨HS.out b (by omega), by omega⟩)
        have PN := Lib.hid (show wr.heap[w.heap.size + 1 + 1]? = some (.cells (rCells (.slice A' 1 c') (.slice (some ⟨w.heap.size + 1, 0, none⟩) n n) (Rd.new n).R) 80 (0, 0)) from P.out)
        clear V Z X HG P
        go_wp2_with (first
          | (with_reducible refine at_load_ (t := 80) ?_; refine get_rd (d := Rd.new n) (sa := .slice A' 1 c') (sv := (.slice (some ⟨w.heap.size + 1, 0, none⟩) n n)) rfl _ rfl (w.heap.size + 1 + 1) rfl PN.out ?_)
          | (with_reducible refine at_store_ (t := 80) ?_; refine Hid.out ?_))
        refine Lib.hid ?_
        refine put_rd (d := Rd.new n) (sa := .slice A' 1 c') (sv := .slice (some ⟨w.heap.size + 1, 0, none⟩) n n) rfl (.tmp 2) (.tmp 22) rfl rfl w.heap.size rfl rfl R.out HMM.out (fun h => h.2 rfl) ?_
        intro w10 hp ht
        have HP := Lib.hid hp
        have HB5 := Lib.hid (ht.below HB.out (Nat.le_refl _))
        clear hp ht
        go_wp2_with fail
        obtain ⟨sa5, sv5, hblk, hmm⟩ := HP.out
        have hl := load_rd _ _ _ _ _ hblk rfl
        refine bodyPost_ret (v := (Rd.new n).val sa5 sv5) ?_ rfl ⟨sa5, sv5, rfl, hmm.more fun b _ h => h.1, HB5.out⟩
        simp [results, Try.results66, asAddr, hl, Rd.val]
  · skip
    go_simp
    have hbb : Below w5.heap.size w5 (w5.alloc (.cells (madeCells #[Value.int .i64 0] n) 2)) := (Below.refl _ _).alloc (Nat.le_refl _) _
    have ZE := Lib.hid (Reads.newAt (S := fun b => b = w.heap.size + 3) (size := 1) (n := n) w5 (w.heap.size + 3) (madeCells #[Value.int .i64 0] n) 2 HZD.out (by rw [size_madeCells, Nat.mul_one]) rfl)
    have HZE := Lib.hid (show (w5.alloc (.cells (madeCells #[Value.int .i64 0] n) 2)).heap.size = w.heap.size + 4 by simp [HZD.out])
    have HHE := Lib.hid ((hbb.block _ (lt_of_block HHD.out)).trans HHD.out)
    have RE := Lib.hid (RD.out.below hbb)
    have VE := Lib.hid (VD.out.below hbb)
    have HBE := Lib.hid (HBD.out.trans (hbb.mono HBD.out.size))
    clear HHD RD VD HBD
    rw [HZD.out]
    generalize w5.alloc (.cells (madeCells #[Value.int .i64 0] n) 2) = w6 at *
    refine hK.out _ _ trivial (fun hHeldq => ?_)
    clear hK hHeldq hbb HZD
    try simp only [Act.put, List.setIfInBounds_toArray, List.set_cons_zero, List.set_cons_succ]
    refine wpAnyH_ready (rs := [1, 4]) (by kernel_rfl) (by simp) ?_
    refine AllReadyH.cons (o := ⟨some 9, _, _, _, _, _⟩) rfl (fun K hK => ?_) (AllReadyH.cons (o := ⟨some 12, _, _, _, _, _⟩) rfl (fun K hK => ?_) (AllReadyH.nil))
    · skip
      have hc0 := (rd_all HHE.out).1
      go_simp
      clear hc0
      refine hK.out _ _ trivial (fun hHeldq => ?_)
      clear hK hHeldq
      try simp only [Act.put, List.setIfInBounds_toArray, List.set_cons_zero, List.set_cons_succ]
      refine wpAnyH_ready (rs := [4]) (by kernel_rfl) (by simp) ?_
      refine AllReadyH.cons (o := ⟨some 12, _, _, _, _, _⟩) rfl (fun K hK => ?_) (AllReadyH.nil)
      go_simp
      have hbb : Below w6.heap.size w6 (w6.alloc (.cells #[.slice (some ⟨w.heap.size + 3, 0, none⟩) n n] 40)) := (Below.refl _ _).alloc (Nat.le_refl _) _
      have YF := Lib.hid (Reads.newAt (S := fun b => b = w.heap.size + 4) (size := 1) (n := 1) w6 (w.heap.size + 4) #[.slice (some ⟨w.heap.size + 3, 0, none⟩) n n] 40 HZE.out rfl rfl)
      have HZF := Lib.hid (show (w6.alloc (.cells #[.slice (some ⟨w.heap.size + 3, 0, none⟩) n n] 40)).heap.size = w.heap.size + 5 by simp [HZE.out])
      have HHF := Lib.hid ((hbb.block _ (lt_of_block HHE.out)).trans HHE.out)
      have RF := Lib.hid (RE.out.below hbb)
      have VF := Lib.hid (VE.out.below hbb)
      have ZF := Lib.hid (ZE.out.below hbb)
      have HBF := Lib.hid (HBE.out.trans (hbb.mono HBE.out.size))
      clear HHE RE VE HBE ZE
      rw [HZE.out]
      generalize w6.alloc (.cells #[.slice (some ⟨w.heap.size + 3, 0, none⟩) n n] 40) = w7 at *
      refine hK.out _ _ trivial (fun hHeldq => ?_)
      clear hK hHeldq hbb HZE
      try simp only [Act.put, List.setIfInBounds_toArray, List.set_cons_zero, List.set_cons_succ]
      refine wpAnyH_ready (rs := [5]) (by kernel_rfl) (by simp) ?_
      refine AllReadyH.cons (o := ⟨some 13, _, _, _, _, _⟩) rfl (fun K hK => ?_) (AllReadyH.nil)
      refine Eq.mpr (if_pos (by kernel_rfl)) ?_
      refine wp_app_any (.tmp 9) (.tmp 12) 76 rfl (w.heap.size + 5) 40 is _ 1 24 Try.underlying76 his0 his1 his2 his3 rfl (by omega) (.slice none 0 0) 0 [] rfl (World.ownsRow_nil _ _ _ _) _ _ 1 1 _ rfl YF.out (by intro u hu; simp at hu; subst hu; rfl) (by simp only [maxLen]; omega) (by omega) (by have := HZF.out; omega) ?_
      intro v' w8 ho hg _
      have hb8 : Below w7.heap.size w7 w8 := (Below.refl _ _).grown hg (Nat.le_refl _) (by simp [Value.ownBlock])
      obtain ⟨A', c', rfl, g1, g2, g3⟩ := own_reads ho (S := fun b => w.heap.size + 5 ≤ b) (fun b hb => hb)
      have XG := Lib.hid g3
      have HG := Lib.hid (And.intro g1 g2)
      have HHG := Lib.hid ((hb8.block _ (lt_of_block HHF.out)).trans HHF.out)
      have RG := Lib.hid (RF.out.below hb8)
      have VG := Lib.hid (VF.out.below hb8)
      have ZG := Lib.hid (ZF.out.below hb8)
      have HBG := Lib.hid (HBF.out.trans (hb8.mono HBF.out.size))
      clear HHF RF VF HBF ZF
      clear ho hg hb8 g1 g2 g3 YF HZF
      refine hK.out _ _ trivial (fun hHeldq => ?_)
      clear hK hHeldq
      try simp only [Act.put, List.setIfInBounds_toArray, List.set_cons_zero, List.set_cons_succ]
      refine wpAnyH_take (i := 6) (oi := ⟨some 14, _, _, _, _, _⟩) (v := .pointer (some ⟨w.heap.size + 1 + 1, 0, none⟩)) rfl (by kernel_rfl) (by kernel_rfl) (by kernel_rfl) (fun _ _ _ h => h) (Or.inl ⟨by rfl, ?_⟩) trivial ?_
      · intro W' hW
        go_simp
      try simp only [Act.put, List.setIfInBounds_toArray, List.set_cons_zero, List.set_cons_succ]
      refine wpAnyH_ready (rs := [7]) (by kernel_rfl) (by simp) ?_
      refine AllReadyH.cons (o := ⟨none, _, _, _, _, _⟩) rfl (fun K hK => ?_) (AllReadyH.nil)
      have hz := not_frozen HHG.out 0
      have hc0 := (rd_all HHG.out).1
      go_simp
      clear hz hc0
      have HHH := Lib.hid (show (w8.setCell ⟨w.heap.size + 1 + 1, 0, none⟩ (.slice A' 1 c')).heap[w.heap.size + 1 + 1]? = some (.cells (rCells (.slice A' 1 c') (.slice (some ⟨w.heap.size + 1, 0, none⟩) n n) (fun j => if j < 0 then -1 else 0)) 80 (0, 0)) from setCell_block HHG.out _)
      have RH := Lib.hid (show Rd.zero.At (w8.setCell ⟨w.heap.size + 1 + 1, 0, none⟩ (.slice A' 1 c')) (fun _ => False) w.heap.size from by
        obtain ⟨sa0, sv0, h1, h2⟩ := RG.out
        exact ⟨sa0, sv0, (heap_setCell_other _ ⟨w.heap.size + 1 + 1, 0, none⟩ _ _ (by simp; omega)).trans h1, h2.keep (by simp [World.setCell]) (fun p _ hp => hp.elim)⟩)
      have HBH := Lib.hid (HBG.out.setCell (p := ⟨w.heap.size + 1 + 1, 0, none⟩) (by show w.heap.size ≤ w.heap.size + 1 + 1; omega) (.slice A' 1 c'))
      have VH := Lib.hid (VG.out.setCell (p := ⟨w.heap.size + 1 + 1, 0, none⟩) (by show ¬ (w.heap.size + 1 + 1 = w.heap.size + 1); omega) (.slice A' 1 c'))
      have ZH := Lib.hid (ZG.out.setCell (p := ⟨w.heap.size + 1 + 1, 0, none⟩) (by show ¬ (w.heap.size + 1 + 1 = w.heap.size + 3); omega) (.slice A' 1 c'))
      have XH := Lib.hid (XG.out.setCell (p := ⟨w.heap.size + 1 + 1, 0, none⟩) (by show ¬ (w.heap.size + 5 ≤ w.heap.size + 1 + 1); omega) (.slice A' 1 c'))
      generalize w8.setCell ⟨w.heap.size + 1 + 1, 0, none⟩ (.slice A' 1 c') = w9 at *
      clear HHG RG HBG VG ZG XG
      refine hK.out _ _ trivial (fun hHeldq => ?_)
      clear hK hHeldq
      try simp only [Act.put]
      refine wpAnyH_done (by kernel_rfl) ?_ _
      go_wp2
      go_loopw [4] (fun i wr => ∃ k : Nat, k ≤ 8 ∧ i = .int .i64 k ∧ Hid (wr.heap[w.heap.size + 1 + 1]? = some (.cells (rCells (.slice A' 1 c') (.slice (some ⟨w.heap.size + 1, 0, none⟩) n n) (fun j => if j < k then -1 else 0)) 80 (0, 0))) ∧ Hid (Rd.zero.At wr (fun _ => False) w.heap.size) ∧ Hid (Below w.heap.size w wr) ∧ Hid (Reads wr (fun b => b = w.heap.size + 1) 1 (some ⟨w.heap.size + 1, 0, none⟩) n (madeCells #[Value.int .u32 0] n).toList) ∧ Hid (Reads wr (fun b => b = w.heap.size + 3) 1 (some ⟨w.heap.size + 3, 0, none⟩) n (madeCells #[Value.int .i64 0] n).toList) ∧ Hid (Reads wr (fun b => w.heap.size + 5 ≤ b) 1 A' 1 [.slice (some ⟨w.heap.size + 3, 0, none⟩) n n])) (fun i _ => 8 - (intOf i).toNat)
      case atStart => exact ⟨0, by omega, rfl, HHH, RH, HBH, VH, ZH, Lib.hid (by simpa using XH.out)⟩
      case round =>
        clear HHH RH HBH VH ZH XH
        obtain ⟨k, hk, rfl, P, R, HB, V, Z, X⟩ := hrel
        by_cases hk8 : k < 8
        · have h8 : (k : Int) < 8 := by omega
          have c0 := (rd_all P.out).2.2 k hk8
          have hz : ∀ i, wr.frozen? ⟨w.heap.size + 1 + 1, i, none⟩ = false := fun i => not_frozen P.out i
          have P' := Lib.hid (show (wr.setCell ⟨w.heap.size + 1 + 1, 2 + k, none⟩ (.int .i64 (-1))).heap[w.heap.size + 1 + 1]? = some (.cells (rCells (.slice A' 1 c') (.slice (some ⟨w.heap.size + 1, 0, none⟩) n n) (fun j => if j < k + 1 then -1 else 0)) 80 (0, 0)) from by rw [← rep_next]; exact rd_set P.out k hk8 (-1))
          have R' := Lib.hid (show Rd.zero.At (wr.setCell ⟨w.heap.size + 1 + 1, 2 + k, none⟩ (.int .i64 (-1))) (fun _ => False) w.heap.size from by
            obtain ⟨sa0, sv0, h1, h2⟩ := R.out
            exact ⟨sa0, sv0, (heap_setCell_other _ ⟨w.heap.size + 1 + 1, 2 + k, none⟩ _ _ (by simp; omega)).trans h1, h2.keep (by simp [World.setCell]) (fun p _ hp => hp.elim)⟩)
          have HB' := Lib.hid (HB.out.setCell (p := ⟨w.heap.size + 1 + 1, 2 + k, none⟩) (by show w.heap.size ≤ w.heap.size + 1 + 1; omega) (.int .i64 (-1)))
          have V' := Lib.hid (V.out.setCell (p := ⟨w.heap.size + 1 + 1, 2 + k, none⟩) (by show ¬ (w.heap.size + 1 + 1 = w.heap.size + 1); omega) (.int .i64 (-1)))
          have Z' := Lib.hid (Z.out.setCell (p := ⟨w.heap.size + 1 + 1, 2 + k, none⟩) (by show ¬ (w.heap.size + 1 + 1 = w.heap.size + 3); omega) (.int .i64 (-1)))
          have X' := Lib.hid (X.out.setCell (p := ⟨w.heap.size + 1 + 1, 2 + k, none⟩) (by show ¬ (w.heap.size + 5 ≤ w.heap.size + 1 + 1); omega) (.int .i64 (-1)))
          have HK := Lib.hid hk8
          clear P R HB V Z X hk hk8
          skip
          go_wp2
          go_roundw
          case rel => exact ⟨k + 1, by have := HK.out; omega, by go_num, P', R', HB', V', Z', X'⟩
          case measure => exact meas_up _ _ HK.out
        · obtain rfl : k = 8 := by omega
          clear hk hk8
          have HMM := Lib.hid (show (Rd.new n).Mem wr (fun b => S b ∧ b ≠ w.heap.size) (.slice A' 1 c') (.slice (some ⟨w.heap.size + 1, 0, none⟩) n n) from by
            have hz := Z.out
            have hv := V.out
            rw [toList_madeCells_one] at hz hv
            refine ⟨⟨A', c', _, rfl, HG.out.1, HG.out.2, X.out.more fun b _ h => ⟨HS.out b (by omega), by omega⟩, fun i hi => ?_⟩, some ⟨w.heap.size + 1, 0, none⟩, n, by simp [Rd.new], by simp [Rd.new], by simp, ?_⟩
            · have hi : i < 1 := hi
              obtain rfl : i = 0 := by omega
              refine ⟨_, rfl, some ⟨w.heap.size + 3, 0, none⟩, n, by simp [Rd.new], by simp [Rd.new], by simp, ?_⟩
              show Reads wr _ 1 _ (List.replicate n (0 : Int)).length ((List.replicate n (0 : Int)).map _)
              rw [List.length_replicate, List.map_replicate]
              exact hz.more fun b _ h => by have h : b = w.heap.size + 3 := h; exact ⟨HS.out b (by omega), by omega⟩
            · show Reads wr _ 1 _ (List.replicate n (0 : Int)).length ((List.replicate n (0 : Int)).map _)
              rw [List.length_replicate, List.map_replicate]
              exact hv.more fun b _ h => by have h : b = w.heap.size + 1 := h; exact ⟨HS.out b (by omega), by omega⟩)
          have PN := Lib.hid (show wr.heap[w.heap.size + 1 + 1]? = some (.cells (rCells (.slice A' 1 c') (.slice (some ⟨w.heap.size + 1, 0, none⟩) n n) (Rd.new n).R) 80 (0, 0)) from P.out)
          clear V Z X HG P
          go_wp2_with (first
            | (with_reducible refine at_load_ (t := 80) ?_; refine get_rd (d := Rd.new n) (sa := .slice A' 1 c') (sv := (.slice (some ⟨w.heap.size + 1, 0, none⟩) n n)) rfl _ rfl (w.heap.size + 1 + 1) rfl PN.out ?_)
            | (with_reducible refine at_store_ (t := 80) ?_; refine Hid.out ?_))
          refine Lib.hid ?_
          refine put_rd (d := Rd.new n) (sa := .slice A' 1 c') (sv := .slice (some ⟨w.heap.size + 1, 0, none⟩) n n) rfl (.tmp 2) (.tmp 22) rfl rfl w.heap.size rfl rfl R.out HMM.out (fun h => h.2 rfl) ?_
          intro w10 hp ht
          have HP := Lib.hid hp
          have HB5 := Lib.hid (ht.below HB.out (Nat.le_refl _))
          clear hp ht
          go_wp2_with fail
          obtain ⟨sa5, sv5, hblk, hmm⟩ := HP.out
          have hl := load_rd _ _ _ _ _ hblk rfl
          refine bodyPost_ret (v := (Rd.new n).val sa5 sv5) ?_ rfl ⟨sa5, sv5, rfl, hmm.more fun b _ h => h.1, HB5.out⟩
          simp [results, Try.results66, asAddr, hl, Rd.val]
    · skip
      go_simp
      have hbb : Below w6.heap.size w6 (w6.alloc (.cells #[.slice (some ⟨w.heap.size + 3, 0, none⟩) n n] 40)) := (Below.refl _ _).alloc (Nat.le_refl _) _
      have YF := Lib.hid (Reads.newAt (S := fun b => b = w.heap.size + 4) (size := 1) (n := 1) w6 (w.heap.size + 4) #[.slice (some ⟨w.heap.size + 3, 0, none⟩) n n] 40 HZE.out rfl rfl)
      have HZF := Lib.hid (show (w6.alloc (.cells #[.slice (some ⟨w.heap.size + 3, 0, none⟩) n n] 40)).heap.size = w.heap.size + 5 by simp [HZE.out])
      have HHF := Lib.hid ((hbb.block _ (lt_of_block HHE.out)).trans HHE.out)
      have RF := Lib.hid (RE.out.below hbb)
      have VF := Lib.hid (VE.out.below hbb)
      have ZF := Lib.hid (ZE.out.below hbb)
      have HBF := Lib.hid (HBE.out.trans (hbb.mono HBE.out.size))
      clear HHE RE VE HBE ZE
      rw [HZE.out]
      generalize w6.alloc (.cells #[.slice (some ⟨w.heap.size + 3, 0, none⟩) n n] 40) = w7 at *
      refine hK.out _ _ trivial (fun hHeldq => ?_)
      clear hK hHeldq hbb HZE
      try simp only [Act.put, List.setIfInBounds_toArray, List.set_cons_zero, List.set_cons_succ]
      refine wpAnyH_ready (rs := [1]) (by kernel_rfl) (by simp) ?_
      refine AllReadyH.cons (o := ⟨some 9, _, _, _, _, _⟩) rfl (fun K hK => ?_) (AllReadyH.nil)
      have hc0 := (rd_all HHF.out).1
      go_simp
      clear hc0
      refine hK.out _ _ trivial (fun hHeldq => ?_)
      clear hK hHeldq
      try simp only [Act.put, List.setIfInBounds_toArray, List.set_cons_zero, List.set_cons_succ]
      refine wpAnyH_ready (rs := [5]) (by kernel_rfl) (by simp) ?_
      refine AllReadyH.cons (o := ⟨some 13, _, _, _, _, _⟩) rfl (fun K hK => ?_) (AllReadyH.nil)
      refine Eq.mpr (if_pos (by kernel_rfl)) ?_
      refine wp_app_any (.tmp 9) (.tmp 12) 76 rfl (w.heap.size + 5) 40 is _ 1 24 Try.underlying76 his0 his1 his2 his3 rfl (by omega) (.slice none 0 0) 0 [] rfl (World.ownsRow_nil _ _ _ _) _ _ 1 1 _ rfl YF.out (by intro u hu; simp at hu; subst hu; rfl) (by simp only [maxLen]; omega) (by omega) (by have := HZF.out; omega) ?_
      intro v' w8 ho hg _
      have hb8 : Below w7.heap.size w7 w8 := (Below.refl _ _).grown hg (Nat.le_refl _) (by simp [Value.ownBlock])
      obtain ⟨A', c', rfl, g1, g2, g3⟩ := own_reads ho (S := fun b => w.heap.size + 5 ≤ b) (fun b hb => hb)
      have XG := Lib.hid g3
      have HG := Lib.hid (And.intro g1 g2)
      have HHG := Lib.hid ((hb8.block _ (lt_of_block HHF.out)).trans HHF.out)
      have RG := Lib.hid (RF.out.below hb8)
      have VG := Lib.hid (VF.out.below hb8)
      have ZG := Lib.hid (ZF.out.below hb8)
      have HBG := Lib.hid (HBF.out.trans (hb8.mono HBF.out.size))
      clear HHF RF VF HBF ZF
      clear ho hg hb8 g1 g2 g3 YF HZF
      refine hK.out _ _ trivial (fun hHeldq => ?_)
      clear hK hHeldq
      try simp only [Act.put, List.setIfInBounds_toArray, List.set_cons_zero, List.set_cons_succ]
      refine wpAnyH_take (i := 6) (oi := ⟨some 14, _, _, _, _, _⟩) (v := .pointer (some ⟨w.heap.size + 1 + 1, 0, none⟩)) rfl (by kernel_rfl) (by kernel_rfl) (by kernel_rfl) (fun _ _ _ h => h) (Or.inl ⟨by rfl, ?_⟩) trivial ?_
      · intro W' hW
        go_simp
      try simp only [Act.put, List.setIfInBounds_toArray, List.set_cons_zero, List.set_cons_succ]
      refine wpAnyH_ready (rs := [7]) (by kernel_rfl) (by simp) ?_
      refine AllReadyH.cons (o := ⟨none, _, _, _, _, _⟩) rfl (fun K hK => ?_) (AllReadyH.nil)
      have hz := not_frozen HHG.out 0
      have hc0 := (rd_all HHG.out).1
      go_simp
      clear hz hc0
      have HHH := Lib.hid (show (w8.setCell ⟨w.heap.size + 1 + 1, 0, none⟩ (.slice A' 1 c')).heap[w.heap.size + 1 + 1]? = some (.cells (rCells (.slice A' 1 c') (.slice (some ⟨w.heap.size + 1, 0, none⟩) n n) (fun j => if j < 0 then -1 else 0)) 80 (0, 0)) from setCell_block HHG.out _)
      have RH := Lib.hid (show Rd.zero.At (w8.setCell ⟨w.heap.size + 1 + 1, 0, none⟩ (.slice A' 1 c')) (fun _ => False) w.heap.size from by
        obtain ⟨sa0, sv0, h1, h2⟩ := RG.out
        exact ⟨sa0, sv0, (heap_setCell_other _ ⟨w.heap.size + 1 + 1, 0, none⟩ _ _ (by simp; omega)).trans h1, h2.keep (by simp [World.setCell]) (fun p _ hp => hp.elim)⟩)
      have HBH := Lib.hid (HBG.out.setCell (p := ⟨w.heap.size + 1 + 1, 0, none⟩) (by show w.heap.size ≤ w.heap.size + 1 + 1; omega) (.slice A' 1 c'))
      have VH := Lib.hid (VG.out.setCell (p := ⟨w.heap.size + 1 + 1, 0, none⟩) (by show ¬ (w.heap.size + 1 + 1 = w.heap.size + 1); omega) (.slice A' 1 c'))
      have ZH := Lib.hid (ZG.out.setCell (p := ⟨w.heap.size + 1 + 1, 0, none⟩) (by show ¬ (w.heap.size + 1 + 1 = w.heap.size + 3); omega) (.slice A' 1 c'))
      have XH := Lib.hid (XG.out.setCell (p := ⟨w.heap.size + 1 + 1, 0, none⟩) (by show ¬ (w.heap.size + 5 ≤ w.heap.size + 1 + 1); omega) (.slice A' 1 c'))
      generalize w8.setCell ⟨w.heap.size + 1 + 1, 0, none⟩ (.slice A' 1 c') = w9 at *
      clear HHG RG HBG VG ZG XG
      refine hK.out _ _ trivial (fun hHeldq => ?_)
      clear hK hHeldq
      try simp only [Act.put]
      refine wpAnyH_done (by kernel_rfl) ?_ _
      go_wp2
      go_loopw [4] (fun i wr => ∃ k : Nat, k ≤ 8 ∧ i = .int .i64 k ∧ Hid (wr.heap[w.heap.size + 1 + 1]? = some (.cells (rCells (.slice A' 1 c') (.slice (some ⟨w.heap.size + 1, 0, none⟩) n n) (fun j => if j < k then -1 else 0)) 80 (0, 0))) ∧ Hid (Rd.zero.At wr (fun _ => False) w.heap.size) ∧ Hid (Below w.heap.size w wr) ∧ Hid (Reads wr (fun b => b = w.heap.size + 1) 1 (some ⟨w.heap.size + 1, 0, none⟩) n (madeCells #[Value.int .u32 0] n).toList) ∧ Hid (Reads wr (fun b => b = w.heap.size + 3) 1 (some ⟨w.heap.size + 3, 0, none⟩) n (madeCells #[Value.int .i64 0] n).toList) ∧ Hid (Reads wr (fun b => w.heap.size + 5 ≤ b) 1 A' 1 [.slice (some ⟨w.heap.size + 3, 0, none⟩) n n])) (fun i _ => 8 - (intOf i).toNat)
      case atStart => exact ⟨0, by omega, rfl, HHH, RH, HBH, VH, ZH, Lib.hid (by simpa using XH.out)⟩
      case round =>
        clear HHH RH HBH VH ZH XH
        obtain ⟨k, hk, rfl, P, R, HB, V, Z, X⟩ := hrel
        by_cases hk8 : k < 8
        · have h8 : (k : Int) < 8 := by omega
          have c0 := (rd_all P.out).2.2 k hk8
          have hz : ∀ i, wr.frozen? ⟨w.heap.size + 1 + 1, i, none⟩ = false := fun i => not_frozen P.out i
          have P' := Lib.hid (show (wr.setCell ⟨w.heap.size + 1 + 1, 2 + k, none⟩ (.int .i64 (-1))).heap[w.heap.size + 1 + 1]? = some (.cells (rCells (.slice A' 1 c') (.slice (some ⟨w.heap.size + 1, 0, none⟩) n n) (fun j => if j < k + 1 then -1 else 0)) 80 (0, 0)) from by rw [← rep_next]; exact rd_set P.out k hk8 (-1))
          have R' := Lib.hid (show Rd.zero.At (wr.setCell ⟨w.heap.size + 1 + 1, 2 + k, none⟩ (.int .i64 (-1))) (fun _ => False) w.heap.size from by
            obtain ⟨sa0, sv0, h1, h2⟩ := R.out
            exact ⟨sa0, sv0, (heap_setCell_other _ ⟨w.heap.size + 1 + 1, 2 + k, none⟩ _ _ (by simp; omega)).trans h1, h2.keep (by simp [World.setCell]) (fun p _ hp => hp.elim)⟩)
          have HB' := Lib.hid (HB.out.setCell (p := ⟨w.heap.size + 1 + 1, 2 + k, none⟩) (by show w.heap.size ≤ w.heap.size + 1 + 1; omega) (.int .i64 (-1)))
          have V' := Lib.hid (V.out.setCell (p := ⟨w.heap.size + 1 + 1, 2 + k, none⟩) (by show ¬ (w.heap.size + 1 + 1 = w.heap.size + 1); omega) (.int .i64 (-1)))
          have Z' := Lib.hid (Z.out.setCell (p := ⟨w.heap.size + 1 + 1, 2 + k, none⟩) (by show ¬ (w.heap.size + 1 + 1 = w.heap.size + 3); omega) (.int .i64 (-1)))
          have X' := Lib.hid (X.out.setCell (p := ⟨w.heap.size + 1 + 1, 2 + k, none⟩) (by show ¬ (w.heap.size + 5 ≤ w.heap.size + 1 + 1); omega) (.int .i64 (-1)))
          have HK := Lib.hid hk8
          clear P R HB V Z X hk hk8
          skip
          go_wp2
          go_roundw
          case rel => exact ⟨k + 1, by have := HK.out; omega, by go_num, P', R', HB', V', Z', X'⟩
          case measure => exact meas_up _ _ HK.out
        · obtain rfl : k = 8 := by omega
          clear hk hk8
          have HMM := Lib.hid (show (Rd.new n).Mem wr (fun b => S b ∧ b ≠ w.heap.size) (.slice A' 1 c') (.slice (some ⟨w.heap.size + 1, 0, none⟩) n n) from by
            have hz := Z.out
            have hv := V.out
            rw [toList_madeCells_one] at hz hv
            refine ⟨⟨A', c', _, rfl, HG.out.1, HG.out.2, X.out.more fun b _ h => ⟨HS.out b (by omega), by omega⟩, fun i hi => ?_⟩, some ⟨w.heap.size + 1, 0, none⟩, n, by simp [Rd.new], by simp [Rd.new], by simp, ?_⟩
            · have hi : i < 1 := hi
              obtain rfl : i = 0 := by omega
              refine ⟨_, rfl, some ⟨w.heap.size + 3, 0, none⟩, n, by simp [Rd.new], by simp [Rd.new], by simp, ?_⟩
              show Reads wr _ 1 _ (List.replicate n (0 : Int)).length ((List.replicate n (0 : Int)).map _)
              rw [List.length_replicate, List.map_replicate]
              exact hz.more fun b _ h => by have h : b = w.heap.size + 3 := h; exact ⟨HS.out b (by omega), by omega⟩
            · show Reads wr _ 1 _ (List.replicate n (0 : Int)).length ((List.replicate n (0 : Int)).map _)
              rw [List.length_replicate, List.map_replicate]
              exact hv.more fun b _ h => by have h : b = w.heap.size + 1 := h; exact ⟨HS.out b (by omega), by omega⟩)
          have PN := Lib.hid (show wr.heap[w.heap.size + 1 + 1]? = some (.cells (rCells (.slice A' 1 c') (.slice (some ⟨w.heap.size + 1, 0, none⟩) n n) (Rd.new n).R) 80 (0, 0)) from P.out)
          clear V Z X HG P
          go_wp2_with (first
            | (with_reducible refine at_load_ (t := 80) ?_; refine get_rd (d := Rd.new n) (sa := .slice A' 1 c') (sv := (.slice (some ⟨w.heap.size + 1, 0, none⟩) n n)) rfl _ rfl (w.heap.size + 1 + 1) rfl PN.out ?_)
            | (with_reducible refine at_store_ (t := 80) ?_; refine Hid.out ?_))
          refine Lib.hid ?_
          refine put_rd (d := Rd.new n) (sa := .slice A' 1 c') (sv := .slice (some ⟨w.heap.size + 1, 0, none⟩) n n) rfl (.tmp 2) (.tmp 22) rfl rfl w.heap.size rfl rfl R.out HMM.out (fun h => h.2 rfl) ?_
          intro w10 hp ht
          have HP := Lib.hid hp
          have HB5 := Lib.hid (ht.below HB.out (Nat.le_refl _))
          clear hp ht
          go_wp2_with fail
          obtain ⟨sa5, sv5, hblk, hmm⟩ := HP.out
          have hl := load_rd _ _ _ _ _ hblk rfl
          refine bodyPost_ret (v := (Rd.new n).val sa5 sv5) ?_ rfl ⟨sa5, sv5, rfl, hmm.more fun b _ h => h.1, HB5.out⟩
          simp [results, Try.results66, asAddr, hl, Rd.val]
end Go.Proofs.Ytpejhgkcofilmaa
