/- The walk of the reference's Commit. Conditions: the entries name cells that there are; no cell is written twice. -/
import Derived.Test.YtpejhgkcofilmaaRd
import Derived.Laws.OwnMore
import Derived.StillTailTactics
set_option linter.unusedVariables false
namespace Go.Proofs.Ytpejhgkcofilmaa
open Go.RowKit

theorem wr_take (l : List Ent) (j : Nat) (hj : j < l.length) (k : Int) : wrOf (l.take (j + 1)) k = if l[j].wr = true then (if k = l[j].loc then some l[j].new else wrOf (l.take j) k) else wrOf (l.take j) k := by
  rw [List.take_succ_eq_append_getElem hj, wrOf_snoc]
/-- The next state and the next numbers of writes behind some entries. -/
def nextL (d : Rd) (n : Nat) (l : List Ent) : List Int := (List.range n).map fun k => (wrOf l ((k : Nat) : Int)).getD (d.nowAt k)
def versL (d : Rd) (n : Nat) (l : List Ent) : List Int := (List.range n).map fun k => if (wrOf l ((k : Nat) : Int)).isSome = true then d.vsAt k + 1 else d.vsAt k
theorem nextL_nil {d : Rd} {n : Nat} (h : (d.st.getLast?.getD []).length = n) : nextL d n [] = d.st.getLast?.getD [] := by
  apply List.ext_getElem?
  intro k
  unfold nextL
  rw [List.getElem?_map]
  rcases Nat.lt_or_ge k n with hk | hk
  · rw [List.getElem?_range hk, List.getElem?_eq_getElem (by omega)]
    show some ((none : Option Int).getD (d.nowAt k)) = _
    unfold Rd.nowAt
    rw [show ((k : Nat) : Int).toNat = k from by omega, List.getD_eq_getElem?_getD, List.getElem?_eq_getElem (by omega)]
    rfl
  · rw [List.getElem?_eq_none (by simpa using hk), List.getElem?_eq_none (by omega)]
    rfl
theorem versL_nil {d : Rd} {n : Nat} (h : d.vs.length = n) : versL d n [] = d.vs := by
  apply List.ext_getElem?
  intro k
  unfold versL
  rw [List.getElem?_map]
  rcases Nat.lt_or_ge k n with hk | hk
  · rw [List.getElem?_range hk, List.getElem?_eq_getElem (by omega)]
    show some (d.vsAt k) = _
    unfold Rd.vsAt
    rw [show ((k : Nat) : Int).toNat = k from by omega, List.getD_eq_getElem?_getD, List.getElem?_eq_getElem (by omega)]
    rfl
  · rw [List.getElem?_eq_none (by simpa using hk), List.getElem?_eq_none (by omega)]
    rfl
theorem nextL_len (d : Rd) (n : Nat) (l : List Ent) : (nextL d n l).length = n := by simp [nextL]
theorem versL_len (d : Rd) (n : Nat) (l : List Ent) : (versL d n l).length = n := by simp [versL]
theorem nextL_set (d : Rd) (n i : Nat) (l l' : List Ent) (v : Int) (hi : i < n) (h : ∀ k : Int, wrOf l' k = if k = i then some v else wrOf l k) : ((nextL d n l).map (Value.int .i64 ·)).set i (.int .i64 v) = (nextL d n l').map (.int .i64 ·) := by
  apply List.ext_getElem?
  intro k
  unfold nextL
  rw [List.getElem?_set]
  by_cases hk : i = k
  · subst hk
    rw [if_pos rfl, if_pos (by simpa using hi), List.getElem?_map, List.getElem?_map, List.getElem?_range hi]
    show _ = some (Value.int .i64 ((wrOf l' i).getD _))
    rw [h, if_pos rfl]
    rfl
  · rw [if_neg hk, List.getElem?_map, List.getElem?_map, List.getElem?_map, List.getElem?_map]
    rcases Nat.lt_or_ge k n with hkn | hkn
    · rw [List.getElem?_range hkn]
      show some (Value.int .i64 ((wrOf l k).getD _)) = some (Value.int .i64 ((wrOf l' k).getD _))
      rw [h, if_neg (show ¬ ((k : Int) = (i : Int)) by omega)]
    · rw [List.getElem?_eq_none (by simpa using hkn)]
      rfl
theorem versL_set (d : Rd) (n i : Nat) (l l' : List Ent) (v : Int) (hi : i < n) (h : ∀ k : Int, wrOf l' k = if k = i then some v else wrOf l k) : ((versL d n l).map (Value.int .u32 ·)).set i (.int .u32 (d.vsAt i + 1)) = (versL d n l').map (.int .u32 ·) := by
  apply List.ext_getElem?
  intro k
  unfold versL
  rw [List.getElem?_set]
  by_cases hk : i = k
  · subst hk
    rw [if_pos rfl, if_pos (by simpa using hi), List.getElem?_map, List.getElem?_map, List.getElem?_range hi]
    show _ = some (Value.int .u32 (if (wrOf l' i).isSome = true then _ else _))
    rw [h, if_pos rfl]
    rfl
  · rw [if_neg hk, List.getElem?_map, List.getElem?_map, List.getElem?_map, List.getElem?_map]
    rcases Nat.lt_or_ge k n with hkn | hkn
    · rw [List.getElem?_range hkn]
      show some (Value.int .u32 (if (wrOf l k).isSome = true then _ else _)) = some (Value.int .u32 (if (wrOf l' k).isSome = true then _ else _))
      rw [h, if_neg (show ¬ ((k : Int) = (i : Int)) by omega)]
    · rw [List.getElem?_eq_none (by simpa using hkn)]
      rfl
theorem versL_at (d : Rd) (n i : Nat) (l : List Ent) (hi : i < n) (h : wrOf l i = none) : ((versL d n l).map (Value.int .u32 ·))[i]? = some (.int .u32 (d.vsAt i)) := by
  unfold versL
  rw [List.getElem?_map, List.getElem?_map, List.getElem?_range hi]
  show some (Value.int .u32 (if (wrOf l i).isSome = true then _ else _)) = _
  rw [h]
  rfl
theorem nextL_at (d : Rd) (n i : Nat) (l : List Ent) (hi : i < n) : ∃ x, ((nextL d n l).map (Value.int .i64 ·))[i]? = some (.int .i64 x) := by
  unfold nextL
  rw [List.getElem?_map, List.getElem?_map, List.getElem?_range hi]
  exact ⟨_, rfl⟩
/-- The store behind a commit of entries that match. -/
def Rd.commitD (d : Rd) (n : Nat) (l : List Ent) : Rd := if l.any (fun e => e.wr) = true then { d with st := d.st ++ [nextL d n l], vs := versL d n l } else d

set_option maxRecDepth 100000 in
set_option maxHeartbeats 25600000 in
theorem rcommit_any {S : Nat → Prop} {d : Rd} {sa sv : Value} (n : Nat) (A : Option Addr) (m c : Nat) (l : List Ent) (w : World) (hS : ∀ b, w.heap.size ≤ b → S b) (hm : d.Mem w S sa sv) (hw : d.Wide n) (hn : 1 ≤ n ∧ n ≤ 1000) (hl : Ents w S A m l) (hlen : l.length ≤ 1000)
    (hin : ∀ e ∈ l, inC (n : Int) e = true) (hdis : ∀ j (h : j < l.length), l[j].wr = true → wrOf (l.take j) l[j].loc = none) (hvs : ∀ k : Nat, k < n → 0 ≤ d.vsAt k ∧ d.vsAt k ≤ 1000000) :
    Calls Try.prog 73 #[d.val sa sv, .slice A m c] w fun e w' => ∃ sa' sv', e = .returned ((d.commitD n l).val sa' sv') ∧ (d.commitD n l).Mem w' S sa' sv' ∧ Below w.heap.size w w' := by
  obtain ⟨ii, hii0, hii1, hii2, hii3⟩ := info_parts (P := Try.prog) (e := 2) (z := .int .i64 0) (size := 1) (bytes := 8) (by kernel_rfl)
  obtain ⟨iu, hiu0, hiu1, hiu2, hiu3⟩ := info_parts (P := Try.prog) (e := 60) (z := .int .u32 0) (size := 1) (bytes := 4) (by kernel_rfl)
  obtain ⟨is, his0, his1, his2, his3⟩ := info_parts (P := Try.prog) (e := 40) (z := .slice none 0 0) (size := 1) (bytes := 24) (by kernel_rfl)
  have HW := Lib.hid hw
  have HS := Lib.hid hS
  have HE := Lib.hid (hl.more (S' := SX S w.heap.size (w.heap.size + 1)) fun b hb h => ⟨h, by omega, by omega⟩)
  have HN := Lib.hid hl.1
  have hmm : (m : Int) ≤ 1000 := by have := hl.1; omega
  obtain ⟨V, vc, rfl, hv1, hv2, hv3⟩ := Rd.vs_row hm
  have hvn : d.vs.length = n := hw.1
  rw [hvn] at hm hv3 hv1 ⊢
  have HM := Lib.hid (hm.more (S' := SX S w.heap.size (w.heap.size + 1)) fun b hb h => ⟨h, by omega, by omega⟩)
  have HV := Lib.hid hv3
  have HVC := Lib.hid (And.intro hv1 hv2)
  have HVN := Lib.hid hvn
  obtain ⟨bs, os, sc, A1, c1, rfl, hbs, hSs, hrow, hc11, hA1, hr1, hr2⟩ := Rd.now_row hm hw
  have HROW := Lib.hid (And.intro hbs hrow)
  have HR1 := Lib.hid hr1
  have HRL := Lib.hid hr2
  have HSS := Lib.hid hw.2
  have hlen2 : (d.st.length : Int) ≤ 1000 := by have := hw.2.2.1; omega
  have hlen1 : 1 ≤ (d.st.length : Int) := by have := hw.2.1; omega
  obtain ⟨ln, hln⟩ : ∃ ln : Nat, d.st.length = ln + 1 := ⟨d.st.length - 1, by have := hw.2.1; omega⟩
  have hlnI : (d.st.length : Int) - 1 = (ln : Int) := by omega
  have HLNI := Lib.hid hlnI
  rw [hln, Nat.add_sub_cancel] at HROW
  have HLN2 := Lib.hid hln
  have HNN := Lib.hid hn
  have HIN := Lib.hid hin
  have HDIS := Lib.hid hdis
  have HVS := Lib.hid hvs
  have hnn : (n : Int) ≤ 1000 := by omega
  have hn1 : (1 : Int) ≤ (n : Int) := by omega
  clear hS hm hw hn hl hlen hin hdis hvs hv1 hv2 hv3 hbs hSs hrow hr1 hr2 hln hlnI hc11 hA1 hvn
  go_enter Try.func73, Try.ntmps73
  go_wp2_with (with_reducible refine at_box_ (t := 80) ?_; refine box_rd rfl _ rfl rfl HM.out ?_)
  intro w1 hp _ hb hz
  have P1 := Lib.hid hp
  have HB1 := Lib.hid hb
  have HZ1 := Lib.hid hz
  clear hp hb hz
  go_wp2_with (with_reducible refine at_alloc_ (t := 80) ?_; refine alloc_rd (S := fun _ => False) rfl rfl ?_)
  intro w2 hp hb hz
  rw [HZ1.out] at hp hz ⊢
  have R2 := Lib.hid hp
  have P2 := Lib.hid ((hb.block w.heap.size (lt_of_block P1.out)).trans P1.out)
  have HB2 := Lib.hid (HB1.out.trans (hb.mono HB1.out.size))
  have HZ2 := Lib.hid (show w2.heap.size = w.heap.size + 2 by omega)
  clear hp hb hz P1 HB1 HZ1
  have HROW2 := Lib.hid ((HB2.out.cell (p := ⟨bs, os + ln, none⟩) HROW.out.1).trans HROW.out.2)
  go_wp2_with fail
  refine wp_region_held_drew (S := fun W => W.heap[w.heap.size]? = some (.cells (rCells (.slice (some ⟨bs, os, none⟩) d.st.length sc) (.slice V n vc) d.R) 80 (0, 0)) ∧ W.cell? ⟨bs, os + ln, none⟩ = some (.slice A1 n c1)) (by kernel_rfl) ⟨P2.out, HROW2.out⟩ (fun hHeld => ?_)
  have HHD := Lib.hid hHeld
  have HBD := Lib.hid HB2.out.drew
  have RD := Lib.hid (R2.out.below (show Below w2.heap.size w2 w2.drew from (Below.refl _ _).drew))
  have HZD := Lib.hid (show w2.drew.heap.size = w.heap.size + 2 from HZ2.out)
  clear hHeld P2 HB2 HROW2 R2 HZ2
  generalize w2.drew = wd at *
  refine wpAnyH_take (i := 0) (oi := ⟨some 10, _, _, _, _, _⟩) (v := .slice none 0 0) rfl (by kernel_rfl) (by kernel_rfl) (by kernel_rfl) (fun _ _ _ h => h) (Or.inl ⟨by rfl, ?_⟩) HHD.out ?_
  · intro W' hW
    go_simp
  try simp only [Act.put, List.setIfInBounds_toArray, List.set_cons_zero, List.set_cons_succ]
  refine wpAnyH_take (i := 1) (oi := ⟨some 11, _, _, _, _, _⟩) (v := .pointer (some ⟨w.heap.size, 0, none⟩)) rfl (by kernel_rfl) (by kernel_rfl) (by kernel_rfl) (fun _ _ _ h => h) (Or.inl ⟨by rfl, ?_⟩) HHD.out ?_
  · intro W' hW
    go_simp
  try simp only [Act.put, List.setIfInBounds_toArray, List.set_cons_zero, List.set_cons_succ]
  refine wpAnyH_take (i := 2) (oi := ⟨some 12, _, _, _, _, _⟩) (v := (.slice (some ⟨bs, os, none⟩) d.st.length sc)) rfl (by kernel_rfl) (by kernel_rfl) (by kernel_rfl) (fun _ _ _ h => h) (Or.inl ⟨by rfl, ?_⟩) HHD.out ?_
  · intro W' hW
    have hf := (rd_all hW.1).1
    go_simp
  try simp only [Act.put, List.setIfInBounds_toArray, List.set_cons_zero, List.set_cons_succ]
  refine wpAnyH_take (i := 3) (oi := ⟨some 13, _, _, _, _, _⟩) (v := d.val (.slice (some ⟨bs, os, none⟩) d.st.length sc) (.slice V n vc)) rfl (by kernel_rfl) (by kernel_rfl) (by kernel_rfl) (fun _ _ _ h => h) (yields_rd (by rfl) _ rfl w.heap.size rfl 80 (0, 0) (fun _ h => h.1)) HHD.out ?_
  try simp only [Act.put, List.setIfInBounds_toArray, List.set_cons_zero, List.set_cons_succ]
  refine wpAnyH_ready (rs := [4]) (by kernel_rfl) (by simp) ?_
  refine AllReadyH.cons (o := ⟨some 14, _, _, _, _, _⟩) rfl (fun K hK => ?_) (AllReadyH.nil)
  go_simp
  refine (rnow_any wd (HM.out.below HBD.out) (by have := HLN2.out; omega)).mono ?_
  rintro e we ⟨he, hb⟩
  rw [HLNI.out] at he
  subst he
  have HHE := Lib.hid (And.intro ((hb.block w.heap.size (lt_of_block HHD.out.1)).trans HHD.out.1) ((hb.cell (World.block_lt_of_cell? _ _ HHD.out.2)).trans HHD.out.2))
  have HBE := Lib.hid (HBD.out.trans (hb.mono HBD.out.size))
  have RE := Lib.hid (RD.out.below hb)
  have HZE := Lib.hid (show w.heap.size + 2 ≤ we.heap.size by have := HZD.out; have := hb.size; omega)
  clear hb HHD HBD RD HZD
  have hi2 : (ln : Int) < (d.st.length : Int) := by have := HLN2.out; omega
  refine hK.out _ _ HHE.out (fun hHeldq => ?_)
  clear hK hHeldq
  try simp only [Act.put, List.setIfInBounds_toArray, List.set_cons_zero, List.set_cons_succ]
  refine wpAnyH_take (i := 5) (oi := ⟨some 15, _, _, _, _, _⟩) (v := .pointer (some ⟨bs, os + ln, none⟩)) rfl (by kernel_rfl) (by kernel_rfl) (by kernel_rfl) (fun _ _ _ h => h) (Or.inl ⟨by rfl, ?_⟩) HHE.out ?_
  · intro W' hW
    go_simp
  try simp only [Act.put, List.setIfInBounds_toArray, List.set_cons_zero, List.set_cons_succ]
  refine wpAnyH_take (i := 6) (oi := ⟨some 16, _, _, _, _, _⟩) (v := .slice A1 n c1) rfl (by kernel_rfl) (by kernel_rfl) (by kernel_rfl) (fun _ _ _ h => h) (Or.inl ⟨by rfl, ?_⟩) HHE.out ?_
  · intro W' hW
    have hf := hW.2
    go_simp
  try simp only [Act.put, List.setIfInBounds_toArray, List.set_cons_zero, List.set_cons_succ]
  refine wpAnyH_ready (rs := [7]) (by kernel_rfl) (by simp) ?_
  refine AllReadyH.cons (o := ⟨some 17, _, _, _, _, _⟩) rfl (fun K hK => ?_) (AllReadyH.nil)
  refine Eq.mpr (if_pos (by kernel_rfl)) ?_
  have HR1E := Lib.hid (HR1.out.below HBE.out)
  refine wp_app_any (.tmp 10) (.tmp 16) 40 rfl (w.heap.size + 2) 2 ii _ 1 8 Try.underlying40 hii0 hii1 hii2 hii3 rfl (by omega) (.slice none 0 0) 0 [] rfl (World.ownsRow_nil _ _ _ _) _ _ n c1 _ rfl HR1E.out (by intro u hu; simp at hu; obtain ⟨x, _, rfl⟩ := hu; rfl) (by have := HNN.out; simp only [maxLen]; omega) (by have := HNN.out; omega) HZE.out ?_
  intro v' wf ho hg _
  have hbf : Below we.heap.size we wf := (Below.refl _ _).grown hg (Nat.le_refl _) (by simp [Value.ownBlock])
  rw [Nat.zero_add, List.nil_append, ← nextL_nil HRL.out] at ho
  obtain ⟨g5, c5, rfl⟩ : ∃ g5 c5, v' = .slice (some ⟨g5, 0, none⟩) n c5 := by
    obtain ⟨g, cap, hv, _, _⟩ := ho.form (by have := HNN.out; omega)
    exact ⟨g, cap, hv⟩
  have O5 := Lib.hid ho
  have HHF := Lib.hid (And.intro ((hbf.block w.heap.size (lt_of_block HHE.out.1)).trans HHE.out.1) ((hbf.cell (World.block_lt_of_cell? _ _ HHE.out.2)).trans HHE.out.2))
  have HBF := Lib.hid (HBE.out.trans (hbf.mono HBE.out.size))
  have RF := Lib.hid (RE.out.below hbf)
  have HZF := Lib.hid (Nat.le_trans HZE.out hbf.size)
  clear ho hg hbf HHE HBE RE HZE HR1E
  refine hK.out _ _ HHF.out (fun hHeldq => ?_)
  clear hK hHeldq
  try simp only [Act.put, List.setIfInBounds_toArray, List.set_cons_zero, List.set_cons_succ]
  refine wpAnyH_take (i := 8) (oi := ⟨some 5, _, _, _, _, _⟩) (v := .slice (some ⟨g5, 0, none⟩) n c5) rfl (by kernel_rfl) (by kernel_rfl) (by kernel_rfl) (fun _ _ _ h => h) (Or.inl ⟨by rfl, ?_⟩) HHF.out ?_
  · intro W' hW
    go_simp
  try simp only [Act.put, List.setIfInBounds_toArray, List.set_cons_zero, List.set_cons_succ]
  refine wpAnyH_done (by kernel_rfl) ?_ _
  have P := Lib.hid HHF.out.1
  clear HHF
  have v0 := (rd_all P.out).2.1
  have HV2 := Lib.hid (HV.out.below HBF.out)
  go_wp2_with (at_builtin; (refine wpList_append_any rfl (.tmp 18) (.tmp 20) 77 rfl wf.heap.size 60 iu _ 1 4 Try.underlying77 hiu0 hiu1 hiu2 hiu3 rfl (by omega) (.slice none 0 0) 0 [] rfl (World.ownsRow_nil _ _ _ _) _ V n vc _ rfl HV2.out ?k1 ?k2 ?k3 (Nat.le_refl _) ?k5))
  case k1 => intro u hu; simp at hu; obtain ⟨x, _, rfl⟩ := hu; rfl
  case k2 => have := HNN.out; simp only [maxLen]; omega
  case k3 => have := HNN.out; omega
  case k5 =>
    intro v' wg ho hg _
    have hbg : Below wf.heap.size wf wg := (Below.refl _ _).grown hg (Nat.le_refl _) (by simp [Value.ownBlock])
    rw [← versL_nil HVN.out] at ho
    obtain ⟨g6, c6, rfl⟩ : ∃ g6 c6, v' = .slice (some ⟨g6, 0, none⟩) n c6 := by
      obtain ⟨g, cap, hv, _, _⟩ := ho.form (by have := HNN.out; omega)
      exact ⟨g, cap, hv⟩
    have O6 := Lib.hid ho
    have O5' := Lib.hid (own_below O5.out hbg)
    have P' := Lib.hid ((hbg.block w.heap.size (lt_of_block P.out)).trans P.out)
    have HB' := Lib.hid (HBF.out.trans (hbg.mono HBF.out.size))
    have R' := Lib.hid (RF.out.below hbg)
    have HG5 := Lib.hid (show w.heap.size + 2 ≤ g5 ∧ g5 < wf.heap.size from O5.out.lt g5 rfl)
    have HG6 := Lib.hid (show wf.heap.size ≤ g6 from (O6.out.lt g6 rfl).1)
    clear ho hg hbg O5 P HBF RF HZF v0 HV2
    generalize wf.heap.size = b6 at *
    go_wp2
    go_loopw [7, 8] (fun v i wr => ∃ k : Nat, k ≤ l.length ∧ i = .int .i64 k ∧ v = .bool ((l.take k).any fun e => e.wr) ∧ Hid (wr.ownsRow (w.heap.size + 2) 2 1 (.slice (some ⟨g5, 0, none⟩) n c5) n ((nextL d n (l.take k)).map (.int .i64 ·))) ∧ Hid (wr.ownsRow b6 60 1 (.slice (some ⟨g6, 0, none⟩) n c6) n ((versL d n (l.take k)).map (.int .u32 ·))) ∧ Hid (wr.heap[w.heap.size]? = some (.cells (rCells (.slice (some ⟨bs, os, none⟩) d.st.length sc) (.slice V n vc) d.R) 80 (0, 0))) ∧ Hid (Rd.zero.At wr (fun _ => False) (w.heap.size + 1)) ∧ Hid (Below w.heap.size w wr)) (fun _ i _ => l.length - (intOf i).toNat)
    case atStart => exact ⟨0, by omega, rfl, rfl, O5', O6, P', R', HB'⟩
    case round =>
      clear O5' O6 P' R' HB'
      obtain ⟨k, hk, rfl, rfl, O5, O6, P, R, HB⟩ := hrel
      by_cases hlt : k < l.length
      · skip
        have hi : (k : Int) < (m : Int) := by have := HN.out; omega
        obtain ⟨b, o, rfl, hbe, hSe, hc⟩ := HE.out.cell k hlt
        have e0 := (hc wr HB.out).1
        have e4 := (hc wr HB.out).2.2.2.2.1
        have e5 := (hc wr HB.out).2.2.2.2.2
        have HK := Lib.hid hlt
        have HWT := Lib.hid (wr_take l k hlt)
        have HANY := Lib.hid (show (l.take (k + 1)).any (fun e => e.wr) = ((l.take k).any (fun e => e.wr) || l[k].wr) by rw [List.take_succ_eq_append_getElem hlt, List.any_append, List.any_cons, List.any_nil, Bool.or_false]; rfl)
        have hyin := HIN.out l[k] (List.getElem_mem hlt)
        have hydis := HDIS.out k hlt
        have HBE := Lib.hid hbe
        clear hc hk hSe hbe
        generalize l[k] = y at *
        clear hlt
        obtain ⟨lo, va, ve, re, ne, wb⟩ := y
        dsimp only at e0 e4 e5 HWT HANY hydis
        have hin2 : 0 ≤ lo ∧ lo < (n : Int) := by unfold inC at hyin; simpa using hyin
        obtain ⟨j, hj⟩ : ∃ j : Nat, lo = (j : Int) := ⟨lo.toNat, by omega⟩
        subst hj
        obtain ⟨hj0, hjn⟩ := hin2
        have HJN := Lib.hid (show j < n by omega)
        clear hyin
        generalize (l.take k).any (fun e => e.wr) = wv at *
        cases wb with
        | false =>
          have HW2 := Lib.hid fun k' => (HWT.out k').trans (if_neg (by simp))
          have HN2 := Lib.hid (show nextL d n (l.take (k + 1)) = nextL d n (l.take k) by unfold nextL; congr 1; funext x; rw [HW2.out])
          have HV3 := Lib.hid (show versL d n (l.take (k + 1)) = versL d n (l.take k) by unfold versL; congr 1; funext x; rw [HW2.out])
          clear HWT hydis
          go_wp2
          go_roundw
          case rel => exact ⟨k + 1, HK.out, by go_num, by rw [HANY.out, Bool.or_false], by rw [HN2.out]; exact O5, by rw [HV3.out]; exact O6, P, R, HB⟩
          case measure => exact meas_up _ _ HK.out
        | true =>
          have HW2 := Lib.hid fun k' => (HWT.out k').trans (if_pos rfl)
          have HNO := Lib.hid (hydis rfl)
          obtain ⟨vj0, vj1⟩ := HVS.out j HJN.out
          have HS5 := Lib.hid (nextL_set d n j (l.take k) (l.take (k + 1)) ne HJN.out HW2.out)
          have HS6 := Lib.hid (versL_set d n j (l.take k) (l.take (k + 1)) ne HJN.out HW2.out)
          clear HWT hydis
          go_wp2
          have hbd : Below wr.heap.size wr wr.drew := (Below.refl _ _).drew
          have gz := O5.out.frozenAt j
          obtain ⟨x5, hx5⟩ := nextL_at d n j (l.take k) HJN.out
          have g5c := (O5.out.cellAt j (by have := HJN.out; omega)).trans hx5
          go_still_tail 12, (by kernel_rfl)
          change wpList _ _ _ _ _ wr.drew
          have O5d := Lib.hid (own_below O5.out hbd)
          have O6d := Lib.hid (own_below O6.out hbd)
          have Pd := Lib.hid (show wr.drew.heap[w.heap.size]? = some (.cells (rCells (.slice (some ⟨bs, os, none⟩) d.st.length sc) (.slice V n vc) d.R) 80 (0, 0)) from P.out)
          have Rd' := Lib.hid (R.out.below hbd)
          have HBd := Lib.hid (HB.out.trans (hbd.mono HB.out.size))
          have e0 : wr.drew.cell? ⟨b, o + k * 6, none⟩ = some (.int .i64 (j : Int)) := e0
          have gz : wr.drew.frozen? ⟨g5, j, none⟩ = false := gz
          have g5c : wr.drew.cell? ⟨g5, j, none⟩ = some (.int .i64 x5) := g5c
          clear O5 O6 P R HB hbd e4 e5 hx5
          generalize wr.drew = wd at *
          have Q5 := Lib.hid (show (wd.setCell ⟨g5, j, none⟩ (.int .i64 ne)).ownsRow (w.heap.size + 2) 2 1 (.slice (some ⟨g5, 0, none⟩) n c5) n ((nextL d n (l.take (k + 1))).map (.int .i64 ·)) from by rw [← HS5.out]; exact (O5d.out.stored j (.int .i64 ne)).1)
          have Q6 := Lib.hid (O6d.out.kept (O5d.out.stored j (.int .i64 ne)).2 (.inr (by simp [Value.ownBlock]; have := HG5.out; have := HG6.out; omega)))
          have QP := Lib.hid ((heap_setCell_other wd ⟨g5, j, none⟩ w.heap.size (.int .i64 ne) (by show w.heap.size ≠ g5; have := HG5.out; omega)).trans Pd.out)
          have QR := Lib.hid (show Rd.zero.At (wd.setCell ⟨g5, j, none⟩ (.int .i64 ne)) (fun _ => False) (w.heap.size + 1) from by
            obtain ⟨sa0, sv0, h1, h2⟩ := Rd'.out
            exact ⟨sa0, sv0, (heap_setCell_other _ ⟨g5, j, none⟩ _ _ (by show w.heap.size + 1 ≠ g5; have := HG5.out; omega)).trans h1, h2.keep (by simp [World.setCell]) (fun p _ hp => hp.elim)⟩)
          have QB := Lib.hid (HBd.out.setCell (p := ⟨g5, j, none⟩) (by show w.heap.size ≤ g5; have := HG5.out; omega) (.int .i64 ne))
          clear O5d O6d Pd Rd' HBd
          go_wp2_with (first | (with_reducible refine at_load_ (t := 67) ?_; refine Hid.out ?_))
          have e0s : (wd.setCell ⟨g5, j, none⟩ (.int .i64 ne)).cell? ⟨b, o + k * 6, none⟩ = some (.int .i64 (j : Int)) := (World.cell?_setCell_other _ _ _ _ (fun e => by injection e with e1 e2; have := HG5.out; have := HBE.out; omega)).trans e0
          have gz6 := Q6.out.frozenAt j
          have g6c := (Q6.out.cellAt j (by have := HJN.out; omega)).trans (versL_at d n j (l.take k) HJN.out HNO.out)
          clear e0 gz g5c
          generalize wd.setCell ⟨g5, j, none⟩ (.int .i64 ne) = ws at *
          generalize hvj : d.vsAt j = vj at *
          have T6 := Lib.hid (show (ws.setCell ⟨g6, j, none⟩ (.int .u32 (vj + 1))).ownsRow b6 60 1 (.slice (some ⟨g6, 0, none⟩) n c6) n ((versL d n (l.take (k + 1))).map (.int .u32 ·)) from by rw [← HS6.out]; exact (Q6.out.stored j (.int .u32 (vj + 1))).1)
          have T5 := Lib.hid (Q5.out.kept (Q6.out.stored j (.int .u32 (vj + 1))).2 (.inr (by simp [Value.ownBlock]; have := HG5.out; have := HG6.out; omega)))
          have TP := Lib.hid ((heap_setCell_other ws ⟨g6, j, none⟩ w.heap.size (.int .u32 (vj + 1)) (by show w.heap.size ≠ g6; have := HG5.out; have := HG6.out; omega)).trans QP.out)
          have TR := Lib.hid (show Rd.zero.At (ws.setCell ⟨g6, j, none⟩ (.int .u32 (vj + 1))) (fun _ => False) (w.heap.size + 1) from by
            obtain ⟨sa0, sv0, h1, h2⟩ := QR.out
            exact ⟨sa0, sv0, (heap_setCell_other _ ⟨g6, j, none⟩ _ _ (by show w.heap.size + 1 ≠ g6; have := HG5.out; have := HG6.out; omega)).trans h1, h2.keep (by simp [World.setCell]) (fun p _ hp => hp.elim)⟩)
          have TB := Lib.hid (QB.out.setCell (p := ⟨g6, j, none⟩) (by show w.heap.size ≤ g6; have := HG5.out; have := HG6.out; omega) (.int .u32 (vj + 1)))
          clear Q5 Q6 QP QR QB
          refine Lib.hid ?_
          go_wp2
          go_roundw
          case rel => exact ⟨k + 1, HK.out, by go_num, by rw [HANY.out, Bool.or_true], T5, T6, TP, TR, TB⟩
          case measure => exact meas_up _ _ HK.out
      · skip
        obtain rfl : k = l.length := by omega
        have hi : (m : Int) ≤ (l.length : Int) := by have := HN.out; omega
        rw [List.take_length] at O5 O6 ⊢
        clear hk hlt
        cases hwr : l.any (fun e => e.wr) with
        | false =>
          have HCD := Lib.hid (show d.commitD n l = d by unfold Rd.commitD; rw [hwr]; rfl)
          have HMR := Lib.hid (HM.out.below HB.out)
          clear hwr O5 O6
          go_wp2_with (first
           | (with_reducible refine at_load_ (t := 80) ?_; refine get_rd (d := d) (sa := (.slice (some ⟨bs, os, none⟩) d.st.length sc)) (sv := (.slice V n vc)) rfl _ rfl w.heap.size rfl P.out ?_)
           | (with_reducible refine at_store_ (t := 80) ?_; refine Hid.out ?_))
          refine Lib.hid ?_
          refine put_rd rfl (.tmp 4) (.tmp 57) rfl rfl (w.heap.size + 1) rfl rfl R.out HMR.out (fun h => h.2.2 rfl) ?_
          intro wy hp ht
          have HP := Lib.hid hp
          have HB5 := Lib.hid (ht.below HB.out (Nat.le_succ _))
          clear hp ht
          go_wp2_with fail
          obtain ⟨sa5, sv5, hblk, hmm⟩ := HP.out
          have hl := load_rd _ _ _ _ _ hblk rfl
          refine bodyPost_ret (v := d.val sa5 sv5) ?_ rfl ⟨sa5, sv5, by rw [HCD.out], by rw [HCD.out]; exact hmm.more fun b _ h => h.1, HB5.out⟩
          simp [results, Try.results73, asAddr, hl, Rd.val]
        | true =>
          have HCD := Lib.hid (show d.commitD n l = { d with st := d.st ++ [nextL d n l], vs := versL d n l } by unfold Rd.commitD; rw [hwr]; rfl)
          have v0 := (rd_all P.out).1
          clear hwr
          obtain ⟨⟨As, cs2, rows, he, hst1, hst2, hst3, hst4⟩, _⟩ := HM.out
          injection he with he1 he2 he3
          subst he1 he3
          have HST := Lib.hid (And.intro (hst3.below HB.out) hst4)
          have HONE := Lib.hid (show ∀ u ∈ rows, u.oneCell' = true from fun u hu => by
            obtain ⟨i, hi, rfl⟩ := List.mem_iff_getElem.1 hu
            obtain ⟨v, hv, A', c', rfl, _⟩ := hst4 i (by rw [hst3.1] at hi; omega)
            rw [List.getElem?_eq_getElem hi] at hv
            injection hv with hv
            rw [hv]; rfl)
          have HZ := Lib.hid (show w.heap.size + 2 ≤ wr.heap.size by have := (O6.out.lt g6 rfl).2; have := HG5.out; have := HG6.out; omega)
          clear hst1 hst2 hst3 hst4
          go_wp2_with (at_builtin; (refine wpList_append_any rfl (.tmp 58) (.tmp 60) 76 rfl wr.heap.size 40 is _ 1 24 Try.underlying76 his0 his1 his2 his3 rfl (by omega) (.slice none 0 0) 0 [] rfl (World.ownsRow_nil _ _ _ _) _ _ d.st.length sc _ rfl HST.out.1 ?j1 ?j2 ?j3 (Nat.le_refl _) ?j5))
          case j1 => exact HONE.out
          case j2 => have := HLN2.out; simp only [maxLen]; omega
          case j3 => omega
          case j5 =>
            intro v' wh ho hg _
            have hb1 : Below wr.heap.size wr wh := (Below.refl _ _).grown hg (Nat.le_refl _) (by simp [Value.ownBlock])
            obtain ⟨g9, c9, rfl⟩ : ∃ g c, v' = .slice (some ⟨g, 0, none⟩) d.st.length c := by
              obtain ⟨g, cap, hv, _, _⟩ := ho.form (by have := HLN2.out; omega)
              exact ⟨g, cap, hv⟩
            have O9 := Lib.hid ho
            have H1 := Lib.hid hb1
            have HNR := Lib.hid (Reads.new (S := fun _ => True) (size := 1) (n := 1) wh #[.slice (some ⟨g5, 0, none⟩) n c5] 40 rfl trivial)
            have Ph := Lib.hid ((hb1.block w.heap.size (lt_of_block P.out)).trans P.out)
            clear ho hg hb1
            go_wp2_with (at_builtin; (refine wpList_append_any rfl (.tmp 62) (.tmp 64) 76 rfl wr.heap.size 40 is _ 1 24 Try.underlying76 his0 his1 his2 his3 rfl (by omega) _ d.st.length rows rfl (O9.out.alloc _) _ _ 1 1 _ rfl HNR.out ?m1 ?m2 ?m3 ?m4 ?m5))
            case m1 => first | rfl | (intro u hu; simp at hu; subst hu; rfl)
            case m2 => have := HLN2.out; simp only [maxLen]; omega
            case m3 => omega
            case m4 => have := H1.out.size; simp; omega
            case m5 =>
              intro v2 wk ho hg _
              have hbk : Below wr.heap.size wr wk := (H1.out.alloc H1.out.size _).grown hg (by have := H1.out.size; simp; omega) (fun g hg' => (O9.out.lt g hg').1)
              obtain ⟨A7, c7, rfl, e1, e2, e3⟩ := own_reads (S := SX S w.heap.size (w.heap.size + 1)) ho (fun b hb => ⟨HS.out b (by have := HZ.out; omega), by have := HZ.out; omega, by have := HZ.out; omega⟩)
              have O5k := own_below O5.out hbk
              have O6k := own_below O6.out hbk
              obtain ⟨A5, c5', he5, f1, f2, f3⟩ := own_reads (S := SX S w.heap.size (w.heap.size + 1)) O5k (fun b hb => ⟨HS.out b (by omega), by omega, by omega⟩)
              obtain ⟨A6, c6', he6, i1, i2, i3⟩ := own_reads (S := SX S w.heap.size (w.heap.size + 1)) O6k (fun b hb => ⟨HS.out b (by have := HG5.out; omega), by have := HG5.out; omega, by have := HG5.out; omega⟩)
              injection he5 with q1 q2 q3
              subst q1 q3
              injection he6 with q1 q2 q3
              subst q1 q3
              have HMK := Lib.hid (show (d.commitD n l).Mem wk (SX S w.heap.size (w.heap.size + 1)) (.slice A7 (d.st.length + 1) c7) (.slice (some ⟨g6, 0, none⟩) n c6) from by
                rw [HCD.out]
                refine ⟨⟨A7, c7, rows ++ [.slice (some ⟨g5, 0, none⟩) n c5], by simp, by simpa using e1, e2, by simpa using e3, fun i hi => ?_⟩, some ⟨g6, 0, none⟩, c6, by rw [versL_len], by rw [versL_len]; exact i1, i2, by rw [versL_len]; exact i3⟩
                by_cases hil : i < d.st.length
                · obtain ⟨v, hv, hx⟩ := HST.out.2 i hil
                  refine ⟨v, by rw [List.getElem?_append_left (List.getElem?_eq_some_iff.1 hv).1]; exact hv, ?_⟩
                  show IntV wk _ v ((d.st ++ [nextL d n l])[i]'hi)
                  rw [List.getElem_append_left hil]
                  exact hx.below (HB.out.trans (hbk.mono HB.out.size))
                · have hil2 : i = d.st.length := by have : i < (d.st ++ [nextL d n l]).length := hi; rw [List.length_append] at this; simp at this; omega
                  subst hil2
                  refine ⟨.slice (some ⟨g5, 0, none⟩) n c5, by rw [List.getElem?_append_right (by rw [HST.out.1.1]; omega), HST.out.1.1]; simp, ?_⟩
                  show IntV wk _ _ ((d.st ++ [nextL d n l])[d.st.length]'hi)
                  rw [List.getElem_concat_length rfl]
                  exact ⟨some ⟨g5, 0, none⟩, c5, by rw [nextL_len], by rw [nextL_len]; exact f1, f2, by rw [nextL_len]; exact f3⟩)
              have Pk := Lib.hid ((hbk.block w.heap.size (lt_of_block P.out)).trans P.out)
              have Rk := Lib.hid (R.out.below hbk)
              have HBk := Lib.hid (HB.out.trans (hbk.mono HB.out.size))
              clear ho hg hbk O5k O6k e1 e2 e3 f1 f2 f3 i1 i2 i3 O5 O6 P R HB O9 H1 HNR Ph HST q2
              have c0 := (rd_all Pk.out).1
              have c1' := (rd_all Pk.out).2.1
              have gz : ∀ i, wk.frozen? ⟨w.heap.size, i, none⟩ = false := fun i => not_frozen Pk.out i
              have X1 := Lib.hid (show ((wk.setCell ⟨w.heap.size, 0, none⟩ (.slice A7 (d.st.length + 1) c7)).setCell ⟨w.heap.size, 1, none⟩ (.slice (some ⟨g6, 0, none⟩) n c6)).heap[w.heap.size]? = some (.cells (rCells (.slice A7 (d.st.length + 1) c7) (.slice (some ⟨g6, 0, none⟩) n c6) (d.commitD n l).R) 80 (0, 0)) from by
                rw [setCell_block (setCell_block Pk.out _) _, HCD.out]
                rfl)
              have X2 := Lib.hid ((HMK.out.setCell (p := ⟨w.heap.size, 0, none⟩) (fun h => h.2.1 rfl) (.slice A7 (d.st.length + 1) c7)).setCell (p := ⟨w.heap.size, 1, none⟩) (fun h => h.2.1 rfl) (.slice (some ⟨g6, 0, none⟩) n c6))
              have X3 := Lib.hid ((HBk.out.setCell (p := ⟨w.heap.size, 0, none⟩) (Nat.le_refl _) (.slice A7 (d.st.length + 1) c7)).setCell (p := ⟨w.heap.size, 1, none⟩) (Nat.le_refl _) (.slice (some ⟨g6, 0, none⟩) n c6))
              have X4 := Lib.hid (show Rd.zero.At ((wk.setCell ⟨w.heap.size, 0, none⟩ (.slice A7 (d.st.length + 1) c7)).setCell ⟨w.heap.size, 1, none⟩ (.slice (some ⟨g6, 0, none⟩) n c6)) (fun _ => False) (w.heap.size + 1) from by
                obtain ⟨sa0, sv0, h1, h2⟩ := Rk.out
                exact ⟨sa0, sv0, (heap_setCell_other _ ⟨w.heap.size, 1, none⟩ _ _ (by simp)).trans ((heap_setCell_other _ ⟨w.heap.size, 0, none⟩ _ _ (by simp)).trans h1), h2.keep (by simp [World.setCell]) (fun p _ hp => hp.elim)⟩)
              clear HMK Rk HBk
              go_wp2_with (first
               | (with_reducible refine at_load_ (t := 80) ?_; refine Hid.out ?_)
               | (with_reducible refine at_store_ (t := 80) ?_; refine Hid.out ?_))
              refine Lib.hid ?_
              generalize (wk.setCell ⟨w.heap.size, 0, none⟩ (.slice A7 (d.st.length + 1) c7)).setCell ⟨w.heap.size, 1, none⟩ (.slice (some ⟨g6, 0, none⟩) n c6) = wm at *
              refine get_rd (d := d.commitD n l) (sa := .slice A7 (d.st.length + 1) c7) (sv := .slice (some ⟨g6, 0, none⟩) n c6) rfl (.tmp 2) rfl w.heap.size rfl X1.out ?_
              try simp only [Act.put, List.setIfInBounds_toArray, List.set_cons_zero, List.set_cons_succ]
              go_wp2_with (with_reducible refine at_store_ (t := 80) ?_; refine Hid.out ?_)
              refine Lib.hid ?_
              refine put_rd rfl (.tmp 4) (.tmp 69) rfl rfl (w.heap.size + 1) rfl rfl X4.out X2.out (fun h => h.2.2 rfl) ?_
              intro wy hp ht
              have HP := Lib.hid hp
              have HB5 := Lib.hid (ht.below X3.out (Nat.le_succ _))
              clear hp ht
              go_wp2_with fail
              obtain ⟨sa5, sv5, hblk, hmm⟩ := HP.out
              have hl := load_rd _ _ _ _ _ hblk rfl
              refine bodyPost_ret (v := (d.commitD n l).val sa5 sv5) ?_ rfl ⟨sa5, sv5, rfl, hmm.more fun b _ h => h.1, HB5.out⟩
              simp [results, Try.results73, asAddr, hl, Rd.val]
end Go.Proofs.Ytpejhgkcofilmaa
