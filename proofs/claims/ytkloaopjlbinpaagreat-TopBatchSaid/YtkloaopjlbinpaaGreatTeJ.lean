/- The walks of the space's Reads and Writes. Condition: at most 100000 writes. -/
import Derived.Test.YtkloaopjlbinpaaGreatTeI
set_option linter.unusedVariables false
set_option linter.unusedSimpArgs false
namespace Go.Proofs.YtkloaopjlbinpaaGreat
open Go.RowKit Go.MapKept

theorem loc_info3 : (Tryz.prog.info? 51).map (fun i => (i.zero, i.size, i.bytes)) = some (some (.int .i64 0), 1, 8) := by kernel_rfl
theorem loc_info : ∃ i, Tryz.prog.info? 51 = some i ∧ i.zero = some (.int .i64 0) ∧ i.size = 1 ∧ i.bytes = 8 := by
  obtain ⟨i, h1, h2⟩ := Option.map_eq_some_iff.1 loc_info3
  injection h2 with h2 h3
  injection h3 with h3 h4
  exact ⟨i, h1, h2, h3, h4⟩
theorem rdF_some {R : Int → Bool} {k : Int} : (rdF R k).isSome = true ↔ R k = true := by
  unfold rdF
  split <;> simp_all
/-- append of one location onto a row of the call's own. -/
theorem app_loc {w : World} {base : Nat} {v : Value} {l : List Int} (h : w.ownsRow base 51 1 v l.length (l.map (.int .i64))) (hl : l.length ≤ 100000) (hb : base ≤ w.heap.size) (k : Int) (ty : TypeId) :
    ∃ A c w', (Builtin.append_ #[103, 103] ty #[v, .slice (some ⟨w.heap.size, 0, none⟩) 1 1]).run Tryz.prog (w.alloc (.cells #[.int .i64 k] 51)) = .ok (.slice A (l.length + 1) c) w' ∧
      w'.ownsRow base 51 1 (.slice A (l.length + 1) c) (l ++ [k]).length ((l ++ [k]).map (.int .i64)) ∧ KX (fun b => v.ownBlock = some b) w w' ∧ ((Value.slice A (l.length + 1) c).ownBlock = v.ownBlock ∨ ∃ q, (Value.slice A (l.length + 1) c).ownBlock = some q ∧ w.heap.size < q) := by
  have hb1 := below_alloc w (.cells #[.int .i64 k] 51)
  have hR : Reads (w.alloc (.cells #[.int .i64 k] 51)) (fun _ => True) 1 (some ⟨w.heap.size, 0, none⟩) 1 [.int .i64 k] := Reads.new w #[.int .i64 k] _ rfl trivial
  obtain ⟨i, i1, i2, i3, i4⟩ := loc_info
  obtain ⟨v', w', run, e2, e3, e4⟩ := run_append_any (P := Tryz.prog) (w.alloc (.cells #[.int .i64 k] 51)) base 103 ty 51 i _ 1 8 Tryz.underlying103 i1 i2 i3 i4 rfl (by omega) v l.length _ (World.ownsRow.kept h (below_grown hb1 none) (by cases v.ownBlock <;> simp)) (fun _ => True) _ 1 1 _ hR (by simp [Value.oneCell']) (by unfold maxLen; omega) (by omega) (Nat.le_trans hb hb1.size)
  obtain ⟨A, c, rfl, -, -, -⟩ := own_reads (S := fun _ => True) e2 (fun _ _ => trivial)
  refine ⟨A, c, w', run, ?_, (KX.of_below hb1).trans (KX.of_grown e3 fun k h => h), ?_⟩
  · rw [List.length_append, List.length_singleton, List.map_append]; exact e2
  · rcases e4 with e | e
    · exact .inl e
    · exact .inr ⟨_, e, by rw [World.size_alloc]; omega⟩
set_option maxRecDepth 100000 in
set_option maxHeartbeats 6400000 in
theorem reads_list {X : Nat → Prop} {w : World} {base sb : Nat} {g : Mem} {R : Int → Bool} {P : List (Int × Int)} (h : Sp w X base sb g R P) :
    Calls Tryz.prog 62 #[.pointer (some ⟨sb, 0, none⟩)] w fun e w' => ∃ (v : Value) (L : List Int), e = .returned v ∧ w'.ownsRow w.heap.size 51 1 v L.length (L.map (.int .i64)) ∧ L.Nodup ∧ (∀ k, k ∈ L ↔ R k = true) ∧ L.length ≤ 1120 ∧ Below w.heap.size w w' := by
  obtain ⟨⟨kb, rb, pv, h1, h2, h3, h4, h5, h6, h7, h8⟩, hp, hr⟩ := h
  have c1 : w.cell? ⟨sb, 1, none⟩ = some (.map (some rb)) := h1.cell 1
  have HR := Lib.hid hr
  have HRB := Lib.hid h3.lt
  have hm' : IsMap w (fun _ => True) (.map (some rb)) (rdF R) := .inr ⟨rb, rfl, trivial, h3.lt, h3⟩
  clear h1 h2 h3 h4 h5 h6 h7 h8 hp hr
  go_enter Tryz.func62, Tryz.ntmps62
  go_wp2_with (at_range; refine Hid.out ?_)
  refine Lib.hid ?_
  clear c1
  refine wpList_range_mine rfl (.tmp 11) 144 rfl 51 4 Tryz.underlying144 (fun _ => True) (.map (some rb)) (rdF R) rfl hm' fun x left hit hnd hkeys => ?_
  have hbx : Below w.heap.size w (w.alloc x) := below_alloc _ _
  have IT := Lib.hid hit
  have ND := Lib.hid hnd
  have SZ := Lib.hid (show w.heap.size + 1 ≤ (w.alloc x).heap.size from by rw [World.size_alloc]; exact Nat.le_refl _)
  have KEYS := Lib.hid (show ∀ k, k ∈ left ↔ R k = true from fun k => (hkeys k).trans rdF_some)
  have LB := Lib.hid (show left.length ≤ 1120 from loc_bound hnd fun k hk => HR.out k ((KEYS.out k).1 hk))
  have BB := Lib.hid hbx
  clear hm' hit hnd hkeys hbx
  generalize w.alloc x = W4 at *
  go_wp2
  try simp only [Act.put, List.setIfInBounds_toArray, List.set_cons_zero, List.set_cons_succ]
  go_loopw [3, 4] (fun v3 _ wr => ∃ rest dn : List Int, Iter wr w.heap.size (.map (some rb)) (rdF R) rest ∧ rest.Nodup ∧ (dn ++ rest).Perm left ∧ wr.ownsRow w.heap.size 51 1 v3 dn.length (dn.map (.int .i64)) ∧ v3.ownBlock ≠ some w.heap.size ∧ Below w.heap.size w wr ∧ w.heap.size + 1 ≤ wr.heap.size) (fun _ _ wr => iterLeft wr w.heap.size (.map (some rb)))
  case atStart => exact ⟨left, [], IT.out, ND.out, List.Perm.refl _, World.ownsRow_nil _ _ _ _, (fun e => by cases e), BB.out, SZ.out⟩
  case round =>
    clear IT BB SZ
    obtain ⟨rest, dn, hit, hnr, hpm, ho, hne, hbb, hsz⟩ := hrel
    have IT := Lib.hid hit
    have NR := Lib.hid hnr
    have PM := Lib.hid hpm
    have OW := Lib.hid ho
    have NE := Lib.hid hne
    have BB := Lib.hid hbb
    have SZ := Lib.hid hsz
    clear hit hnr hpm ho hne hbb hsz
    go_wp2_with (at_next; refine Hid.out ?_)
    refine Lib.hid ?_
    refine wpList_next_mine rfl (.tmp 12) rfl w.heap.size (.map (some rb)) (rdF R) rest rfl IT.out (fun hleft => ?_) (fun k u w2 hk hf hent hit hgr hsz hlt => ?_)
    · subst hleft
      have PM2 := Lib.hid (show dn.Perm left from by have := PM.out; rwa [List.append_nil] at this)
      have LD := Lib.hid (show dn.length ≤ 100000 from by rw [PM2.out.length_eq]; have := LB.out; omega)
      go_wp2_with fail
      refine (sort_own OW.out LD.out).mono ?_
      rintro e w3 ⟨rfl, ho, hg⟩
      have OS := Lib.hid ho
      have BS := Lib.hid (show Below w.heap.size w w3 from BB.out.trans ((KX.of_grown (X := fun b => u3.ownBlock = some b) hg fun k h => h).below BB.out.size (fun b hb e => by have := (OW.out.lt b e).1; omega)))
      clear ho hg
      go_wp2
      go_ret
      have hp2 := (sorted_perm dn).trans PM2.out
      exact ⟨_, sorted dn, rfl, by rw [sorted_len]; exact OS.out, hp2.nodup_iff.2 ND.out, fun k => hp2.mem_iff.trans (KEYS.out k), by rw [sorted_len, PM2.out.length_eq]; exact LB.out, BS.out⟩
    · have hk2 : KX (fun b => b = w.heap.size) wr w2 := KX.of_grown hgr fun k e => (Option.some.inj e).symm
      have OW2 : w2.ownsRow w.heap.size 51 1 u3 dn.length (dn.map (.int .i64)) := World.ownsRow.kept OW.out hgr (by
        cases hq : Value.ownBlock u3 with
        | none => exact .inl rfl
        | some q => exact .inr fun e => NE.out (by rw [hq]; exact e))
      have LD : dn.length + 1 ≤ 1120 := by
        have e := PM.out.length_eq
        rw [List.length_append] at e
        have := List.length_pos_of_mem hk
        have := LB.out
        omega
      obtain ⟨A, c, w4, run, ho4, hk4, ow4⟩ := app_loc OW2 (by omega) (by rw [hsz]; have := SZ.out; omega) k 103
      have IT4 := hit.kx hk4 (by rw [hsz]; exact SZ.out) (by rw [hsz]; have := SZ.out; have := HRB.out; omega) NE.out (fun e => by have := (OW.out.lt rb e).1; have := HRB.out; omega)
      have FIT := Lib.hid IT4.1
      have FO := Lib.hid ho4
      have FN := Lib.hid (show (Value.slice A (dn.length + 1) c).ownBlock ≠ some w.heap.size from fun e => by
        rcases ow4 with h | ⟨q, h, hq⟩
        · rw [h] at e; exact NE.out e
        · rw [h] at e; have := Option.some.inj e; have := SZ.out; omega)
      have FB := Lib.hid (show Below w.heap.size w w4 from (BB.out.trans (hk2.below BB.out.size (fun b hb e => by omega))).trans (hk4.below (by rw [hsz]; exact BB.out.size) (fun b hb e => by have := (OW.out.lt b e).1; omega)))
      have FZ := Lib.hid (show w.heap.size + 1 ≤ w4.heap.size from Nat.le_trans SZ.out (by rw [← hsz]; exact hk4.size))
      have FLT := Lib.hid (show iterLeft w4 w.heap.size (.map (some rb)) < iterLeft wr w.heap.size (.map (some rb)) from by rw [IT4.2]; exact hlt)
      have FPM := Lib.hid (show ((dn ++ [k]) ++ rest.erase k).Perm left from by
        rw [List.append_assoc]
        exact (List.Perm.append_left dn (List.perm_cons_erase hk).symm).trans PM.out)
      have FNR := Lib.hid (NR.out.erase k)
      obtain ⟨dl, hdl⟩ : ∃ z, z = dn.length + 1 := ⟨_, rfl⟩
      rw [← hdl] at run FO FN
      clear hk hf hit hgr hsz hlt hk2 OW2 LD ho4 hk4 ow4 IT4 IT NR PM OW NE BB SZ hdl
      go_wp2_with (at_builtin; refine wpList_app_run rfl _ _ 103 rfl u3 _ _ w4 rfl rfl run ?_)
      go_roundw
      case rel => exact ⟨rest.erase k, dn ++ [k], FIT.out, FNR.out, FPM.out, FO.out, FN.out, FB.out, FZ.out⟩
      case measure => exact FLT.out
theorem keeps_back (d : Array Int) : ∀ j, ∃ i, i ≤ j ∧ Lib.keeps d i = true ∧ d[i]! = d[j]!
  | 0 => ⟨0, Nat.le_refl _, by simp [Lib.keeps], rfl⟩
  | j + 1 => by
    by_cases h : d[j + 1]! = d[j]!
    · obtain ⟨i, h1, h2, h3⟩ := keeps_back d j
      exact ⟨i, by omega, h2, h3.trans h.symm⟩
    · exact ⟨j + 1, Nat.le_refl _, Lib.keeps_pos h, rfl⟩
theorem compact_mem (l : List Int) (k : Int) : k ∈ Lib.compact l ↔ k ∈ l := by
  unfold Lib.compact Lib.compactUpTo
  rw [List.mem_map]
  constructor
  · rintro ⟨i, hi, rfl⟩
    have := (List.mem_filter.1 hi).1
    rw [List.mem_range] at this
    rw [getElem!_pos _ i (by simpa using this)]
    simp
  · intro h
    obtain ⟨j, hj, rfl⟩ := List.getElem_of_mem h
    obtain ⟨i, h1, h2, h3⟩ := keeps_back l.toArray j
    refine ⟨i, List.mem_filter.2 ⟨List.mem_range.2 (by omega), h2⟩, ?_⟩
    rw [h3, getElem!_pos _ j (by simpa using hj)]
    simp
theorem put_size : (Tryz.prog.info? 151).map (·.size) = some 2 := by kernel_rfl
set_option maxRecDepth 100000 in
set_option maxHeartbeats 6400000 in
theorem writes_list {X : Nat → Prop} {w : World} {base sb : Nat} {g : Mem} {R : Int → Bool} {P : List (Int × Int)} (h : Sp w X base sb g R P) (hn : P.length ≤ 90000) :
    Calls Tryz.prog 34 #[.pointer (some ⟨sb, 0, none⟩)] w fun e w' => ∃ (A : Option Addr) (L : List Int) (c : Nat), e = .returned (.slice A L.length c) ∧ L.length ≤ c ∧ Reads w' (fun b => w.heap.size ≤ b) 1 A L.length (L.map (.int .i64)) ∧ (∀ k, k ∈ L ↔ wrt P k = true) ∧ L.length ≤ 100000 ∧ Below w.heap.size w w' := by
  obtain ⟨kb, rb, A, c, h1, -, hc, hR⟩ := h.row
  have c2 : w.cell? ⟨sb, 2, none⟩ = some (.slice A P.length c) := h1.cell 2
  have HR := Lib.hid hR
  have HN := Lib.hid hn
  obtain ⟨n, hnn⟩ : ∃ n, n = P.length := ⟨_, rfl⟩
  rw [← hnn] at c2
  have NN := Lib.hid hnn
  have hn6 : (n : Int) ≤ 90000 := by omega
  clear h h1 hc hR hn hnn
  go_enter Tryz.func34, Tryz.ntmps34
  go_wp2_with fail
  clear c2
  go_loopw [3, 14] (fun v3 v14 wr => ∃ k : Nat, v14 = .int .i64 k ∧ k ≤ n ∧ wr.ownsRow w.heap.size 51 1 v3 k (((P.map Prod.fst).take k).map (.int .i64)) ∧ Below w.heap.size w wr) (fun _ v14 _ => n - (intOf v14).toNat)
  case atStart => exact ⟨0, rfl, Nat.zero_le _, World.ownsRow_nil _ _ _ _, Below.refl _ _⟩
  case round =>
    obtain ⟨k, rfl, hk, ho, hb⟩ := hrel
    have OW := Lib.hid ho
    have BB := Lib.hid hb
    clear ho hb
    by_cases hlt : k < n
    · have hi2 : (k : Int) < (n : Int) := by omega
      obtain ⟨⟨x, v⟩, hp⟩ : ∃ p, P[k]? = some p := ⟨_, List.getElem?_eq_getElem (by have := NN.out; omega)⟩
      obtain ⟨b, q, rfl, hc0, hc1⟩ := puts_at HR.out hp
      have hbl := World.block_lt_of_cell? _ _ hc0
      have d0 : wr.cell? ⟨b, q + k * 2, none⟩ = some (.int .i64 x) := (BB.out.cell (p := ⟨b, q + k * 2, none⟩) hbl).trans hc0
      have d1 : wr.cell? ⟨b, q + k * 2 + 1, none⟩ = some (.int .i64 v) := (BB.out.cell (p := ⟨b, q + k * 2 + 1, none⟩) hbl).trans hc1
      obtain ⟨W0, hW0⟩ : ∃ W, W = wr.alloc (.cells #[.int .i64 x, .int .i64 v] 151) := ⟨_, rfl⟩
      have b0 : Below wr.heap.size wr W0 := by rw [hW0]; exact below_alloc _ _
      have c0 : W0.cell? ⟨wr.heap.size, 0, none⟩ = some (.int .i64 x) := by rw [hW0]; exact (HB.new _ _ _).cell 0
      have LL := Lib.hid (show ((P.map Prod.fst).take k).length = k from by rw [List.length_take, List.length_map]; have := NN.out; omega)
      have TK := Lib.hid (show (P.map Prod.fst).take (k + 1) = (P.map Prod.fst).take k ++ [x] from by rw [List.take_add_one, List.getElem?_map, hp]; rfl)
      obtain ⟨A2, c2, w4, run, ho4, hk4, -⟩ := app_loc (l := (P.map Prod.fst).take k) (v := u3) (by rw [LL.out]; exact World.ownsRow.kept OW.out (below_grown b0 none) (by cases Value.ownBlock u3 <;> simp)) (by rw [LL.out]; have := NN.out; have := HN.out; omega) (Nat.le_trans BB.out.size b0.size) x 103
      have FO := Lib.hid (show w4.ownsRow w.heap.size 51 1 (.slice A2 (k + 1) c2) (k + 1) (((P.map Prod.fst).take (k + 1)).map (.int .i64)) from by
        rw [TK.out]
        have e := ho4
        rw [List.length_append, LL.out, List.length_singleton] at e
        exact e)
      have FB := Lib.hid (show Below w.heap.size w w4 from (BB.out.trans (b0.mono BB.out.size)).trans (hk4.below (Nat.le_trans BB.out.size b0.size) (fun b hb e => by have := (OW.out.lt b e).1; omega)))
      rw [LL.out] at run
      obtain ⟨dl, hdl⟩ : ∃ z, z = k + 1 := ⟨_, rfl⟩
      rw [← hdl] at run
      have FO2 := Lib.hid (show w4.ownsRow w.heap.size 51 1 (.slice A2 dl c2) (k + 1) (((P.map Prod.fst).take (k + 1)).map (.int .i64)) from by rw [hdl]; exact FO.out)
      have HLT := Lib.hid hlt
      clear hp hc0 hc1 hbl b0 ho4 hk4 hdl FO OW BB hk hlt TK LL
      go_upto_region 7 with fail
      rw [← hW0]
      clear hW0 d0 d1
      go_wp2_with (at_builtin; refine wpList_app_run rfl _ _ 103 rfl u3 _ _ w4 rfl rfl run ?_)
      go_roundw
      case rel => exact ⟨k + 1, by go_num, HLT.out, FO2.out, FB.out⟩
      case measure =>
        have := HLT.out
        show n - ((k + 1 : Nat) : Int).toNat < n - (k : Int).toNat
        omega
    · have hi2 : ¬ (k : Int) < (n : Int) := by omega
      have hkn : k = P.length := by have := NN.out; omega
      have TK := Lib.hid (show (P.map Prod.fst).take k = P.map Prod.fst from List.take_of_length_le (by rw [List.length_map]; omega))
      have KN := Lib.hid (show k = (P.map Prod.fst).length from by rw [List.length_map]; exact hkn)
      have OW2 := Lib.hid (show wr.ownsRow w.heap.size 51 1 u3 (P.map Prod.fst).length ((P.map Prod.fst).map (.int .i64)) from by have := OW.out; rw [TK.out, KN.out] at this; exact this)
      have LN := Lib.hid (show (P.map Prod.fst).length ≤ 100000 from by rw [List.length_map]; have := HN.out; omega)
      clear hk hlt hkn OW
      go_wp2_with fail
      refine (sort_own OW2.out LN.out).mono ?_
      rintro e w3 ⟨rfl, ho, hg⟩
      have OS := Lib.hid (show w3.ownsRow w.heap.size 51 1 u3 (sorted (P.map Prod.fst)).length ((sorted (P.map Prod.fst)).map (.int .i64)) from by rw [sorted_len]; exact ho)
      have BS := Lib.hid (show Below w.heap.size w w3 from BB.out.trans ((KX.of_grown (X := fun b => u3.ownBlock = some b) hg fun k h => h).below BB.out.size (fun b hb e => by have := (OW2.out.lt b e).1; omega)))
      clear ho hg
      go_wp2_with fail
      refine (compact_own OS.out (by rw [sorted_len]; exact LN.out)).mono ?_
      rintro e w5 ⟨A5, c5, rfl, hc5, hr5, hg⟩
      have R5 := Lib.hid hr5
      have C5 := Lib.hid hc5
      have B5 := Lib.hid (show Below w.heap.size w w5 from BS.out.trans ((KX.of_grown (X := fun b => u3.ownBlock = some b) hg fun k h => h).below BS.out.size (fun b hb e => by have := (OS.out.lt b e).1; omega)))
      clear hc5 hr5 hg
      go_wp2
      go_ret
      refine ⟨A5, Lib.compact (sorted (P.map Prod.fst)), c5, rfl, C5.out, R5.out, fun k => ?_, ?_, B5.out⟩
      · rw [compact_mem, (sorted_perm _).mem_iff, List.mem_map]
        unfold wrt
        rw [List.any_eq_true]
        constructor
        · rintro ⟨p, hp, rfl⟩
          exact ⟨p, hp, by simp⟩
        · rintro ⟨p, hp, he⟩
          exact ⟨p, hp, by simpa using he⟩
      · refine Nat.le_trans ?_ (by rw [sorted_len]; exact LN.out : (sorted (P.map Prod.fst)).length ≤ 100000)
        unfold Lib.compact Lib.compactUpTo
        rw [List.length_map]
        exact Nat.le_trans (List.length_filter_le _ _) (by simp)
end Go.Proofs.YtkloaopjlbinpaaGreat
