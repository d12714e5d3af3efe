/- The walks of the reference's Leaves and Merge. Conditions: at most 60 entries; the entries' numbers are of their kinds. -/
import Derived.Test.YtilapnejkdgomaaDoorEnD
set_option linter.unusedVariables false
set_option linter.unusedSimpArgs false
namespace Go.Proofs.YtilapnejkdgomaaDoor
open Go.RowKit

set_option maxRecDepth 100000 in
set_option maxHeartbeats 12800000 in
theorem rleaves_any (x : Ent) (w : World) (hx : EntOk x) : Calls Tryd.prog 40 #[entV x] w fun e w' => e = .returned (.tuple #[.int .i64 (leafV x), .int .u32 (leafN x)]) ∧ Below w.heap.size w w' := by
  obtain ⟨lo, va, ve, re, ne, b⟩ := x
  obtain ⟨⟨h1, h2⟩, ⟨h3, h4⟩⟩ := hx
  dsimp only at h1 h2 h3 h4
  have hw : IntKind.u32.wrap (ve + 1) = (ve + 1) % 4294967296 := by simp [IntKind.wrap, IntKind.bits, IntKind.signed]
  have hB := Lib.hid (fun q => show Below w.heap.size w ((w.alloc (entO ⟨lo, va, ve, re, ne, b⟩)).drewN q) from below_drew_n ((Below.refl _ _).alloc (Nat.le_refl _) _) q)
  unfold entV leafV leafN
  cases b with
  | true =>
    go_enter Tryd.func40, Tryd.ntmps40
    go_wp2
    go_quiet (fail)
    go_wp2
    go_ret2
    exact ⟨rfl, hB.out _⟩
  | false =>
    go_enter Tryd.func40, Tryd.ntmps40
    go_wp2
    go_quiet (fail)
    go_wp2
    go_ret2
    exact ⟨rfl, hB.out _⟩

theorem rGo_snoc (out b : List Ent) (x : Ent) : rGo out (b ++ [x]) = rPut (rGo out b) x := by unfold rGo; rw [List.foldl_append]; rfl
theorem rGoB_snoc (b : List Ent) (x : Ent) : ∀ out, rGoB out (b ++ [x]) = (rGoB out b || rBad (rGo out b) x) := by
  induction b with
  | nil => intro out; show (rBad out x || false) = _; rw [Bool.or_false]; rfl
  | cons y t ih => intro out; show (rBad out y || rGoB (rPut out y) (t ++ [x])) = _; rw [ih, ← Bool.or_assoc]; rfl
/-- The row in the inner loop: k entries done. -/
def rK (O : List Ent) (x : Ent) (k : Nat) : List Ent := (O.take k).map (rMap x) ++ O.drop k
theorem rK_zero (O : List Ent) (x : Ent) : rK O x 0 = O := by simp [rK]
theorem rK_len (O : List Ent) (x : Ent) (k : Nat) : (rK O x k).length = O.length := by unfold rK; rw [List.length_append, List.length_map, List.length_take, List.length_drop]; omega
theorem rK_at {O : List Ent} {x z : Ent} {k : Nat} (h : O[k]? = some z) : (rK O x k)[k]? = some z := by
  obtain ⟨hk, rfl⟩ := List.getElem?_eq_some_iff.1 h
  unfold rK
  rw [List.getElem?_append_right (by rw [List.length_map, List.length_take]; omega), List.length_map, List.length_take, Nat.min_eq_left (by omega), Nat.sub_self, List.getElem?_drop, Nat.add_zero]
  exact List.getElem?_eq_getElem hk
theorem rK_succ {O : List Ent} {x z : Ent} {k : Nat} (h : O[k]? = some z) : (rK O x k).set k (rMap x z) = rK O x (k + 1) := by
  obtain ⟨hk, rfl⟩ := List.getElem?_eq_some_iff.1 h
  unfold rK
  have hl : ((O.take k).map (rMap x)).length = k := by rw [List.length_map, List.length_take]; omega
  rw [List.set_append_right _ _ (by omega), hl, Nat.sub_self, List.drop_eq_getElem_cons hk, List.set_cons_zero, List.take_add_one, List.getElem?_eq_getElem hk, List.map_append]
  simp
theorem rK_all (O : List Ent) (x : Ent) : rK O x O.length = O.map (rMap x) := by simp [rK]
theorem rHas_succ {O : List Ent} {x z : Ent} {k : Nat} (h : O[k]? = some z) : rHas (O.take (k + 1)) x = (rHas (O.take k) x || z.loc == x.loc) := by
  unfold rHas; rw [List.take_add_one, h, List.any_append]; simp
theorem rBad_succ {O : List Ent} {x z : Ent} {k : Nat} (h : O[k]? = some z) : rBad (O.take (k + 1)) x = (rBad (O.take k) x || rMis x z) := by
  unfold rBad; rw [List.take_add_one, h, List.any_append]; simp
theorem rMap_none {O : List Ent} {x : Ent} (h : rHas O x = false) : O.map (rMap x) = O := by
  have hn := rHas_false (l := O) (x := x) (by rw [h]; simp)
  have : ∀ y ∈ O, rMap x y = y := fun y hy => if_neg (hn y hy)
  exact (List.map_congr_left this).trans (List.map_id O)
theorem rPut_of {O : List Ent} {x : Ent} : rPut O x = if rHas O x = true then O.map (rMap x) else O ++ [x] := rfl
theorem chk0_pos {l : List Ent} {n : Nat} (hn : n = l.length) (h : chk0 l ≠ 0) : n ≠ 0 ∧ chk l = chk0 l := by
  unfold chk0 at h ⊢
  split at h
  · exact absurd rfl h
  · next h0 => rw [if_neg h0]; exact ⟨by omega, rfl⟩
theorem entOk_map {x y : Ent} (h : EntOk y) : EntOk (rMap x y) := by unfold rMap; split <;> exact h
theorem EntOk.put {O : List Ent} {x : Ent} (h : ∀ e ∈ O, EntOk e) (hx : EntOk x) : ∀ e ∈ rPut O x, EntOk e := by
  unfold rPut
  split
  · intro e he
    obtain ⟨y, hy, rfl⟩ := List.mem_map.1 he
    exact entOk_map (h y hy)
  · intro e he
    rcases List.mem_append.1 he with he | he
    · exact h e he
    · rw [List.mem_singleton.1 he]; exact hx

set_option maxRecDepth 100000 in
set_option maxHeartbeats 12800000 in
theorem rmerge_bad1 {S T : Nat → Prop} (A B : Option Addr) (n c m d : Nat) (a b : List Ent) (w : World) (ha : Ents w S A n a) (hn : n ≤ 1000) (hc : n ≤ c) (hbad : chk0 a ≠ 0) :
    Calls Tryd.prog 16 #[.slice A n c, .slice B m d] w fun e w' => e = .returned (.tuple #[.slice none 0 0, .int .i64 (chk0 a)]) ∧ Below w.heap.size w w' := by
  obtain ⟨hn0, he⟩ := chk0_pos ha.1 hbad
  have C1 := Lib.hid (fun W (h : Below w.heap.size w W) => rcheck_any A n c a W (ha.below h) (by omega) hc)
  rw [he] at C1
  have HB0 := Lib.hid (Below.refl w.heap.size w)
  obtain ⟨r, hr⟩ : ∃ r, r = chk0 a := ⟨_, rfl⟩
  rw [← hr] at C1 hbad ⊢
  have k1 : (r == 0) = false := beq_eq_false_iff_ne.2 hbad
  have k2 : (r != 0) = true := by rw [bne, k1]; rfl
  have k3 : (0 : Int) < (n : Int) := by omega
  clear ha he hr hn0 hbad
  go_enter Tryd.func16, Tryd.ntmps16
  go_wp2_with fail
  refine (C1.out _ HB0.out).mono ?_
  rintro e w1 ⟨rfl, hb⟩
  have HB1 := Lib.hid hb
  clear hb
  go_wp2_with fail
  refine (C1.out _ HB1.out).mono ?_
  rintro e w2 ⟨rfl, hb⟩
  have HB2 := Lib.hid (HB1.out.trans (hb.mono HB1.out.size))
  clear hb
  go_wp2
  go_ret2
  exact ⟨rfl, HB2.out⟩
set_option maxRecDepth 100000 in
set_option maxHeartbeats 12800000 in
theorem rmerge_bad2z {S T : Nat → Prop} (A B : Option Addr) (n c m d : Nat) (a b : List Ent) (w : World) (ha : Ents w S A n a) (hb : Ents w T B m b) (hoa : ∀ e ∈ a, EntOk e) (hob : ∀ e ∈ b, EntOk e) (hn : n ≤ 60) (hc : n ≤ c) (hm : m ≤ 60) (hd : m ≤ d) (hga : chk0 a = 0) (hz : n = 0) (hbad : chk0 b ≠ 0) :
    Calls Tryd.prog 16 #[.slice A n c, .slice B m d] w fun e w' => e = .returned (.tuple #[.slice none 0 0, .int .i64 (chk0 b)]) ∧ Below w.heap.size w w' := by
  obtain ⟨hm0, he2⟩ := chk0_pos hb.1 hbad
  have HB0 := Lib.hid (Below.refl w.heap.size w)
  subst hz
  obtain rfl : a = [] := List.eq_nil_of_length_eq_zero ha.1.symm
  have C2 := Lib.hid (fun W (h : Below w.heap.size w W) => rcheck_any B m d b W (hb.below h) (by omega) hd)
  rw [he2] at C2
  obtain ⟨r, hr⟩ : ∃ r, r = chk0 b := ⟨_, rfl⟩
  rw [← hr] at C2 hbad ⊢
  have k1 : (r == 0) = false := beq_eq_false_iff_ne.2 hbad
  have k2 : (r != 0) = true := by rw [bne, k1]; rfl
  have k4 : (0 : Int) < (m : Int) := by omega
  clear ha hb hoa hob hga hr hm0 he2 hbad
  go_enter Tryd.func16, Tryd.ntmps16
  go_wp2_with fail
  refine (C2.out _ HB0.out).mono ?_
  rintro e w1 ⟨rfl, hb⟩
  have HB1 := Lib.hid (HB0.out.trans (hb.mono HB0.out.size))
  clear hb
  go_wp2_with fail
  refine (C2.out _ HB1.out).mono ?_
  rintro e w2 ⟨rfl, hb⟩
  have HB2 := Lib.hid (HB1.out.trans (hb.mono HB1.out.size))
  clear hb
  go_wp2
  go_ret2
  exact ⟨rfl, HB2.out⟩
set_option maxRecDepth 100000 in
set_option maxHeartbeats 12800000 in
theorem rmerge_bad2n {S T : Nat → Prop} (A B : Option Addr) (n c m d : Nat) (a b : List Ent) (w : World) (ha : Ents w S A n a) (hb : Ents w T B m b) (hoa : ∀ e ∈ a, EntOk e) (hob : ∀ e ∈ b, EntOk e) (hn : n ≤ 60) (hc : n ≤ c) (hm : m ≤ 60) (hd : m ≤ d) (hga : chk0 a = 0) (hz : n ≠ 0) (hbad : chk0 b ≠ 0) :
    Calls Tryd.prog 16 #[.slice A n c, .slice B m d] w fun e w' => e = .returned (.tuple #[.slice none 0 0, .int .i64 (chk0 b)]) ∧ Below w.heap.size w w' := by
  obtain ⟨hm0, he2⟩ := chk0_pos hb.1 hbad
  have HB0 := Lib.hid (Below.refl w.heap.size w)
  have C1 := Lib.hid (fun W (h : Below w.heap.size w W) => rcheck_any A n c a W (ha.below h) (by omega) hc)
  have hca : chk a = 0 := by unfold chk0 at hga; rwa [if_neg (by have := ha.1; omega)] at hga
  rw [hca] at C1
  have k3 : (0 : Int) < (n : Int) := by omega
  clear hca
  have C2 := Lib.hid (fun W (h : Below w.heap.size w W) => rcheck_any B m d b W (hb.below h) (by omega) hd)
  rw [he2] at C2
  obtain ⟨r, hr⟩ : ∃ r, r = chk0 b := ⟨_, rfl⟩
  rw [← hr] at C2 hbad ⊢
  have k1 : (r == 0) = false := beq_eq_false_iff_ne.2 hbad
  have k2 : (r != 0) = true := by rw [bne, k1]; rfl
  have k4 : (0 : Int) < (m : Int) := by omega
  clear ha hb hoa hob hga hr hm0 he2 hbad hz
  go_enter Tryd.func16, Tryd.ntmps16
  go_wp2_with fail
  refine (C1.out _ HB0.out).mono ?_
  rintro e w1 ⟨rfl, hb⟩
  have HB1 := Lib.hid (HB0.out.trans (hb.mono HB0.out.size))
  clear hb
  go_wp2_with fail
  refine (C2.out _ HB1.out).mono ?_
  rintro e w2 ⟨rfl, hb⟩
  have HB2 := Lib.hid (HB1.out.trans (hb.mono HB1.out.size))
  clear hb
  go_wp2_with fail
  refine (C2.out _ HB2.out).mono ?_
  rintro e w3 ⟨rfl, hb⟩
  have HB3 := Lib.hid (HB2.out.trans (hb.mono HB2.out.size))
  clear hb
  go_wp2
  go_ret2
  exact ⟨rfl, HB3.out⟩
set_option maxRecDepth 100000 in
set_option maxHeartbeats 12800000 in
theorem rmerge_zz {S T : Nat → Prop} (A B : Option Addr) (n c m d : Nat) (a b : List Ent) (w : World) (ha : Ents w S A n a) (hb : Ents w T B m b) (hoa : ∀ e ∈ a, EntOk e) (hob : ∀ e ∈ b, EntOk e) (hn : n ≤ 60) (hc : n ≤ c) (hm : m ≤ 60) (hd : m ≤ d) (hga : chk0 a = 0) (hz : n = 0) (hgb : chk0 b = 0) (hy : m = 0) :
    Calls Tryd.prog 16 #[.slice A n c, .slice B m d] w fun e w' => ∃ v, e = .returned (.tuple #[v, .int .i64 (rMrg a b).2]) ∧ OwnE w' w.heap.size v (rMrg a b).1 ∧ Below w.heap.size w w' := by
  have HB0 := Lib.hid (Below.refl w.heap.size w)
  subst hz
  obtain rfl : a = [] := List.eq_nil_of_length_eq_zero ha.1.symm
  subst hy
  obtain rfl : b = [] := List.eq_nil_of_length_eq_zero hb.1.symm
  have HDA := Lib.hid (chk0_zero hga)
  have HDB := Lib.hid (chk0_zero hgb)
  have HMR := Lib.hid (show rMrg [] [] = if rGoB [] [] = true then ([], 14) else if 32 < (rGo [] []).length then ([], 15) else (srt Ent.loc (rGo [] []), 0) by unfold rMrg; rw [if_neg (by rw [hga]; simp), if_neg (by rw [hgb]; simp), rGoB_eq HDB.out.1])
  obtain ⟨R, hR⟩ : ∃ R, R = rMrg [] [] := ⟨_, rfl⟩
  rw [← hR] at HMR ⊢
  have HA := Lib.hid ha
  have HBE := Lib.hid hb
  have HOA := Lib.hid hoa
  have HOB := Lib.hid hob
  have HNA := Lib.hid hn
  have HMB := Lib.hid hm
  have hdi : (0 : Int) ≤ (d : Int) := by omega
  clear ha hb hoa hob hga hgb hR
  go_enter Tryd.func16, Tryd.ntmps16
  have HN0 := Lib.hid (show OwnE w w.heap.size (.slice none 0 0) [] from World.ownsRow_nil _ _ _ _)
  have HA1 := Lib.hid (HA.out.below HB0.out)
  go_wp2_with (at_builtin; refine ap_any rfl (.tmp 33) (.tmp 34) rfl w.heap.size _ [] rfl HN0.out _ _ _ _ _ rfl HA1.out (by have := HNA.out; simp only [List.length_nil]; omega) HB0.out.size ?_)
  intro v0 wa ho0 hg0 hv0
  have HBA := Lib.hid (HB0.out.grown hg0 HB0.out.size (fun k h => by cases h))
  have HO0 := Lib.hid (show OwnE wa w.heap.size v0 (rGo [] (([] : List Ent).take 0)) from by simpa [rGo] using ho0)
  clear ho0 hg0 hv0
  go_wp2
  go_loopw [6, 7, 8] (fun vv qq ii wr => ∃ (i : Nat) (q : Bool), i ≤ 0 ∧ ii = .int .i64 i ∧ qq = .bool q ∧ Hid (q = rGoB [] (([] : List Ent).take i)) ∧ Hid (OwnE wr w.heap.size vv (rGo [] (([] : List Ent).take i))) ∧ Hid (∀ e ∈ rGo [] (([] : List Ent).take i), EntOk e) ∧ Hid (Below w.heap.size w wr)) (fun vv qq ii _ => 0 - (intOf ii).toNat)
  case atStart => exact ⟨0, false, Nat.zero_le _, rfl, rfl, Lib.hid rfl, HO0, HOA, HBA⟩
  case round =>
    clear HO0 HBA
    obtain ⟨i, q, hi, rfl, rfl, HQ, HO, HOK, HB⟩ := hrel
    by_cases hlt : i < 0
    · exact absurd hlt (by omega)
    · obtain rfl : i = 0 := by omega
      have hkn : ¬ ((0 : Nat) : Int) < ((0 : Nat) : Int) := by omega
      have hbt : ([] : List Ent).take 0 = [] := List.take_of_length_le (by have := HBE.out.1; omega)
      rw [hbt] at HQ HO HOK
      have HGL := Lib.hid (rGo_length (b := []) (out := []))
      have HLA := Lib.hid HA.out.1
      have HLB := Lib.hid HBE.out.1
      cases q with
      | true =>
        have HR := Lib.hid (show R = ([], 14) by rw [HMR.out, if_pos HQ.out.symm])
        clear HMR
        go_wp2
        go_ret2
        exact ⟨_, by rw [HR.out]; rfl, by rw [HR.out]; exact World.ownsRow_nil _ _ _ _, HB.out⟩
      | false =>
        have HR := Lib.hid (show R = if 32 < (rGo [] []).length then ([], 15) else (srt Ent.loc (rGo [] []), 0) by rw [HMR.out, if_neg (by rw [← HQ.out]; simp)])
        clear HMR HQ
        obtain ⟨Av, nv, cv, rfl, hnv, hAv, hcv, hgv⟩ := HO.out.slice
        have HNV := Lib.hid hnv
        clear hnv hAv hgv
        by_cases h32 : 32 < nv
        · have h32i : (32 : Int) < (nv : Int) := by omega
          have HR2 := Lib.hid (show R = ([], 15) by rw [HR.out, if_pos (by rw [← HNV.out]; exact h32)])
          clear HR h32
          go_wp2
          go_ret2
          exact ⟨_, by rw [HR2.out]; rfl, by rw [HR2.out]; exact World.ownsRow_nil _ _ _ _, HB.out⟩
        · have h32i : ¬ (32 : Int) < (nv : Int) := by omega
          have HR2 := Lib.hid (show R = (srt Ent.loc (rGo [] []), 0) by rw [HR.out, if_neg (by rw [← HNV.out]; exact h32)])
          have C3 := Lib.hid (rsort_any Av nv cv (rGo [] []) _ (Ents.of_own HO.out) (by omega) hcv)
          clear HR h32
          go_wp2_with fail
          refine C3.out.mono ?_
          rintro e w9 ⟨v9, rfl, ho, hb⟩
          have HO9 := Lib.hid (OwnE.mono ho HB.out.size)
          have HB9 := Lib.hid (HB.out.trans (hb.mono HB.out.size))
          clear ho hb
          go_wp2
          go_ret2
          exact ⟨_, by rw [HR2.out]; rfl, by rw [HR2.out]; exact HO9.out, HB9.out⟩
set_option maxRecDepth 100000 in
set_option maxHeartbeats 12800000 in
theorem rmerge_nz {S T : Nat → Prop} (A B : Option Addr) (n c m d : Nat) (a b : List Ent) (w : World) (ha : Ents w S A n a) (hb : Ents w T B m b) (hoa : ∀ e ∈ a, EntOk e) (hob : ∀ e ∈ b, EntOk e) (hn : n ≤ 60) (hc : n ≤ c) (hm : m ≤ 60) (hd : m ≤ d) (hga : chk0 a = 0) (hz : n ≠ 0) (hgb : chk0 b = 0) (hy : m = 0) :
    Calls Tryd.prog 16 #[.slice A n c, .slice B m d] w fun e w' => ∃ v, e = .returned (.tuple #[v, .int .i64 (rMrg a b).2]) ∧ OwnE w' w.heap.size v (rMrg a b).1 ∧ Below w.heap.size w w' := by
  have HB0 := Lib.hid (Below.refl w.heap.size w)
  have C1 := Lib.hid (fun W (h : Below w.heap.size w W) => rcheck_any A n c a W (ha.below h) (by omega) hc)
  have hca : chk a = 0 := by unfold chk0 at hga; rwa [if_neg (by have := ha.1; omega)] at hga
  rw [hca] at C1
  have k3 : (0 : Int) < (n : Int) := by omega
  clear hca
  subst hy
  obtain rfl : b = [] := List.eq_nil_of_length_eq_zero hb.1.symm
  have HDA := Lib.hid (chk0_zero hga)
  have HDB := Lib.hid (chk0_zero hgb)
  have HMR := Lib.hid (show rMrg a [] = if rGoB a [] = true then ([], 14) else if 32 < (rGo a []).length then ([], 15) else (srt Ent.loc (rGo a []), 0) by unfold rMrg; rw [if_neg (by rw [hga]; simp), if_neg (by rw [hgb]; simp), rGoB_eq HDB.out.1])
  obtain ⟨R, hR⟩ : ∃ R, R = rMrg a [] := ⟨_, rfl⟩
  rw [← hR] at HMR ⊢
  have HA := Lib.hid ha
  have HBE := Lib.hid hb
  have HOA := Lib.hid hoa
  have HOB := Lib.hid hob
  have HNA := Lib.hid hn
  have HMB := Lib.hid hm
  have hdi : (0 : Int) ≤ (d : Int) := by omega
  clear ha hb hoa hob hga hgb hR hz
  go_enter Tryd.func16, Tryd.ntmps16
  go_wp2_with fail
  refine (C1.out _ HB0.out).mono ?_
  rintro e w1 ⟨rfl, hb⟩
  have HB1 := Lib.hid (HB0.out.trans (hb.mono HB0.out.size))
  clear hb
  have HN0 := Lib.hid (show OwnE w1 w.heap.size (.slice none 0 0) [] from World.ownsRow_nil _ _ _ _)
  have HA1 := Lib.hid (HA.out.below HB1.out)
  go_wp2_with (at_builtin; refine ap_any rfl (.tmp 33) (.tmp 34) rfl w.heap.size _ [] rfl HN0.out _ _ _ _ _ rfl HA1.out (by have := HNA.out; simp only [List.length_nil]; omega) HB1.out.size ?_)
  intro v0 wa ho0 hg0 hv0
  have HBA := Lib.hid (HB1.out.grown hg0 HB1.out.size (fun k h => by cases h))
  have HO0 := Lib.hid (show OwnE wa w.heap.size v0 (rGo a (([] : List Ent).take 0)) from by simpa [rGo] using ho0)
  clear ho0 hg0 hv0
  go_wp2
  clear C1
  go_loopw [6, 7, 8] (fun vv qq ii wr => ∃ (i : Nat) (q : Bool), i ≤ 0 ∧ ii = .int .i64 i ∧ qq = .bool q ∧ Hid (q = rGoB a (([] : List Ent).take i)) ∧ Hid (OwnE wr w.heap.size vv (rGo a (([] : List Ent).take i))) ∧ Hid (∀ e ∈ rGo a (([] : List Ent).take i), EntOk e) ∧ Hid (Below w.heap.size w wr)) (fun vv qq ii _ => 0 - (intOf ii).toNat)
  case atStart => exact ⟨0, false, Nat.zero_le _, rfl, rfl, Lib.hid rfl, HO0, HOA, HBA⟩
  case round =>
    clear HO0 HBA
    obtain ⟨i, q, hi, rfl, rfl, HQ, HO, HOK, HB⟩ := hrel
    by_cases hlt : i < 0
    · exact absurd hlt (by omega)
    · obtain rfl : i = 0 := by omega
      have hkn : ¬ ((0 : Nat) : Int) < ((0 : Nat) : Int) := by omega
      have hbt : ([] : List Ent).take 0 = [] := List.take_of_length_le (by have := HBE.out.1; omega)
      rw [hbt] at HQ HO HOK
      have HGL := Lib.hid (rGo_length (b := []) (out := a))
      have HLA := Lib.hid HA.out.1
      have HLB := Lib.hid HBE.out.1
      cases q with
      | true =>
        have HR := Lib.hid (show R = ([], 14) by rw [HMR.out, if_pos HQ.out.symm])
        clear HMR
        go_wp2
        go_ret2
        exact ⟨_, by rw [HR.out]; rfl, by rw [HR.out]; exact World.ownsRow_nil _ _ _ _, HB.out⟩
      | false =>
        have HR := Lib.hid (show R = if 32 < (rGo a []).length then ([], 15) else (srt Ent.loc (rGo a []), 0) by rw [HMR.out, if_neg (by rw [← HQ.out]; simp)])
        clear HMR HQ
        obtain ⟨Av, nv, cv, rfl, hnv, hAv, hcv, hgv⟩ := HO.out.slice
        have HNV := Lib.hid hnv
        clear hnv hAv hgv
        by_cases h32 : 32 < nv
        · have h32i : (32 : Int) < (nv : Int) := by omega
          have HR2 := Lib.hid (show R = ([], 15) by rw [HR.out, if_pos (by rw [← HNV.out]; exact h32)])
          clear HR h32
          go_wp2
          go_ret2
          exact ⟨_, by rw [HR2.out]; rfl, by rw [HR2.out]; exact World.ownsRow_nil _ _ _ _, HB.out⟩
        · have h32i : ¬ (32 : Int) < (nv : Int) := by omega
          have HR2 := Lib.hid (show R = (srt Ent.loc (rGo a []), 0) by rw [HR.out, if_neg (by rw [← HNV.out]; exact h32)])
          have C3 := Lib.hid (rsort_any Av nv cv (rGo a []) _ (Ents.of_own HO.out) (by omega) hcv)
          clear HR h32
          go_wp2_with fail
          refine C3.out.mono ?_
          rintro e w9 ⟨v9, rfl, ho, hb⟩
          have HO9 := Lib.hid (OwnE.mono ho HB.out.size)
          have HB9 := Lib.hid (HB.out.trans (hb.mono HB.out.size))
          clear ho hb
          go_wp2
          go_ret2
          exact ⟨_, by rw [HR2.out]; rfl, by rw [HR2.out]; exact HO9.out, HB9.out⟩
set_option maxRecDepth 100000 in
set_option maxHeartbeats 12800000 in
theorem rmerge_zn {S T : Nat → Prop} (A B : Option Addr) (n c m d : Nat) (a b : List Ent) (w : World) (ha : Ents w S A n a) (hb : Ents w T B m b) (hoa : ∀ e ∈ a, EntOk e) (hob : ∀ e ∈ b, EntOk e) (hn : n ≤ 60) (hc : n ≤ c) (hm : m ≤ 60) (hd : m ≤ d) (hga : chk0 a = 0) (hz : n = 0) (hgb : chk0 b = 0) (hy : m ≠ 0) :
    Calls Tryd.prog 16 #[.slice A n c, .slice B m d] w fun e w' => ∃ v, e = .returned (.tuple #[v, .int .i64 (rMrg a b).2]) ∧ OwnE w' w.heap.size v (rMrg a b).1 ∧ Below w.heap.size w w' := by
  have HB0 := Lib.hid (Below.refl w.heap.size w)
  subst hz
  obtain rfl : a = [] := List.eq_nil_of_length_eq_zero ha.1.symm
  have C2 := Lib.hid (fun W (h : Below w.heap.size w W) => rcheck_any B m d b W (hb.below h) (by omega) hd)
  have hcb : chk b = 0 := by unfold chk0 at hgb; rwa [if_neg (by have := hb.1; omega)] at hgb
  rw [hcb] at C2
  have k4 : (0 : Int) < (m : Int) := by omega
  clear hcb
  have HDA := Lib.hid (chk0_zero hga)
  have HDB := Lib.hid (chk0_zero hgb)
  have HMR := Lib.hid (show rMrg [] b = if rGoB [] b = true then ([], 14) else if 32 < (rGo [] b).length then ([], 15) else (srt Ent.loc (rGo [] b), 0) by unfold rMrg; rw [if_neg (by rw [hga]; simp), if_neg (by rw [hgb]; simp), rGoB_eq HDB.out.1])
  obtain ⟨R, hR⟩ : ∃ R, R = rMrg [] b := ⟨_, rfl⟩
  rw [← hR] at HMR ⊢
  have HA := Lib.hid ha
  have HBE := Lib.hid hb
  have HOA := Lib.hid hoa
  have HOB := Lib.hid hob
  have HNA := Lib.hid hn
  have HMB := Lib.hid hm
  have hdi : (m : Int) ≤ (d : Int) := by omega
  clear ha hb hoa hob hga hgb hR hy
  go_enter Tryd.func16, Tryd.ntmps16
  go_wp2_with fail
  refine (C2.out _ HB0.out).mono ?_
  rintro e w1 ⟨rfl, hb⟩
  have HB1 := Lib.hid (HB0.out.trans (hb.mono HB0.out.size))
  clear hb
  have HN0 := Lib.hid (show OwnE w1 w.heap.size (.slice none 0 0) [] from World.ownsRow_nil _ _ _ _)
  have HA1 := Lib.hid (HA.out.below HB1.out)
  go_wp2_with (at_builtin; refine ap_any rfl (.tmp 33) (.tmp 34) rfl w.heap.size _ [] rfl HN0.out _ _ _ _ _ rfl HA1.out (by have := HNA.out; simp only [List.length_nil]; omega) HB1.out.size ?_)
  intro v0 wa ho0 hg0 hv0
  have HBA := Lib.hid (HB1.out.grown hg0 HB1.out.size (fun k h => by cases h))
  have HO0 := Lib.hid (show OwnE wa w.heap.size v0 (rGo [] ((b : List Ent).take 0)) from by simpa [rGo] using ho0)
  clear ho0 hg0 hv0
  go_wp2
  clear C2
  go_loopw [6, 7, 8] (fun vv qq ii wr => ∃ (i : Nat) (q : Bool), i ≤ m ∧ ii = .int .i64 i ∧ qq = .bool q ∧ Hid (q = rGoB [] ((b : List Ent).take i)) ∧ Hid (OwnE wr w.heap.size vv (rGo [] ((b : List Ent).take i))) ∧ Hid (∀ e ∈ rGo [] ((b : List Ent).take i), EntOk e) ∧ Hid (Below w.heap.size w wr)) (fun vv qq ii _ => m - (intOf ii).toNat)
  case atStart => exact ⟨0, false, Nat.zero_le _, rfl, rfl, Lib.hid rfl, HO0, HOA, HBA⟩
  case round =>
    clear HO0 HBA
    obtain ⟨i, q, hi, rfl, rfl, HQ, HO, HOK, HB⟩ := hrel
    by_cases hlt : i < m
    · skip
      obtain ⟨x, bx, ox, hx, rfl, hbb, hSb, hcell⟩ := HBE.out.at i hlt
      have HI := Lib.hid hlt
      have HX := Lib.hid hx
      have HC := Lib.hid hcell
      have HXOK := Lib.hid (HOB.out x (List.mem_of_getElem? hx))
      have HBL := Lib.hid hbb
      have hi1 : (i : Int) < (m : Int) := by omega
      have HSN := Lib.hid (show b.take (i + 1) = b.take i ++ [x] by rw [List.take_add_one, hx]; rfl)
      have HGL := Lib.hid (show (rGo [] (b.take i)).length ≤ 120 from by
        have h1 := rGo_length (b := b.take i) (out := [])
        have h2 := HDA.out.2.2
        have h3 := HMB.out
        rw [List.length_take] at h1
        omega)
      have HQN := Lib.hid (show rGoB [] (b.take (i + 1)) = (q || rBad (rGo [] (b.take i)) x) by rw [HSN.out, rGoB_snoc, HQ.out])
      have HON := Lib.hid (show rGo [] (b.take (i + 1)) = rPut (rGo [] (b.take i)) x by rw [HSN.out, rGo_snoc])
      have HOKN := Lib.hid (show ∀ e ∈ rPut (rGo [] (b.take i)) x, EntOk e from EntOk.put HOK.out HXOK.out)
      generalize rGo [] (b.take i) = O at *
      obtain ⟨Av, nv, cv, rfl, hnv, hAv, hcv, hgv⟩ := HO.out.slice
      obtain ⟨wo, rfl⟩ : ∃ wo : World, wo = wr := ⟨_, rfl⟩
      have HNV := Lib.hid hnv
      have HGV := Lib.hid hgv
      have hcvi : (nv : Int) ≤ (cv : Int) := by omega
      have hni : (nv : Int) ≤ 1000 := by have := HGL.out; have := HNV.out; omega
      have HO1 := Lib.hid (show OwnE wo w.heap.size (.slice Av nv cv) (rK O x 0) from by rw [rK_zero]; exact HO.out)
      clear hx hcell hlt hbb hSb hnv hgv hAv HQ HO HMR
      go_wp2
      go_loopw [7, 9, 10] (fun qq bb jj w2 => ∃ (j : Nat) (q1 q2 : Bool), j ≤ nv ∧ jj = .int .i64 j ∧ bb = .bool q1 ∧ qq = .bool q2 ∧ Hid (q1 = rHas (O.take j) x) ∧ Hid (q2 = (q || rBad (O.take j) x)) ∧ Hid (OwnE w2 w.heap.size (.slice Av nv cv) (rK O x j)) ∧ Hid (Below w.heap.size w w2)) (fun qq bb jj _ => nv - (intOf jj).toNat)
      case atStart => exact ⟨0, false, q, Nat.zero_le _, rfl, rfl, rfl, Lib.hid rfl, Lib.hid (by simp [rBad]), HO1, HB⟩
      case round =>
        clear HO1 HB
        obtain ⟨j, q1, q2, hj, rfl, rfl, rfl, HQ1, HQ2, HO, HB⟩ := hrel
        obtain ⟨w2, rfl⟩ : ∃ w2 : World, w2 = wr := ⟨_, rfl⟩
        obtain ⟨f0, f1, f2, f3, f4, f5⟩ := HC.out w2 HB.out
        by_cases hjn : j < nv
        · obtain ⟨g, rfl⟩ := HGV.out (by omega)
          obtain ⟨z, hz⟩ : ∃ z, O[j]? = some z := ⟨_, List.getElem?_eq_getElem (by have := HNV.out; omega)⟩
          have HZ := Lib.hid hz
          have HE := Lib.hid HO.out.er
          have g0 := HE.out.cellAt (rK_at hz) 0 _ rfl
          have g1 := HE.out.cellAt (rK_at hz) 1 _ rfl
          have g2 := HE.out.cellAt (rK_at hz) 2 _ rfl
          have g3 := HE.out.cellAt (rK_at hz) 3 _ rfl
          have g4 := HE.out.cellAt (rK_at hz) 4 _ rfl
          have g5 := HE.out.cellAt (rK_at hz) 5 _ rfl
          rw [Nat.add_zero] at g0
          have HZOK := Lib.hid (HOK.out z (List.mem_of_getElem? hz))
          have hjn2 : (j : Int) < (nv : Int) := by omega
          have HJ := Lib.hid hjn
          have HH1 := Lib.hid (rHas_succ (x := x) hz)
          have HH2 := Lib.hid (rBad_succ (x := x) hz)
          have HK := Lib.hid (rK_succ (x := x) hz)
          have HDR := Lib.hid (fun n => below_drew_n (Below.refl w2.heap.size w2) n)
          clear hz hjn
          by_cases hzx : z.loc = x.loc
          · have hb1 : (z.loc == x.loc) = true := by simpa using hzx
            have hb2 : (z.loc != x.loc) = false := by rw [bne, hb1]; rfl
            have HM := Lib.hid (show rMap x z = onto z x from if_pos hzx)
            have C4 := Lib.hid (fun W => rleaves_any z W HZOK.out)
            obtain ⟨lv, hlv⟩ : ∃ lv, lv = leafV z := ⟨_, rfl⟩
            obtain ⟨ln, hln⟩ : ∃ ln, ln = leafN z := ⟨_, rfl⟩
            have HMIS := Lib.hid (show rMis x z = !(decide (lv = x.val) && decide (ln = x.ver)) by unfold rMis; rw [hb1, hlv, hln, Bool.true_and])
            rw [← hlv, ← hln] at C4
            unfold entV at C4
            clear hlv hln hzx
            go_wp2
            go_quiet (fail)
            go_wp2_with fail
            refine (C4.out _).mono ?_
            rintro e w3 ⟨rfl, hb⟩
            have HB3 := Lib.hid (show Below w2.heap.size w2 w3 from (HDR.out _).trans hb)
            have HBW := Lib.hid (HB.out.trans (HB3.out.mono HB.out.size))
            have HO3 := Lib.hid (OwnE.below HO.out HB3.out)
            have HE3 := Lib.hid HO3.out.er
            have hth := HE3.out.there j (by rw [rK_len]; have := HNV.out; have := HJ.out; omega)
            have z4 := (hth 4 (by omega)).2
            have HG := Lib.hid (show w.heap.size ≤ g from (HO.out.lt g rfl).1)
            clear hb g0 g1 g2 g3 g4 g5 f0 f1 f2 f3 f4 f5 C4 hth HE
            obtain ⟨f0, f1, f2, f3, f4, f5⟩ := HC.out w3 HBW.out
            have g4 := HE3.out.cellAt (rK_at HZ.out) 4 _ rfl
            have g5 := HE3.out.cellAt (rK_at HZ.out) 5 _ rfl
            have HE4 := Lib.hid (HE3.out.setAt (rK_at HZ.out) 4 (by omega) (.int .i64 x.new) { z with new := x.new } rfl)
            have HK4 := Lib.hid (show Keep (fun k => k = g) w3 (w3.setCell ⟨g, j * 6 + 4, none⟩ (.int .i64 x.new)) from Keep.setCells (S := fun k => k = g) (vs := [.int .i64 x.new]) Keep.refl rfl _)
            have HBW4 := Lib.hid (HBW.out.trans (HK4.out.below HBW.out.size (fun k hk e => by have := HG.out; omega)))
            have hy4 : ((rK O x j).set j { z with new := x.new })[j]? = some { z with new := x.new } := by
              rw [List.getElem?_set_self (List.getElem?_eq_some_iff.1 (rK_at HZ.out)).1]
            have HY4 := Lib.hid hy4
            have c5 := HE4.out.cellAt hy4 5 _ rfl
            have c5z := (HE4.out.there j (List.getElem?_eq_some_iff.1 hy4).1 5 (by omega)).2
            obtain ⟨_, _, _, _, _, e5⟩ := HC.out _ HBW4.out
            have fin : ∀ u : Bool, u = (z.wr || x.wr) → ∃ W, W = (w3.setCell ⟨g, j * 6 + 4, none⟩ (.int .i64 x.new)).setCell ⟨g, j * 6 + 5, none⟩ (.bool u) ∧ OwnE W w.heap.size (.slice (some ⟨g, 0, none⟩) nv cv) (rK O x (j + 1)) ∧ Below w.heap.size w W := by
              intro u hu
              have h5 := HE4.out.setAt hy4 5 (by omega) (.bool u) (onto z x) (by unfold onto; rw [hu]; rfl)
              have k5 : Keep (fun k => k = g) (w3.setCell ⟨g, j * 6 + 4, none⟩ (.int .i64 x.new)) _ := Keep.setCells (S := fun k => k = g) (vs := [.bool u]) Keep.refl rfl (j * 6 + 5)
              rw [List.set_set, ← HM.out, HK.out] at h5
              refine ⟨_, rfl, ?_, HBW4.out.trans (k5.below HBW4.out.size (fun k hk e => by have := HG.out; omega))⟩
              exact OwnE.back HO3.out (HK4.out.shape.trans k5.shape) h5 (by rw [rK_len, rK_len])
            have FIN := Lib.hid fin
            clear fin hy4
            obtain ⟨bw, hbw⟩ : ∃ bw, bw = z.wr := ⟨_, rfl⟩
            obtain ⟨xw, hxw⟩ : ∃ xw, xw = x.wr := ⟨_, rfl⟩
            rw [← hbw] at g5
            have c5b : (w3.setCell ⟨g, j * 6 + 4, none⟩ (.int .i64 x.new)).cell? ⟨g, j * 6 + 5, none⟩ = some (.bool bw) := by rw [hbw]; exact c5
            rw [← hbw, ← hxw] at FIN
            rw [← hxw] at e5 f5
            clear c5 hbw hxw
            by_cases hm : lv = x.val ∧ ln = x.ver
            · obtain ⟨rfl, rfl⟩ := hm
              have HBQ := Lib.hid (show rBad (O.take (j + 1)) x = rBad (O.take j) x by rw [HH2.out, HMIS.out]; simp)
              clear HMIS HH2
              cases bw with
              | true =>
                go_wp2
                obtain ⟨_, rfl, hfo, hfb⟩ := FIN.out true rfl
                go_roundw
                case rel => exact ⟨j + 1, true, q2, by have := HJ.out; omega, by go_num, rfl, rfl, Lib.hid (by rw [HH1.out, hb1, Bool.or_true]), Lib.hid (by rw [HBQ.out]; exact HQ2.out), Lib.hid hfo, Lib.hid hfb⟩
                case measure => have := HJ.out; simp [intOf]; omega
              | false =>
                go_wp2
                obtain ⟨_, rfl, hfo, hfb⟩ := FIN.out xw rfl
                go_roundw
                case rel => exact ⟨j + 1, true, q2, by have := HJ.out; omega, by go_num, rfl, rfl, Lib.hid (by rw [HH1.out, hb1, Bool.or_true]), Lib.hid (by rw [HBQ.out]; exact HQ2.out), Lib.hid hfo, Lib.hid hfb⟩
                case measure => have := HJ.out; simp [intOf]; omega
            · have HBQ := Lib.hid (show rBad (O.take (j + 1)) x = true by
                rw [HH2.out, HMIS.out]
                have : (decide (lv = x.val) && decide (ln = x.ver)) = false := by rw [← Bool.decide_and]; exact decide_eq_false hm
                rw [this]; simp)
              clear HMIS HH2
              by_cases hv : lv = x.val
              · have hn2 : ¬ ln = x.ver := fun h => hm ⟨hv, h⟩
                subst hv
                have m1 : (x.ver == ln) = false := beq_eq_false_iff_ne.2 (fun h => hn2 h.symm)
                have m2 : (x.ver != ln) = true := by rw [bne, m1]; rfl
                clear hm hn2
                cases bw with
                | true =>
                  go_wp2
                  obtain ⟨_, rfl, hfo, hfb⟩ := FIN.out true rfl
                  go_roundw
                  case rel => exact ⟨j + 1, true, true, by have := HJ.out; omega, by go_num, rfl, rfl, Lib.hid (by rw [HH1.out, hb1, Bool.or_true]), Lib.hid (by rw [HBQ.out, Bool.or_true]), Lib.hid hfo, Lib.hid hfb⟩
                  case measure => have := HJ.out; simp [intOf]; omega
                | false =>
                  go_wp2
                  obtain ⟨_, rfl, hfo, hfb⟩ := FIN.out xw rfl
                  go_roundw
                  case rel => exact ⟨j + 1, true, true, by have := HJ.out; omega, by go_num, rfl, rfl, Lib.hid (by rw [HH1.out, hb1, Bool.or_true]), Lib.hid (by rw [HBQ.out, Bool.or_true]), Lib.hid hfo, Lib.hid hfb⟩
                  case measure => have := HJ.out; simp [intOf]; omega
              · have m1 : (x.val == lv) = false := beq_eq_false_iff_ne.2 (fun h => hv h.symm)
                have m2 : (x.val != lv) = true := by rw [bne, m1]; rfl
                clear hm hv
                cases bw with
                | true =>
                  go_wp2
                  obtain ⟨_, rfl, hfo, hfb⟩ := FIN.out true rfl
                  go_roundw
                  case rel => exact ⟨j + 1, true, true, by have := HJ.out; omega, by go_num, rfl, rfl, Lib.hid (by rw [HH1.out, hb1, Bool.or_true]), Lib.hid (by rw [HBQ.out, Bool.or_true]), Lib.hid hfo, Lib.hid hfb⟩
                  case measure => have := HJ.out; simp [intOf]; omega
                | false =>
                  go_wp2
                  obtain ⟨_, rfl, hfo, hfb⟩ := FIN.out xw rfl
                  go_roundw
                  case rel => exact ⟨j + 1, true, true, by have := HJ.out; omega, by go_num, rfl, rfl, Lib.hid (by rw [HH1.out, hb1, Bool.or_true]), Lib.hid (by rw [HBQ.out, Bool.or_true]), Lib.hid hfo, Lib.hid hfb⟩
                  case measure => have := HJ.out; simp [intOf]; omega
          · have hb1 : (z.loc == x.loc) = false := beq_eq_false_iff_ne.2 hzx
            have hb2 : (z.loc != x.loc) = true := by rw [bne, hb1]; rfl
            have HM := Lib.hid (show rMap x z = z from if_neg hzx)
            have HMIS := Lib.hid (show rMis x z = false by unfold rMis; rw [hb1, Bool.false_and])
            have HE2 := Lib.hid (show rK O x (j + 1) = rK O x j by
              rw [← HK.out, HM.out]
              exact List.ext_getElem? fun k => by
                rw [List.getElem?_set]
                split
                · next e =>
                  subst e
                  rw [if_pos (by rw [rK_len]; have := HNV.out; have := HJ.out; omega), rK_at HZ.out]
                · rfl)
            clear hzx
            go_wp2
            go_quiet (fail)
            go_wp2
            go_roundw
            case rel => exact ⟨j + 1, q1, q2, by have := HJ.out; omega, by go_num, rfl, rfl, Lib.hid (by rw [HH1.out, hb1, Bool.or_false]; exact HQ1.out), Lib.hid (by rw [HH2.out, HMIS.out, Bool.or_false]; exact HQ2.out), Lib.hid (by rw [HE2.out]; exact OwnE.below HO.out (HDR.out _)), Lib.hid (HB.out.trans ((HDR.out _).mono HB.out.size))⟩
            case measure => have := HJ.out; simp [intOf]; omega
        · obtain rfl : j = nv := by omega
          have hkn : ¬ ((j : Int) < (j : Int)) := by omega
          have hall : O.take j = O := List.take_of_length_le (by have := HNV.out; omega)
          have HQN2 := Lib.hid (show q2 = rGoB [] (b.take (i + 1)) by rw [HQN.out, HQ2.out, hall])
          have HKA := Lib.hid (show rK O x j = O.map (rMap x) by rw [HNV.out]; exact rK_all O x)
          rw [hall] at HQ1
          clear hall
          cases q1 with
          | true =>
            have HP := Lib.hid (show rPut O x = O.map (rMap x) by unfold rPut; rw [if_pos HQ1.out.symm])
            go_wp2
            go_roundw
            case rel => exact ⟨i + 1, q2, by have := HI.out; omega, by go_num, rfl, HQN2, Lib.hid (by rw [HON.out, HP.out, ← HKA.out]; exact HO.out), Lib.hid (by rw [HON.out]; exact HOKN.out), HB⟩
            case measure => have := HI.out; simp [intOf]; omega
          | false =>
            have HP := Lib.hid (show rPut O x = O ++ [x] by unfold rPut; rw [if_neg (by rw [← HQ1.out]; simp)])
            have HOX := Lib.hid (show OwnE (w2.alloc (entO x)) w.heap.size (.slice Av j cv) O from by
              have h := OwnE.below HO.out (show Below w2.heap.size w2 (w2.alloc (entO x)) from (Below.refl _ _).alloc (Nat.le_refl _) _)
              rwa [HKA.out, rMap_none HQ1.out.symm] at h)
            have HEX := Lib.hid (Ents.box (w := w2) x)
            have HSX := Lib.hid (show w.heap.size ≤ (w2.alloc (entO x)).heap.size by have := HB.out.size; simp; omega)
            unfold entO at HOX HEX HSX
            go_wp2_with (at_builtin; refine ap_any rfl (.tmp 112) (.tmp 117) rfl w.heap.size _ O rfl HOX.out _ _ _ _ _ rfl HEX.out (by have := HGL.out; omega) HSX.out ?_)
            intro v3 w4 ho hg hv
            have HB4 := Lib.hid ((HB.out.alloc HB.out.size (entO x)).grown hg HSX.out (fun k h => (HOX.out.lt k h).1))
            have HO4 := Lib.hid ho
            clear ho hg hv f0 f1 f2 f3 f4 f5
            go_wp2
            go_roundw
            case rel => exact ⟨i + 1, q2, by have := HI.out; omega, by go_num, rfl, HQN2, Lib.hid (by rw [HON.out, HP.out]; exact HO4.out), Lib.hid (by rw [HON.out]; exact HOKN.out), HB4⟩
            case measure => have := HI.out; simp [intOf]; omega
    · obtain rfl : i = m := by omega
      have hkn : ¬ ((i : Nat) : Int) < ((i : Nat) : Int) := by omega
      have hbt : (b : List Ent).take i = b := List.take_of_length_le (by have := HBE.out.1; omega)
      rw [hbt] at HQ HO HOK
      have HGL := Lib.hid (rGo_length (b := b) (out := []))
      have HLA := Lib.hid HA.out.1
      have HLB := Lib.hid HBE.out.1
      cases q with
      | true =>
        have HR := Lib.hid (show R = ([], 14) by rw [HMR.out, if_pos HQ.out.symm])
        clear HMR
        go_wp2
        go_ret2
        exact ⟨_, by rw [HR.out]; rfl, by rw [HR.out]; exact World.ownsRow_nil _ _ _ _, HB.out⟩
      | false =>
        have HR := Lib.hid (show R = if 32 < (rGo [] b).length then ([], 15) else (srt Ent.loc (rGo [] b), 0) by rw [HMR.out, if_neg (by rw [← HQ.out]; simp)])
        clear HMR HQ
        obtain ⟨Av, nv, cv, rfl, hnv, hAv, hcv, hgv⟩ := HO.out.slice
        have HNV := Lib.hid hnv
        clear hnv hAv hgv
        by_cases h32 : 32 < nv
        · have h32i : (32 : Int) < (nv : Int) := by omega
          have HR2 := Lib.hid (show R = ([], 15) by rw [HR.out, if_pos (by rw [← HNV.out]; exact h32)])
          clear HR h32
          go_wp2
          go_ret2
          exact ⟨_, by rw [HR2.out]; rfl, by rw [HR2.out]; exact World.ownsRow_nil _ _ _ _, HB.out⟩
        · have h32i : ¬ (32 : Int) < (nv : Int) := by omega
          have HR2 := Lib.hid (show R = (srt Ent.loc (rGo [] b), 0) by rw [HR.out, if_neg (by rw [← HNV.out]; exact h32)])
          have C3 := Lib.hid (rsort_any Av nv cv (rGo [] b) _ (Ents.of_own HO.out) (by omega) hcv)
          clear HR h32
          go_wp2_with fail
          refine C3.out.mono ?_
          rintro e w9 ⟨v9, rfl, ho, hb⟩
          have HO9 := Lib.hid (OwnE.mono ho HB.out.size)
          have HB9 := Lib.hid (HB.out.trans (hb.mono HB.out.size))
          clear ho hb
          go_wp2
          go_ret2
          exact ⟨_, by rw [HR2.out]; rfl, by rw [HR2.out]; exact HO9.out, HB9.out⟩
set_option maxRecDepth 100000 in
set_option maxHeartbeats 12800000 in
theorem rmerge_nn {S T : Nat → Prop} (A B : Option Addr) (n c m d : Nat) (a b : List Ent) (w : World) (ha : Ents w S A n a) (hb : Ents w T B m b) (hoa : ∀ e ∈ a, EntOk e) (hob : ∀ e ∈ b, EntOk e) (hn : n ≤ 60) (hc : n ≤ c) (hm : m ≤ 60) (hd : m ≤ d) (hga : chk0 a = 0) (hz : n ≠ 0) (hgb : chk0 b = 0) (hy : m ≠ 0) :
    Calls Tryd.prog 16 #[.slice A n c, .slice B m d] w fun e w' => ∃ v, e = .returned (.tuple #[v, .int .i64 (rMrg a b).2]) ∧ OwnE w' w.heap.size v (rMrg a b).1 ∧ Below w.heap.size w w' := by
  have HB0 := Lib.hid (Below.refl w.heap.size w)
  have C1 := Lib.hid (fun W (h : Below w.heap.size w W) => rcheck_any A n c a W (ha.below h) (by omega) hc)
  have hca : chk a = 0 := by unfold chk0 at hga; rwa [if_neg (by have := ha.1; omega)] at hga
  rw [hca] at C1
  have k3 : (0 : Int) < (n : Int) := by omega
  clear hca
  have C2 := Lib.hid (fun W (h : Below w.heap.size w W) => rcheck_any B m d b W (hb.below h) (by omega) hd)
  have hcb : chk b = 0 := by unfold chk0 at hgb; rwa [if_neg (by have := hb.1; omega)] at hgb
  rw [hcb] at C2
  have k4 : (0 : Int) < (m : Int) := by omega
  clear hcb
  have HDA := Lib.hid (chk0_zero hga)
  have HDB := Lib.hid (chk0_zero hgb)
  have HMR := Lib.hid (show rMrg a b = if rGoB a b = true then ([], 14) else if 32 < (rGo a b).length then ([], 15) else (srt Ent.loc (rGo a b), 0) by unfold rMrg; rw [if_neg (by rw [hga]; simp), if_neg (by rw [hgb]; simp), rGoB_eq HDB.out.1])
  obtain ⟨R, hR⟩ : ∃ R, R = rMrg a b := ⟨_, rfl⟩
  rw [← hR] at HMR ⊢
  have HA := Lib.hid ha
  have HBE := Lib.hid hb
  have HOA := Lib.hid hoa
  have HOB := Lib.hid hob
  have HNA := Lib.hid hn
  have HMB := Lib.hid hm
  have hdi : (m : Int) ≤ (d : Int) := by omega
  clear ha hb hoa hob hga hgb hR hz hy
  go_enter Tryd.func16, Tryd.ntmps16
  go_wp2_with fail
  refine (C1.out _ HB0.out).mono ?_
  rintro e w1 ⟨rfl, hb⟩
  have HB1 := Lib.hid (HB0.out.trans (hb.mono HB0.out.size))
  clear hb
  go_wp2_with fail
  refine (C2.out _ HB1.out).mono ?_
  rintro e w2 ⟨rfl, hb⟩
  have HB2 := Lib.hid (HB1.out.trans (hb.mono HB1.out.size))
  clear hb
  have HN0 := Lib.hid (show OwnE w2 w.heap.size (.slice none 0 0) [] from World.ownsRow_nil _ _ _ _)
  have HA1 := Lib.hid (HA.out.below HB2.out)
  go_wp2_with (at_builtin; refine ap_any rfl (.tmp 33) (.tmp 34) rfl w.heap.size _ [] rfl HN0.out _ _ _ _ _ rfl HA1.out (by have := HNA.out; simp only [List.length_nil]; omega) HB2.out.size ?_)
  intro v0 wa ho0 hg0 hv0
  have HBA := Lib.hid (HB2.out.grown hg0 HB2.out.size (fun k h => by cases h))
  have HO0 := Lib.hid (show OwnE wa w.heap.size v0 (rGo a ((b : List Ent).take 0)) from by simpa [rGo] using ho0)
  clear ho0 hg0 hv0
  go_wp2
  clear C1 C2
  go_loopw [6, 7, 8] (fun vv qq ii wr => ∃ (i : Nat) (q : Bool), i ≤ m ∧ ii = .int .i64 i ∧ qq = .bool q ∧ Hid (q = rGoB a ((b : List Ent).take i)) ∧ Hid (OwnE wr w.heap.size vv (rGo a ((b : List Ent).take i))) ∧ Hid (∀ e ∈ rGo a ((b : List Ent).take i), EntOk e) ∧ Hid (Below w.heap.size w wr)) (fun vv qq ii _ => m - (intOf ii).toNat)
  case atStart => exact ⟨0, false, Nat.zero_le _, rfl, rfl, Lib.hid rfl, HO0, HOA, HBA⟩
  case round =>
    clear HO0 HBA
    obtain ⟨i, q, hi, rfl, rfl, HQ, HO, HOK, HB⟩ := hrel
    by_cases hlt : i < m
    · skip
      obtain ⟨x, bx, ox, hx, rfl, hbb, hSb, hcell⟩ := HBE.out.at i hlt
      have HI := Lib.hid hlt
      have HX := Lib.hid hx
      have HC := Lib.hid hcell
      have HXOK := Lib.hid (HOB.out x (List.mem_of_getElem? hx))
      have HBL := Lib.hid hbb
      have hi1 : (i : Int) < (m : Int) := by omega
      have HSN := Lib.hid (show b.take (i + 1) = b.take i ++ [x] by rw [List.take_add_one, hx]; rfl)
      have HGL := Lib.hid (show (rGo a (b.take i)).length ≤ 120 from by
        have h1 := rGo_length (b := b.take i) (out := a)
        have h2 := HDA.out.2.2
        have h3 := HMB.out
        rw [List.length_take] at h1
        omega)
      have HQN := Lib.hid (show rGoB a (b.take (i + 1)) = (q || rBad (rGo a (b.take i)) x) by rw [HSN.out, rGoB_snoc, HQ.out])
      have HON := Lib.hid (show rGo a (b.take (i + 1)) = rPut (rGo a (b.take i)) x by rw [HSN.out, rGo_snoc])
      have HOKN := Lib.hid (show ∀ e ∈ rPut (rGo a (b.take i)) x, EntOk e from EntOk.put HOK.out HXOK.out)
      generalize rGo a (b.take i) = O at *
      obtain ⟨Av, nv, cv, rfl, hnv, hAv, hcv, hgv⟩ := HO.out.slice
      obtain ⟨wo, rfl⟩ : ∃ wo : World, wo = wr := ⟨_, rfl⟩
      have HNV := Lib.hid hnv
      have HGV := Lib.hid hgv
      have hcvi : (nv : Int) ≤ (cv : Int) := by omega
      have hni : (nv : Int) ≤ 1000 := by have := HGL.out; have := HNV.out; omega
      have HO1 := Lib.hid (show OwnE wo w.heap.size (.slice Av nv cv) (rK O x 0) from by rw [rK_zero]; exact HO.out)
      clear hx hcell hlt hbb hSb hnv hgv hAv HQ HO HMR
      go_wp2
      go_loopw [7, 9, 10] (fun qq bb jj w2 => ∃ (j : Nat) (q1 q2 : Bool), j ≤ nv ∧ jj = .int .i64 j ∧ bb = .bool q1 ∧ qq = .bool q2 ∧ Hid (q1 = rHas (O.take j) x) ∧ Hid (q2 = (q || rBad (O.take j) x)) ∧ Hid (OwnE w2 w.heap.size (.slice Av nv cv) (rK O x j)) ∧ Hid (Below w.heap.size w w2)) (fun qq bb jj _ => nv - (intOf jj).toNat)
      case atStart => exact ⟨0, false, q, Nat.zero_le _, rfl, rfl, rfl, Lib.hid rfl, Lib.hid (by simp [rBad]), HO1, HB⟩
      case round =>
        clear HO1 HB
        obtain ⟨j, q1, q2, hj, rfl, rfl, rfl, HQ1, HQ2, HO, HB⟩ := hrel
        obtain ⟨w2, rfl⟩ : ∃ w2 : World, w2 = wr := ⟨_, rfl⟩
        obtain ⟨f0, f1, f2, f3, f4, f5⟩ := HC.out w2 HB.out
        by_cases hjn : j < nv
        · obtain ⟨g, rfl⟩ := HGV.out (by omega)
          obtain ⟨z, hz⟩ : ∃ z, O[j]? = some z := ⟨_, List.getElem?_eq_getElem (by have := HNV.out; omega)⟩
          have HZ := Lib.hid hz
          have HE := Lib.hid HO.out.er
          have g0 := HE.out.cellAt (rK_at hz) 0 _ rfl
          have g1 := HE.out.cellAt (rK_at hz) 1 _ rfl
          have g2 := HE.out.cellAt (rK_at hz) 2 _ rfl
          have g3 := HE.out.cellAt (rK_at hz) 3 _ rfl
          have g4 := HE.out.cellAt (rK_at hz) 4 _ rfl
          have g5 := HE.out.cellAt (rK_at hz) 5 _ rfl
          rw [Nat.add_zero] at g0
          have HZOK := Lib.hid (HOK.out z (List.mem_of_getElem? hz))
          have hjn2 : (j : Int) < (nv : Int) := by omega
          have HJ := Lib.hid hjn
          have HH1 := Lib.hid (rHas_succ (x := x) hz)
          have HH2 := Lib.hid (rBad_succ (x := x) hz)
          have HK := Lib.hid (rK_succ (x := x) hz)
          have HDR := Lib.hid (fun n => below_drew_n (Below.refl w2.heap.size w2) n)
          clear hz hjn
          by_cases hzx : z.loc = x.loc
          · have hb1 : (z.loc == x.loc) = true := by simpa using hzx
            have hb2 : (z.loc != x.loc) = false := by rw [bne, hb1]; rfl
            have HM := Lib.hid (show rMap x z = onto z x from if_pos hzx)
            have C4 := Lib.hid (fun W => rleaves_any z W HZOK.out)
            obtain ⟨lv, hlv⟩ : ∃ lv, lv = leafV z := ⟨_, rfl⟩
            obtain ⟨ln, hln⟩ : ∃ ln, ln = leafN z := ⟨_, rfl⟩
            have HMIS := Lib.hid (show rMis x z = !(decide (lv = x.val) && decide (ln = x.ver)) by unfold rMis; rw [hb1, hlv, hln, Bool.true_and])
            rw [← hlv, ← hln] at C4
            unfold entV at C4
            clear hlv hln hzx
            go_wp2
            go_quiet (fail)
            go_wp2_with fail
            refine (C4.out _).mono ?_
            rintro e w3 ⟨rfl, hb⟩
            have HB3 := Lib.hid (show Below w2.heap.size w2 w3 from (HDR.out _).trans hb)
            have HBW := Lib.hid (HB.out.trans (HB3.out.mono HB.out.size))
            have HO3 := Lib.hid (OwnE.below HO.out HB3.out)
            have HE3 := Lib.hid HO3.out.er
            have hth := HE3.out.there j (by rw [rK_len]; have := HNV.out; have := HJ.out; omega)
            have z4 := (hth 4 (by omega)).2
            have HG := Lib.hid (show w.heap.size ≤ g from (HO.out.lt g rfl).1)
            clear hb g0 g1 g2 g3 g4 g5 f0 f1 f2 f3 f4 f5 C4 hth HE
            obtain ⟨f0, f1, f2, f3, f4, f5⟩ := HC.out w3 HBW.out
            have g4 := HE3.out.cellAt (rK_at HZ.out) 4 _ rfl
            have g5 := HE3.out.cellAt (rK_at HZ.out) 5 _ rfl
            have HE4 := Lib.hid (HE3.out.setAt (rK_at HZ.out) 4 (by omega) (.int .i64 x.new) { z with new := x.new } rfl)
            have HK4 := Lib.hid (show Keep (fun k => k = g) w3 (w3.setCell ⟨g, j * 6 + 4, none⟩ (.int .i64 x.new)) from Keep.setCells (S := fun k => k = g) (vs := [.int .i64 x.new]) Keep.refl rfl _)
            have HBW4 := Lib.hid (HBW.out.trans (HK4.out.below HBW.out.size (fun k hk e => by have := HG.out; omega)))
            have hy4 : ((rK O x j).set j { z with new := x.new })[j]? = some { z with new := x.new } := by
              rw [List.getElem?_set_self (List.getElem?_eq_some_iff.1 (rK_at HZ.out)).1]
            have HY4 := Lib.hid hy4
            have c5 := HE4.out.cellAt hy4 5 _ rfl
            have c5z := (HE4.out.there j (List.getElem?_eq_some_iff.1 hy4).1 5 (by omega)).2
            obtain ⟨_, _, _, _, _, e5⟩ := HC.out _ HBW4.out
            have fin : ∀ u : Bool, u = (z.wr || x.wr) → ∃ W, W = (w3.setCell ⟨g, j * 6 + 4, none⟩ (.int .i64 x.new)).setCell ⟨g, j * 6 + 5, none⟩ (.bool u) ∧ OwnE W w.heap.size (.slice (some ⟨g, 0, none⟩) nv cv) (rK O x (j + 1)) ∧ Below w.heap.size w W := by
              intro u hu
              have h5 := HE4.out.setAt hy4 5 (by omega) (.bool u) (onto z x) (by unfold onto; rw [hu]; rfl)
              have k5 : Keep (fun k => k = g) (w3.setCell ⟨g, j * 6 + 4, none⟩ (.int .i64 x.new)) _ := Keep.setCells (S := fun k => k = g) (vs := [.bool u]) Keep.refl rfl (j * 6 + 5)
              rw [List.set_set, ← HM.out, HK.out] at h5
              refine ⟨_, rfl, ?_, HBW4.out.trans (k5.below HBW4.out.size (fun k hk e => by have := HG.out; omega))⟩
              exact OwnE.back HO3.out (HK4.out.shape.trans k5.shape) h5 (by rw [rK_len, rK_len])
            have FIN := Lib.hid fin
            clear fin hy4
            obtain ⟨bw, hbw⟩ : ∃ bw, bw = z.wr := ⟨_, rfl⟩
            obtain ⟨xw, hxw⟩ : ∃ xw, xw = x.wr := ⟨_, rfl⟩
            rw [← hbw] at g5
            have c5b : (w3.setCell ⟨g, j * 6 + 4, none⟩ (.int .i64 x.new)).cell? ⟨g, j * 6 + 5, none⟩ = some (.bool bw) := by rw [hbw]; exact c5
            rw [← hbw, ← hxw] at FIN
            rw [← hxw] at e5 f5
            clear c5 hbw hxw
            by_cases hm : lv = x.val ∧ ln = x.ver
            · obtain ⟨rfl, rfl⟩ := hm
              have HBQ := Lib.hid (show rBad (O.take (j + 1)) x = rBad (O.take j) x by rw [HH2.out, HMIS.out]; simp)
              clear HMIS HH2
              cases bw with
              | true =>
                go_wp2
                obtain ⟨_, rfl, hfo, hfb⟩ := FIN.out true rfl
                go_roundw
                case rel => exact ⟨j + 1, true, q2, by have := HJ.out; omega, by go_num, rfl, rfl, Lib.hid (by rw [HH1.out, hb1, Bool.or_true]), Lib.hid (by rw [HBQ.out]; exact HQ2.out), Lib.hid hfo, Lib.hid hfb⟩
                case measure => have := HJ.out; simp [intOf]; omega
              | false =>
                go_wp2
                obtain ⟨_, rfl, hfo, hfb⟩ := FIN.out xw rfl
                go_roundw
                case rel => exact ⟨j + 1, true, q2, by have := HJ.out; omega, by go_num, rfl, rfl, Lib.hid (by rw [HH1.out, hb1, Bool.or_true]), Lib.hid (by rw [HBQ.out]; exact HQ2.out), Lib.hid hfo, Lib.hid hfb⟩
                case measure => have := HJ.out; simp [intOf]; omega
            · have HBQ := Lib.hid (show rBad (O.take (j + 1)) x = true by
                rw [HH2.out, HMIS.out]
                have : (decide (lv = x.val) && decide (ln = x.ver)) = false := by rw [← Bool.decide_and]; exact decide_eq_false hm
                rw [this]; simp)
              clear HMIS HH2
              by_cases hv : lv = x.val
              · have hn2 : ¬ ln = x.ver := fun h => hm ⟨hv, h⟩
                subst hv
                have m1 : (x.ver == ln) = false := beq_eq_false_iff_ne.2 (fun h => hn2 h.symm)
                have m2 : (x.ver != ln) = true := by rw [bne, m1]; rfl
                clear hm hn2
                cases bw with
                | true =>
                  go_wp2
                  obtain ⟨_, rfl, hfo, hfb⟩ := FIN.out true rfl
                  go_roundw
                  case rel => exact ⟨j + 1, true, true, by have := HJ.out; omega, by go_num, rfl, rfl, Lib.hid (by rw [HH1.out, hb1, Bool.or_true]), Lib.hid (by rw [HBQ.out, Bool.or_true]), Lib.hid hfo, Lib.hid hfb⟩
                  case measure => have := HJ.out; simp [intOf]; omega
                | false =>
                  go_wp2
                  obtain ⟨_, rfl, hfo, hfb⟩ := FIN.out xw rfl
                  go_roundw
                  case rel => exact ⟨j + 1, true, true, by have := HJ.out; omega, by go_num, rfl, rfl, Lib.hid (by rw [HH1.out, hb1, Bool.or_true]), Lib.hid (by rw [HBQ.out, Bool.or_true]), Lib.hid hfo, Lib.hid hfb⟩
                  case measure => have := HJ.out; simp [intOf]; omega
              · have m1 : (x.val == lv) = false := beq_eq_false_iff_ne.2 (fun h => hv h.symm)
                have m2 : (x.val != lv) = true := by rw [bne, m1]; rfl
                clear hm hv
                cases bw with
                | true =>
                  go_wp2
                  obtain ⟨_, rfl, hfo, hfb⟩ := FIN.out true rfl
                  go_roundw
                  case rel => exact ⟨j + 1, true, true, by have := HJ.out; omega, by go_num, rfl, rfl, Lib.hid (by rw [HH1.out, hb1, Bool.or_true]), Lib.hid (by rw [HBQ.out, Bool.or_true]), Lib.hid hfo, Lib.hid hfb⟩
                  case measure => have := HJ.out; simp [intOf]; omega
                | false =>
                  go_wp2
                  obtain ⟨_, rfl, hfo, hfb⟩ := FIN.out xw rfl
                  go_roundw
                  case rel => exact ⟨j + 1, true, true, by have := HJ.out; omega, by go_num, rfl, rfl, Lib.hid (by rw [HH1.out, hb1, Bool.or_true]), Lib.hid (by rw [HBQ.out, Bool.or_true]), Lib.hid hfo, Lib.hid hfb⟩
                  case measure => have := HJ.out; simp [intOf]; omega
          · have hb1 : (z.loc == x.loc) = false := beq_eq_false_iff_ne.2 hzx
            have hb2 : (z.loc != x.loc) = true := by rw [bne, hb1]; rfl
            have HM := Lib.hid (show rMap x z = z from if_neg hzx)
            have HMIS := Lib.hid (show rMis x z = false by unfold rMis; rw [hb1, Bool.false_and])
            have HE2 := Lib.hid (show rK O x (j + 1) = rK O x j by
              rw [← HK.out, HM.out]
              exact List.ext_getElem? fun k => by
                rw [List.getElem?_set]
                split
                · next e =>
                  subst e
                  rw [if_pos (by rw [rK_len]; have := HNV.out; have := HJ.out; omega), rK_at HZ.out]
                · rfl)
            clear hzx
            go_wp2
            go_quiet (fail)
            go_wp2
            go_roundw
            case rel => exact ⟨j + 1, q1, q2, by have := HJ.out; omega, by go_num, rfl, rfl, Lib.hid (by rw [HH1.out, hb1, Bool.or_false]; exact HQ1.out), Lib.hid (by rw [HH2.out, HMIS.out, Bool.or_false]; exact HQ2.out), Lib.hid (by rw [HE2.out]; exact OwnE.below HO.out (HDR.out _)), Lib.hid (HB.out.trans ((HDR.out _).mono HB.out.size))⟩
            case measure => have := HJ.out; simp [intOf]; omega
        · obtain rfl : j = nv := by omega
          have hkn : ¬ ((j : Int) < (j : Int)) := by omega
          have hall : O.take j = O := List.take_of_length_le (by have := HNV.out; omega)
          have HQN2 := Lib.hid (show q2 = rGoB a (b.take (i + 1)) by rw [HQN.out, HQ2.out, hall])
          have HKA := Lib.hid (show rK O x j = O.map (rMap x) by rw [HNV.out]; exact rK_all O x)
          rw [hall] at HQ1
          clear hall
          cases q1 with
          | true =>
            have HP := Lib.hid (show rPut O x = O.map (rMap x) by unfold rPut; rw [if_pos HQ1.out.symm])
            go_wp2
            go_roundw
            case rel => exact ⟨i + 1, q2, by have := HI.out; omega, by go_num, rfl, HQN2, Lib.hid (by rw [HON.out, HP.out, ← HKA.out]; exact HO.out), Lib.hid (by rw [HON.out]; exact HOKN.out), HB⟩
            case measure => have := HI.out; simp [intOf]; omega
          | false =>
            have HP := Lib.hid (show rPut O x = O ++ [x] by unfold rPut; rw [if_neg (by rw [← HQ1.out]; simp)])
            have HOX := Lib.hid (show OwnE (w2.alloc (entO x)) w.heap.size (.slice Av j cv) O from by
              have h := OwnE.below HO.out (show Below w2.heap.size w2 (w2.alloc (entO x)) from (Below.refl _ _).alloc (Nat.le_refl _) _)
              rwa [HKA.out, rMap_none HQ1.out.symm] at h)
            have HEX := Lib.hid (Ents.box (w := w2) x)
            have HSX := Lib.hid (show w.heap.size ≤ (w2.alloc (entO x)).heap.size by have := HB.out.size; simp; omega)
            unfold entO at HOX HEX HSX
            go_wp2_with (at_builtin; refine ap_any rfl (.tmp 112) (.tmp 117) rfl w.heap.size _ O rfl HOX.out _ _ _ _ _ rfl HEX.out (by have := HGL.out; omega) HSX.out ?_)
            intro v3 w4 ho hg hv
            have HB4 := Lib.hid ((HB.out.alloc HB.out.size (entO x)).grown hg HSX.out (fun k h => (HOX.out.lt k h).1))
            have HO4 := Lib.hid ho
            clear ho hg hv f0 f1 f2 f3 f4 f5
            go_wp2
            go_roundw
            case rel => exact ⟨i + 1, q2, by have := HI.out; omega, by go_num, rfl, HQN2, Lib.hid (by rw [HON.out, HP.out]; exact HO4.out), Lib.hid (by rw [HON.out]; exact HOKN.out), HB4⟩
            case measure => have := HI.out; simp [intOf]; omega
    · obtain rfl : i = m := by omega
      have hkn : ¬ ((i : Nat) : Int) < ((i : Nat) : Int) := by omega
      have hbt : (b : List Ent).take i = b := List.take_of_length_le (by have := HBE.out.1; omega)
      rw [hbt] at HQ HO HOK
      have HGL := Lib.hid (rGo_length (b := b) (out := a))
      have HLA := Lib.hid HA.out.1
      have HLB := Lib.hid HBE.out.1
      cases q with
      | true =>
        have HR := Lib.hid (show R = ([], 14) by rw [HMR.out, if_pos HQ.out.symm])
        clear HMR
        go_wp2
        go_ret2
        exact ⟨_, by rw [HR.out]; rfl, by rw [HR.out]; exact World.ownsRow_nil _ _ _ _, HB.out⟩
      | false =>
        have HR := Lib.hid (show R = if 32 < (rGo a b).length then ([], 15) else (srt Ent.loc (rGo a b), 0) by rw [HMR.out, if_neg (by rw [← HQ.out]; simp)])
        clear HMR HQ
        obtain ⟨Av, nv, cv, rfl, hnv, hAv, hcv, hgv⟩ := HO.out.slice
        have HNV := Lib.hid hnv
        clear hnv hAv hgv
        by_cases h32 : 32 < nv
        · have h32i : (32 : Int) < (nv : Int) := by omega
          have HR2 := Lib.hid (show R = ([], 15) by rw [HR.out, if_pos (by rw [← HNV.out]; exact h32)])
          clear HR h32
          go_wp2
          go_ret2
          exact ⟨_, by rw [HR2.out]; rfl, by rw [HR2.out]; exact World.ownsRow_nil _ _ _ _, HB.out⟩
        · have h32i : ¬ (32 : Int) < (nv : Int) := by omega
          have HR2 := Lib.hid (show R = (srt Ent.loc (rGo a b), 0) by rw [HR.out, if_neg (by rw [← HNV.out]; exact h32)])
          have C3 := Lib.hid (rsort_any Av nv cv (rGo a b) _ (Ents.of_own HO.out) (by omega) hcv)
          clear HR h32
          go_wp2_with fail
          refine C3.out.mono ?_
          rintro e w9 ⟨v9, rfl, ho, hb⟩
          have HO9 := Lib.hid (OwnE.mono ho HB.out.size)
          have HB9 := Lib.hid (HB.out.trans (hb.mono HB.out.size))
          clear ho hb
          go_wp2
          go_ret2
          exact ⟨_, by rw [HR2.out]; rfl, by rw [HR2.out]; exact HO9.out, HB9.out⟩
theorem rmerge_any {S T : Nat → Prop} (A B : Option Addr) (n c m d : Nat) (a b : List Ent) (w : World) (ha : Ents w S A n a) (hb : Ents w T B m b) (hoa : ∀ e ∈ a, EntOk e) (hob : ∀ e ∈ b, EntOk e) (hn : n ≤ 60) (hc : n ≤ c) (hm : m ≤ 60) (hd : m ≤ d) :
    Calls Tryd.prog 16 #[.slice A n c, .slice B m d] w fun e w' => ∃ v, e = .returned (.tuple #[v, .int .i64 (rMrg a b).2]) ∧ OwnE w' w.heap.size v (rMrg a b).1 ∧ Below w.heap.size w w' := by
  by_cases h1 : chk0 a = 0
  · by_cases h2 : chk0 b = 0
    · by_cases h3 : n = 0 <;> by_cases h4 : m = 0
      · exact rmerge_zz A B n c m d a b w ha hb hoa hob hn hc hm hd h1 h3 h2 h4
      · exact rmerge_zn A B n c m d a b w ha hb hoa hob hn hc hm hd h1 h3 h2 h4
      · exact rmerge_nz A B n c m d a b w ha hb hoa hob hn hc hm hd h1 h3 h2 h4
      · exact rmerge_nn A B n c m d a b w ha hb hoa hob hn hc hm hd h1 h3 h2 h4
    · have e : rMrg a b = ([], chk0 b) := by unfold rMrg; rw [if_neg (fun h => h h1), if_pos h2]
      rw [e]
      by_cases h3 : n = 0
      · exact (rmerge_bad2z A B n c m d a b w ha hb hoa hob hn hc hm hd h1 h3 h2).mono fun e w' h => ⟨_, h.1, World.ownsRow_nil _ _ _ _, h.2⟩
      · exact (rmerge_bad2n A B n c m d a b w ha hb hoa hob hn hc hm hd h1 h3 h2).mono fun e w' h => ⟨_, h.1, World.ownsRow_nil _ _ _ _, h.2⟩
  · have e : rMrg a b = ([], chk0 a) := by unfold rMrg; rw [if_pos h1]
    rw [e]
    exact (rmerge_bad1 (T := T) A B n c m d a b w ha (by omega) hc h1).mono fun e w' h => ⟨_, h.1, World.ownsRow_nil _ _ _ _, h.2⟩

theorem merge_any {S T : Nat → Prop} (A B : Option Addr) (n c m d : Nat) (a b : List Ent) (w : World) (ha : Ents w S A n a) (hb : Ents w T B m b) (hoa : ∀ e ∈ a, EntOk e) (hob : ∀ e ∈ b, EntOk e) (hn : n ≤ 60) (hc : n ≤ c) (hm : m ≤ 60) (hd : m ≤ d) (hAn : A = none → n = 0 ∧ c = 0) (hBn : B = none → m = 0 ∧ d = 0) :
    Calls Tryd.prog 15 #[.slice A n c, .slice B m d] w fun e w' => ∃ v, e = .returned (.tuple #[v, .int .i64 (mrg a b).2]) ∧ OwnE w' w.heap.size v (mrg a b).1 ∧ Below w.heap.size w w' := by
  by_cases h1 : chk0 a = 0
  · by_cases h2 : chk0 b = 0
    · refine (merge_good A B n c m d a b w ha hb hoa hob hn hc hm hd hAn hBn h1 h2).mono ?_
      have e : mrg a b = match mrgL (srt Ent.loc a) (srt Ent.loc b) with | none => ([], 14) | some o => if 32 < o.length then ([], 15) else (o, 0) := by unfold mrg; rw [if_neg (fun h => h h1), if_neg (fun h => h h2)]; cases mrgL (srt Ent.loc a) (srt Ent.loc b) <;> rfl
      rintro x w' ⟨⟨h, rfl⟩ | ⟨o, h, ⟨h3, rfl⟩ | ⟨h3, v, rfl, ho⟩⟩, hb⟩
      · rw [h] at e; rw [e]; exact ⟨_, rfl, World.ownsRow_nil _ _ _ _, hb⟩
      · rw [h] at e; simp only [if_pos h3] at e; rw [e]; exact ⟨_, rfl, World.ownsRow_nil _ _ _ _, hb⟩
      · rw [h] at e; simp only [if_neg (Nat.not_lt.2 h3)] at e; rw [e]; exact ⟨_, rfl, ho, hb⟩
    · have e : mrg a b = ([], chk0 b) := by unfold mrg; rw [if_neg (fun h => h h1), if_pos h2]
      rw [e]
      exact (merge_bad2 A B n c m d a b w ha hb hoa hob (by omega) hc (by omega) hd h1 h2).mono fun e w' h => ⟨_, h.1, World.ownsRow_nil _ _ _ _, h.2⟩
  · have e : mrg a b = ([], chk0 a) := by unfold mrg; rw [if_pos h1]
    rw [e]
    exact (merge_bad1 A B n c m d a b w ha hb hoa (by omega) hc h1).mono fun e w' h => ⟨_, h.1, World.ownsRow_nil _ _ _ _, h.2⟩

end Go.Proofs.YtilapnejkdgomaaDoor
