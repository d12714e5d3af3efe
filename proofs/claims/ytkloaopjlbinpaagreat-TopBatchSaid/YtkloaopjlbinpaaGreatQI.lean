/- The walk of fits. Condition: at most 100 operations; a kind is one of 0 to 3. The walks of maps.Copy onto an empty map and of Apply at one operation on a map of one key. Condition: a kind is one of 0 to 3. The walk of Apply at one operation on a map of its key alone. Condition: a kind is one of 0 to 3. The walks of speedBatch's closures. Condition: the operation's kind is one of 0 to 3, its key one of 0 to 9. The walk of speedBatch: the keys and the values that operations leave. Condition: at most 20 operations; kinds 0 to 3, keys 0 to 9. -/
import Derived.Test.YtkloaopjlbinpaaGreatTbU
set_option linter.unusedVariables false
set_option linter.unusedSimpArgs false
namespace Go.Proofs.YtkloaopjlbinpaaGreat
open Go.RowKit Go.MapKept

theorem bop_cells {w : World} {S : Nat → Prop} {A : Option Addr} {n : Nat} {l : List BOp} (hR : Reads w S 3 A n (l.flatMap opB)) {j : Nat} {x : BOp} (hj : j < n) (hx : l[j]? = some x) : ∃ b q, A = some ⟨b, q, none⟩ ∧ b < w.heap.size ∧ S b ∧ w.cell? ⟨b, q + j * 3, none⟩ = some (.int .i64 x.kd) ∧ w.cell? ⟨b, q + j * 3 + 1, none⟩ = some (.int .i64 x.ky) ∧ w.cell? ⟨b, q + j * 3 + 2, none⟩ = some (.int .i64 x.n) := by
  obtain ⟨b, q, rfl, hb, hS, hc⟩ := hR.2 (by omega)
  have key : ∀ r u, r < 3 → (opB x)[r]? = some u → w.cell? ⟨b, q + (j * 3 + r), none⟩ = some u := fun r u hr hu => hc (j * 3 + r) u ((flat_get 3 opB (fun _ => rfl) l j x hx r hr).trans hu)
  exact ⟨b, q, rfl, hb, hS, key 0 _ (by omega) rfl, by rw [Nat.add_assoc]; exact key 1 _ (by omega) rfl, by rw [Nat.add_assoc]; exact key 2 _ (by omega) rfl⟩
set_option maxRecDepth 100000 in
set_option maxHeartbeats 6400000 in
theorem fits_any (w : World) (A : Option Addr) (n c : Nat) (l : List BOp) (hl : l.length = n) (hn : n ≤ 100) (hok : ∀ x ∈ l, x.ok) (hR : Reads w (fun _ => True) 3 A n (l.flatMap opB)) (o : BOp) (ho : o.ok) :
    Calls Tryz.prog 24 #[.slice A n c, opV o] w fun e w' => e = .returned (.bool (fitsB l o)) ∧ Below w.heap.size w w' := by
  unfold opV
  obtain ⟨W0, hW0⟩ : ∃ W, W = w.alloc (.cells #[.int .i64 o.kd, .int .i64 o.ky, .int .i64 o.n] 25) := ⟨_, rfl⟩
  have B0 := Lib.hid (show Below w.heap.size w W0 from by rw [hW0]; exact below_alloc _ _)
  have OX := Lib.hid (show HB 25 W0 w.heap.size #[.int .i64 o.kd, .int .i64 o.ky, .int .i64 o.n] from by rw [hW0]; exact HB.new _ _ _)
  have HR := Lib.hid hR
  have HL := Lib.hid (And.intro hl hn)
  have HOK := Lib.hid (And.intro hok ho)
  have hn100 : (n : Int) ≤ 100 := by omega
  clear hR hl hn hok ho
  go_enter Tryz.func24, Tryz.ntmps24
  go_upto_region 1 with fail
  rw [← hW0]
  clear hW0
  go_wp2_with fail
  go_loopw [9] (fun v9 wr => ∃ j : Nat, v9 = .int .i64 j ∧ j ≤ n ∧ Below w.heap.size w wr ∧ HB 25 wr w.heap.size #[.int .i64 o.kd, .int .i64 o.ky, .int .i64 o.n] ∧ ∀ x ∈ l.take j, commB x o = true) (fun v9 _ => n - (intOf v9).toNat)
  case atStart => exact ⟨0, rfl, Nat.zero_le _, B0.out, OX.out, by simp⟩
  case round =>
    obtain ⟨j, rfl, hj, hb, hox, hall⟩ := hrel
    clear B0 OX
    have B1 := Lib.hid hb
    have OX := Lib.hid hox
    have HA := Lib.hid hall
    have HJ := Lib.hid hj
    clear hb hox hall hj
    by_cases hlt : j < n
    · have hi3 : (j : Int) < (n : Int) := by omega
      have HLT := Lib.hid hlt
      obtain ⟨x, hx⟩ : ∃ x, l[j]? = some x := ⟨_, List.getElem?_eq_getElem (by have := HL.out; omega)⟩
      obtain ⟨b, q, rfl, hbl, -, z0, z1, z2⟩ := bop_cells (HR.out.below B1.out) hlt hx
      have HXX := Lib.hid hx
      have HXO := Lib.hid (HOK.out.1 x (List.mem_of_getElem? hx))
      obtain ⟨pb, hpb⟩ : ∃ n, n = wr.heap.size := ⟨_, rfl⟩
      obtain ⟨w5, hw5⟩ : ∃ W, W = wr.alloc (.cells #[.int .i64 x.kd, .int .i64 x.ky, .int .i64 x.n] 25) := ⟨_, rfl⟩
      have hb5 : Below wr.heap.size wr w5 := by rw [hw5]; exact below_alloc _ _
      have B5 := Lib.hid (B1.out.trans (hb5.mono B1.out.size))
      have PX := Lib.hid (show HB 25 w5 pb #[.int .i64 x.kd, .int .i64 x.ky, .int .i64 x.n] from by rw [hw5, hpb]; exact HB.new _ _ _)
      have OX5 := Lib.hid (OX.out.below hb5)
      clear hx hlt hbl hb5
      go_upto_region 4 with fail
      rw [← hw5, ← hpb]
      clear hw5 hpb z0 z1 z2
      have x0 : _ = some (Value.int .i64 x.kd) := PX.out.cell 0
      have x1 : _ = some (Value.int .i64 x.ky) := PX.out.cell 1
      have x2 : _ = some (Value.int .i64 x.n) := PX.out.cell 2
      have o0 : _ = some (Value.int .i64 o.kd) := OX5.out.cell 0
      have o1 : _ = some (Value.int .i64 o.ky) := OX5.out.cell 1
      have o2 : _ = some (Value.int .i64 o.n) := OX5.out.cell 2
      go_wp2_with fail
      refine (commute_any x o HXO.out HOK.out.2 _).mono ?_
      rintro e w6 ⟨rfl, hb⟩
      have B6 := Lib.hid (B5.out.trans (hb.mono B5.out.size))
      have OX6 := Lib.hid (OX5.out.below hb)
      clear hb x0 x1 x2 o0 o1 o2 B5 OX5 PX B1 OX
      cases hc : commB x o with
      | false =>
        have HC := Lib.hid hc
        clear hc
        go_wp2
        go_ret
        refine ⟨?_, B6.out⟩
        have : fitsB l o = false := by
          unfold fitsB
          rw [List.all_eq_false]
          exact ⟨x, List.mem_of_getElem? HXX.out, by rw [HC.out]; simp⟩
        rw [this]
        rfl
      | true =>
        have HC := Lib.hid hc
        clear hc
        go_wp2_with fail
        go_roundw
        case rel =>
          refine ⟨j + 1, by go_num, HLT.out, B6.out, OX6.out, fun y hy => ?_⟩
          rw [List.take_add_one, HXX.out] at hy
          rcases List.mem_append.1 hy with hy | hy
          · exact HA.out y hy
          · simp at hy
            rw [hy]; exact HC.out
        case measure =>
          have := HLT.out
          show n - ((j + 1 : Nat) : Int).toNat < n - (j : Int).toNat
          omega
    · have hi3 : ¬ (j : Int) < (n : Int) := by omega
      have ej : j = n := by have := HJ.out; omega
      have hF : fitsB l o = true := by
        have h0 := HA.out
        rw [ej, List.take_of_length_le (by have := HL.out; omega)] at h0
        unfold fitsB
        rw [List.all_eq_true]
        exact h0
      have HF := Lib.hid hF
      clear hlt hF ej
      go_wp2
      go_ret
      exact ⟨by rw [HF.out]; rfl, B1.out⟩
end Go.Proofs.YtkloaopjlbinpaaGreat
namespace Go.Proofs.YtkloaopjlbinpaaGreat
open Go.RowKit Go.MapKept

theorem i64_zero (w : World) : (zeroValue 2).run Tryz.prog w = .ok (.int .i64 0) w := by kernel_rfl
set_option maxRecDepth 100000 in
set_option maxHeartbeats 6400000 in
theorem mcopy_any (w : World) (bd bs : Nat) (f : Int → Option Value) (hd : IntMap w bd fun _ => none) (hs : IntMap w bs f) (hne : bd ≠ bs) :
    Calls Tryz.prog 39 #[.map (some bd), .map (some bs)] w fun e w' => e = .returned (.tuple #[]) ∧ IntMap w' bd f ∧ KX (fun b => b = bd) w w' := by
  have HD := Lib.hid hd
  have HS := Lib.hid hs
  have NE := Lib.hid hne
  have LD := Lib.hid (And.intro hd.lt hs.lt)
  have hm' : IsMap w (fun _ => True) (.map (some bs)) f := .inr ⟨bs, rfl, trivial, hs.lt, hs⟩
  clear hd hs hne
  go_enter Tryz.func39, Tryz.ntmps39
  go_wp2_with (at_range; refine Hid.out ?_)
  refine Lib.hid ?_
  refine wpList_range_mine rfl (.tmp 6) 69 rfl 2 2 Tryz.underlying69 (fun _ => True) (.map (some bs)) f rfl hm' fun x left hit hnd hkeys => ?_
  have hbx : Below w.heap.size w (w.alloc x) := below_alloc _ _
  obtain ⟨ib, hib⟩ : ∃ z, z = w.heap.size := ⟨_, rfl⟩
  rw [← hib] at hit ⊢
  have IT := Lib.hid hit
  have NDL := Lib.hid hnd
  have KEYS := Lib.hid (part_all hkeys)
  have NM := Lib.hid (HD.out.below hbx)
  have KB := Lib.hid (show KX (fun b => b = bd) w (w.alloc x) from KX.of_below hbx)
  have IB := Lib.hid (show bd ≠ ib ∧ bs ≠ ib ∧ w.heap.size ≤ ib ∧ ib < (w.alloc x).heap.size from by rw [World.size_alloc]; have := LD.out; omega)
  clear hit hnd hkeys hbx hm' hib
  generalize w.alloc x = W5 at *
  go_wp2
  try simp only [Act.put, List.setIfInBounds_toArray, List.set_cons_zero, List.set_cons_succ]
  go_loopw [4] (fun _ wr => ∃ left, Iter wr ib (.map (some bs)) f left ∧ left.Nodup ∧ IntMap wr bd (part f left) ∧ KX (fun b => b = bd) w wr ∧ ib < wr.heap.size) (fun _ wr => iterLeft wr ib (.map (some bs)))
  case atStart => exact ⟨left, IT.out, NDL.out, by rw [KEYS.out]; exact NM.out, KB.out, IB.out.2.2.2⟩
  case round =>
    clear IT NDL KEYS NM KB
    obtain ⟨left2, hit, hnd, hnm, hkb, hsz⟩ := hrel
    have IT := Lib.hid hit
    have NDL := Lib.hid hnd
    have NM := Lib.hid hnm
    have KB := Lib.hid hkb
    have SZ := Lib.hid hsz
    clear hit hnd hnm hkb hsz
    go_wp2_with (at_next; refine Hid.out ?_)
    refine Lib.hid ?_
    refine wpList_next_mine rfl (.tmp 7) rfl ib (.map (some bs)) f left2 rfl IT.out (fun hleft => ?_) (fun k u w6 hk hf hent hit hgr hsz hlt => ?_)
    · subst hleft
      have NM2 := Lib.hid (show IntMap wr bd f from by have := NM.out; rw [part_nil] at this; exact this)
      clear NM IT NDL
      go_wp2
      go_end0
      exact ⟨rfl, NM2.out, KB.out⟩
    · have k6 : KX (fun b => b = ib) wr w6 := KX.of_grown hgr fun k e => (Option.some.inj e).symm
      have NM6 := Lib.hid (NM.out.keep (k6.block _ NM.out.lt (by have := IB.out; omega)))
      have IT6 := Lib.hid hit
      have KB6 := Lib.hid (show KX (fun b => b = bd) w w6 from KB.out.trans_new k6 (fun b hb => by have := IB.out; omega))
      have SZ6 := Lib.hid (show ib < w6.heap.size from by rw [hsz]; exact SZ.out)
      have HPS := Lib.hid (part_step NDL.out hf)
      have NDE := Lib.hid (NDL.out.erase k)
      have HLT := Lib.hid hlt
      clear hk hf hit hgr hsz hlt k6 IT NDL NM KB SZ
      go_wp2_with (at_mapUpdate; refine Hid.out ?_)
      refine Lib.hid ?_
      refine wpList_mapUpdate_mine rfl (.tmp 13) (.tmp 14) (.tmp 15) 69 rfl 2 2 Tryz.underlying69 Tryz.underlying2 bd _ NM6.out rfl k rfl u rfl (fun w8 hm8 hg8 hs8 => ?_)
      have hk8 : KX (fun b => b = bd) w6 w8 := KX.of_grown hg8 fun k e => (Option.some.inj e).symm
      rw [HPS.out] at hm8
      have FIT := Lib.hid (IT6.out.kx hk8 (by have := SZ6.out; omega) (by have := LD.out; have := KB6.out.size; omega) (by have := IB.out; omega) (by have := NE.out; omega))
      have FM := Lib.hid hm8
      have FB := Lib.hid (KB6.out.trans hk8)
      have FZ := Lib.hid (show ib < w8.heap.size from by rw [hs8]; exact SZ6.out)
      have FLT := Lib.hid (show iterLeft w8 ib (.map (some bs)) < iterLeft wr ib (.map (some bs)) from by rw [FIT.out.2]; exact HLT.out)
      clear hm8 hg8 hs8 hk8 HLT IT6 NM6 KB6 SZ6 hent
      go_wp2
      go_roundw
      case rel =>
        (repeat apply Exists.intro)
        exact ⟨⟨left2.erase k, FIT.out.1, NDE.out, FM.out, FB.out, FZ.out⟩, rfl⟩
      case measure => exact FLT.out
end Go.Proofs.YtkloaopjlbinpaaGreat
namespace Go.Proofs.YtkloaopjlbinpaaGreat
open Go.RowKit Go.MapKept

/-- A map of one key. -/
def oneM (k v : Int) : Int → Option Value := fun i => if i = k then some (.int .i64 v) else none
theorem oneM_upd (k v v' : Int) : upd (oneM k v) k (.int .i64 v') = oneM k v' := by
  funext i
  unfold upd oneM
  by_cases h : i = k <;> simp [h]
theorem oneM_new (k v : Int) : upd (fun _ => none) k (.int .i64 v) = oneM k v := by
  funext i
  unfold upd oneM
  by_cases h : i = k <;> simp [h]
theorem oneM_look {w : World} {b : Nat} {k v : Int} (h : IntMap w b (oneM k v)) : (Instr.lookup 69 (.map (some b)) (.int .i64 k) false).run Tryz.prog w = .ok (.int .i64 v) w := by
  have e := IsMap.look (P := Tryz.prog) (S := fun _ => True) (T := 69) (K := 2) (E := 2) (.inr ⟨b, rfl, trivial, IntMap.lt h, h⟩) Tryz.underlying69 Tryz.underlying2 i64_zero k false
  rw [if_neg (by simp)] at e
  have : oneM k v k = some (.int .i64 v) := if_pos rfl
  rw [this] at e
  exact e
set_option maxRecDepth 100000 in
set_option maxHeartbeats 6400000 in
theorem apply_one (w : World) (bs : Nat) (o : BOp) (ho : o.ok) (v : Int) (hs : IntMap w bs (oneM o.ky v)) (A : Option Addr) (c : Nat) (hR : Reads w (fun _ => True) 3 A 1 (opB o)) :
    Calls Tryz.prog 18 #[.map (some bs), .slice A 1 c] w fun e w' => ∃ nb, e = .returned (.map (some nb)) ∧ IntMap w' nb (oneM o.ky (mkF o.kd v o.n)) ∧ Below w.heap.size w w' := by
  have HS := Lib.hid hs
  have HR := Lib.hid hR
  have HO := Lib.hid ho
  have MK := Lib.hid (makes_any o.kd ho.1)
  have hcf := fn_enter o.kd ho.1
  have FC := Lib.hid (fn_calls o.kd ho.1)
  have hneq := fn_neq
  obtain ⟨ia, hia⟩ : ∃ z, z = fnOf o.kd := ⟨_, rfl⟩
  rw [← hia] at MK hcf FC
  clear hia hs hR ho
  have hmm := @run_makeMap Tryz.prog
  go_enter Tryz.func18, Tryz.ntmps18
  obtain ⟨nb, hnb⟩ : ∃ z, z = w.heap.size := ⟨_, rfl⟩
  obtain ⟨W1, hW1⟩ : ∃ W, W = w.alloc (.map #[] 0) := ⟨_, rfl⟩
  have b1 : Below w.heap.size w W1 := by rw [hW1]; exact below_alloc _ _
  have M1 := Lib.hid (show IntMap W1 nb (fun _ => none) from by rw [hW1, hnb]; exact IntMap.made w)
  have B1 := Lib.hid b1
  have S1 := Lib.hid (HS.out.below b1)
  have NB := Lib.hid (show nb = w.heap.size ∧ nb ≠ bs from ⟨hnb, by have := HS.out.lt; omega⟩)
  clear b1
  go_upto_region 2 with fail
  rw [← hW1, ← hnb]
  clear hW1 hnb hmm
  go_wp2_with fail
  refine (mcopy_any W1 nb bs _ M1.out S1.out NB.out.2).mono ?_
  rintro e w2 ⟨rfl, hm, hk⟩
  have M2 := Lib.hid hm
  have B2 := Lib.hid (show Below w.heap.size w w2 from B1.out.trans (hk.below B1.out.size (fun b hb h => by have := NB.out.1; omega)))
  clear hm hk M1 B1 S1
  go_wp2_with fail
  go_loopw [15] (fun v15 wr => ∃ (j : Nat) (x : Int), v15 = .int .i64 j ∧ j ≤ 1 ∧ Below w.heap.size w wr ∧ IntMap wr nb (oneM o.ky x) ∧ x = if j = 0 then v else mkF o.kd v o.n) (fun v15 _ => 1 - (intOf v15).toNat)
  case atStart => exact ⟨0, v, rfl, by omega, B2.out, M2.out, rfl⟩
  case round =>
    obtain ⟨j, x, rfl, hj, hb, hm, hx⟩ := hrel
    clear B2 M2
    have B := Lib.hid hb
    have M := Lib.hid hm
    have HX := Lib.hid hx
    clear hb hm hx
    match j, hj with
    | 0, _ =>
      obtain ⟨b, q, rfl, hbl, -, z0, z1, z2⟩ := bop_cells (j := 0) (x := o) (l := [o]) (by simpa using HR.out.below B.out) (by omega) rfl
      simp only [Nat.zero_mul, Nat.add_zero] at z0 z1 z2
      obtain ⟨pb, hpb⟩ : ∃ n, n = wr.heap.size := ⟨_, rfl⟩
      obtain ⟨w5, hw5⟩ : ∃ W, W = wr.alloc (.cells #[.int .i64 o.kd, .int .i64 o.ky, .int .i64 o.n] 25) := ⟨_, rfl⟩
      have hb5 : Below wr.heap.size wr w5 := by rw [hw5]; exact below_alloc _ _
      have B5 := Lib.hid (B.out.trans (hb5.mono B.out.size))
      have M5 := Lib.hid (M.out.below hb5)
      have PX := Lib.hid (show HB 25 w5 pb #[.int .i64 o.kd, .int .i64 o.ky, .int .i64 o.n] from by rw [hw5, hpb]; exact HB.new _ _ _)
      have PN := Lib.hid (show nb ≠ pb from by have := M.out.lt; omega)
      clear hbl hb5 B M
      go_upto_region 6 with fail
      rw [← hw5, ← hpb]
      clear hw5 hpb z0 z1 z2
      have x0 : _ = some (Value.int .i64 o.kd) := PX.out.cell 0
      go_wp2_with fail
      refine (MK.out _).mono ?_
      rintro e w6 ⟨rfl, hb⟩
      have B6 := Lib.hid (B5.out.trans (hb.mono B5.out.size))
      have M6 := Lib.hid (M5.out.below hb)
      have PX6 := Lib.hid (PX.out.below hb)
      clear hb x0 B5 M5 PX
      go_upto_region 8 with fail
      refine wp_region_L (fun W => HB 25 W pb #[.int .i64 o.kd, .int .i64 o.ky, .int .i64 o.n] ∧ IntMap W nb (oneM o.ky x)) [0, 1, 2, 3, 4, 5, 6, 7, 8, 9] (by kernel_rfl) ?_
      have SW := Lib.hid (show HB 25 w6.drew pb #[.int .i64 o.kd, .int .i64 o.ky, .int .i64 o.n] ∧ IntMap w6.drew nb (oneM o.ky x) from ⟨PX6.out.kx (kx_drew (fun _ => False) w6) (fun h => h), M6.out.keep rfl⟩)
      have B7 := Lib.hid (B6.out.trans ((Below.refl w6.heap.size w6).drew.mono B6.out.size))
      clear B6 M6 PX6
      generalize w6.drew = wq at *
      refine OrdL.take (i := 0) (oi := ⟨some 24, _, _, _, _, _⟩) (v := .map (some nb)) rfl (by decide) (by kernel_rfl) (by kernel_rfl) (by kernel_rfl) (fun _ _ _ h => h) (Or.inl ⟨by rfl, ?_⟩) SW.out ?_
      · intro W' hW
        go_simp
      try simp only [Act.put, List.setIfInBounds_toArray, List.set_cons_zero, List.set_cons_succ]
      refine OrdL.take (i := 1) (oi := ⟨some 25, _, _, _, _, _⟩) (v := .pointer (some ⟨pb, 1, none⟩)) rfl (by decide) (by kernel_rfl) (by kernel_rfl) (by kernel_rfl) (fun _ _ _ h => h) (Or.inl ⟨by rfl, ?_⟩) SW.out ?_
      · intro W' hW
        go_simp
      try simp only [Act.put, List.setIfInBounds_toArray, List.set_cons_zero, List.set_cons_succ]
      refine OrdL.take (i := 2) (oi := ⟨some 26, _, _, _, _, _⟩) (v := .int .i64 o.ky) rfl (by decide) (by kernel_rfl) (by kernel_rfl) (by kernel_rfl) (fun _ _ _ h => h) (Or.inl ⟨by rfl, ?_⟩) SW.out ?_
      · intro W' hW
        have c9 : _ = some (Value.int .i64 o.ky) := HB.cell hW.1 1
        go_simp
      try simp only [Act.put, List.setIfInBounds_toArray, List.set_cons_zero, List.set_cons_succ]
      refine OrdL.take (i := 3) (oi := ⟨some 27, _, _, _, _, _⟩) (v := .func (.func ia) #[] #[]) rfl (by decide) (by kernel_rfl) (by kernel_rfl) (by kernel_rfl) (fun _ _ _ h => h) (Or.inl ⟨by rfl, ?_⟩) SW.out ?_
      · intro W' hW
        go_simp
      try simp only [Act.put, List.setIfInBounds_toArray, List.set_cons_zero, List.set_cons_succ]
      refine OrdL.take (i := 4) (oi := ⟨some 28, _, _, _, _, _⟩) (v := .map (some nb)) rfl (by decide) (by kernel_rfl) (by kernel_rfl) (by kernel_rfl) (fun _ _ _ h => h) (Or.inl ⟨by rfl, ?_⟩) SW.out ?_
      · intro W' hW
        go_simp
      try simp only [Act.put, List.setIfInBounds_toArray, List.set_cons_zero, List.set_cons_succ]
      refine OrdL.take (i := 5) (oi := ⟨some 29, _, _, _, _, _⟩) (v := .pointer (some ⟨pb, 1, none⟩)) rfl (by decide) (by kernel_rfl) (by kernel_rfl) (by kernel_rfl) (fun _ _ _ h => h) (Or.inl ⟨by rfl, ?_⟩) SW.out ?_
      · intro W' hW
        go_simp
      try simp only [Act.put, List.setIfInBounds_toArray, List.set_cons_zero, List.set_cons_succ]
      refine OrdL.take (i := 6) (oi := ⟨some 30, _, _, _, _, _⟩) (v := .int .i64 o.ky) rfl (by decide) (by kernel_rfl) (by kernel_rfl) (by kernel_rfl) (fun _ _ _ h => h) (Or.inl ⟨by rfl, ?_⟩) SW.out ?_
      · intro W' hW
        have c9 : _ = some (Value.int .i64 o.ky) := HB.cell hW.1 1
        go_simp
      try simp only [Act.put, List.setIfInBounds_toArray, List.set_cons_zero, List.set_cons_succ]
      refine OrdL.take (i := 7) (oi := ⟨some 31, _, _, _, _, _⟩) (v := .int .i64 x) rfl (by decide) (by kernel_rfl) (by kernel_rfl) (by kernel_rfl) (fun _ _ _ h => h) (Or.inl ⟨by rfl, ?_⟩) SW.out ?_
      · intro W' hW
        have hl := oneM_look hW.2
        go_simp
      try simp only [Act.put, List.setIfInBounds_toArray, List.set_cons_zero, List.set_cons_succ]
      refine OrdL.take (i := 8) (oi := ⟨some 32, _, _, _, _, _⟩) (v := .pointer (some ⟨pb, 2, none⟩)) rfl (by decide) (by kernel_rfl) (by kernel_rfl) (by kernel_rfl) (fun _ _ _ h => h) (Or.inl ⟨by rfl, ?_⟩) SW.out ?_
      · intro W' hW
        go_simp
      try simp only [Act.put, List.setIfInBounds_toArray, List.set_cons_zero, List.set_cons_succ]
      refine OrdL.take (i := 9) (oi := ⟨some 33, _, _, _, _, _⟩) (v := .int .i64 o.n) rfl (by decide) (by kernel_rfl) (by kernel_rfl) (by kernel_rfl) (fun _ _ _ h => h) (Or.inl ⟨by rfl, ?_⟩) SW.out ?_
      · intro W' hW
        have c9 : _ = some (Value.int .i64 o.n) := HB.cell hW.1 2
        go_simp
      try simp only [Act.put, List.setIfInBounds_toArray, List.set_cons_zero, List.set_cons_succ]
      refine OrdL.ready (rs := [10]) (by kernel_rfl) (by simp) ?_
      refine AllL.cons (o := ⟨some 34, _, _, _, _, _⟩) rfl (fun K hK => ?_) AllL.nil
      go_simp
      refine (FC.out x o.n _).mono ?_
      rintro e w7 ⟨rfl, hw⟩
      subst hw
      refine hK.out _ _ (fun _ => SW.out) ?_
      clear hK
      try simp only [Act.put, List.setIfInBounds_toArray, List.set_cons_zero, List.set_cons_succ]
      refine OrdL.ready (rs := [11]) (by kernel_rfl) (by simp) ?_
      refine AllL.cons (o := ⟨none, _, _, _, _, _⟩) rfl (fun K hK => ?_) AllL.nil
      refine step_mapUpdate (.tmp 24) (.tmp 26) (.tmp 34) rfl Tryz.underlying69 Tryz.underlying2 nb _ SW.out.2 rfl o.ky rfl (.int .i64 (mkF o.kd x o.n)) rfl (fun w8 hm8 hg8 hs8 => ?_)
      rw [oneM_upd] at hm8
      have M8 := Lib.hid hm8
      have B8 := Lib.hid (show Below w.heap.size w w8 from B7.out.trans ((KX.of_grown (X := fun b => b = nb) hg8 fun k e => (Option.some.inj e).symm).below B7.out.size (fun b hb h => by have := NB.out.1; omega)))
      clear hm8 hg8 hs8
      refine hK.out _ _ (fun h => of_ff (by kernel_rfl) h) ?_
      clear hK
      try simp only [Act.put, List.setIfInBounds_toArray, List.set_cons_zero, List.set_cons_succ]
      refine OrdL.done (by kernel_rfl) ?_ _
      go_wp2_with fail
      go_roundw
      case rel => exact ⟨1, mkF o.kd x o.n, by go_num, by omega, B8.out, M8.out, by rw [HX.out]; rfl⟩
      case measure =>
        show 1 - ((1 : Nat) : Int).toNat < 1 - ((0 : Nat) : Int).toNat
        omega
    | 1, _ =>
      go_wp2
      go_ret
      have M2 := M.out
      rw [HX.out] at M2
      exact ⟨nb, rfl, M2, B.out⟩
end Go.Proofs.YtkloaopjlbinpaaGreat
namespace Go.Proofs.YtkloaopjlbinpaaGreat
open Go.RowKit Go.MapKept

theorem b1_hcf (args : Array Value) (W : World) : (callFunc 16 args).run Tryz.prog W = .ok (.enter 16 args) W := enters_of Tryz.func16 (by kernel_rfl) rfl args W
theorem b2_hcf (args : Array Value) (W : World) : (callFunc 20 args).run Tryz.prog W = .ok (.enter 20 args) W := enters_of Tryz.func20 (by kernel_rfl) rfl args W
set_option maxRecDepth 100000 in
set_option maxHeartbeats 6400000 in
theorem batch_do (w W : World) (sb tb ob kb : Nat) (g : Mem) (o : BOp) (ho : o.ok) (hT : HB 61 w tb #[.iface 50 (.agg #[]), .int .i64 1, .int .i64 96, .int .i64 128, .int .i64 40]) (hO : HB 25 w ob #[.int .i64 o.kd, .int .i64 o.ky, .int .i64 o.n]) (hK : HB 4 w kb #[.bool true]) (t : Tr) (nh : Nat) (hTI : TI g.val t nh) (hnh : nh ≤ 100)
    (hb : Below w.heap.size w W) (hs : SpE W (fun b => w.heap.size ≤ b) w.heap.size sb g []) :
    Calls Tryz.prog 16 #[.pointer (some ⟨sb, 0, none⟩), .pointer (some ⟨tb, 0, none⟩), .pointer (some ⟨ob, 0, none⟩), .pointer (some ⟨kb, 0, none⟩)] W fun e W' => e = .returned (.tuple #[]) ∧ ∃ (P' : List (Int × Int)) (t' : Tr) (n' : Nat), SpE W' (fun b => w.heap.size ≤ b) w.heap.size sb g P' ∧ P'.length ≤ 80000 ∧ KX (fun b => b = kb ∨ w.heap.size ≤ b) W W' ∧ HB 4 W' kb #[.bool true] ∧ TI (cur g P') t' n' ∧ n' ≤ nh + 3 ∧ ∀ k, key k → t'.get k 0 = stepB (fun k => t.get k 0) o k := by
  have HN := Lib.hid (And.intro ho hnh)
  have LT := Lib.hid (show tb < w.heap.size ∧ ob < w.heap.size ∧ kb < w.heap.size from ⟨hT.lt, hO.lt, hK.lt⟩)
  have HTI := Lib.hid (show TI (cur g []) t nh from hTI)
  have T := Lib.hid (hT.below hb)
  have O := Lib.hid (hO.below hb)
  have K0 := Lib.hid (hK.below hb)
  have S := Lib.hid hs
  have HX := Lib.hid (show ∀ b, W.heap.size ≤ b → w.heap.size ≤ b from fun b h => Nat.le_trans hb.size h)
  have KK := Lib.hid (KX.refl (fun b => w.heap.size ≤ b) W)
  clear hT hO hK hs hTI hnh hb ho
  go_enter Tryz.func16, Tryz.ntmps16
  have pT0 : _ = some (Value.iface 50 (.agg #[])) := T.out.cell 0
  have pT1 : _ = some (Value.int .i64 1) := T.out.cell 1
  have pT2 : _ = some (Value.int .i64 96) := T.out.cell 2
  have pT3 : _ = some (Value.int .i64 128) := T.out.cell 3
  have pT4 : _ = some (Value.int .i64 40) := T.out.cell 4
  have pO0 : _ = some (Value.int .i64 o.kd) := O.out.cell 0
  have pO1 : _ = some (Value.int .i64 o.ky) := O.out.cell 1
  have pO2 : _ = some (Value.int .i64 o.n) := O.out.cell 2
  go_wp2_with fail
  refine (tget_any S.out HX.out (by simp) HTI.out (by have := HN.out; omega) o.ky HN.out.1.2.1).mono ?_
  rintro e W1 ⟨b, rfl, hs, hk⟩
  clear S
  have S := Lib.hid hs
  clear pT0 pT1 pT2 pT3 pT4 pO0 pO1 pO2
  obtain h0 := T.out
  clear T
  have T := Lib.hid (h0.kx hk (fun h => by have := LT.out; omega))
  clear h0
  obtain h0 := O.out
  clear O
  have O := Lib.hid (h0.kx hk (fun h => by have := LT.out; omega))
  clear h0
  obtain h0 := K0.out
  clear K0
  have K0 := Lib.hid (h0.kx hk (fun h => by have := LT.out; omega))
  clear h0
  obtain h0 := KK.out
  clear KK
  have KK := Lib.hid (h0.trans hk)
  clear h0
  obtain h0 := HX.out
  clear HX
  have HX := Lib.hid (fun b h => h0 b (Nat.le_trans hk.size h))
  clear h0
  clear hs hk
  obtain ⟨v, hv⟩ : ∃ z, z = (t.get o.ky 0).getD 0 := ⟨_, rfl⟩
  rw [← hv]
  have HV := Lib.hid hv
  clear hv
  obtain ⟨mb, hmb⟩ : ∃ z, z = W1.heap.size := ⟨_, rfl⟩
  obtain ⟨W2, hW2⟩ : ∃ W, W = W1.alloc (.map #[] 0) := ⟨_, rfl⟩
  have M2 : IntMap W2 mb (fun _ => none) := by rw [hW2, hmb]; exact IntMap.made W1
  have hmm : (Instr.makeMap 69 none).run Tryz.prog W1 = .ok (.map (some mb)) W2 := by rw [hW2, hmb]; exact run_makeMap _ _
  have qO1 : _ = some (Value.int .i64 o.ky) := (O.out.below (show Below W1.heap.size W1 W2 from by rw [hW2]; exact below_alloc _ _)).cell 1
  obtain ⟨W3, r3, M3, g3, s3⟩ := M2.store (P := Tryz.prog) Tryz.underlying69 Tryz.underlying2 o.ky (.int .i64 v)
  rw [oneM_new] at M3
  have k13 : KX (fun b => b = mb) W1 W3 := (KX.of_below (show Below W1.heap.size W1 W2 from by rw [hW2]; exact below_alloc _ _)).trans (KX.of_grown g3 fun k e => (Option.some.inj e).symm)
  have hk := k13.mono (Y := (fun b => w.heap.size ≤ b)) (fun b hb e => by rw [e, hmb]; exact HX.out _ (Nat.le_refl _))
  obtain h0 := S.out
  clear S
  have S := Lib.hid (h0.kx k13 (fun b hb _ e => by omega))
  clear h0
  obtain h0 := T.out
  clear T
  have T := Lib.hid (h0.kx hk (fun h => by have := LT.out; omega))
  clear h0
  obtain h0 := O.out
  clear O
  have O := Lib.hid (h0.kx hk (fun h => by have := LT.out; omega))
  clear h0
  obtain h0 := K0.out
  clear K0
  have K0 := Lib.hid (h0.kx hk (fun h => by have := LT.out; omega))
  clear h0
  obtain h0 := KK.out
  clear KK
  have KK := Lib.hid (h0.trans hk)
  clear h0
  obtain h0 := HX.out
  clear HX
  have HX := Lib.hid (fun b h => h0 b (Nat.le_trans hk.size h))
  clear h0
  obtain ⟨ab, hab⟩ : ∃ z, z = W3.heap.size := ⟨_, rfl⟩
  obtain ⟨W4, hW4⟩ : ∃ W, W = W3.alloc (.cells #[.int .i64 o.kd, .int .i64 o.ky, .int .i64 o.n] 25) := ⟨_, rfl⟩
  have b4 : Below W3.heap.size W3 W4 := by rw [hW4]; exact below_alloc _ _
  have AB := Lib.hid (show HB 25 W4 ab #[.int .i64 o.kd, .int .i64 o.ky, .int .i64 o.n] from by rw [hW4, hab]; exact HB.new _ _ _)
  have M4 := Lib.hid (M3.below b4)
  clear hk k13 hmb hW2 M2 M3 g3 s3
  have pT0 : _ = some (Value.iface 50 (.agg #[])) := T.out.cell 0
  have pT1 : _ = some (Value.int .i64 1) := T.out.cell 1
  have pT2 : _ = some (Value.int .i64 96) := T.out.cell 2
  have pT3 : _ = some (Value.int .i64 128) := T.out.cell 3
  have pT4 : _ = some (Value.int .i64 40) := T.out.cell 4
  have pO0 : _ = some (Value.int .i64 o.kd) := O.out.cell 0
  have pO1 : _ = some (Value.int .i64 o.ky) := O.out.cell 1
  have pO2 : _ = some (Value.int .i64 o.n) := O.out.cell 2
  go_upto_region 1 with fail
  go_wp2_with fail
  rw [← hW4, ← hab]
  clear hW4 hab hmm r3 qO1
  clear pT0 pT1 pT2 pT3 pT4 pO0 pO1 pO2
  obtain h0 := S.out
  clear S
  have S := Lib.hid (h0.below b4)
  clear h0
  have hk := KX.of_below (X := (fun b => w.heap.size ≤ b)) b4
  obtain h0 := T.out
  clear T
  have T := Lib.hid (h0.kx hk (fun h => by have := LT.out; omega))
  clear h0
  obtain h0 := O.out
  clear O
  have O := Lib.hid (h0.kx hk (fun h => by have := LT.out; omega))
  clear h0
  obtain h0 := K0.out
  clear K0
  have K0 := Lib.hid (h0.kx hk (fun h => by have := LT.out; omega))
  clear h0
  obtain h0 := KK.out
  clear KK
  have KK := Lib.hid (h0.trans hk)
  clear h0
  obtain h0 := HX.out
  clear HX
  have HX := Lib.hid (fun b h => h0 b (Nat.le_trans hk.size h))
  clear h0
  clear b4 hk
  refine (apply_one W4 mb o HN.out.1 v M4.out (some ⟨ab, 0, none⟩) 1 ⟨rfl, fun _ => ⟨ab, 0, rfl, AB.out.lt, trivial, fun j u hu => by rw [Nat.zero_add, AB.out.cell j, ← hu]; simp [opB]⟩⟩).mono ?_
  rintro e W5 ⟨nb, rfl, hm, hb⟩
  have hlk := oneM_look hm
  have hk := KX.of_below (X := (fun b => w.heap.size ≤ b)) hb
  obtain h0 := S.out
  clear S
  have S := Lib.hid (h0.below hb)
  clear h0
  obtain h0 := T.out
  clear T
  have T := Lib.hid (h0.kx hk (fun h => by have := LT.out; omega))
  clear h0
  obtain h0 := O.out
  clear O
  have O := Lib.hid (h0.kx hk (fun h => by have := LT.out; omega))
  clear h0
  obtain h0 := K0.out
  clear K0
  have K0 := Lib.hid (h0.kx hk (fun h => by have := LT.out; omega))
  clear h0
  obtain h0 := KK.out
  clear KK
  have KK := Lib.hid (h0.trans hk)
  clear h0
  obtain h0 := HX.out
  clear HX
  have HX := Lib.hid (fun b h => h0 b (Nat.le_trans hk.size h))
  clear h0
  clear hk hb hm M4 AB
  obtain ⟨x, hx⟩ : ∃ z, z = mkF o.kd v o.n := ⟨_, rfl⟩
  rw [← hx] at hlk
  have XX := Lib.hid hx
  clear hx
  have pT0 : _ = some (Value.iface 50 (.agg #[])) := T.out.cell 0
  have pT1 : _ = some (Value.int .i64 1) := T.out.cell 1
  have pT2 : _ = some (Value.int .i64 96) := T.out.cell 2
  have pT3 : _ = some (Value.int .i64 128) := T.out.cell 3
  have pT4 : _ = some (Value.int .i64 40) := T.out.cell 4
  have pO0 : _ = some (Value.int .i64 o.kd) := O.out.cell 0
  have pO1 : _ = some (Value.int .i64 o.ky) := O.out.cell 1
  have pO2 : _ = some (Value.int .i64 o.n) := O.out.cell 2
  go_wp2_with fail
  refine (tput_any S.out HX.out (by simp) HTI.out (by have := HN.out; omega) o.ky HN.out.1.2.1 x).mono ?_
  rintro e W6 ⟨was, had, P', t', n', rfl, hs, hk, hti, hg, hgo, hn', hlen⟩
  clear S hlk
  have S := Lib.hid hs
  have R1 := Lib.hid hti
  have R2 := Lib.hid hg
  have R3 := Lib.hid hgo
  have R4 := Lib.hid (And.intro hn' hlen)
  clear pT0 pT1 pT2 pT3 pT4 pO0 pO1 pO2
  obtain h0 := T.out
  clear T
  have T := Lib.hid (h0.kx hk (fun h => by have := LT.out; omega))
  clear h0
  obtain h0 := O.out
  clear O
  have O := Lib.hid (h0.kx hk (fun h => by have := LT.out; omega))
  clear h0
  obtain h0 := K0.out
  clear K0
  have K0 := Lib.hid (h0.kx hk (fun h => by have := LT.out; omega))
  clear h0
  obtain h0 := KK.out
  clear KK
  have KK := Lib.hid (h0.trans hk)
  clear h0
  obtain h0 := HX.out
  clear HX
  have HX := Lib.hid (fun b h => h0 b (Nat.le_trans hk.size h))
  clear h0
  clear hs hk hti hg hgo hn' hlen HTI
  have pK0 : _ = some (Value.bool true) := K0.out.cell 0
  have fK := K0.out.free 0
  have hsame := setCell_same K0.out 0 (.bool true) rfl
  go_wp2
  go_end0
  refine ⟨rfl, P', t', n', S.out, by have := R4.out.2; simp at this; omega, KK.out.mono (fun b _ h => .inr h), K0.out, R1.out, R4.out.1, fun k hk => ?_⟩
  unfold stepB setO
  by_cases h : k = o.ky
  · rw [if_pos h, h, R2.out, XX.out, HV.out]
  · rw [if_neg h]; exact R3.out k h
set_option maxRecDepth 100000 in
set_option maxHeartbeats 6400000 in
theorem batch2_do (w W : World) (sb tb b1 b2 b3 : Nat) (g : Mem) (hT : HB 61 w tb #[.iface 50 (.agg #[]), .int .i64 1, .int .i64 96, .int .i64 128, .int .i64 40]) (h1 : HB 26 w b1 #[.slice none 0 0]) (h2 : HB 26 w b2 #[.slice none 0 0]) (h3 : HB 44 w b3 #[.int .i64 0]) (n1 : b1 ≠ b2) (n2 : b1 ≠ b3) (n3 : b2 ≠ b3) (t : Tr) (nh : Nat) (hTI : TI g.val t nh) (hnh : nh ≤ 128)
    (hb : Below w.heap.size w W) (hs : SpE W (fun b => w.heap.size ≤ b) w.heap.size sb g []) :
    Calls Tryz.prog 20 #[.pointer (some ⟨sb, 0, none⟩), .pointer (some ⟨tb, 0, none⟩), .pointer (some ⟨b1, 0, none⟩), .pointer (some ⟨b2, 0, none⟩), .pointer (some ⟨b3, 0, none⟩)] W fun e W' => e = .returned (.tuple #[]) ∧ ∃ Y : Nat → Prop, SpE W' (fun b => w.heap.size ≤ b ∧ ¬ Y b) w.heap.size sb g [] ∧ (∀ b, Y b → b < W'.heap.size) ∧ KX (fun b => (b = b1 ∨ b = b2 ∨ b = b3) ∨ w.heap.size ≤ b) W W' ∧
      ∃ (A B : Option Addr) (n c d : Nat), n = (prsOf fun k => t.get k 0).length ∧ HB 26 W' b1 #[.slice A n c] ∧ HB 26 W' b2 #[.slice B n d] ∧ HB 44 W' b3 #[.int .i64 0] ∧ (∀ b, ((Value.slice A n c).ownBlock = some b ∨ (Value.slice B n d).ownBlock = some b) → Y b) ∧
        W'.ownsRow w.heap.size 2 1 (.slice A n c) n (ksV (prsOf fun k => t.get k 0)) ∧ W'.ownsRow w.heap.size 2 1 (.slice B n d) n (vsV (prsOf fun k => t.get k 0)) := by
  have HNH := Lib.hid hnh
  have LT := Lib.hid (show tb < w.heap.size ∧ b1 < w.heap.size ∧ b2 < w.heap.size ∧ b3 < w.heap.size from ⟨hT.lt, h1.lt, h2.lt, h3.lt⟩)
  have NN := Lib.hid (And.intro n1 (And.intro n2 n3))
  have HTI := Lib.hid (show TI (cur g []) t nh from hTI)
  have T := Lib.hid (hT.below hb)
  have E1 := Lib.hid (h1.below hb)
  have E2 := Lib.hid (h2.below hb)
  have E3 := Lib.hid (h3.below hb)
  have S := Lib.hid hs
  have HX := Lib.hid (show ∀ b, W.heap.size ≤ b → w.heap.size ≤ b from fun b h => Nat.le_trans hb.size h)
  have SZ := Lib.hid hb.size
  clear hT h1 h2 h3 hs hTI hnh hb n1 n2 n3
  go_enter Tryz.func20, Tryz.ntmps20
  have pT0 : _ = some (Value.iface 50 (.agg #[])) := T.out.cell 0
  have pT1 : _ = some (Value.int .i64 1) := T.out.cell 1
  have pT2 : _ = some (Value.int .i64 96) := T.out.cell 2
  have pT3 : _ = some (Value.int .i64 128) := T.out.cell 3
  have pT4 : _ = some (Value.int .i64 40) := T.out.cell 4
  go_wp2_with fail
  refine (tWalk_any S.out HX.out (by simp) HTI.out HNH.out).mono ?_
  rintro e W1 ⟨A, B, n, c, d, Y, rfl, hn, hs, hk, h2, hy⟩
  have R1 := Lib.hid hn
  have F1 := Lib.hid (E1.out.kx hk (fun h => by have := LT.out; omega))
  have F2 := Lib.hid (E2.out.kx hk (fun h => by have := LT.out; omega))
  have F3 := Lib.hid (E3.out.kx hk (fun h => by have := LT.out; omega))
  have S1 := Lib.hid hs
  have TW := Lib.hid h2
  have KK := Lib.hid hk
  have HY := Lib.hid hy
  clear hn hs hk h2 hy pT0 pT1 pT2 pT3 pT4 T E1 E2 E3 S
  have c1 : _ = some (Value.slice none 0 0) := F1.out.cell 0
  have c2 : _ = some (Value.slice none 0 0) := F2.out.cell 0
  have c3 : _ = some (Value.int .i64 0) := F3.out.cell 0
  have f1 := F1.out.free 0
  have f2 := F2.out.free 0
  have f3 := F3.out.free 0
  have m12 : b1 ≠ b2 := NN.out.1
  have m13 : b1 ≠ b3 := NN.out.2.1
  have m23 : b2 ≠ b3 := NN.out.2.2
  go_wp2
  go_end0
  have q1 := F1.out.set 0 (.slice A n c)
  have kq1 := KX.of_grown (X := fun k => k = b1) (gr_put W1 b1 0 (.slice A n c)) fun k e => (Option.some.inj e).symm
  have q2 := (F2.out.kx kq1 (fun e => m12 e.symm)).set 0 (.slice B n d)
  have q3 := (F3.out.kx kq1 (fun e => m13 e.symm))
  have kq2 := KX.of_grown (X := fun k => k = b2) (gr_put (W1.setCell ⟨b1, 0, none⟩ (.slice A n c)) b2 0 (.slice B n d)) fun k e => (Option.some.inj e).symm
  have q3 := (q3.kx kq2 (fun e => m23 e.symm)).set 0 (.int .i64 0)
  have kq3 := KX.of_grown (X := fun k => k = b3) (gr_put ((W1.setCell ⟨b1, 0, none⟩ (.slice A n c)).setCell ⟨b2, 0, none⟩ (.slice B n d)) b3 0 (.int .i64 0)) fun k e => (Option.some.inj e).symm
  have k123 := ((kq1.mono (Y := fun k => k = b1 ∨ k = b2 ∨ k = b3) fun _ _ h => .inl h).trans (kq2.mono fun _ _ h => .inr (.inl h))).trans (kq3.mono fun _ _ h => .inr (.inr h))
  have q1 := (q1.kx kq2 m12).kx kq3 m13
  have q2 := q2.kx kq3 m23
  refine ⟨rfl, fun b => (Value.slice A n c).ownBlock = some b ∨ (Value.slice B n d).ownBlock = some b, ?_, ?_, ?_, A, B, n, c, d, R1.out, q1, q2, q3, fun b h => h, ?_, ?_⟩
  · refine (S1.out.kx k123 (fun b _ hb h => by have := HY.out b hb; have := LT.out; omega)).more fun b _ hb => ⟨HY.out b hb, fun h => h.elim (fun h => (TW.out.b1 b h).2 hb) fun h => (TW.out.b2 b h).2 hb⟩
  · intro b hb
    have := k123.size
    rcases hb with h | h
    · have := (TW.out.o1.lt b h).2; omega
    · have := (TW.out.o2.lt b h).2; omega
  · exact (KK.out.mono (Y := fun b => (b = b1 ∨ b = b2 ∨ b = b3) ∨ w.heap.size ≤ b) fun b _ h => .inr h).trans (k123.mono fun b _ h => .inl h)
  · exact own_kx (own_base' TW.out.o1 SZ.out) k123 (fun b hb h => by have := (TW.out.o1.lt b hb).1; have := LT.out; have := SZ.out; omega)
  · exact own_kx (own_base' TW.out.o2 SZ.out) k123 (fun b hb h => by have := (TW.out.o2.lt b hb).1; have := LT.out; have := SZ.out; omega)
end Go.Proofs.YtkloaopjlbinpaaGreat
namespace Go.Proofs.YtkloaopjlbinpaaGreat
open Go.RowKit Go.MapKept

set_option maxRecDepth 100000 in
set_option maxHeartbeats 6400000 in
theorem root4 (w : World) : Calls Tryz.prog 13 #[.int .i64 4] w fun e w' => e = .returned (.agg #[.int .i64 4, .int .i64 40]) ∧ Below w.heap.size w w' := by
  obtain ⟨W0, hW0⟩ : ∃ W, W = w.alloc (.cells #[.int .i64 0, .int .i64 0] 56) := ⟨_, rfl⟩
  have R0 := Lib.hid (show HB 56 W0 w.heap.size #[.int .i64 0, .int .i64 0] from by rw [hW0]; exact HB.new _ _ _)
  have B0 := Lib.hid (show Below w.heap.size w W0 by rw [hW0]; exact below_alloc _ _)
  have HK := Lib.hid (show HB 56 ((W0.setCell ⟨w.heap.size, 0, none⟩ (.int .i64 4)).setCell ⟨w.heap.size, 1, none⟩ (.int .i64 40)) w.heap.size #[.int .i64 4, .int .i64 40] from ((R0.out.set 0 (.int .i64 4)).set 1 (.int .i64 40)))
  have BK := Lib.hid (show Below w.heap.size w ((W0.setCell ⟨w.heap.size, 0, none⟩ (.int .i64 4)).setCell ⟨w.heap.size, 1, none⟩ (.int .i64 40)) from ((B0.out.setCell (Nat.le_refl _) _).setCell (Nat.le_refl _) _))
  have c0 : W0.cell? ⟨w.heap.size, 0, none⟩ = some (.int .i64 0) := R0.out.cell 0
  have f0 : W0.frozen? ⟨w.heap.size, 0, none⟩ = false := R0.out.free 0
  have c1 : W0.cell? ⟨w.heap.size, 1, none⟩ = some (.int .i64 0) := R0.out.cell 1
  have f1 : W0.frozen? ⟨w.heap.size, 1, none⟩ = false := R0.out.free 1
  go_enter Tryz.func13, Tryz.ntmps13
  go_upto_region 1 with fail
  rw [← hW0]
  clear hW0
  go_wp2
  refine bodyPost_ret (results_cell_row rfl _ _ w.heap.size _ _ _ _ rfl HK.out Tryz.underlying56 rfl rt_size) rfl ?_
  exact ⟨rfl, BK.out⟩
set_option maxRecDepth 100000 in
set_option maxHeartbeats 6400000 in
theorem sbatch_any (w : World) (A : Option Addr) (n c : Nat) (l : List BOp) (hl : l.length = n) (hn : n ≤ 20) (hok : ∀ x ∈ l, x.ok) (hR : Reads w (fun _ => True) 3 A n (l.flatMap opB)) :
    Calls Tryz.prog 5 #[.slice A n c] w fun e w' => ∃ (A1 A2 : Option Addr) (m c1 c2 : Nat), e = .returned (.tuple #[.slice A1 m c1, .slice A2 m c2, .bool true]) ∧ m = (prsOf (runB (fun _ => none) l)).length ∧ Reads w' (fun _ => True) 1 A1 m (ksV (prsOf (runB (fun _ => none) l))) ∧ Reads w' (fun _ => True) 1 A2 m (vsV (prsOf (runB (fun _ => none) l))) ∧ Below w.heap.size w w' := by
  have HR := Lib.hid hR
  have HL := Lib.hid (And.intro hl hn)
  have HOK := Lib.hid hok
  have hn20 : (n : Int) ≤ 20 := by omega
  clear hR hl hn hok
  have hf1 : ∀ (x y : Value) (W : World), (Instr.field 56 (.agg #[x, y]) 1).run Tryz.prog W = .ok y W := fun _ _ _ => by kernel_rfl
  go_enter Tryz.func5, Tryz.ntmps5
  go_wp2_with fail
  refine (pool_any _).mono ?_
  rintro e w1 ⟨rfl, hb⟩
  have B1 := Lib.hid hb
  clear hb
  go_wp2_with fail
  refine (root4 _).mono ?_
  rintro e w2 ⟨rfl, hb⟩
  have B2 := Lib.hid (B1.out.trans (hb.mono B1.out.size))
  clear hb B1
  obtain ⟨tb, htb⟩ : ∃ z, z = w2.heap.size := ⟨_, rfl⟩
  obtain ⟨w3, hw3⟩ : ∃ W, W = w2.alloc (.cells #[.iface 50 (.agg #[]), .int .i64 1, .int .i64 96, .int .i64 128, .int .i64 40] 61) := ⟨_, rfl⟩
  have b3 : Below w2.heap.size w2 w3 := by rw [hw3]; exact below_alloc _ _
  have B3 := Lib.hid (B2.out.trans (b3.mono B2.out.size))
  have T := Lib.hid (show HB 61 w3 tb #[.iface 50 (.agg #[]), .int .i64 1, .int .i64 96, .int .i64 128, .int .i64 40] from by rw [hw3, htb]; exact HB.new _ _ _)
  have LT0 := Lib.hid (show w.heap.size ≤ tb from by rw [htb]; exact B2.out.size)
  clear b3
  go_upto_region 2 with fail
  rw [← hw3, ← htb]
  clear hw3 htb hf1 B2
  go_wp2_with fail
  refine (fresh_any _).mono ?_
  rintro e w4 ⟨rfl, hm, hb⟩
  obtain ⟨mb, hmb⟩ : ∃ z, z = w3.heap.size := ⟨_, rfl⟩
  rw [← hmb] at hm ⊢
  have B4 := Lib.hid (B3.out.trans (hb.mono B3.out.size))
  have M4 := Lib.hid hm
  have T4 := Lib.hid (T.out.below hb)
  clear hmb hm hb B3 T
  obtain ⟨kb, hkb⟩ : ∃ z, z = w4.heap.size := ⟨_, rfl⟩
  obtain ⟨w5, hw5⟩ : ∃ W, W = w4.alloc (.cells #[.bool true] 4) := ⟨_, rfl⟩
  have b5 : Below w4.heap.size w4 w5 := by rw [hw5]; exact below_alloc _ _
  have B5 := Lib.hid (B4.out.trans (b5.mono B4.out.size))
  have M5 := Lib.hid (M4.out.below b5)
  have T5 := Lib.hid (T4.out.below b5)
  have K5 := Lib.hid (show HB 4 w5 kb #[.bool true] from by rw [hw5, hkb]; exact HB.new _ _ _)
  have LT := Lib.hid (show w.heap.size ≤ tb ∧ w.heap.size ≤ kb ∧ tb ≠ kb from ⟨LT0.out, by rw [hkb]; exact B4.out.size, by have := T4.out.lt; omega⟩)
  clear b5
  go_upto_region 4 with fail
  rw [← hw5, ← hkb]
  clear hw5 hkb B4 M4 T4 LT0
  go_wp2_with fail
  go_loopw [6, 25] (fun v6 v25 wr => ∃ (j mb nh : Nat) (t : Tr) (g : Mem), v25 = .int .i64 j ∧ v6 = .map (some mb) ∧ j ≤ n ∧ IntMap wr mb g.at ∧ g.Fits (j : Int) ∧ TI g.val t nh ∧ nh ≤ 3 * j ∧ (∀ k, key k → t.get k 0 = runB (fun _ => none) (l.take j) k) ∧ HB 61 wr tb #[.iface 50 (.agg #[]), .int .i64 1, .int .i64 96, .int .i64 128, .int .i64 40] ∧ HB 4 wr kb #[.bool true] ∧ Below w.heap.size w wr) (fun _ v25 _ => n - (intOf v25).toNat)
  case atStart => exact ⟨0, mb, 0, .e, zeroM, rfl, rfl, Nat.zero_le _, M5.out, (fun x hx => by unfold zeroM; simp), TI.zero (fun _ => rfl), by omega, fun k _ => rfl, T5.out, K5.out, B5.out⟩
  case round =>
    obtain ⟨j, mb, nh, t, g, rfl, rfl, hj, hm, hf, hti, hnh, hget, hT, hK, hb⟩ := hrel
    clear M5 T5 K5 B5
    have M := Lib.hid hm
    have FT := Lib.hid hf
    have TI0 := Lib.hid hti
    have NH := Lib.hid (And.intro hnh hj)
    have GT := Lib.hid hget
    have T := Lib.hid hT
    have K := Lib.hid hK
    have B := Lib.hid hb
    clear hm hf hti hnh hget hT hK hb hj
    by_cases hlt : j < n
    · have hi3 : (j : Int) < (n : Int) := by omega
      have HLT := Lib.hid hlt
      obtain ⟨x, hx⟩ : ∃ x, l[j]? = some x := ⟨_, List.getElem?_eq_getElem (by have := HL.out; omega)⟩
      obtain ⟨b, q, rfl, hbl, -, z0, z1, z2⟩ := bop_cells (HR.out.below B.out) hlt hx
      have HXO := Lib.hid (HOK.out x (List.mem_of_getElem? hx))
      have HTK := Lib.hid (show runB (fun _ => none) (l.take (j + 1)) = stepB (runB (fun _ => none) (l.take j)) x from by rw [List.take_add_one, hx, runB_app]; rfl)
      obtain ⟨ob, hob⟩ : ∃ n, n = wr.heap.size := ⟨_, rfl⟩
      obtain ⟨w6, hw6⟩ : ∃ W, W = wr.alloc (.cells #[.int .i64 x.kd, .int .i64 x.ky, .int .i64 x.n] 25) := ⟨_, rfl⟩
      have b6 : Below wr.heap.size wr w6 := by rw [hw6]; exact below_alloc _ _
      have B6 := Lib.hid (B.out.trans (b6.mono B.out.size))
      have M6 := Lib.hid (M.out.below b6)
      have T6 := Lib.hid (T.out.below b6)
      have K6 := Lib.hid (K.out.below b6)
      have O6 := Lib.hid (show HB 25 w6 ob #[.int .i64 x.kd, .int .i64 x.ky, .int .i64 x.n] from by rw [hw6, hob]; exact HB.new _ _ _)
      have LK := Lib.hid (show mb ≠ kb from by
        intro e
        have h1 := K.out
        obtain ⟨es, cl, hh, -⟩ := M.out
        rw [e] at hh
        have := (show wr.heap[kb]? = _ from h1).symm.trans hh
        injection this with this
        cases this)
      clear hx hlt hbl b6 M T K B
      go_upto_region 7 with fail
      rw [← hw6, ← hob]
      clear hw6 hob z0 z1 z2
      go_wp2_with fail
      refine (done_any 16 #[.pointer (some ⟨tb, 0, none⟩), .pointer (some ⟨ob, 0, none⟩), .pointer (some ⟨kb, 0, none⟩)] b1_hcf w6 mb g M6.out (fun k hk => ⟨(FT.out k hk).1, Int.le_trans (FT.out k hk).2 (by have := NH.out; have := HL.out; omega)⟩) (fun b => b = kb) (fun P' W => HB 4 W kb #[.bool true] ∧ ∃ (t' : Tr) (n' : Nat), TI (cur g P') t' n' ∧ n' ≤ nh + 3 ∧ ∀ k, key k → t'.get k 0 = stepB (fun k => t.get k 0) x k) LK.out (fun P' W W' h hk => ⟨h.1.kx hk (fun hh => by have := K6.out.lt; omega), h.2⟩) (fun W sb hb hsb hs => (batch_do w6 W sb tb ob kb g x HXO.out T6.out O6.out K6.out t nh TI0.out (by have := NH.out; have := HL.out; omega) hb hs).mono fun e W' h => by
        obtain ⟨rfl, P', t', n', h1, h2, h3, h4, h5, h6, h7⟩ := h
        exact ⟨rfl, P', h1, h2, h3, h4, t', n', h5, h6, h7⟩)).mono ?_
      rintro e w7 ⟨nb, ev, P', rfl, -, hm, ⟨hk', t', n', hti, hn', hg⟩, hkx⟩
      have M7 := Lib.hid hm
      have K7 := Lib.hid hk'
      have TI7 := Lib.hid hti
      have N7 := Lib.hid hn'
      have G7 := Lib.hid (show ∀ k, key k → t'.get k 0 = runB (fun _ => none) (l.take (j + 1)) k from fun k hk => by
        rw [hg k hk, HTK.out]
        unfold stepB setO
        by_cases h : k = x.ky
        · rw [if_pos h, if_pos h]
          show some (mkF x.kd ((t.get x.ky 0).getD 0) x.n) = _
          rw [GT.out x.ky HXO.out.2.1]
        · rw [if_neg h, if_neg h]; exact GT.out k hk)
      have T7 := Lib.hid (T6.out.kx hkx (fun h => h.elim LT.out.2.2 (fun h => by have := T6.out.lt; omega)))
      have B7 := Lib.hid (B6.out.trans (hkx.below B6.out.size (fun b hb h => by have := LT.out; have := B6.out.size; omega)))
      clear hm hk' hti hn' hg hkx M6 T6 K6 O6 B6
      have pK : _ = some (Value.bool true) := K7.out.cell 0
      have fK := K7.out.free 0
      have hsame := setCell_same K7.out 0 (.bool true) rfl
      go_wp2_with fail
      go_roundw
      case rel => exact ⟨j + 1, nb, n', t', nextM g P', by go_num, rfl, HLT.out, M7.out, nextM_fits FT.out, TI7.out, by have := N7.out; have := NH.out; omega, G7.out, T7.out, K7.out, B7.out⟩
      case measure =>
        have := HLT.out
        show n - ((j + 1 : Nat) : Int).toNat < n - (j : Int).toNat
        omega
    · have hi3 : ¬ (j : Int) < (n : Int) := by omega
      have ej : l.take j = l := List.take_of_length_le (by have := HL.out; omega)
      have EQ := Lib.hid (show prsOf (fun k => t.get k 0) = prsOf (runB (fun _ => none) l) from prsOf_ext (fun k hk => by rw [GT.out k hk, ej]))
      clear hlt ej
      obtain ⟨W1, hW1⟩ : ∃ W, W = wr.alloc (.cells #[.slice none 0 0] 26) := ⟨_, rfl⟩
      obtain ⟨W2, hW2⟩ : ∃ W, W = W1.alloc (.cells #[.slice none 0 0] 26) := ⟨_, rfl⟩
      obtain ⟨W3, hW3⟩ : ∃ W, W = W2.alloc (.cells #[.int .i64 0] 44) := ⟨_, rfl⟩
      have e1 : W1.heap.size = wr.heap.size + 1 := by rw [hW1, World.size_alloc]
      have e2 : W2.heap.size = wr.heap.size + 2 := by rw [hW2, World.size_alloc, e1]
      have c1 : Below wr.heap.size wr W1 := by rw [hW1]; exact below_alloc _ _
      have c2 : Below W1.heap.size W1 W2 := by rw [hW2]; exact below_alloc _ _
      have c3 : Below W2.heap.size W2 W3 := by rw [hW3]; exact below_alloc _ _
      have c13 : Below wr.heap.size wr W3 := (c1.trans (c2.mono c1.size)).trans (c3.mono (Nat.le_trans c1.size c2.size))
      have Q1 := Lib.hid (show HB 26 W3 wr.heap.size #[.slice none 0 0] from ((show HB 26 W1 wr.heap.size #[.slice none 0 0] from by rw [hW1]; exact HB.new _ _ _).below c2).below c3)
      have Q2 := Lib.hid (show HB 26 W3 (wr.heap.size + 1) #[.slice none 0 0] from (show HB 26 W2 (wr.heap.size + 1) #[.slice none 0 0] from by rw [hW2, ← e1]; exact HB.new _ _ _).below c3)
      have Q3 := Lib.hid (show HB 44 W3 (wr.heap.size + 2) #[.int .i64 0] from by rw [hW3, ← e2]; exact HB.new _ _ _)
      have M3 := Lib.hid (M.out.below c13)
      have T3 := Lib.hid (T.out.below c13)
      have K3 := Lib.hid (K.out.below c13)
      have B3 := Lib.hid (B.out.trans (c13.mono B.out.size))
      have LL := Lib.hid (show mb < wr.heap.size ∧ kb < wr.heap.size ∧ w.heap.size ≤ wr.heap.size ∧ W3.heap.size = wr.heap.size + 3 from ⟨M.out.lt, K.out.lt, B.out.size, by rw [hW3, World.size_alloc, e2]⟩)
      rw [hW1] at hW2
      rw [hW2] at hW3
      clear hW1 hW2 e1 e2 c1 c2 c3 c13 M T K B
      go_upto_region 13 with fail
      rw [← hW3]
      clear hW3
      go_wp2_with fail
      refine (done_own 20 #[.pointer (some ⟨tb, 0, none⟩), .pointer (some ⟨wr.heap.size, 0, none⟩), .pointer (some ⟨(wr.heap.size + 1), 0, none⟩), .pointer (some ⟨(wr.heap.size + 2), 0, none⟩)] b2_hcf W3 mb g M3.out (fun k hk => ⟨(FT.out k hk).1, Int.le_trans (FT.out k hk).2 (by have := NH.out; have := HL.out; omega)⟩) (fun b => b = wr.heap.size ∨ b = wr.heap.size + 1 ∨ b = wr.heap.size + 2)
        (fun _ Y W => ∃ (A B : Option Addr) (n c d : Nat), n = (prsOf fun k => t.get k 0).length ∧ HB 26 W wr.heap.size #[.slice A n c] ∧ HB 26 W (wr.heap.size + 1) #[.slice B n d] ∧ HB 44 W (wr.heap.size + 2) #[.int .i64 0] ∧ (∀ b, ((Value.slice A n c).ownBlock = some b ∨ (Value.slice B n d).ownBlock = some b) → Y b) ∧
          W.ownsRow W3.heap.size 2 1 (.slice A n c) n (ksV (prsOf fun k => t.get k 0)) ∧ W.ownsRow W3.heap.size 2 1 (.slice B n d) n (vsV (prsOf fun k => t.get k 0)))
        (fun h => by have := LL.out; omega)
        (fun P' Y W W' h hk => by
          obtain ⟨A, B, n, c, d, h1, h2, h3, h4, h5, h6, h7⟩ := h
          have hlo : ∀ z, z < W3.heap.size → ¬ (W3.heap.size ≤ z ∧ ¬ Y z) := fun z hz h => by omega
          exact ⟨A, B, n, c, d, h1, h2.kx hk (hlo _ (by have := LL.out; omega)), h3.kx hk (hlo _ (by have := LL.out; omega)), h4.kx hk (hlo _ (by have := LL.out; omega)), h5, own_kx h6 hk (fun b hb h => h.2 (h5 b (.inl hb))), own_kx h7 hk (fun b hb h => h.2 (h5 b (.inr hb)))⟩)
        (fun W sb hb hsb hs => (batch2_do W3 W sb tb wr.heap.size (wr.heap.size + 1) (wr.heap.size + 2) g T3.out Q1.out Q2.out Q3.out (by omega) (by omega) (by omega) t nh TI0.out (by have := NH.out; have := HL.out; omega) hb hs).mono fun e W' h => by
          obtain ⟨rfl, Y, h1, h2, h3, h4⟩ := h
          exact ⟨rfl, [], Y, h1, h2, by simp, h3, h4⟩)).mono ?_
      rintro e w8 ⟨nb, ev, P', Y, rfl, -, -, ⟨A1, A2, m, c, d, hmn, h1, h2, h3, -, h6, h7⟩, hkx⟩
      have R1 := Lib.hid hmn
      have O1 := Lib.hid h6
      have O2 := Lib.hid h7
      have B8 := Lib.hid (show Below w.heap.size w w8 from B3.out.trans (hkx.below B3.out.size (fun b hb h => by have := LL.out; omega)))
      have K8 := K3.out.kx hkx (fun h => by have := LL.out; omega)
      have y1 : _ = some (Value.slice A1 m c) := h1.cell 0
      have y2 : _ = some (Value.slice A2 m d) := h2.cell 0
      have y3 : _ = some (Value.int .i64 0) := h3.cell 0
      have y4 : _ = some (Value.bool true) := K8.cell 0
      clear hmn h1 h2 h3 h6 h7 hkx K8 M3 T3 K3 Q1 Q2 Q3 B3
      go_upto_region 14 with fail
      go_region
      all_goals
        go_wp2
        go_ret3
        refine ⟨A1, A2, m, c, d, rfl, ?_, ?_, ?_, ?_⟩
        · rw [← EQ.out]; exact R1.out
        · rw [← EQ.out]; exact .of_own O1.out (fun _ _ => trivial)
        · rw [← EQ.out]; exact .of_own O2.out (fun _ _ => trivial)
        · exact B8.out.drew
end Go.Proofs.YtkloaopjlbinpaaGreat
