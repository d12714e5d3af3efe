/- The walk of TopBatch. Condition: each operation's number lies in 64 bits. -/
import Derived.Test.YtkloaopjlbinpaaGreatTcC
set_option linter.unusedVariables false
set_option linter.unusedSimpArgs false
namespace Go.Proofs.YtkloaopjlbinpaaGreat
open Go.RowKit Go.MapKept

theorem and3 (k : Int) : 0 ≤ bits .and .i64 k 3 ∧ bits .and .i64 k 3 ≤ 3 := by
  have h : (BitVec.ofInt 64 k &&& BitVec.ofInt 64 3).toNat ≤ 3 := by
    rw [BitVec.toNat_and]
    exact Nat.le_trans Nat.and_le_right (by decide)
  have e : bits .and .i64 k 3 = IntKind.i64.wrap ((BitVec.ofInt 64 k &&& BitVec.ofInt 64 3).toNat : Nat) := rfl
  rw [e, IntKind.wrap_i64]
  omega
theorem tmod_b (k : Int) : -10 < k.tmod 10 ∧ k.tmod 10 < 10 := ⟨Int.lt_tmod_of_pos k (by omega), Int.tmod_lt_of_pos k (by omega)⟩
theorem below_drewN {B : Nat} {a w : World} (h : Below B a w) (q : Nat) : Below B a (w.drewN q) := ⟨h.os, h.tape, h.output, h.size, h.block⟩
def nky (k : Int) : Int := (k.tmod 10 + 10).tmod 10
theorem nky_b (k : Int) : 0 ≤ nky k ∧ nky k ≤ 9 := by
  have := tmod_b k
  unfold nky
  rw [Int.tmod_eq_emod_of_nonneg (by omega)]
  omega
def nrm (o : BOp) : BOp := ⟨bits .and .i64 o.kd 3, nky o.ky, o.n⟩
theorem nrm_ok {o : BOp} (h : In64 o.n) : (nrm o).ok := ⟨and3 _, nky_b _, h⟩
theorem ksV_map (l : List (Int × Int)) : ksV l = (l.map (·.1)).map (.int .i64) := by unfold ksV; rw [List.map_map]; rfl
theorem vsV_map (l : List (Int × Int)) : vsV l = (l.map (·.2)).map (.int .i64) := by unfold vsV; rw [List.map_map]; rfl
set_option maxRecDepth 100000 in
set_option maxHeartbeats 6400000 in
theorem topB_big (w : World) (A : Option Addr) (n c : Nat) (t : Int) (hn : 20 < n) : Calls Tryz.prog 3 #[.slice A n c, .int .u8 t] w fun e w' => e = .returned (.bool true) ∧ Below w.heap.size w w' := by
  have hn20 : (20 : Int) < (n : Int) := by omega
  go_enter Tryz.func3, Tryz.ntmps3
  go_wp2_with fail
  refine (speed_awake _).mono ?_
  rintro e w1 ⟨rfl, hb⟩
  have B1 := Lib.hid hb
  clear hb
  go_wp2
  go_ret
  exact ⟨rfl, B1.out⟩
set_option maxRecDepth 100000 in
set_option maxHeartbeats 6400000 in
theorem topB_main (w : World) (A : Option Addr) (n c : Nat) (l0 : List BOp) (hl : l0.length = n) (hn : n ≤ 20) (hin : ∀ o ∈ l0, In64 o.n) (hR : Reads w (fun _ => True) 3 A n (l0.flatMap opB)) (t : Int) (ht : 0 ≤ t ∧ t ≤ 255) :
    Calls Tryz.prog 3 #[.slice A n c, .int .u8 t] w fun e w' => e = .returned (.bool true) ∧ Below w.heap.size w w' := by
  have HR := Lib.hid hR
  have HL := Lib.hid (And.intro hl hn)
  have HIN := Lib.hid hin
  have HT := Lib.hid ht
  have hn20 : ¬ (20 : Int) < (n : Int) := by omega
  clear hR hl hn hin ht
  go_enter Tryz.func3, Tryz.ntmps3
  go_wp2_with fail
  refine (speed_awake _).mono ?_
  rintro e w1 ⟨rfl, hb⟩
  have B1 := Lib.hid hb
  clear hb
  go_wp2_with fail
  go_loopw [5, 26] (fun v5 v26 wr => ∃ (j c5 : Nat) (A5 : Option Addr), v26 = .int .i64 j ∧ v5 = .slice A5 j c5 ∧ j ≤ n ∧ wr.ownsRow w.heap.size 25 3 (.slice A5 j c5) j (((l0.take j).map nrm).flatMap opB) ∧ Below w.heap.size w wr) (fun _ v26 _ => n - (intOf v26).toNat)
  case atStart => exact ⟨0, 0, none, rfl, rfl, Nat.zero_le _, World.ownsRow_nil _ _ _ _, B1.out⟩
  case round =>
    obtain ⟨j, c5, A5, rfl, rfl, hj, hov, hb⟩ := hrel
    clear B1
    have OV := Lib.hid hov
    have B := Lib.hid hb
    by_cases hlt : j < n
    · have hi3 : (j : Int) < (n : Int) := by omega
      obtain ⟨x, hx⟩ : ∃ x, l0[j]? = some x := ⟨_, List.getElem?_eq_getElem (by have := HL.out; omega)⟩
      obtain ⟨b, q, rfl, hbl, -, z0, z1, z2⟩ := bop_cells (HR.out.below hb) hlt hx
      have HTK := Lib.hid (show (l0.take (j + 1)).map nrm = (l0.take j).map nrm ++ [nrm x] from by rw [List.take_add_one, hx, List.map_append]; rfl)
      have LN := Lib.hid (show j < n ∧ n ≤ 20 from ⟨hlt, HL.out.2⟩)
      obtain ⟨ob, hob⟩ : ∃ n, n = wr.heap.size := ⟨_, rfl⟩
      obtain ⟨w6, hw6⟩ : ∃ W, W = wr.alloc (.cells #[.int .i64 x.kd, .int .i64 x.ky, .int .i64 x.n] 25) := ⟨_, rfl⟩
      have b6 : Below wr.heap.size wr w6 := by rw [hw6]; exact below_alloc _ _
      have O := Lib.hid (show HB 25 w6 ob #[.int .i64 x.kd, .int .i64 x.ky, .int .i64 x.n] from by rw [hw6, hob]; exact HB.new _ _ _)
      have OBN := Lib.hid (show (∀ b, (Value.slice A5 j c5).ownBlock = some b → b ≠ ob) ∧ w.heap.size ≤ ob from ⟨fun b hvb => by have := (hov.lt b hvb).2; omega, by have := hb.size; omega⟩)
      have OV6 := Lib.hid (own_kx hov (KX.of_below (X := fun _ => False) b6) fun _ _ h => h)
      have B6 := Lib.hid (hb.trans (b6.mono hb.size))
      clear hx hlt hbl b6 hov hb hj OV B
      go_upto_region 9 with fail
      rw [← hw6, ← hob]
      clear hw6 hob z0 z1 z2
      have x0 : _ = some (Value.int .i64 x.kd) := O.out.cell 0
      have x1 : _ = some (Value.int .i64 x.ky) := O.out.cell 1
      have x2 : _ = some (Value.int .i64 x.n) := O.out.cell 2
      have s0 := O.out.free 0
      have s1 := O.out.free 1
      have hb1 := tmod_b x.ky
      have e1 : IntKind.i64.wrap (x.ky.tmod 10) = x.ky.tmod 10 := by rw [IntKind.wrap_i64]; omega
      have e2 : IntKind.i64.wrap (x.ky.tmod 10 + 10) = x.ky.tmod 10 + 10 := by rw [IntKind.wrap_i64]; omega
      have e3 : IntKind.i64.wrap ((x.ky.tmod 10 + 10).tmod 10) = (x.ky.tmod 10 + 10).tmod 10 := by have := nky_b x.ky; unfold nky at this; rw [IntKind.wrap_i64]; omega
      obtain ⟨w7, hw7⟩ : ∃ W, W = (w6.setCell ⟨ob, 0, none⟩ (.int .i64 (bits .and .i64 x.kd 3))).setCell ⟨ob, 1, none⟩ (.int .i64 ((x.ky.tmod 10 + 10).tmod 10)) := ⟨_, rfl⟩
      have O7 := Lib.hid (show HB 25 w7 ob #[.int .i64 (nrm x).kd, .int .i64 (nrm x).ky, .int .i64 x.n] from by rw [hw7]; exact (O.out.set 0 _).set 1 _)
      have k7 : KX (fun b => b = ob) w6 w7 := by
        rw [hw7]
        exact (KX.of_grown (X := fun k => k = ob) (gr_put _ ob 0 _) fun k e => (Option.some.inj e).symm).trans (KX.of_grown (X := fun k => k = ob) (gr_put _ ob 1 _) fun k e => (Option.some.inj e).symm)
      have OV7 := Lib.hid (own_kx OV6.out k7 fun b hb e => OBN.out.1 b hb e)
      have B7 := Lib.hid (B6.out.trans (k7.below B6.out.size fun b hb e => by have := OBN.out.2; omega))
      clear k7 hb1 O OV6 B6
      go_upto_region 10 with fail
      rw [← hw7]
      clear hw7 x0 x1 x2 s0 s1 e1 e2 e3
      have x0 : _ = some (Value.int .i64 (nrm x).kd) := O7.out.cell 0
      have x1 : _ = some (Value.int .i64 (nrm x).ky) := O7.out.cell 1
      have x2 : _ = some (Value.int .i64 x.n) := O7.out.cell 2
      obtain ⟨wx, hwx⟩ : ∃ W, W = w7.alloc (.cells #[.int .i64 (nrm x).kd, .int .i64 (nrm x).ky, .int .i64 x.n] 25) := ⟨_, rfl⟩
      have bx : Below w7.heap.size w7 wx := by rw [hwx]; exact below_alloc _ _
      have rx : Reads wx (fun _ => True) 3 (some ⟨w7.heap.size, 0, none⟩) 1 ([nrm x].flatMap opB) := by rw [hwx]; exact Reads.new w7 #[.int .i64 (nrm x).kd, .int .i64 (nrm x).ky, .int .i64 x.n] _ rfl trivial
      obtain ⟨A3, c3, wy, run, ho3, hk3, -⟩ := row_more (c := 1) ele_op (own_kx OV7.out (KX.of_below (X := fun _ => False) bx) fun _ _ h => h) (Nat.le_trans B7.out.size bx.size) rx (opB_one _) (by have := LN.out; omega) 22
      rw [← List.flatMap_append, ← HTK.out] at ho3
      rw [hwx] at run
      have RUN := Lib.hid run
      have REL := Lib.hid (And.intro ho3 (show Below w.heap.size w wy from (B7.out.trans (bx.mono B7.out.size)).trans (hk3.below (Nat.le_trans B7.out.size bx.size) fun b hb e => by have := (OV7.out.lt b e).1; omega)))
      clear run ho3 hk3 rx bx hwx
      go_wp2_with (at_builtin; refine wpList_app_run rfl _ _ 22 rfl (.slice A5 j c5) _ _ wy rfl rfl RUN.out ?_)
      go_roundw
      case rel => exact ⟨j + 1, c3, A3, by go_num, rfl, LN.out.1, REL.out.1, REL.out.2⟩
      case measure =>
        have := LN.out
        show n - ((j + 1 : Nat) : Int).toNat < n - (j : Int).toNat
        omega
    · have hi3 : ¬ (j : Int) < (n : Int) := by omega
      obtain rfl : j = n := by omega
      obtain ⟨l, hlm⟩ : ∃ l, l = l0.map nrm := ⟨_, rfl⟩
      rw [List.take_of_length_le (show l0.length ≤ j by have := HL.out; omega), ← hlm] at hov
      have HLL := Lib.hid (show l.length = j ∧ j ≤ 20 from ⟨by rw [hlm, List.length_map]; exact HL.out.1, HL.out.2⟩)
      have HOK := Lib.hid (show ∀ o ∈ l, o.ok from by
        intro o ho
        rw [hlm] at ho
        obtain ⟨o', h1, rfl⟩ := List.mem_map.1 ho
        exact nrm_ok (HIN.out o' h1))
      have R := Lib.hid (Reads.of_own hov (S := fun _ => True) (fun _ _ => trivial))
      obtain ⟨P, hP⟩ : ∃ P, P = prsOf (runB (fun _ => none) l) := ⟨_, rfl⟩
      have HP := Lib.hid hP
      have HPL := Lib.hid (show P.length ≤ 10 from by rw [hP]; exact prsOf_len _)
      clear hlt hj hov hb hlm OV hP hi3
      go_wp2_with fail
      refine (sbatch_any wr A5 j c5 l HLL.out.1 HLL.out.2 HOK.out R.out).mono ?_
      rintro e w2 ⟨K1, V1, m, ck1, cv1, rfl, hm, hk, hv, hb⟩
      rw [← HP.out] at hm hk hv
      rw [ksV_map] at hk
      rw [vsV_map] at hv
      subst hm
      have RK := Lib.hid (And.intro hk hv)
      have R2 := Lib.hid (R.out.below hb)
      have B2 := Lib.hid (B.out.trans (hb.mono B.out.size))
      clear hk hv hb R B
      go_wp2_with fail
      refine (batch_any w2 A5 j c5 l HLL.out.1 HLL.out.2 HOK.out R2.out).mono ?_
      rintro e w3 ⟨Ab, mb, cb, rfl, hmb, hob, hb⟩
      have BL := Lib.hid (show (batB l).length = mb ∧ mb ≤ j ∧ mb ≤ 20 from ⟨hmb.symm, by rw [hmb]; exact Nat.le_trans (bat_len l HOK.out) (Nat.le_of_eq HLL.out.1), by have h1 := bat_len l HOK.out; have := HLL.out; omega⟩)
      have RB := Lib.hid (Reads.of_own hob (S := fun _ => True) (fun _ _ => trivial))
      have R3 := Lib.hid (R2.out.below hb)
      have RK3 := Lib.hid (And.intro (RK.out.1.below hb) (RK.out.2.below hb))
      have B3 := Lib.hid (B2.out.trans (hb.mono B2.out.size))
      clear hmb hob hb R2 RK B2
      go_wp2_with fail
      refine (sbatch_any w3 Ab mb cb (batB l) BL.out.1 BL.out.2.2 (bat_ok l HOK.out) RB.out).mono ?_
      rintro e w4 ⟨K2, V2, m, ck2, cv2, rfl, hm, hk, hv, hb⟩
      rw [bat_run l HOK.out, ← HP.out] at hm hk hv
      rw [ksV_map] at hk
      rw [vsV_map] at hv
      subst hm
      have R4 := Lib.hid (R3.out.below hb)
      have RK4 := Lib.hid (And.intro (RK3.out.1.below hb) (RK3.out.2.below hb))
      have RL4 := Lib.hid (And.intro hk hv)
      have B4 := Lib.hid (B3.out.trans (hb.mono B3.out.size))
      have hi4 : ¬ (j : Int) < (mb : Int) := by have := BL.out; omega
      clear hk hv hb R3 RK3 B3 RB
      go_wp2_with fail
      refine (equal_same w4 K1 K2 P.length ck1 ck2 (P.map (·.1)) (List.length_map _) (by have := HPL.out; omega) RK4.out.1 RL4.out.1).mono ?_
      rintro e w5 ⟨rfl, q1, rfl⟩
      go_wp2_with fail
      refine (equal_same _ V1 V2 P.length cv1 cv2 (P.map (·.2)) (List.length_map _) (by have := HPL.out; omega) (RK4.out.2.drewN q1) (RL4.out.2.drewN q1)).mono ?_
      rintro e w6 ⟨rfl, q2, rfl⟩
      go_wp2_with fail
      obtain ⟨wz, hwz⟩ : ∃ W, W = w4.drewN (q1 + q2) := ⟨_, rfl⟩
      have R6 := Lib.hid (show Reads wz (fun _ => True) 3 A5 j (l.flatMap opB) from by rw [hwz]; exact R4.out.drewN _)
      have RK6 := Lib.hid (show Reads wz (fun _ => True) 1 K1 P.length ((P.map (·.1)).map (.int .i64)) ∧ Reads wz (fun _ => True) 1 V1 P.length ((P.map (·.2)).map (.int .i64)) from by rw [hwz]; exact ⟨RK4.out.1.drewN _, RK4.out.2.drewN _⟩)
      have B6 := Lib.hid (show Below w.heap.size w wz from by rw [hwz]; exact below_drewN B4.out _)
      rw [← hwz]
      clear hwz R4 RK4 RL4 B4 hi4
      refine (runs_any wz A5 j c5 l HLL.out.1 HLL.out.2 HOK.out R6.out).mono ?_
      rintro e w7 ⟨Ao, mo, co, rfl, vs, hov, hrl, hb⟩
      have RK7 := Lib.hid (And.intro (RK6.out.1.below hb) (RK6.out.2.below hb))
      have B7 := Lib.hid (B6.out.trans (hb.mono B6.out.size))
      have mvl : mo = vs.length := by have := hov.1; omega
      have RV := Lib.hid (Reads.of_own hov (S := fun _ => True) (fun _ _ => trivial))
      have RLH := Lib.hid hrl
      have RNL := Lib.hid (runs_len l)
      have MO := Lib.hid (show mo = vs.length ∧ vs.length = (runsB l).length ∧ mo ≤ 20 from ⟨mvl, hrl.len, by have := RNL.out.1; have := hrl.len; have := HLL.out; omega⟩)
      obtain ⟨tn, htn⟩ : ∃ tn : Nat, t = (tn : Int) := ⟨t.toNat, by have := HT.out; omega⟩
      subst htn
      have TN := Lib.hid (show tn ≤ 255 from by have := HT.out; omega)
      have mo20 : (mo : Int) ≤ 20 := by have := MO.out; omega
      clear hov hrl hb mvl R6 RK6 B6
      go_wp2_with fail
      go_loopw [15, 87] (fun v15 v87 wr => ∃ (i nt ct : Nat) (At : Option Addr), v87 = .int .i64 i ∧ v15 = .slice At nt ct ∧ i ≤ mo ∧ nt = (((runsB l).take i).flatMap (rotB tn)).length ∧ wr.ownsRow w7.heap.size 25 3 (.slice At nt ct) nt ((((runsB l).take i).flatMap (rotB tn)).flatMap opB) ∧ Below w7.heap.size w7 wr) (fun _ v87 _ => mo - (intOf v87).toNat)
      case atStart => exact ⟨0, 0, 0, none, rfl, rfl, Nat.zero_le _, rfl, World.ownsRow_nil _ _ _ _, Below.refl _ _⟩
      case round =>
        obtain ⟨i, nt, ct, At, rfl, rfl, hi, hnt, how, hb⟩ := hrel
        have TL := Lib.hid (show ∀ k, (((runsB l).take k).flatMap (rotB tn)).length ≤ 20 from fun k => by
          have h1 := turn_len tn l
          have h2 : (turnB tn l).length = (((runsB l).take k).flatMap (rotB tn)).length + (((runsB l).drop k).flatMap (rotB tn)).length := by
            unfold turnB
            rw [← List.length_append, ← List.flatMap_append, List.take_append_drop]
          have := HLL.out
          omega)
        have OW := Lib.hid how
        have NT := Lib.hid (And.intro hnt hi)
        have BB := Lib.hid hb
        clear how hnt
        by_cases hlt : i < mo
        · have hi3 : (i : Int) < (mo : Int) := by omega
          obtain ⟨r, hr⟩ : ∃ r, (runsB l)[i]? = some r := ⟨_, List.getElem?_eq_getElem (by have := MO.out; omega)⟩
          obtain ⟨Ar, cr, hvi, hor⟩ := RLH.out.rw i r hr
          obtain ⟨b, q, hA, -, -, hc⟩ := (RV.out.below hb).2 (by omega)
          subst hA
          have z0 : wr.cell? ⟨b, q + i, none⟩ = some (.slice Ar r.length cr) := hc i _ hvi
          have RR := Lib.hid (show Reads w7 (fun _ => True) 3 Ar r.length (r.flatMap opB) from Reads.of_own hor (fun _ _ => trivial))
          have RL20 := Lib.hid (show r.length ≤ 20 from by have := (RNL.out.2 r (List.mem_of_getElem? hr)).1; have := HLL.out; omega)
          have e1 : ((runsB l).take (i + 1)).flatMap (rotB tn) = ((runsB l).take i).flatMap (rotB tn) ++ rotB tn r := by rw [List.take_add_one, hr, List.flatMap_append]; simp
          have E1 := Lib.hid e1
          obtain ⟨pre, hpre⟩ : ∃ p, p = ((runsB l).take i).flatMap (rotB tn) := ⟨_, rfl⟩
          have HLT := Lib.hid hlt
          rw [← hpre] at OW NT E1
          have PL := Lib.hid (show pre.length ≤ 20 from by rw [hpre]; exact TL.out i)
          have rl20 : (r.length : Int) ≤ 20 := by have := RL20.out; omega
          clear hr hvi hor hc e1 hpre hlt hb hi
          go_wp2_with fail
          go_loopw [15, 93] (fun v15 v93 wr => ∃ (k nt ct : Nat) (At : Option Addr), v93 = .int .i64 k ∧ v15 = .slice At nt ct ∧ k ≤ r.length ∧ nt = pre.length + k ∧ wr.ownsRow w7.heap.size 25 3 (.slice At nt ct) nt ((pre ++ (rotB tn r).take k).flatMap opB) ∧ Below w7.heap.size w7 wr) (fun _ v93 _ => r.length - (intOf v93).toNat)
          case atStart => exact ⟨0, nt, ct, At, rfl, rfl, Nat.zero_le _, NT.out.1, by rw [List.take_zero, List.append_nil]; exact OW.out, BB.out⟩
          case round =>
            obtain ⟨k, nk, ck, Ak, rfl, rfl, hk, hnk, how, hb⟩ := hrel
            clear OW BB z0
            have OW := Lib.hid how
            have BB := Lib.hid hb
            have NK := Lib.hid (And.intro hnk hk)
            clear how hnk
            by_cases hlt : k < r.length
            · have hi4 : (k : Int) < (r.length : Int) := by omega
              obtain ⟨d, hd⟩ : ∃ d, d = (k + tn) % r.length := ⟨_, rfl⟩
              have hdl : d < r.length := by rw [hd]; exact Nat.mod_lt _ (by omega)
              obtain ⟨x, hx⟩ : ∃ x, r[d]? = some x := ⟨_, List.getElem?_eq_getElem hdl⟩
              have HTK := Lib.hid (show (rotB tn r).take (k + 1) = (rotB tn r).take k ++ [x] from by rw [List.take_add_one, rot_get tn r hlt, ← hd, hx]; rfl)
              obtain ⟨b2, q2, hA, -, -, z0, z1, z2⟩ := bop_cells (RR.out.below hb) hdl hx
              subst hA
              have hmod : ((k : Int) + (tn : Int)).tmod (r.length : Int) = (d : Int) := by rw [Int.tmod_eq_emod_of_nonneg (by omega), hd]; simp
              have hw0 : IntKind.i64.wrap (tn : Int) = (tn : Int) := by rw [IntKind.wrap_i64]; have := TN.out; omega
              have hw1 : IntKind.i64.wrap ((k : Int) + (tn : Int)) = (k : Int) + (tn : Int) := by rw [IntKind.wrap_i64]; have := TN.out; have := RL20.out; omega
              have hw2 : IntKind.i64.wrap (d : Int) = (d : Int) := by rw [IntKind.wrap_i64]; have := RL20.out; omega
              have hdi : (d : Int) < (r.length : Int) := by omega
              have hn0 : ¬ (r.length : Int) = 0 := by omega
              have hn0' : ¬ r.length = 0 := by omega
              have KLT := Lib.hid hlt
              obtain ⟨wx, hwx⟩ : ∃ W, W = wr.alloc (.cells #[.int .i64 x.kd, .int .i64 x.ky, .int .i64 x.n] 25) := ⟨_, rfl⟩
              have bx : Below wr.heap.size wr wx := by rw [hwx]; exact below_alloc _ _
              have rx : Reads wx (fun _ => True) 3 (some ⟨wr.heap.size, 0, none⟩) 1 ([x].flatMap opB) := by rw [hwx]; exact Reads.new wr #[.int .i64 x.kd, .int .i64 x.ky, .int .i64 x.n] _ rfl trivial
              obtain ⟨A3, c3, wy, run, ho3, hk3, -⟩ := row_more (c := 1) ele_op (own_kx OW.out (KX.of_below (X := fun _ => False) bx) fun _ _ h => h) (Nat.le_trans BB.out.size bx.size) rx (opB_one _) (by have := NK.out; have := PL.out; have := RL20.out; omega) 22
              rw [← List.flatMap_append, List.append_assoc, ← HTK.out] at ho3
              rw [hwx] at run
              have RUN := Lib.hid run
              have REL := Lib.hid (And.intro ho3 (show Below w7.heap.size w7 wy from (BB.out.trans (bx.mono BB.out.size)).trans (hk3.below (Nat.le_trans BB.out.size bx.size) fun b hb e => by have := (OW.out.lt b e).1; omega)))
              clear run ho3 hk3 rx bx hwx hlt hd hdl hx hb hk
              go_wp2_with (at_builtin; refine wpList_app_run rfl _ _ 22 rfl (.slice Ak nk ck) _ _ wy rfl rfl RUN.out ?_)
              go_roundw
              case rel => exact ⟨k + 1, nk + 1, c3, A3, by go_num, rfl, KLT.out, by have := NK.out; omega, REL.out.1, REL.out.2⟩
              case measure =>
                have := KLT.out
                show r.length - ((k + 1 : Nat) : Int).toNat < r.length - (k : Int).toNat
                omega
            · have hi4 : ¬ (k : Int) < (r.length : Int) := by omega
              have ek : (rotB tn r).take k = rotB tn r := List.take_of_length_le (by rw [rot_len]; omega)
              have OW2 := Lib.hid (show nk = (((runsB l).take (i + 1)).flatMap (rotB tn)).length ∧ wr.ownsRow w7.heap.size 25 3 (.slice Ak nk ck) nk ((((runsB l).take (i + 1)).flatMap (rotB tn)).flatMap opB) from by
                have h1 := OW.out
                rw [ek, ← E1.out] at h1
                exact ⟨by rw [E1.out, List.length_append, rot_len]; have := NK.out; omega, h1⟩)
              clear hlt ek hb hk OW
              go_wp2_with fail
              go_roundw
              case rel => exact ⟨i + 1, nk, ck, Ak, by go_num, rfl, HLT.out, OW2.out.1, OW2.out.2, BB.out⟩
              case measure =>
                have := HLT.out
                show mo - ((i + 1 : Nat) : Int).toNat < mo - (i : Int).toNat
                omega
        · have hi3 : ¬ (i : Int) < (mo : Int) := by omega
          have ei : ((runsB l).take i).flatMap (rotB tn) = turnB tn l := by rw [List.take_of_length_le (by have := MO.out; omega)]; rfl
          rw [ei] at NT OW
          have RT := Lib.hid (Reads.of_own OW.out (S := fun _ => True) (fun _ _ => trivial))
          have TLN := Lib.hid (show (turnB tn l).length = nt ∧ nt ≤ 20 ∧ nt = j from ⟨NT.out.1.symm, by rw [NT.out.1, turn_len]; have := HLL.out; omega, by rw [NT.out.1, turn_len]; exact HLL.out.1⟩)
          have RK8 := Lib.hid (And.intro (RK7.out.1.below hb) (RK7.out.2.below hb))
          have B8 := Lib.hid (B7.out.trans (hb.mono B7.out.size))
          have hnj : (nt : Int) = (j : Int) := by have := TLN.out; omega
          clear hlt ei hb hi OW BB RK7 B7 RV RLH
          go_wp2_with fail
          refine (sbatch_any wr At nt ct (turnB tn l) TLN.out.1 TLN.out.2.1 (turn_ok tn l HOK.out) RT.out).mono ?_
          rintro e w8 ⟨K3, V3, m, ck3, cv3, rfl, hm, hk, hv, hb⟩
          rw [turn_run tn l HOK.out, ← HP.out] at hm hk hv
          rw [ksV_map] at hk
          rw [vsV_map] at hv
          subst hm
          have RK9 := Lib.hid (And.intro (RK8.out.1.below hb) (RK8.out.2.below hb))
          have RL9 := Lib.hid (And.intro hk hv)
          have B9 := Lib.hid (B8.out.trans (hb.mono B8.out.size))
          clear hk hv hb RK8 B8 RT
          go_wp2_with fail
          refine (equal_same w8 K1 K3 P.length ck1 ck3 (P.map (·.1)) (List.length_map _) (by have := HPL.out; omega) RK9.out.1 RL9.out.1).mono ?_
          rintro e w9 ⟨rfl, q3, rfl⟩
          go_wp2_with fail
          refine (equal_same _ V1 V3 P.length cv1 cv3 (P.map (·.2)) (List.length_map _) (by have := HPL.out; omega) (RK9.out.2.drewN q3) (RL9.out.2.drewN q3)).mono ?_
          rintro e w10 ⟨rfl, q4, rfl⟩
          go_wp2
          go_ret
          exact ⟨rfl, below_drewN B9.out _⟩
end Go.Proofs.YtkloaopjlbinpaaGreat
