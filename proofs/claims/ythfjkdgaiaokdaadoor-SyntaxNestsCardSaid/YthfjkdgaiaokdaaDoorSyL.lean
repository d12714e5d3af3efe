/- The walk of the law's roomExpr. Conditions: strings as long as the machine has them; the room lies between -2^61 and 400. -/
import Derived.Test.YthfjkdgaiaokdaaDoorSyK
set_option linter.unusedVariables false
set_option linter.unusedSimpArgs false
namespace Go.Proofs.YthfjkdgaiaokdaaDoor
open Go.RowKit

def RoomE (e : Ex) : Prop := ∀ (w : World) (S : Nat → Prop) (cs : List Value) (l : Int), XV w S e cs → -2305843009213693952 ≤ l → l ≤ 400 → Calls Tryd.prog 34 #[.agg cs.toArray, .int .i64 l] w fun e' w' => e' = .returned (.int .i64 (roomE e l)) ∧ Below w.heap.size w w'
theorem quo_len {n : Nat} : Int.tdiv (n : Int) 100 = (n : Int) / 100 := Int.tdiv_eq_ediv_of_nonneg (by omega)
set_option maxRecDepth 100000 in
set_option maxHeartbeats 12800000 in
theorem roomE_of (k n : Int) (s m : Str) (a o : List Ex) (hws : (Ex.mk k n s m a o).Ws) (iha : ∀ x ∈ a, RoomE x) (iho : ∀ x ∈ o, RoomE x) : RoomE (.mk k n s m a o) := by
  intro w S cs l hx hl1 hl2
  obtain ⟨A, na, ca, O, no, co, rfl, hA, hO⟩ := hx.open_
  rw [Ex.Ws] at hws
  obtain ⟨W0, hW0⟩ : ∃ W0 : World, W0 = w.alloc (.cells (exC k n s m A na ca O no co).toArray 44) := ⟨_, rfl⟩
  have hb0 : Below w.heap.size w W0 := by rw [hW0]; exact (Below.refl _ _).alloc (Nat.le_refl _) _
  have HF := Lib.hid (show ∀ W, Bz W0 W → (W.cell? ⟨w.heap.size, 0, none⟩ = some (.int .i64 k) ∧ W.cell? ⟨w.heap.size, 1, none⟩ = some (.int .i64 n) ∧ W.cell? ⟨w.heap.size, 2, none⟩ = some (.string (bs s)) ∧ W.cell? ⟨w.heap.size, 3, none⟩ = some (.string (bs m)) ∧ W.cell? ⟨w.heap.size, 4, none⟩ = some (.slice A na ca) ∧ W.cell? ⟨w.heap.size, 5, none⟩ = some (.slice O no co)) from fun W h => by
    subst hW0
    have hq := heap_alloc_new w (.cells (exC k n s m A na ca O no co).toArray 44)
    have h2 := fun j v (hv : (exC k n s m A na ca O no co).toArray[j]? = some v) => cell_of_Bz h (g := w.heap.size) (j := j) (v := v) (by rw [cell_of_row _ _ _ _ _ _ hq]; exact hv) (lt_of_block hq)
    exact ⟨h2 0 _ rfl, h2 1 _ rfl, h2 2 _ rfl, h2 3 _ rfl, h2 4 _ rfl, h2 5 _ rfl⟩)
  have HG := Lib.hid (show ∀ W, Bz W0 W → Below w.heap.size w W from fun W h => hb0.trans (h.b.mono hb0.size))
  have HNA := Lib.hid hA.1.1
  have HNO := Lib.hid hO.1.1
  have HA := Lib.hid hA
  have HO := Lib.hid hO
  have HIA := Lib.hid iha
  have HIO := Lib.hid iho
  have HWS := Lib.hid hws
  have hs1 : (bs s).size ≤ 9223372036854775807 := hws.1
  have hs2 : (bs m).size ≤ 9223372036854775807 := hws.2.1
  obtain ⟨l1, hl⟩ : ∃ l1, l1 = l - 1 - ((bs s).size : Int) / 100 - ((bs m).size : Int) / 100 := ⟨_, rfl⟩
  have HE := Lib.hid (show roomE (.mk k n s m a o) l = roomEs o (roomEs a l1) by rw [roomE, hl, bs_size, bs_size])
  obtain ⟨E, hE⟩ : ∃ E, E = roomE (.mk k n s m a o) l := ⟨_, rfl⟩
  rw [← hE] at HE ⊢
  have hl3 : -2500000000000000000 ≤ l1 := by omega
  have hl4 : l1 ≤ 400 := by omega
  clear hx hA hO hws iha iho hb0 hE
  have HLE := Lib.hid hl
  clear hl
  unfold exC at hW0
  unfold exC
  go_enter Tryd.func34, Tryd.ntmps34
  go_upto_region 1 with fail
  rw [← hW0]
  clear hW0
  have z0 : Bz W0 W0 := ⟨Below.refl _ _⟩
  obtain ⟨g0, g1, g2, g3, g4, g5⟩ := HF.out _ z0
  go_wp2_with fail
  clear g0 g1 g2 g3 g4 g5
  go_loopw [1, 5] (fun left i wr => ∃ (q : Nat) (L : Int), q ≤ a.length ∧ left = .int .i64 L ∧ i = .int .i64 q ∧ Hid (L = roomEs (a.take q) l1) ∧ -2500000000000000000 ≤ L ∧ L + q ≤ 400 ∧ Bz W0 wr) (fun _ i _ => a.length - (intOf i).toNat)
  case atStart => exact ⟨0, l1, Nat.zero_le _, congrArg (Value.int .i64) HLE.out.symm, rfl, Lib.hid (by rw [List.take_zero, roomEs]), hl3, by omega, z0⟩
  case round =>
    clear z0
    obtain ⟨q, L, hq, rfl, rfl, n1, hL1, hL2, zr⟩ := hrel
    obtain ⟨wv, hwv⟩ : ∃ wv, wv = wr := ⟨_, rfl⟩
    subst hwv
    obtain ⟨g0, g1, g2, g3, g4, g5⟩ := HF.out _ zr
    by_cases hc : q < a.length ∧ 0 ≤ L
    · have hi2 : (q : Int) < (na : Int) := by have := HNA.out; omega
      have hi3 : (0 : Int) ≤ L := hc.2
      obtain ⟨x, b, off, cs, hx, rfl, hb, hS, hxv, hrow⟩ := HA.out.at q (by have := HNA.out; omega)
      have HQL := Lib.hid hc.1
      have hmem := List.mem_of_getElem? hx
      have HTX := Lib.hid (HIA.out x hmem wv S cs L (hxv.below (HG.out _ zr)) (by omega) (by omega))
      have hxw := Ex.Wss_at HWS.out.2.2.1 x hmem
      have q1 := roomE_ge x L hxw
      have q2 := roomE_le x L
      obtain ⟨L2, hL2e⟩ : ∃ L2, L2 = roomE x L := ⟨_, rfl⟩
      rw [← hL2e] at HTX q1 q2
      have hr1 : -2500000000000000000 ≤ L2 := by omega
      have hr2 : L2 + ((q + 1 : Nat) : Int) ≤ 400 := by omega
      have HN2 := Lib.hid (show L2 = roomEs (a.take (q + 1)) l1 by rw [hL2e, roomEs_up hx (by rw [← n1.out]; exact hi3), ← n1.out])
      have hrow2 := rangeAt_keep hrow ((HG.out _ zr).block b hb)
      obtain ⟨xk, xn, xs, xm, xa, xo⟩ := x
      obtain ⟨A2, na2, ca2, O2, no2, co2, rfl, -, -⟩ := hxv.open_
      obtain ⟨e0, e1, e2, e3, e4, e5⟩ := exC_at hrow2
      clear hx hb hS hxv hrow hrow2 hc hmem hxw q1 q2 hL2e
      unfold exC at HTX
      go_wp2_with fail
      refine HTX.out.mono ?_
      rintro e wo ⟨rfl, hbo⟩
      have zo := zr.next hbo
      clear hbo HTX e0 e1 e2 e3 e4 e5 g0 g1 g2 g3 g4 g5 zr n1
      go_wp2
      go_roundw
      case rel => exact ⟨q + 1, L2, HQL.out, rfl, by go_num, HN2, hr1, hr2, zo⟩
      case measure => exact meas_up _ _ HQL.out
    · have HE2 := Lib.hid (show E = roomEs o L by rw [HE.out, n1.out, roomEs_end (l := a) (q := q) (a := l1) (by have := n1.out; rw [← this]; omega)])
      obtain ⟨L1, hL1e⟩ : ∃ L1, L1 = L := ⟨_, rfl⟩
      subst hL1e
      have hm1 := hL1
      have hm2 : L1 ≤ 400 := by omega
      rcases (show ¬ (q : Int) < (na : Int) ∨ ((q : Int) < (na : Int) ∧ ¬ (0 : Int) ≤ L1) by have := HNA.out; omega) with hi2 | ⟨hi2, hi3⟩
      · clear hc n1 hq hL1 hL2
        go_wp2_with fail
        clear g0 g1 g2 g3 g4 g5
        have Z0 := zr
        clear zr
        go_loopw [1, 6] (fun left i wr => ∃ (q : Nat) (L : Int), q ≤ o.length ∧ left = .int .i64 L ∧ i = .int .i64 q ∧ Hid (L = roomEs (o.take q) L1) ∧ -2500000000000000000 ≤ L ∧ L + q ≤ 400 ∧ Bz W0 wr) (fun _ i _ => o.length - (intOf i).toNat)
        case atStart => exact ⟨0, L1, Nat.zero_le _, rfl, rfl, Lib.hid (by rw [List.take_zero, roomEs]), hm1, by omega, Z0⟩
        case round =>
          clear Z0
          obtain ⟨q, L, hq, rfl, rfl, n1, hL1, hL2, zr⟩ := hrel
          obtain ⟨wv, hwv⟩ : ∃ wv, wv = wr := ⟨_, rfl⟩
          subst hwv
          obtain ⟨g0, g1, g2, g3, g4, g5⟩ := HF.out _ zr
          by_cases hc : q < o.length ∧ 0 ≤ L
          · have hi2 : (q : Int) < (no : Int) := by have := HNO.out; omega
            have hi3 : (0 : Int) ≤ L := hc.2
            obtain ⟨x, b, off, cs, hx, rfl, hb, hS, hxv, hrow⟩ := HO.out.at q (by have := HNO.out; omega)
            have HQL := Lib.hid hc.1
            have hmem := List.mem_of_getElem? hx
            have HTX := Lib.hid (HIO.out x hmem wv S cs L (hxv.below (HG.out _ zr)) (by omega) (by omega))
            have hxw := Ex.Wss_at HWS.out.2.2.2 x hmem
            have q1 := roomE_ge x L hxw
            have q2 := roomE_le x L
            obtain ⟨L2, hL2e⟩ : ∃ L2, L2 = roomE x L := ⟨_, rfl⟩
            rw [← hL2e] at HTX q1 q2
            have hr1 : -2500000000000000000 ≤ L2 := by omega
            have hr2 : L2 + ((q + 1 : Nat) : Int) ≤ 400 := by omega
            have HN2 := Lib.hid (show L2 = roomEs (o.take (q + 1)) L1 by rw [hL2e, roomEs_up hx (by rw [← n1.out]; exact hi3), ← n1.out])
            have hrow2 := rangeAt_keep hrow ((HG.out _ zr).block b hb)
            obtain ⟨xk, xn, xs, xm, xa, xo⟩ := x
            obtain ⟨A2, na2, ca2, O2, no2, co2, rfl, -, -⟩ := hxv.open_
            obtain ⟨e0, e1, e2, e3, e4, e5⟩ := exC_at hrow2
            clear hx hb hS hxv hrow hrow2 hc hmem hxw q1 q2 hL2e
            unfold exC at HTX
            go_wp2_with fail
            refine HTX.out.mono ?_
            rintro e wo ⟨rfl, hbo⟩
            have zo := zr.next hbo
            clear hbo HTX e0 e1 e2 e3 e4 e5 g0 g1 g2 g3 g4 g5 zr n1
            go_wp2
            go_roundw
            case rel => exact ⟨q + 1, L2, HQL.out, rfl, by go_num, HN2, hr1, hr2, zo⟩
            case measure => exact meas_up _ _ HQL.out
          · have HR := Lib.hid (show E = L by rw [HE2.out, n1.out]; exact roomEs_end (by have := n1.out; rw [← this]; omega))
            rcases (show ¬ (q : Int) < (no : Int) ∨ ((q : Int) < (no : Int) ∧ ¬ (0 : Int) ≤ L) by have := HNO.out; omega) with hi2 | ⟨hi2, hi3⟩
            · clear hc n1
              go_wp2
              go_ret
              exact ⟨congrArg (fun v => Ending.returned (.int .i64 v)) HR.out.symm, HG.out _ zr⟩
            · clear hc n1
              go_wp2
              go_ret
              exact ⟨congrArg (fun v => Ending.returned (.int .i64 v)) HR.out.symm, HG.out _ zr⟩
      · clear hc n1 hq hL1 hL2
        go_wp2_with fail
        clear g0 g1 g2 g3 g4 g5
        have Z0 := zr
        clear zr
        go_loopw [1, 6] (fun left i wr => ∃ (q : Nat) (L : Int), q ≤ o.length ∧ left = .int .i64 L ∧ i = .int .i64 q ∧ Hid (L = roomEs (o.take q) L1) ∧ -2500000000000000000 ≤ L ∧ L + q ≤ 400 ∧ Bz W0 wr) (fun _ i _ => o.length - (intOf i).toNat)
        case atStart => exact ⟨0, L1, Nat.zero_le _, rfl, rfl, Lib.hid (by rw [List.take_zero, roomEs]), hm1, by omega, Z0⟩
        case round =>
          clear Z0
          obtain ⟨q, L, hq, rfl, rfl, n1, hL1, hL2, zr⟩ := hrel
          obtain ⟨wv, hwv⟩ : ∃ wv, wv = wr := ⟨_, rfl⟩
          subst hwv
          obtain ⟨g0, g1, g2, g3, g4, g5⟩ := HF.out _ zr
          by_cases hc : q < o.length ∧ 0 ≤ L
          · have hi2 : (q : Int) < (no : Int) := by have := HNO.out; omega
            have hi3 : (0 : Int) ≤ L := hc.2
            obtain ⟨x, b, off, cs, hx, rfl, hb, hS, hxv, hrow⟩ := HO.out.at q (by have := HNO.out; omega)
            have HQL := Lib.hid hc.1
            have hmem := List.mem_of_getElem? hx
            have HTX := Lib.hid (HIO.out x hmem wv S cs L (hxv.below (HG.out _ zr)) (by omega) (by omega))
            have hxw := Ex.Wss_at HWS.out.2.2.2 x hmem
            have q1 := roomE_ge x L hxw
            have q2 := roomE_le x L
            obtain ⟨L2, hL2e⟩ : ∃ L2, L2 = roomE x L := ⟨_, rfl⟩
            rw [← hL2e] at HTX q1 q2
            have hr1 : -2500000000000000000 ≤ L2 := by omega
            have hr2 : L2 + ((q + 1 : Nat) : Int) ≤ 400 := by omega
            have HN2 := Lib.hid (show L2 = roomEs (o.take (q + 1)) L1 by rw [hL2e, roomEs_up hx (by rw [← n1.out]; exact hi3), ← n1.out])
            have hrow2 := rangeAt_keep hrow ((HG.out _ zr).block b hb)
            obtain ⟨xk, xn, xs, xm, xa, xo⟩ := x
            obtain ⟨A2, na2, ca2, O2, no2, co2, rfl, -, -⟩ := hxv.open_
            obtain ⟨e0, e1, e2, e3, e4, e5⟩ := exC_at hrow2
            clear hx hb hS hxv hrow hrow2 hc hmem hxw q1 q2 hL2e
            unfold exC at HTX
            go_wp2_with fail
            refine HTX.out.mono ?_
            rintro e wo ⟨rfl, hbo⟩
            have zo := zr.next hbo
            clear hbo HTX e0 e1 e2 e3 e4 e5 g0 g1 g2 g3 g4 g5 zr n1
            go_wp2
            go_roundw
            case rel => exact ⟨q + 1, L2, HQL.out, rfl, by go_num, HN2, hr1, hr2, zo⟩
            case measure => exact meas_up _ _ HQL.out
          · have HR := Lib.hid (show E = L by rw [HE2.out, n1.out]; exact roomEs_end (by have := n1.out; rw [← this]; omega))
            rcases (show ¬ (q : Int) < (no : Int) ∨ ((q : Int) < (no : Int) ∧ ¬ (0 : Int) ≤ L) by have := HNO.out; omega) with hi2 | ⟨hi2, hi3⟩
            · clear hc n1
              go_wp2
              go_ret
              exact ⟨congrArg (fun v => Ending.returned (.int .i64 v)) HR.out.symm, HG.out _ zr⟩
            · clear hc n1
              go_wp2
              go_ret
              exact ⟨congrArg (fun v => Ending.returned (.int .i64 v)) HR.out.symm, HG.out _ zr⟩
theorem roomE_any : ∀ (n : Nat) (e : Ex), e.size ≤ n → e.Ws → RoomE e
  | 0, e, h, _ => by obtain ⟨k, n, s, m, a, o⟩ := e; rw [Ex.size] at h; omega
  | n + 1, .mk k u s m a o, h, hw => by
    rw [Ex.size] at h
    have hw2 := hw
    rw [Ex.Ws] at hw2
    exact roomE_of k u s m a o hw (fun x hx => roomE_any n x (by have := Ex.sizes_mem hx; omega) (Ex.Wss_at hw2.2.2.1 x hx)) (fun x hx => roomE_any n x (by have := Ex.sizes_mem hx; omega) (Ex.Wss_at hw2.2.2.2 x hx))
end Go.Proofs.YthfjkdgaiaokdaaDoor
