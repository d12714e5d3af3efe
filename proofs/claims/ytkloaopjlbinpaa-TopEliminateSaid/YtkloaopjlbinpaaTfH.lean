/- The walk of TopEliminate. No condition. -/
import Derived.Test.YtkloaopjlbinpaaTfI
set_option linter.unusedVariables false
set_option linter.unusedSimpArgs false
namespace Go.Proofs.Ytkloaopjlbinpaa
open Go.RowKit Go.MapKept

set_option maxRecDepth 100000 in
set_option maxHeartbeats 6400000 in
theorem top_big1 (w : World) (A : Option Addr) (n c : Nat) (L : List Opn) (hl : L.length = n) (hA : Reads w (fun _ => True) 3 A n (L.flatMap opC)) (VA : Option Addr) (vn vc : Nat) (V : List Int) (hvl : V.length = vn) (hV : Reads w (fun _ => True) 1 VA vn (V.map (.int .i64))) (hbig : 20 < vn) :
    Calls Try.prog 3 #[.slice VA vn vc, .slice A n c] w fun e w' => e = .returned (.bool true) ∧ Below w.heap.size w w' := by
  have i1 : (20 : Int) < (vn : Int) := by omega
  clear hbig hl hA hvl hV
  go_enter Try.func3, Try.ntmps3
  go_wp2_with fail
  refine (speed_awake _).mono ?_
  rintro e w1 ⟨rfl, hb⟩
  have B1 := Lib.hid hb
  clear hb
  go_wp2_with fail
  go_ret
  exact ⟨rfl, B1.out⟩
set_option maxRecDepth 100000 in
set_option maxHeartbeats 6400000 in
theorem top_big2 (w : World) (A : Option Addr) (n c : Nat) (L : List Opn) (hl : L.length = n) (hA : Reads w (fun _ => True) 3 A n (L.flatMap opC)) (VA : Option Addr) (vn vc : Nat) (V : List Int) (hvl : V.length = vn) (hV : Reads w (fun _ => True) 1 VA vn (V.map (.int .i64))) (hsm : vn ≤ 20) (hbig : 20 < n) :
    Calls Try.prog 3 #[.slice VA vn vc, .slice A n c] w fun e w' => e = .returned (.bool true) ∧ Below w.heap.size w w' := by
  have i1 : ¬ (20 : Int) < (vn : Int) := by omega
  have i2 : (20 : Int) < (n : Int) := by omega
  clear hbig hsm hl hA hvl hV
  go_enter Try.func3, Try.ntmps3
  go_wp2_with fail
  refine (speed_awake _).mono ?_
  rintro e w1 ⟨rfl, hb⟩
  have B1 := Lib.hid hb
  clear hb
  go_wp2_with fail
  go_ret
  exact ⟨rfl, B1.out⟩
theorem fast_any (w : World) (A : Option Addr) (n c : Nat) (L : List Opn) (hl : L.length = n) (hn : n ≤ 20) (hA : Reads w (fun _ => True) 3 A n (L.flatMap opC)) (VA : Option Addr) (vn vc : Nat) (V : List Int) (hvl : V.length = vn) (hvn : vn ≤ 20) (hV : Reads w (fun _ => True) 1 VA vn (V.map (.int .i64))) :
    Calls Try.prog 6 #[.slice VA vn vc, .slice A n c] w fun e w' => ∃ (v1 : Value) (A2 : Option Addr) (c2 : Nat), e = .returned (.tuple #[v1, .slice A2 n c2]) ∧ w'.ownsRow (w.heap.size) 2 1 v1 (runS L V.reverse (rst L n)).length ((runS L V.reverse (rst L n)).reverse.map (.int .i64)) ∧ Reads w' (fun _ => True) 2 A2 n ((fin n (allW L V.reverse)).flatMap ansC) ∧ Below w.heap.size w w' := by
  rcases Nat.eq_zero_or_pos n with h0 | h0
  · exact fast_zero w A n c L hl hn hA VA vn vc V hvl hvn hV h0
  · exact fast_pos w A n c L hl hn hA VA vn vc V hvl hvn hV h0
set_option maxRecDepth 100000 in
set_option maxHeartbeats 6400000 in
theorem top_main (w : World) (A : Option Addr) (n c : Nat) (L : List Opn) (hl : L.length = n) (hA : Reads w (fun _ => True) 3 A n (L.flatMap opC)) (VA : Option Addr) (vn vc : Nat) (V : List Int) (hvl : V.length = vn) (hV : Reads w (fun _ => True) 1 VA vn (V.map (.int .i64))) (hvn : vn ≤ 20) (hn : n ≤ 20) :
    Calls Try.prog 3 #[.slice VA vn vc, .slice A n c] w fun e w' => e = .returned (.bool true) ∧ Below w.heap.size w w' := by
  have HL := Lib.hid hl
  have HN := Lib.hid hn
  have HVL := Lib.hid (And.intro hvl hvn)
  have HV := Lib.hid hV
  have HA := Lib.hid hA
  have i1 : ¬ (20 : Int) < (vn : Int) := by omega
  have i2 : ¬ (20 : Int) < (n : Int) := by omega
  clear hn hvn hl hA hvl hV
  go_enter Try.func3, Try.ntmps3
  go_wp2_with fail
  refine (speed_awake _).mono ?_
  rintro e w1 ⟨rfl, hb⟩
  have B1 := Lib.hid hb
  clear hb
  go_wp2_with fail
  refine (sstack_any w1 VA vn vc V HVL.out.1 HVL.out.2 (HV.out.below B1.out)).mono ?_
  rintro e w2 ⟨nb, nh, g, rfl, hnb, hm, hst, hnh, hf, hb⟩
  have B2 := Lib.hid (B1.out.trans (hb.mono B1.out.size))
  have M2 := Lib.hid hm
  have ST := Lib.hid (And.intro hst (And.intro hnh hf))
  clear hnb hm hst hnh hf hb
  go_wp2_with fail
  refine (fast_any w2 A n c L HL.out HN.out (HA.out.below B2.out) VA vn vc V HVL.out.1 HVL.out.2 (HV.out.below B2.out)).mono ?_
  rintro e w3 ⟨v1, A2, c2, rfl, ho3, hR3, hb3⟩
  obtain ⟨A1, c1, rfl, -, -, -⟩ := own_reads (S := fun _ => True) ho3 (fun _ _ => trivial)
  obtain ⟨ln, hln⟩ : ∃ x, x = (runS L V.reverse (rst L n)).length := ⟨_, rfl⟩
  rw [← hln] at ho3 ⊢
  have LN := Lib.hid hln
  have O3 := Lib.hid ho3
  have R3 := Lib.hid hR3
  have B3 := Lib.hid (B2.out.trans (hb3.mono B2.out.size))
  have M3 := Lib.hid (M2.out.below hb3)
  clear ho3 hR3 hb3 hln M2
  go_wp2_with fail
  refine (order_any w3 A n c L HL.out HN.out (HA.out.below B3.out)).mono ?_
  rintro e w4 ⟨v4, rfl, ho4, hb4⟩
  obtain ⟨A4, c4, rfl, -, -, hR4⟩ := own_reads (S := fun _ => True) ho4 (fun _ _ => trivial)
  obtain ⟨r, hr⟩ : ∃ x, x = (ordL L).length := ⟨_, rfl⟩
  rw [← hr] at hR4 ⊢
  have HR := Lib.hid hr
  have hr7 : (r : Int) ≤ 20 := by have := ord_len L; have := HL.out; omega
  have R4 := Lib.hid hR4
  have B4 := Lib.hid (B3.out.trans (hb4.mono B3.out.size))
  have M4 := Lib.hid (M3.out.below hb4)
  have RA4 := Lib.hid (R3.out.below hb4)
  have O4 := Lib.hid (own_kx O3.out (KX.of_below (X := fun _ => False) hb4) (fun _ _ h => h))
  clear ho4 hb4 hR4 hr M3 R3 O3
  go_wp2_with fail
  go_loopw [9, 60] (fun v9 v60 wr => ∃ (k nb1 nh1 : Nat) (g1 : Mem), v9 = .map (some nb1) ∧ v60 = .int .i64 k ∧ k ≤ r ∧ IntMap wr nb1 g1.at ∧ StkI g1.val (runS L V.reverse ((ordL L).take k)) nh1 ∧ nh1 ≤ 20 + k ∧ g1.Fits (1 + (k : Int)) ∧ Below w4.heap.size w4 wr) (fun _ v60 _ => r - (intOf v60).toNat)
  case atStart => exact ⟨0, nb, nh, g, rfl, rfl, Nat.zero_le _, M4.out, ST.out.1, by have := ST.out.2.1; have := HVL.out; omega, ST.out.2.2, Below.refl _ _⟩
  case round =>
    obtain ⟨k, nb1, nh1, g1, rfl, rfl, hk, hm, hst, hnh, hf, hb⟩ := hrel
    have MK := Lib.hid hm
    have SK := Lib.hid (And.intro hst (And.intro hnh hf))
    have BK := Lib.hid hb
    have LK := Lib.hid hk
    clear hm hst hnh hf hb hk
    by_cases hlt : k < r
    · have hi3 : (k : Int) < (r : Int) := by omega
      obtain ⟨i, hi⟩ : ∃ i, (ordL L)[k]? = some i := ⟨_, List.getElem?_eq_getElem (by have := HR.out; omega)⟩
      have hin := ord_lt (List.mem_of_getElem? hi)
      rw [HL.out] at hin
      have hq9 : (i : Int) < (n : Int) := by omega
      have RS := run_step L V.reverse (ordL L) k i hi
      have AN := ans_at (l := V.reverse) hi RS.1
      rw [HL.out] at AN
      have RS2 := Lib.hid RS.2.1
      have HAN := Lib.hid AN
      obtain ⟨s, hs⟩ : ∃ s, s = runS L V.reverse ((ordL L).take k) := ⟨_, rfl⟩
      rw [← hs] at RS2 HAN SK
      clear RS AN hs
      have HII := Lib.hid hi
      have HIN := Lib.hid hin
      obtain ⟨b2, q2, rfl, hb2, d2⟩ := nat_cell R4.out hlt hi
      have e2 : wr.cell? ⟨b2, q2 + k, none⟩ = some (.int .i64 i) := (BK.out.cell (p := ⟨b2, q2 + k, none⟩) hb2).trans d2
      obtain ⟨b, q, rfl, hbl, z0, z1, z2⟩ := op_cells ((HA.out.below B4.out).below BK.out) (j := i) hin HL.out
      have HLT := Lib.hid hlt
      clear hi hin hb2 d2 hbl hlt
      go_wp2_with fail
      refine (sdone_any wr nb1 g1 MK.out (fun x hx => ⟨(SK.out.2.2 x hx).1, Int.le_trans (SK.out.2.2 x hx).2 (by have := LK.out; omega)⟩) (oT L i) (oV L i) (oP L i) _ nh1 SK.out.1 (by have := SK.out.2.1; have := LK.out; omega)).mono ?_
      rintro e w5 ⟨nb5, nh5, g5, rfl, hnb, hm, hst, hnh, hf, hb5⟩
      have M5 := Lib.hid hm
      have S5 := Lib.hid (show StkI g5.val (runS L V.reverse ((ordL L).take (k + 1))) nh5 from by rw [RS2.out]; exact hst)
      have F5 := Lib.hid (And.intro (show nh5 ≤ 20 + (k + 1) from by have := SK.out.2.1; omega) (show g5.Fits (1 + ((k + 1 : Nat) : Int)) from by
        have := hf _ SK.out.2.2
        rw [show (1 + ((k + 1 : Nat) : Int)) = 1 + (k : Int) + 1 by omega]
        exact this))
      have B5 := Lib.hid (BK.out.trans (hb5.mono BK.out.size))
      obtain ⟨W6, hW6⟩ : ∃ W, W = w5.alloc (.cells #[.int .i64 (stE (oP L i) s), .int .i64 (stV (oP L i) (oV L i) s)] 36) := ⟨_, rfl⟩
      have b6 : Below w5.heap.size w5 W6 := by rw [hW6]; exact below_alloc _ _
      have h6 : HB 36 W6 w5.heap.size #[.int .i64 (stE (oP L i) s), .int .i64 (stV (oP L i) (oV L i) s)] := by rw [hW6]; exact HB.new _ _ _
      have B6 := Lib.hid (B5.out.trans (b6.mono B5.out.size))
      have M6 := Lib.hid (M5.out.below b6)
      have c0 : W6.cell? ⟨w5.heap.size, 0, none⟩ = some (.int .i64 (stE (oP L i) s)) := h6.cell 0
      have c1 : W6.cell? ⟨w5.heap.size, 1, none⟩ = some (.int .i64 (stV (oP L i) (oV L i) s)) := h6.cell 1
      obtain ⟨a, o, rfl, -, -, hc⟩ := (RA4.out.below B6.out).2 (by have := HIN.out; omega)
      have y0 : W6.cell? ⟨a, o + i * 2, none⟩ = some (.int .i64 (stE (oP L i) s)) := hc (i * 2 + 0) _ (flat_get 2 ansC (fun _ => rfl) _ i _ HAN.out 0 (by omega))
      have y1 : W6.cell? ⟨a, o + i * 2 + 1, none⟩ = some (.int .i64 (stV (oP L i) (oV L i) s)) := by
        have := hc (i * 2 + 1) _ (flat_get 2 ansC (fun _ => rfl) _ i _ HAN.out 1 (by omega))
        rw [← Nat.add_assoc] at this
        exact this
      clear hnb hm hst hnh hf hb5 b6 h6 hc MK SK BK z0 z1 z2 e2 M5 B5
      go_upto_region 18 with fail
      rw [← hW6]
      clear hW6
      have heq := ans_eqv (stE (oP L i) s) (stV (oP L i) (oV L i) s)
      obtain ⟨x0, hx0⟩ : ∃ x, x = stE (oP L i) s := ⟨_, rfl⟩
      obtain ⟨x1, hx1⟩ : ∃ x, x = stV (oP L i) (oV L i) s := ⟨_, rfl⟩
      rw [← hx0, ← hx1] at heq ⊢
      rw [← hx0] at c0 y0
      rw [← hx1] at c1 y1
      clear hx0 hx1
      go_region
      all_goals
        go_wp2_with fail
        go_roundw
        case rel => exact ⟨k + 1, _, _, _, rfl, by go_num, HLT.out, M6.out, S5.out, F5.out.1, F5.out.2, B6.out.drew⟩
        case measure =>
          have := HLT.out
          show r - ((k + 1 : Nat) : Int).toNat < r - (k : Int).toNat
          omega
    · have hi3 : ¬ (k : Int) < (r : Int) := by omega
      obtain ⟨wo, hwo⟩ : ∃ x, x = wr := ⟨_, rfl⟩
      subst hwo
      have TK := Lib.hid (show (ordL L).take k = ordL L from List.take_of_length_le (by have := LK.out; have := HR.out; omega))
      have S1 := Lib.hid (show StkI g1.val (runS L V.reverse (rst L n)) nh1 from by have := SK.out.1; rw [TK.out, runS_ord, HL.out] at this; exact this)
      have F1 := Lib.hid (show g1.Fits 4294967294 from fun x hx => ⟨(SK.out.2.2 x hx).1, Int.le_trans (SK.out.2.2 x hx).2 (by have := LK.out; omega)⟩)
      clear hlt TK
      go_wp2_with fail
      refine (pairs_any wo A n c L HL.out HN.out ((HA.out.below B4.out).below BK.out)).mono ?_
      rintro e w7 ⟨v5, v6, rfl, h5, h6, hb5⟩
      obtain ⟨A5, c5, rfl, -, -, -⟩ := own_reads (S := fun _ => True) h5 (fun _ _ => trivial)
      obtain ⟨A6, c6, rfl, -, -, hR6⟩ := own_reads (S := fun _ => True) h6 (fun _ _ => trivial)
      obtain ⟨rr, hrr⟩ : ∃ x, x = (rst L n).length := ⟨_, rfl⟩
      rw [← hrr] at hR6 ⊢
      have HRR := Lib.hid hrr
      have hrr7 : (rr : Int) ≤ 20 := by have := rst_len L n; have := HN.out; omega
      have R6 := Lib.hid hR6
      have MO := Lib.hid (MK.out.below hb5)
      have hb47 : Below w4.heap.size w4 w7 := BK.out.trans (hb5.mono BK.out.size)
      have M7 := Lib.hid (M4.out.below hb47)
      have RA7 := Lib.hid (RA4.out.below hb47)
      have O7 := Lib.hid (own_kx O4.out (KX.of_below (X := fun _ => False) hb47) (fun _ _ h => h))
      have B7 := Lib.hid (B4.out.trans (hb47.mono B4.out.size))
      clear h5 h6 hR6 hb5 hrr MK BK hb47 O4 RA4 R4 M4 B4 SK LK
      go_wp2_with fail
      go_loopw [17, 102] (fun v17 v102 wr => ∃ (k nb1 nh1 : Nat) (g1 : Mem), v17 = .map (some nb1) ∧ v102 = .int .i64 k ∧ k ≤ rr ∧ IntMap wr nb1 g1.at ∧ StkI g1.val (runS L V.reverse ((rst L n).take k)) nh1 ∧ nh1 ≤ 20 + k ∧ g1.Fits (1 + (k : Int)) ∧ Below w7.heap.size w7 wr) (fun _ v102 _ => rr - (intOf v102).toNat)
      case atStart => exact ⟨0, nb, nh, g, rfl, rfl, Nat.zero_le _, M7.out, ST.out.1, by have := ST.out.2.1; have := HVL.out; omega, ST.out.2.2, Below.refl _ _⟩
      case round =>
        obtain ⟨k, nb2, nh2, g2, rfl, rfl, hk, hm, hst, hnh, hf, hb⟩ := hrel
        have MK := Lib.hid hm
        have SK := Lib.hid (And.intro hst (And.intro hnh hf))
        have BK := Lib.hid hb
        have LK := Lib.hid hk
        clear hm hst hnh hf hb hk
        by_cases hlt : k < rr
        · have hi3 : (k : Int) < (rr : Int) := by omega
          obtain ⟨i, hi⟩ : ∃ i, (rst L n)[k]? = some i := ⟨_, List.getElem?_eq_getElem (by have := HRR.out; omega)⟩
          have hin := rst_get (List.mem_of_getElem? hi)
          have hq9 : (i : Int) < (n : Int) := by omega
          have RS := run_step L V.reverse (rst L n) k i hi
          have AN := ans_rest (L := L) (l := V.reverse) (k := k) (i := i) (by rw [HL.out]; exact hi) (by rw [HL.out]; exact RS.1)
          rw [HL.out] at AN
          have RS2 := Lib.hid RS.2.1
          have HAN := Lib.hid AN
          obtain ⟨s, hs⟩ : ∃ s, s = runS L V.reverse ((rst L n).take k) := ⟨_, rfl⟩
          rw [← hs] at RS2 HAN SK
          clear RS AN hs
          have HII := Lib.hid hi
          have HIN := Lib.hid hin
          obtain ⟨b2, q2, rfl, hb2, d2⟩ := nat_cell R6.out hlt hi
          have e2 : wr.cell? ⟨b2, q2 + k, none⟩ = some (.int .i64 i) := (BK.out.cell (p := ⟨b2, q2 + k, none⟩) hb2).trans d2
          obtain ⟨b, q, rfl, hbl, z0, z1, z2⟩ := op_cells ((HA.out.below B7.out).below BK.out) (j := i) hin HL.out
          have HLT := Lib.hid hlt
          clear hi hin hb2 d2 hbl hlt
          go_wp2_with fail
          refine (sdone_any wr nb2 g2 MK.out (fun x hx => ⟨(SK.out.2.2 x hx).1, Int.le_trans (SK.out.2.2 x hx).2 (by have := LK.out; omega)⟩) (oT L i) (oV L i) (oP L i) _ nh2 SK.out.1 (by have := SK.out.2.1; have := LK.out; omega)).mono ?_
          rintro e w5 ⟨nb5, nh5, g5, rfl, hnb, hm, hst, hnh, hf, hb5⟩
          have M5 := Lib.hid hm
          have S5 := Lib.hid (show StkI g5.val (runS L V.reverse ((rst L n).take (k + 1))) nh5 from by rw [RS2.out]; exact hst)
          have F5 := Lib.hid (And.intro (show nh5 ≤ 20 + (k + 1) from by have := SK.out.2.1; omega) (show g5.Fits (1 + ((k + 1 : Nat) : Int)) from by
            have := hf _ SK.out.2.2
            rw [show (1 + ((k + 1 : Nat) : Int)) = 1 + (k : Int) + 1 by omega]
            exact this))
          have B5 := Lib.hid (BK.out.trans (hb5.mono BK.out.size))
          obtain ⟨W6, hW6⟩ : ∃ W, W = w5.alloc (.cells #[.int .i64 (stE (oP L i) s), .int .i64 (stV (oP L i) (oV L i) s)] 36) := ⟨_, rfl⟩
          have b6 : Below w5.heap.size w5 W6 := by rw [hW6]; exact below_alloc _ _
          have h6 : HB 36 W6 w5.heap.size #[.int .i64 (stE (oP L i) s), .int .i64 (stV (oP L i) (oV L i) s)] := by rw [hW6]; exact HB.new _ _ _
          have B6 := Lib.hid (B5.out.trans (b6.mono B5.out.size))
          have M6 := Lib.hid (M5.out.below b6)
          have c0 : W6.cell? ⟨w5.heap.size, 0, none⟩ = some (.int .i64 (stE (oP L i) s)) := h6.cell 0
          have c1 : W6.cell? ⟨w5.heap.size, 1, none⟩ = some (.int .i64 (stV (oP L i) (oV L i) s)) := h6.cell 1
          obtain ⟨a, o, rfl, -, -, hc⟩ := (RA7.out.below B6.out).2 (by have := HIN.out; omega)
          have y0 : W6.cell? ⟨a, o + i * 2, none⟩ = some (.int .i64 (stE (oP L i) s)) := hc (i * 2 + 0) _ (flat_get 2 ansC (fun _ => rfl) _ i _ HAN.out 0 (by omega))
          have y1 : W6.cell? ⟨a, o + i * 2 + 1, none⟩ = some (.int .i64 (stV (oP L i) (oV L i) s)) := by
            have := hc (i * 2 + 1) _ (flat_get 2 ansC (fun _ => rfl) _ i _ HAN.out 1 (by omega))
            rw [← Nat.add_assoc] at this
            exact this
          clear hnb hm hst hnh hf hb5 b6 h6 hc MK SK BK z0 z1 z2 e2 M5 B5
          go_upto_region 30 with fail
          rw [← hW6]
          clear hW6
          have heq := ans_eqv (stE (oP L i) s) (stV (oP L i) (oV L i) s)
          obtain ⟨x0, hx0⟩ : ∃ x, x = stE (oP L i) s := ⟨_, rfl⟩
          obtain ⟨x1, hx1⟩ : ∃ x, x = stV (oP L i) (oV L i) s := ⟨_, rfl⟩
          rw [← hx0, ← hx1] at heq ⊢
          rw [← hx0] at c0 y0
          rw [← hx1] at c1 y1
          clear hx0 hx1
          go_region
          all_goals
            go_wp2_with fail
            go_roundw
            case rel => exact ⟨k + 1, _, _, _, rfl, by go_num, HLT.out, M6.out, S5.out, F5.out.1, F5.out.2, B6.out.drew⟩
            case measure =>
              have := HLT.out
              show rr - ((k + 1 : Nat) : Int).toNat < rr - (k : Int).toNat
              omega
        · have hi3 : ¬ (k : Int) < (rr : Int) := by omega
          obtain ⟨wp, hwp⟩ : ∃ x, x = wr := ⟨_, rfl⟩
          subst hwp
          have TK := Lib.hid (show (rst L n).take k = rst L n from List.take_of_length_le (by have := LK.out; have := HRR.out; omega))
          have S2 := Lib.hid (show StkI g2.val (runS L V.reverse (rst L n)) nh2 from by have := SK.out.1; rw [TK.out] at this; exact this)
          have F2 := Lib.hid (show g2.Fits 4294967294 from fun x hx => ⟨(SK.out.2.2 x hx).1, Int.le_trans (SK.out.2.2 x hx).2 (by have := LK.out; omega)⟩)
          clear hlt TK
          go_wp2_with fail
          refine (root_any _).mono ?_
          rintro e w8 ⟨rfl, hb8⟩
          have hf1 : ∀ (x y : Value) (W : World), (Instr.field 46 (.agg #[x, y]) 1).run Try.prog W = .ok y W := fun _ _ _ => by kernel_rfl
          obtain ⟨W9, hW9⟩ : ∃ W, W = (w8.alloc (.cells #[.int .i64 16] 44)).alloc (.cells #[.map (some nb1), .map (some nb2)] 26) := ⟨_, rfl⟩
          have e89 : (w8.alloc (.cells #[.int .i64 16] 44)).heap.size = w8.heap.size + 1 := World.size_alloc ..
          have b89 : Below w8.heap.size w8 W9 := by rw [hW9]; exact (below_alloc _ _).alloc (by rw [e89]; omega) _
          have RB := Lib.hid (show HB 44 W9 w8.heap.size #[.int .i64 16] from by rw [hW9]; exact (HB.new _ _ _).below (below_alloc _ _))
          have LB := Lib.hid (show HB 26 W9 (w8.heap.size + 1) #[.map (some nb1), .map (some nb2)] from by rw [hW9, ← e89]; exact HB.new _ _ _)
          have b79 : Below w7.heap.size w7 W9 := BK.out.trans ((hb8.trans (b89.mono hb8.size)).mono BK.out.size)
          have MO9 := Lib.hid (MO.out.below b79)
          have MK9 := Lib.hid (MK.out.below (hb8.trans (b89.mono hb8.size)))
          have O9 := Lib.hid (own_kx O7.out (KX.of_below (X := fun _ => False) b79) (fun _ _ h => h))
          have B9 := Lib.hid (B7.out.trans (b79.mono B7.out.size))
          clear b79 b89 e89 hb8 MO MK O7 B7 BK SK LK
          go_upto_region 36 with fail
          rw [← hW9]
          clear hW9 hf1
          go_loopw [142] (fun v142 wr => ∃ j : Nat, v142 = .int .i64 j ∧ j ≤ 2 ∧ Below W9.heap.size W9 wr) (fun v142 _ => 2 - (intOf v142).toNat)
          case atStart => exact ⟨0, rfl, Nat.zero_le _, Below.refl _ _⟩
          case round =>
            obtain ⟨j, rfl, hj, hb⟩ := hrel
            have BR := Lib.hid hb
            clear hb
            match j, hj with
            | 0, _ =>
              have d0 : wr.cell? ⟨w8.heap.size + 1, 0, none⟩ = some (.map (some nb1)) := (LB.out.below BR.out).cell 0
              have d1 : wr.cell? ⟨w8.heap.size + 1, 1, none⟩ = some (.map (some nb2)) := (LB.out.below BR.out).cell 1
              obtain ⟨W10, hW10⟩ : ∃ W, W = (wr.alloc (.cells #[.slice none 0 0] 22)).alloc (.cells #[.int .i64 0] 34) := ⟨_, rfl⟩
              have e10 : (wr.alloc (.cells #[.slice none 0 0] 22)).heap.size = wr.heap.size + 1 := World.size_alloc ..
              have z10 : W10.heap.size = wr.heap.size + 2 := by rw [hW10, World.size_alloc, e10]
              have b10 : Below wr.heap.size wr W10 := by rw [hW10]; exact (below_alloc _ _).alloc (by rw [e10]; omega) _
              have VB := Lib.hid (show HB 22 W10 wr.heap.size #[.slice none 0 0] from by rw [hW10]; exact (HB.new _ _ _).below (below_alloc _ _))
              have EB := Lib.hid (show HB 34 W10 (wr.heap.size + 1) #[.int .i64 0] from by rw [hW10, ← e10]; exact HB.new _ _ _)
              have B10 := Lib.hid (BR.out.trans (b10.mono BR.out.size))
              have Z10 := Lib.hid z10
              clear e10 b10 z10
              go_upto_region 40 with fail
              rw [← hW10]
              clear hW10 d0 d1
              have q1 := RB.out.lt
              have q2 := BR.out.size
              have q3 := MO9.out.lt
              have q4 := RB.out.lt
              have q5 := Z10.out
              have Q1 := Lib.hid (show w8.heap.size ≠ wr.heap.size ∧ w8.heap.size ≠ wr.heap.size + 1 ∧ wr.heap.size ≠ wr.heap.size + 1 ∧ nb1 ≠ wr.heap.size ∧ nb1 < W10.heap.size ∧ w8.heap.size < W10.heap.size by omega)
              have Q2 := Lib.hid (show wr.heap.size < W10.heap.size ∧ wr.heap.size + 1 < W10.heap.size ∧ W9.heap.size ≤ wr.heap.size by omega)
              clear q1 q2 q3 q4 q5
              obtain ⟨l0, hl0⟩ : ∃ x, x = runS L V.reverse (rst L n) := ⟨_, rfl⟩
              have S0 := Lib.hid (show StkI g1.val l0 nh1 from by rw [hl0]; exact S1.out)
              have L0 := Lib.hid (show ln = l0.length from by rw [hl0]; exact LN.out)
              have O0 := Lib.hid (show W9.ownsRow w2.heap.size 2 1 (.slice A1 ln c1) ln (l0.reverse.map (.int .i64)) from by rw [hl0]; exact O9.out)
              have hs20 : l0.length ≤ 128 := by have := S0.out.len; omega
              have LL := Lib.hid hs20
              clear hl0 hs20
              go_wp2_with fail
              refine (walk_done W10 nb1 w8.heap.size wr.heap.size (wr.heap.size + 1) g1 l0 nh1 (MO9.out.below B10.out) F1.out S0.out (RB.out.below B10.out) VB.out EB.out Q1.out.1 Q1.out.2.1 Q1.out.2.2.1 Q1.out.2.2.2.1).mono ?_
              rintro e w11 ⟨nb', ev, v, rfl, k7, k8, ho, hk⟩
              rw [← L0.out] at ho
              obtain ⟨A11, c11, rfl, -, -, -⟩ := own_reads (S := fun _ => True) ho (fun _ _ => trivial)
              have HO := Lib.hid ho
              have KV := Lib.hid k7
              have KE := Lib.hid k8
              have KM := Lib.hid ((MO9.out.below B10.out).keep (hk.block _ Q1.out.2.2.2.2.1 (by rintro (h | h); exact Q1.out.2.2.2.1 h; have := Q1.out.2.2.2.2.1; omega)))
              have KR := Lib.hid ((RB.out.below B10.out).kx hk (by rintro (h | h); exact Q1.out.1 h; have := Q1.out.2.2.2.2.2; omega))
              have OF := Lib.hid (own_kx (own_kx O0.out (KX.of_below (X := fun _ => False) B10.out) (fun _ _ h => h)) hk (fun b hb h => by
                have q := (O0.out.lt b hb).2
                have := Q2.out
                rcases h with h | h <;> omega))
              have BK := Lib.hid (show Below W9.heap.size W9 w11 from B10.out.trans (hk.below (by have := Q2.out; omega) (by
                intro b hb h
                have := Q2.out
                rcases h with h | h <;> omega)))
              have hv0 : w11.cell? ⟨wr.heap.size, 0, none⟩ = some (.slice A11 ln c11) := k7.cell 0
              clear ho k7 k8 hk VB EB
              go_wp2_with fail
              refine (rev_own (v := .slice A11 ln c11) (l := l0) (by rw [← L0.out]; exact HO.out) (by have := LL.out; omega)).mono ?_
              rintro e w12 ⟨rfl, ho, hg⟩
              rw [← L0.out] at ho
              have hkx := KX.of_grown (X := fun b => (Value.slice A11 ln c11).ownBlock = some b) hg (fun _ h => h)
              have hlo : ∀ b, (Value.slice A11 ln c11).ownBlock = some b → W10.heap.size ≤ b := fun b hb => (HO.out.lt b hb).1
              have hv0 : w12.cell? ⟨wr.heap.size, 0, none⟩ = some (.slice A11 ln c11) := (KV.out.kx hkx (fun h => by have := hlo _ h; have := Q2.out; omega)).cell 0
              have he0 : w12.cell? ⟨wr.heap.size + 1, 0, none⟩ = some (.int .i64 0) := (KE.out.kx hkx (fun h => by have := hlo _ h; have := Q2.out; omega)).cell 0
              have KM2 := Lib.hid (KM.out.keep (hkx.block _ (by have := KM.out.lt; omega) (fun h => by have := hlo _ h; have := Q1.out; omega)))
              have KR2 := Lib.hid (KR.out.kx hkx (fun h => by have := hlo _ h; have := Q1.out; omega))
              have hr0 : w12.cell? ⟨w8.heap.size, 0, none⟩ = some (.int .i64 16) := KR2.out.cell 0
              have OF2 := Lib.hid (own_kx OF.out hkx (fun b hb h => by
                have q := (O0.out.lt b hb).2
                have := hlo _ h
                have := Q2.out
                omega))
              have BK2 := Lib.hid (BK.out.trans (hkx.below BK.out.size (fun b hb h => by have := hlo _ h; have := Q2.out; omega)))
              have HO2 := Lib.hid ho
              have HK23 := Lib.hid (show g1.at 23 = some (.agg #[.int .i64 (ln : Int), .int .u32 (g1.ver 23), .int .u32 0]) from by
                obtain ⟨ns, fs, hs⟩ := S0.out
                have := hs.held
                unfold Mem.at
                rw [if_pos (by decide), this, L0.out]
                rfl)
              clear ho hg hkx hlo HO KV KE KM KR OF BK
              go_wp2_with fail
              refine (equal_same w12 A11 A1 ln c11 c1 l0.reverse (by rw [List.length_reverse]; exact L0.out.symm) (by have := LL.out; have := L0.out; omega) (.of_own HO2.out (fun _ _ => trivial)) (.of_own OF2.out (fun _ _ => trivial))).mono ?_
              rintro e w13 ⟨rfl, q, hq⟩
              have hr13 : w13.cell? ⟨w8.heap.size, 0, none⟩ = some (.int .i64 16) := by rw [hq]; exact hr0
              have BK3 := Lib.hid (show Below W9.heap.size W9 w13 from by rw [hq]; exact below_drewN BK2.out q)
              have hW : IntMap w13 nb1 g1.at := by rw [hq]; exact KM2.out.keep rfl
              have hlk : (Instr.lookup 26 (.map (some nb1)) (.int .i64 23) false).run Try.prog w13 = .ok (.agg #[.int .i64 (ln : Int), .int .u32 (g1.ver 23), .int .u32 0]) w13 := by
                have e := IsMap.look (P := Try.prog) (S := fun _ => True) (T := 26) (K := 44) (E := 63) (.inr ⟨nb1, rfl, trivial, IntMap.lt hW, hW⟩) Try.underlying26 Try.underlying44 word_zero 23 false
                rw [if_neg (by simp), HK23.out] at e
                exact e
              have hf3 : ∀ (x y z : Value) (W : World), (Instr.field 63 (.agg #[x, y, z]) 0).run Try.prog W = .ok x W := fun _ _ _ _ => by kernel_rfl
              clear hq hW hr0 hv0 he0
              go_wp2_with fail
              go_roundw
              case rel => exact ⟨1, by go_num, by omega, BK3.out⟩
              case measure =>
                show 2 - ((1 : Nat) : Int).toNat < 2 - ((0 : Nat) : Int).toNat
                omega
            | 1, _ =>
              have d0 : wr.cell? ⟨w8.heap.size + 1, 0, none⟩ = some (.map (some nb1)) := (LB.out.below BR.out).cell 0
              have d1 : wr.cell? ⟨w8.heap.size + 1, 1, none⟩ = some (.map (some nb2)) := (LB.out.below BR.out).cell 1
              obtain ⟨W10, hW10⟩ : ∃ W, W = (wr.alloc (.cells #[.slice none 0 0] 22)).alloc (.cells #[.int .i64 0] 34) := ⟨_, rfl⟩
              have e10 : (wr.alloc (.cells #[.slice none 0 0] 22)).heap.size = wr.heap.size + 1 := World.size_alloc ..
              have z10 : W10.heap.size = wr.heap.size + 2 := by rw [hW10, World.size_alloc, e10]
              have b10 : Below wr.heap.size wr W10 := by rw [hW10]; exact (below_alloc _ _).alloc (by rw [e10]; omega) _
              have VB := Lib.hid (show HB 22 W10 wr.heap.size #[.slice none 0 0] from by rw [hW10]; exact (HB.new _ _ _).below (below_alloc _ _))
              have EB := Lib.hid (show HB 34 W10 (wr.heap.size + 1) #[.int .i64 0] from by rw [hW10, ← e10]; exact HB.new _ _ _)
              have B10 := Lib.hid (BR.out.trans (b10.mono BR.out.size))
              have Z10 := Lib.hid z10
              clear e10 b10 z10
              go_upto_region 40 with fail
              rw [← hW10]
              clear hW10 d0 d1
              have q1 := RB.out.lt
              have q2 := BR.out.size
              have q3 := MK9.out.lt
              have q4 := RB.out.lt
              have q5 := Z10.out
              have Q1 := Lib.hid (show w8.heap.size ≠ wr.heap.size ∧ w8.heap.size ≠ wr.heap.size + 1 ∧ wr.heap.size ≠ wr.heap.size + 1 ∧ nb2 ≠ wr.heap.size ∧ nb2 < W10.heap.size ∧ w8.heap.size < W10.heap.size by omega)
              have Q2 := Lib.hid (show wr.heap.size < W10.heap.size ∧ wr.heap.size + 1 < W10.heap.size ∧ W9.heap.size ≤ wr.heap.size by omega)
              clear q1 q2 q3 q4 q5
              obtain ⟨l0, hl0⟩ : ∃ x, x = runS L V.reverse (rst L n) := ⟨_, rfl⟩
              have S0 := Lib.hid (show StkI g2.val l0 nh2 from by rw [hl0]; exact S2.out)
              have L0 := Lib.hid (show ln = l0.length from by rw [hl0]; exact LN.out)
              have O0 := Lib.hid (show W9.ownsRow w2.heap.size 2 1 (.slice A1 ln c1) ln (l0.reverse.map (.int .i64)) from by rw [hl0]; exact O9.out)
              have hs20 : l0.length ≤ 128 := by have := S0.out.len; omega
              have LL := Lib.hid hs20
              clear hl0 hs20
              go_wp2_with fail
              refine (walk_done W10 nb2 w8.heap.size wr.heap.size (wr.heap.size + 1) g2 l0 nh2 (MK9.out.below B10.out) F2.out S0.out (RB.out.below B10.out) VB.out EB.out Q1.out.1 Q1.out.2.1 Q1.out.2.2.1 Q1.out.2.2.2.1).mono ?_
              rintro e w11 ⟨nb', ev, v, rfl, k7, k8, ho, hk⟩
              rw [← L0.out] at ho
              obtain ⟨A11, c11, rfl, -, -, -⟩ := own_reads (S := fun _ => True) ho (fun _ _ => trivial)
              have HO := Lib.hid ho
              have KV := Lib.hid k7
              have KE := Lib.hid k8
              have KM := Lib.hid ((MK9.out.below B10.out).keep (hk.block _ Q1.out.2.2.2.2.1 (by rintro (h | h); exact Q1.out.2.2.2.1 h; have := Q1.out.2.2.2.2.1; omega)))
              have KR := Lib.hid ((RB.out.below B10.out).kx hk (by rintro (h | h); exact Q1.out.1 h; have := Q1.out.2.2.2.2.2; omega))
              have OF := Lib.hid (own_kx (own_kx O0.out (KX.of_below (X := fun _ => False) B10.out) (fun _ _ h => h)) hk (fun b hb h => by
                have q := (O0.out.lt b hb).2
                have := Q2.out
                rcases h with h | h <;> omega))
              have BK := Lib.hid (show Below W9.heap.size W9 w11 from B10.out.trans (hk.below (by have := Q2.out; omega) (by
                intro b hb h
                have := Q2.out
                rcases h with h | h <;> omega)))
              have hv0 : w11.cell? ⟨wr.heap.size, 0, none⟩ = some (.slice A11 ln c11) := k7.cell 0
              clear ho k7 k8 hk VB EB
              go_wp2_with fail
              refine (rev_own (v := .slice A11 ln c11) (l := l0) (by rw [← L0.out]; exact HO.out) (by have := LL.out; omega)).mono ?_
              rintro e w12 ⟨rfl, ho, hg⟩
              rw [← L0.out] at ho
              have hkx := KX.of_grown (X := fun b => (Value.slice A11 ln c11).ownBlock = some b) hg (fun _ h => h)
              have hlo : ∀ b, (Value.slice A11 ln c11).ownBlock = some b → W10.heap.size ≤ b := fun b hb => (HO.out.lt b hb).1
              have hv0 : w12.cell? ⟨wr.heap.size, 0, none⟩ = some (.slice A11 ln c11) := (KV.out.kx hkx (fun h => by have := hlo _ h; have := Q2.out; omega)).cell 0
              have he0 : w12.cell? ⟨wr.heap.size + 1, 0, none⟩ = some (.int .i64 0) := (KE.out.kx hkx (fun h => by have := hlo _ h; have := Q2.out; omega)).cell 0
              have KM2 := Lib.hid (KM.out.keep (hkx.block _ (by have := KM.out.lt; omega) (fun h => by have := hlo _ h; have := Q1.out; omega)))
              have KR2 := Lib.hid (KR.out.kx hkx (fun h => by have := hlo _ h; have := Q1.out; omega))
              have hr0 : w12.cell? ⟨w8.heap.size, 0, none⟩ = some (.int .i64 16) := KR2.out.cell 0
              have OF2 := Lib.hid (own_kx OF.out hkx (fun b hb h => by
                have q := (O0.out.lt b hb).2
                have := hlo _ h
                have := Q2.out
                omega))
              have BK2 := Lib.hid (BK.out.trans (hkx.below BK.out.size (fun b hb h => by have := hlo _ h; have := Q2.out; omega)))
              have HO2 := Lib.hid ho
              have HK23 := Lib.hid (show g2.at 23 = some (.agg #[.int .i64 (ln : Int), .int .u32 (g2.ver 23), .int .u32 0]) from by
                obtain ⟨ns, fs, hs⟩ := S0.out
                have := hs.held
                unfold Mem.at
                rw [if_pos (by decide), this, L0.out]
                rfl)
              clear ho hg hkx hlo HO KV KE KM KR OF BK
              go_wp2_with fail
              refine (equal_same w12 A11 A1 ln c11 c1 l0.reverse (by rw [List.length_reverse]; exact L0.out.symm) (by have := LL.out; have := L0.out; omega) (.of_own HO2.out (fun _ _ => trivial)) (.of_own OF2.out (fun _ _ => trivial))).mono ?_
              rintro e w13 ⟨rfl, q, hq⟩
              have hr13 : w13.cell? ⟨w8.heap.size, 0, none⟩ = some (.int .i64 16) := by rw [hq]; exact hr0
              have BK3 := Lib.hid (show Below W9.heap.size W9 w13 from by rw [hq]; exact below_drewN BK2.out q)
              have hW : IntMap w13 nb2 g2.at := by rw [hq]; exact KM2.out.keep rfl
              have hlk : (Instr.lookup 26 (.map (some nb2)) (.int .i64 23) false).run Try.prog w13 = .ok (.agg #[.int .i64 (ln : Int), .int .u32 (g2.ver 23), .int .u32 0]) w13 := by
                have e := IsMap.look (P := Try.prog) (S := fun _ => True) (T := 26) (K := 44) (E := 63) (.inr ⟨nb2, rfl, trivial, IntMap.lt hW, hW⟩) Try.underlying26 Try.underlying44 word_zero 23 false
                rw [if_neg (by simp), HK23.out] at e
                exact e
              have hf3 : ∀ (x y z : Value) (W : World), (Instr.field 63 (.agg #[x, y, z]) 0).run Try.prog W = .ok x W := fun _ _ _ _ => by kernel_rfl
              clear hq hW hr0 hv0 he0
              go_wp2_with fail
              go_roundw
              case rel => exact ⟨2, by go_num, by omega, BK3.out⟩
              case measure =>
                show 2 - ((2 : Nat) : Int).toNat < 2 - ((1 : Nat) : Int).toNat
                omega
            | 2, _ =>
              go_wp2_with fail
              go_ret
              exact ⟨rfl, B9.out.trans (BR.out.mono B9.out.size)⟩
end Go.Proofs.Ytkloaopjlbinpaa
