/- The walk of eliminate's Fast. Conditions: at most 20 values, at most 20 operations. -/
import Derived.Test.YtkloaopjlbinpaaGreatTfB
set_option linter.unusedVariables false
set_option linter.unusedSimpArgs false
namespace Go.Proofs.YtkloaopjlbinpaaGreat
open Go.RowKit Go.MapKept

def pw1 (L : List Opn) (p : Nat × Nat) : List (Nat × Int × Int) := [(p.1, 0, oV L p.1), (p.2, 0, oV L p.1)]
theorem pw_snoc (L : List Opn) (l : List (Nat × Nat)) (p : Nat × Nat) : pw L (l ++ [p]) = pw L l ++ pw1 L p := by unfold pw; rw [List.flatMap_append]; rfl
theorem HB.reads2 {w : World} {t : TypeId} {b n : Nat} {u : Array Value} (h : HB t w b u) (hu : u.size = n * 2) : Reads w (fun _ => True) 2 (some ⟨b, 0, none⟩) n u.toList :=
  ⟨by rw [Array.length_toList, hu], fun _ => ⟨b, 0, rfl, h.lt, trivial, fun j x hx => by rw [Nat.zero_add, h.cell j]; rw [← hx]; simp⟩⟩
theorem rst_get {L : List Opn} {n i : Nat} (h : i ∈ rst L n) : i < n := by
  unfold rst at h
  rw [List.mem_filter, List.mem_range] at h
  exact h.1
set_option maxRecDepth 100000 in
set_option maxHeartbeats 6400000 in
theorem fast_zero (w : World) (A : Option Addr) (n c : Nat) (L : List Opn) (hl : L.length = n) (hn : n ≤ 20) (hA : Reads w (fun _ => True) 3 A n (L.flatMap opC)) (VA : Option Addr) (vn vc : Nat) (V : List Int) (hvl : V.length = vn) (hvn : vn ≤ 20) (hV : Reads w (fun _ => True) 1 VA vn (V.map (.int .i64))) (hz : n = 0) :
    Calls Tryz.prog 10 #[.slice VA vn vc, .slice A n c] w fun e w' => ∃ (v1 : Value) (A2 : Option Addr) (c2 : Nat), e = .returned (.tuple #[v1, .slice A2 n c2]) ∧ w'.ownsRow (w.heap.size) 2 1 v1 (runS L V.reverse (rst L n)).length ((runS L V.reverse (rst L n)).reverse.map (.int .i64)) ∧ Reads w' (fun _ => True) 2 A2 n ((fin n (allW L V.reverse)).flatMap ansC) ∧ Below w.heap.size w w' := by
  have HL := Lib.hid hl
  have HN := Lib.hid hn
  have HVL := Lib.hid (And.intro hvl hvn)
  have HV := Lib.hid hV
  have HA := Lib.hid hA
  have KF := Lib.hid (pairs_any w A n c L hl hn hA)
  have hn6 : (n : Int) ≤ 20 := by omega
  have HZ := Lib.hid hz
  clear hl hn hA hvl hvn hV hz
  go_enter Tryz.func10, Tryz.ntmps10
  go_wp2_with fail
  refine KF.out.mono ?_
  rintro e w1 ⟨v1, v2, rfl, h1, h2, hb⟩
  obtain ⟨A1, c1, rfl, -, -, hR1⟩ := own_reads (S := fun _ => True) h1 (fun _ _ => trivial)
  obtain ⟨A2, c2, rfl, -, -, hR2⟩ := own_reads (S := fun _ => True) h2 (fun _ _ => trivial)
  have PL := Lib.hid (show (prs L).length ≤ n ∧ (rst L n).length ≤ n from ⟨by rw [prs_len]; have := fl_len true L L.length; rw [HL.out] at this ⊢; omega, rst_len L n⟩)
  obtain ⟨m, hm⟩ : ∃ m, m = (prs L).length := ⟨_, rfl⟩
  obtain ⟨r, hr⟩ : ∃ r, r = (rst L n).length := ⟨_, rfl⟩
  rw [← hm, ← hr]
  rw [← hm] at hR1
  rw [← hr] at hR2
  have HM := Lib.hid hm
  have HR := Lib.hid hr
  rw [← hm, ← hr] at PL
  have hm7 : (m : Int) ≤ 20 := by have := PL.out; have := HN.out; omega
  have hr7 : (r : Int) ≤ 20 := by have := PL.out; have := HN.out; omega
  have R1 := Lib.hid hR1
  have R2 := Lib.hid hR2
  have B1 := Lib.hid hb
  clear h1 h2 hb hR1 hR2 hm hr KF
  have hn0 : ¬ (0 : Int) < (n : Int) := by have := HZ.out; omega
  obtain rfl : m = 0 := by have := PL.out.1; have := HZ.out; omega
  obtain rfl : r = 0 := by have := PL.out.2; have := HZ.out; omega
  clear hm7 hr7
  go_wp2_with fail
  go_loopw [29] (fun v29 wr => v29 = .int .i64 0 ∧ wr = w1) (fun _ _ => 0)
  case atStart => exact ⟨rfl, rfl⟩
  case round =>
    obtain ⟨rfl, rfl⟩ := hrel
    go_wp2_with fail
    refine (clone_any wr VA vn vc V HVL.out.1 HVL.out.2 (HV.out.below B1.out)).mono ?_
    rintro e w4 ⟨v', rfl, ho4, hb4⟩
    have O4 := Lib.hid ho4
    have B4 := Lib.hid hb4
    clear ho4 hb4
    go_wp2_with fail
    go_loopw [13, 53] (fun v13 v53 w5 => v13 = v' ∧ v53 = .int .i64 0 ∧ w5 = w4) (fun _ _ _ => 0)
    case atStart => exact ⟨rfl, rfl, rfl⟩
    case round =>
      obtain ⟨rfl, rfl, rfl⟩ := hrel
      go_wp2_with fail
      go_ret2
      have e1 : rst L n = [] := List.eq_nil_of_length_eq_zero HR.out.symm
      refine ⟨_, none, 0, by rw [HZ.out]; rfl, ?_, by rw [HZ.out, show fin 0 (allW L V.reverse) = [] from List.eq_nil_of_length_eq_zero (fin_len _ _)]; exact Reads.none_, B1.out.trans (B4.out.mono B1.out.size)⟩
      rw [e1]
      show World.ownsRow _ w.heap.size 2 1 _ (V.reverse).length ((V.reverse.reverse).map (.int .i64))
      rw [List.reverse_reverse, List.length_reverse, HVL.out.1]
      exact own_base O4.out B1.out.size
set_option maxRecDepth 100000 in
set_option maxHeartbeats 6400000 in
theorem fast_pos (w : World) (A : Option Addr) (n c : Nat) (L : List Opn) (hl : L.length = n) (hn : n ≤ 20) (hA : Reads w (fun _ => True) 3 A n (L.flatMap opC)) (VA : Option Addr) (vn vc : Nat) (V : List Int) (hvl : V.length = vn) (hvn : vn ≤ 20) (hV : Reads w (fun _ => True) 1 VA vn (V.map (.int .i64))) (hz : 0 < n) :
    Calls Tryz.prog 10 #[.slice VA vn vc, .slice A n c] w fun e w' => ∃ (v1 : Value) (A2 : Option Addr) (c2 : Nat), e = .returned (.tuple #[v1, .slice A2 n c2]) ∧ w'.ownsRow (w.heap.size) 2 1 v1 (runS L V.reverse (rst L n)).length ((runS L V.reverse (rst L n)).reverse.map (.int .i64)) ∧ Reads w' (fun _ => True) 2 A2 n ((fin n (allW L V.reverse)).flatMap ansC) ∧ Below w.heap.size w w' := by
  have HL := Lib.hid hl
  have HN := Lib.hid hn
  have HVL := Lib.hid (And.intro hvl hvn)
  have HV := Lib.hid hV
  have HA := Lib.hid hA
  have KF := Lib.hid (pairs_any w A n c L hl hn hA)
  have hn6 : (n : Int) ≤ 20 := by omega
  have HZ := Lib.hid hz
  have hz6 : (0 : Int) < (n : Int) := by omega
  clear hl hn hA hvl hvn hV hz
  go_enter Tryz.func10, Tryz.ntmps10
  go_wp2_with fail
  refine KF.out.mono ?_
  rintro e w1 ⟨v1, v2, rfl, h1, h2, hb⟩
  obtain ⟨A1, c1, rfl, -, -, hR1⟩ := own_reads (S := fun _ => True) h1 (fun _ _ => trivial)
  obtain ⟨A2, c2, rfl, -, -, hR2⟩ := own_reads (S := fun _ => True) h2 (fun _ _ => trivial)
  have PL := Lib.hid (show (prs L).length ≤ n ∧ (rst L n).length ≤ n from ⟨by rw [prs_len]; have := fl_len true L L.length; rw [HL.out] at this ⊢; omega, rst_len L n⟩)
  obtain ⟨m, hm⟩ : ∃ m, m = (prs L).length := ⟨_, rfl⟩
  obtain ⟨r, hr⟩ : ∃ r, r = (rst L n).length := ⟨_, rfl⟩
  rw [← hm, ← hr]
  rw [← hm] at hR1
  rw [← hr] at hR2
  have HM := Lib.hid hm
  have HR := Lib.hid hr
  rw [← hm, ← hr] at PL
  have hm7 : (m : Int) ≤ 20 := by have := PL.out; have := HN.out; omega
  have hr7 : (r : Int) ≤ 20 := by have := PL.out; have := HN.out; omega
  have R1 := Lib.hid hR1
  have R2 := Lib.hid hR2
  have B1 := Lib.hid hb
  clear h1 h2 hb hR1 hR2 hm hr KF
  obtain ⟨W2, hW2⟩ : ∃ W, W = w1.alloc (.cells (ansU n []) 46) := ⟨_, rfl⟩
  obtain ⟨ab, hab⟩ : ∃ b, b = w1.heap.size := ⟨_, rfl⟩
  have hms := make_ans w1 n HN.out
  have b2 : Below w1.heap.size w1 W2 := by rw [hW2]; exact below_alloc _ _
  have H2 := Lib.hid (show HB 46 W2 ab (ansU n []) from by rw [hW2, hab]; exact HB.new _ _ _)
  have Z2 := Lib.hid (show W2.heap.size = ab + 1 from by rw [hW2, World.size_alloc, hab])
  have LB := Lib.hid (show w.heap.size ≤ ab from by rw [hab]; exact B1.out.size)
  have B2 := Lib.hid (show Below w.heap.size w W2 from B1.out.trans (b2.mono B1.out.size))
  have LE := Lib.hid (show ∀ b, b < w1.heap.size → b < ab from fun b h => by rw [hab]; exact h)
  have KEEP := Lib.hid (fun (W : World) (h : KX (fun b => b = ab ∨ ab + 1 ≤ b) W2 W) (b : Nat) (hb : b < w1.heap.size) => (h.block b (Nat.lt_of_lt_of_le hb b2.size) (fun hx => by have := LE.out b hb; omega)).trans (b2.block b hb))
  rw [← hW2, ← hab] at hms
  clear hW2 hab b2
  go_wp2_with fail
  clear hms
  go_loopw [29] (fun v29 wr => ∃ j : Nat, v29 = .int .i64 j ∧ j ≤ m ∧ HB 46 wr ab (ansU n (pw L ((prs L).take j))) ∧ KX (fun b => b = ab ∨ ab + 1 ≤ b) W2 wr) (fun v29 _ => m - (intOf v29).toNat)
  case atStart => exact ⟨0, rfl, Nat.zero_le _, H2.out, KX.refl _ _⟩
  case round =>
    clear H2
    obtain ⟨j, rfl, hj, hh, hkx⟩ := hrel
    have HH := Lib.hid hh
    have KK := Lib.hid hkx
    have LJ := Lib.hid hj
    clear hh hkx hj
    by_cases hlt : j < m
    · have hi2 : (j : Int) < (m : Int) := by omega
      obtain ⟨wo, hwo⟩ : ∃ x, x = wr := ⟨_, rfl⟩
      subst hwo
      obtain ⟨p, hp⟩ : ∃ p, (prs L)[j]? = some p := ⟨_, List.getElem?_eq_getElem (by have := HM.out; omega)⟩
      obtain ⟨b1, q1, rfl, hb1, d0, d1⟩ := two_cell R1.out hlt hp
      have HPM := Lib.hid (List.mem_of_getElem? hp)
      have e0 : wo.cell? ⟨b1, q1 + j * 2, none⟩ = some (.int .i64 p.1) := (World.cell?_of_block (a := ⟨b1, q1 + j * 2, none⟩) (KEEP.out wo KK.out b1 hb1)).trans d0
      have e1 : wo.cell? ⟨b1, q1 + j * 2 + 1, none⟩ = some (.int .i64 p.2) := (World.cell?_of_block (a := ⟨b1, q1 + j * 2 + 1, none⟩) (KEEP.out wo KK.out b1 hb1)).trans d1
      have SN := Lib.hid (show pw L ((prs L).take (j + 1)) = pw L ((prs L).take j) ++ pw1 L p from by rw [List.take_add_one, hp]; exact pw_snoc _ _ _)
      obtain ⟨W3, hW3⟩ : ∃ W, W = wo.alloc (.cells #[.int .i64 p.1, .int .i64 p.2] 88) := ⟨_, rfl⟩
      have b3 : Below wo.heap.size wo W3 := by rw [hW3]; exact below_alloc _ _
      have h3 : HB 88 W3 wo.heap.size #[.int .i64 p.1, .int .i64 p.2] := by rw [hW3]; exact HB.new _ _ _
      have T3 := Lib.hid h3
      have c0 : W3.cell? ⟨wo.heap.size, 0, none⟩ = some (.int .i64 p.1) := h3.cell 0
      have c1 : W3.cell? ⟨wo.heap.size, 1, none⟩ = some (.int .i64 p.2) := h3.cell 1
      have H3 := Lib.hid (HH.out.below b3)
      have K3 := Lib.hid (KK.out.trans (KX.of_below b3))
      have ZR := Lib.hid (show ab + 1 ≤ wo.heap.size from by have := KK.out.size; have := Z2.out; omega)
      have HLT := Lib.hid hlt
      clear b3 h3 hb1 d0 d1 hp hlt KK HH
      go_upto_region 8 with fail
      rw [← hW3]
      clear hW3 e0 e1
      go_wp2_with fail
      clear c0 c1
      go_loopw [34] (fun v34 wr => ∃ i : Nat, v34 = .int .i64 i ∧ i ≤ 2 ∧ HB 46 wr ab (ansU n (pw L ((prs L).take j) ++ (pw1 L p).take i)) ∧ KX (fun b => b = ab) W3 wr) (fun v34 _ => 2 - (intOf v34).toNat)
      case atStart => exact ⟨0, rfl, Nat.zero_le _, by rw [List.take_zero, List.append_nil]; exact H3.out, KX.refl _ _⟩
      case round =>
        clear H3
        obtain ⟨i, rfl, hi, hh, hkx⟩ := hrel
        have HI := Lib.hid hh
        have KI := Lib.hid hkx
        have TI := Lib.hid (T3.out.kx hkx (fun e => by have := ZR.out; omega))
        have c0 : _ = some (Value.int .i64 p.1) := TI.out.cell 0
        have K2I := Lib.hid (K3.out.trans (hkx.mono (Y := fun b => b = ab ∨ ab + 1 ≤ b) fun b _ h => .inl h))
        obtain ⟨b, q, rfl, hbl, z0, z1, z2⟩ := op_cells HA.out (j := p.1) (by have := (prs_ok HPM.out).1.1; rw [HL.out] at this; exact this) HL.out
        have d2 : wr.cell? ⟨b, q + p.1 * 3 + 2, none⟩ = some (.int .i64 (oV L p.1)) := (World.cell?_of_block (a := ⟨b, q + p.1 * 3 + 2, none⟩) ((KEEP.out wr K2I.out b (Nat.lt_of_lt_of_le hbl B1.out.size)).trans (B1.out.block b hbl))).trans z2
        have hq9 : (p.1 : Int) < (n : Int) := by have := (prs_ok HPM.out).1.1; rw [HL.out] at this; omega
        clear hh hkx hbl z0 z1 z2
        match i, hi with
        | 0, _ =>
          have hix : ∀ W : World, (Instr.index 88 (.agg #[.int .i64 p.1, .int .i64 p.2]) (.int .i64 0)).run Tryz.prog W = .ok (.int .i64 p.1) W := fun _ => by kernel_rfl
          have hi9 : 0 < 2 := by decide
          have hp9 : (p.1 : Int) < (n : Int) := by have := (prs_ok HPM.out).1.1; rw [HL.out] at this; omega
          have ha9 := ans_cells n (pw L ((prs L).take j) ++ (pw1 L p).take 0) p.1 (by have := (prs_ok HPM.out).1.1; rw [HL.out] at this; exact this)
          obtain ⟨x1, x2, hx1, hx2⟩ := ha9
          have c81 : wr.cell? ⟨ab, p.1 * 2, none⟩ = some (.int .i64 x1) := (HI.out.cell _).trans hx1
          have c82 : wr.cell? ⟨ab, p.1 * 2 + 1, none⟩ = some (.int .i64 x2) := (HI.out.cell _).trans hx2
          have f81 := HI.out.free (p.1 * 2)
          have f82 := HI.out.free (p.1 * 2 + 1)
          have hk9 : KX (fun b => b = ab) wr ((wr.setCell ⟨ab, p.1 * 2, none⟩ (.int .i64 0)).setCell ⟨ab, p.1 * 2 + 1, none⟩ (.int .i64 (oV L p.1))) := (KX.of_grown (gr_put _ _ _ _) fun k e => (Option.some.inj e).symm).trans (KX.of_grown (gr_put _ _ _ _) fun k e => (Option.some.inj e).symm)
          have H9 := Lib.hid (show HB 46 ((wr.setCell ⟨ab, p.1 * 2, none⟩ (.int .i64 0)).setCell ⟨ab, p.1 * 2 + 1, none⟩ (.int .i64 (oV L p.1))) ab (ansU n (pw L ((prs L).take j) ++ (pw1 L p).take (0 + 1))) from by
            rw [show pw L ((prs L).take j) ++ (pw1 L p).take (0 + 1) = (pw L ((prs L).take j) ++ (pw1 L p).take 0) ++ [(p.1, 0, oV L p.1)] from by rw [List.append_assoc]; rfl, ← ans_set (n := n) (W := pw L ((prs L).take j) ++ (pw1 L p).take 0) (0, oV L p.1) (by have := (prs_ok HPM.out).1.1; rw [HL.out] at this; exact this)]
            exact (HI.out.set _ _).set _ _)
          have K9 := Lib.hid (KI.out.trans hk9)
          clear hx1 hx2 hk9 hi9
          go_wp2_with fail
          go_roundw
          case rel => exact ⟨0 + 1, rfl, by decide, H9.out, K9.out⟩
          case measure => decide
        | 1, _ =>
          have hix : ∀ W : World, (Instr.index 88 (.agg #[.int .i64 p.1, .int .i64 p.2]) (.int .i64 1)).run Tryz.prog W = .ok (.int .i64 p.2) W := fun _ => by kernel_rfl
          have hi9 : 1 < 2 := by decide
          have hp9 : (p.2 : Int) < (n : Int) := by have := (prs_ok HPM.out).1.2; rw [HL.out] at this; omega
          have ha9 := ans_cells n (pw L ((prs L).take j) ++ (pw1 L p).take 1) p.2 (by have := (prs_ok HPM.out).1.2; rw [HL.out] at this; exact this)
          obtain ⟨x1, x2, hx1, hx2⟩ := ha9
          have c81 : wr.cell? ⟨ab, p.2 * 2, none⟩ = some (.int .i64 x1) := (HI.out.cell _).trans hx1
          have c82 : wr.cell? ⟨ab, p.2 * 2 + 1, none⟩ = some (.int .i64 x2) := (HI.out.cell _).trans hx2
          have f81 := HI.out.free (p.2 * 2)
          have f82 := HI.out.free (p.2 * 2 + 1)
          have hk9 : KX (fun b => b = ab) wr ((wr.setCell ⟨ab, p.2 * 2, none⟩ (.int .i64 0)).setCell ⟨ab, p.2 * 2 + 1, none⟩ (.int .i64 (oV L p.1))) := (KX.of_grown (gr_put _ _ _ _) fun k e => (Option.some.inj e).symm).trans (KX.of_grown (gr_put _ _ _ _) fun k e => (Option.some.inj e).symm)
          have H9 := Lib.hid (show HB 46 ((wr.setCell ⟨ab, p.2 * 2, none⟩ (.int .i64 0)).setCell ⟨ab, p.2 * 2 + 1, none⟩ (.int .i64 (oV L p.1))) ab (ansU n (pw L ((prs L).take j) ++ (pw1 L p).take (1 + 1))) from by
            rw [show pw L ((prs L).take j) ++ (pw1 L p).take (1 + 1) = (pw L ((prs L).take j) ++ (pw1 L p).take 1) ++ [(p.2, 0, oV L p.1)] from by rw [List.append_assoc]; rfl, ← ans_set (n := n) (W := pw L ((prs L).take j) ++ (pw1 L p).take 1) (0, oV L p.1) (by have := (prs_ok HPM.out).1.2; rw [HL.out] at this; exact this)]
            exact (HI.out.set _ _).set _ _)
          have K9 := Lib.hid (KI.out.trans hk9)
          clear hx1 hx2 hk9 hi9
          go_wp2_with fail
          go_roundw
          case rel => exact ⟨1 + 1, rfl, by decide, H9.out, K9.out⟩
          case measure => decide
        | 2, _ =>
          have H9 := Lib.hid (show HB 46 wr ab (ansU n (pw L ((prs L).take (j + 1)))) from by rw [SN.out]; exact HI.out)
          go_wp2_with fail
          go_roundw
          case rel => exact ⟨j + 1, by go_num, HLT.out, H9.out, K2I.out⟩
          case measure =>
            have := HLT.out
            show m - ((j + 1 : Nat) : Int).toNat < m - (j : Int).toNat
            omega
    · have hi2 : ¬ (j : Int) < (m : Int) := by omega
      obtain ⟨wo, hwo⟩ : ∃ x, x = wr := ⟨_, rfl⟩
      subst hwo
      have TK := Lib.hid (show (prs L).take j = prs L from List.take_of_length_le (by have := LJ.out; have := HM.out; omega))
      rw [TK.out] at HH
      have VR := Lib.hid (show Reads wo (fun _ => True) 1 VA vn (V.map (.int .i64)) from HV.out.keep (Nat.le_trans B2.out.size KK.out.size) (fun a ha _ => World.cell?_of_block (a := a) ((KEEP.out wo KK.out a.block (Nat.lt_of_lt_of_le ha B1.out.size)).trans (B1.out.block a.block ha))))
      clear hlt TK
      go_wp2_with fail
      refine (clone_any wo VA vn vc V HVL.out.1 HVL.out.2 VR.out).mono ?_
      rintro e w4 ⟨v', rfl, ho4, hb4⟩
      have H4 := Lib.hid (show HB 46 w4 ab (ansU n (pw L (prs L) ++ ((rst L n).take 0).zip (runA L V.reverse ((rst L n).take 0)))) from by rw [List.take_zero, List.zip_nil_left, List.append_nil]; exact HH.out.below hb4)
      have K4 := Lib.hid (KK.out.trans (KX.of_below hb4))
      have O4 := Lib.hid (show w4.ownsRow (ab + 1) 2 1 v' (runS L V.reverse ((rst L n).take 0)).length ((runS L V.reverse ((rst L n).take 0)).reverse.map (.int .i64)) from by
        show World.ownsRow _ (ab + 1) 2 1 _ (V.reverse).length ((V.reverse.reverse).map (.int .i64))
        rw [List.reverse_reverse, List.length_reverse, HVL.out.1]
        exact own_base ho4 (by have := KK.out.size; have := Z2.out; omega))
      clear ho4 hb4 HH KK VR R1 LJ hi2 HV
      go_wp2_with fail
      go_loopw [13, 53] (fun v13 v53 wr => ∃ k : Nat, v53 = .int .i64 k ∧ k ≤ r ∧ wr.ownsRow (ab + 1) 2 1 v13 (runS L V.reverse ((rst L n).take k)).length ((runS L V.reverse ((rst L n).take k)).reverse.map (.int .i64)) ∧ HB 46 wr ab (ansU n (pw L (prs L) ++ ((rst L n).take k).zip (runA L V.reverse ((rst L n).take k)))) ∧ KX (fun b => b = ab ∨ ab + 1 ≤ b) W2 wr) (fun _ v53 _ => r - (intOf v53).toNat)
      case atStart => exact ⟨0, rfl, Nat.zero_le _, O4.out, H4.out, K4.out⟩
      case round =>
        clear H4 K4 O4
        obtain ⟨k, rfl, hk, ho, hh, hkx⟩ := hrel
        have OO := Lib.hid ho
        have HH := Lib.hid hh
        have KK := Lib.hid hkx
        have LK := Lib.hid hk
        clear ho hh hkx hk
        by_cases hlt : k < r
        · have hi3 : (k : Int) < (r : Int) := by omega
          obtain ⟨i, hi⟩ : ∃ i, (rst L n)[k]? = some i := ⟨_, List.getElem?_eq_getElem (by have := HR.out; omega)⟩
          have hin := rst_get (List.mem_of_getElem? hi)
          have hq9 : (i : Int) < (n : Int) := by omega
          have HIN := Lib.hid hin
          obtain ⟨b2, q2, rfl, hb2, d2⟩ := nat_cell R2.out hlt hi
          have e2 : wr.cell? ⟨b2, q2 + k, none⟩ = some (.int .i64 i) := (World.cell?_of_block (a := ⟨b2, q2 + k, none⟩) (KEEP.out wr KK.out b2 hb2)).trans d2
          obtain ⟨b, q, rfl, hbl, z0, z1, z2⟩ := op_cells HA.out (j := i) hin HL.out
          have DC := Lib.hid (show ∀ W, KX (fun b => b = ab ∨ ab + 1 ≤ b) W2 W → (fun W => W.cell? ⟨b, q + i * 3, none⟩ = some (.int .i64 (oT L i)) ∧ W.cell? ⟨b, q + i * 3 + 1, none⟩ = some (.bool (oP L i)) ∧ W.cell? ⟨b, q + i * 3 + 2, none⟩ = some (.int .i64 (oV L i))) W from fun W h => by
            have hq : W.heap[b]? = w.heap[b]? := (KEEP.out W h b (Nat.lt_of_lt_of_le hbl B1.out.size)).trans (B1.out.block b hbl)
            exact ⟨(World.cell?_of_block (a := ⟨b, q + i * 3, none⟩) hq).trans z0, (World.cell?_of_block (a := ⟨b, q + i * 3 + 1, none⟩) hq).trans z1, (World.cell?_of_block (a := ⟨b, q + i * 3 + 2, none⟩) hq).trans z2⟩)
          obtain ⟨s, hs⟩ : ∃ s, s = runS L V.reverse ((rst L n).take k) := ⟨_, rfl⟩
          have RS := run_step L V.reverse (rst L n) k i hi
          rw [← hs] at OO RS
          have SL := Lib.hid (show s.length ≤ 40 from by
            have := run_len L ((rst L n).take k) V.reverse
            rw [← hs, List.length_reverse, List.length_take] at this
            have := HVL.out
            have := PL.out
            have := HR.out
            have := HN.out
            omega)
          have WS := Lib.hid (show pw L (prs L) ++ ((rst L n).take (k + 1)).zip (runA L V.reverse ((rst L n).take (k + 1))) = (pw L (prs L) ++ ((rst L n).take k).zip (runA L V.reverse ((rst L n).take k))) ++ [(i, stE (oP L i) s, stV (oP L i) (oV L i) s)] from by
            rw [RS.2.2, List.take_add_one, hi, List.append_assoc]
            show _ ++ (((rst L n).take k ++ [i]).zip _) = _
            rw [List.zip_append (by rw [runA_len])]
            rfl)
          have RS2 := Lib.hid RS.2.1
          obtain ⟨WW, hWW⟩ : ∃ x, x = pw L (prs L) ++ ((rst L n).take k).zip (runA L V.reverse ((rst L n).take k)) := ⟨_, rfl⟩
          rw [← hWW] at HH WS
          have HLT := Lib.hid hlt
          clear hi hin hb2 d2 hbl z0 z1 z2 RS hs hWW hlt
          obtain ⟨z0, z1, z2⟩ := DC.out _ KK.out
          go_wp2_with fail
          refine (apply_any wr (ab + 1) u13 s OO.out (by have := SL.out; omega) (by have := KK.out.size; have := Z2.out; omega) (oT L i) (oV L i) (oP L i)).mono ?_
          rintro e w5 ⟨v5, rfl, ho5, hk5⟩
          have O5 := Lib.hid ho5
          have K5 := Lib.hid (KK.out.trans (hk5.mono fun b _ h => .inr (OO.out.lt b h).1))
          have H5 := Lib.hid (HH.out.kx hk5 (fun h => by have := (OO.out.lt ab h).1; omega))
          clear ho5 hk5 OO KK HH z0 z1 z2 e2
          obtain ⟨x1, x2, hx1, hx2⟩ := ans_cells n WW i HIN.out
          have c81 : w5.cell? ⟨ab, i * 2, none⟩ = some (.int .i64 x1) := (H5.out.cell _).trans hx1
          have c82 : w5.cell? ⟨ab, i * 2 + 1, none⟩ = some (.int .i64 x2) := (H5.out.cell _).trans hx2
          have f81 := H5.out.free (i * 2)
          have f82 := H5.out.free (i * 2 + 1)
          have hk6 : KX (fun b => b = ab) w5 ((w5.setCell ⟨ab, i * 2, none⟩ (.int .i64 (stE (oP L i) s))).setCell ⟨ab, i * 2 + 1, none⟩ (.int .i64 (stV (oP L i) (oV L i) s))) := (KX.of_grown (gr_put _ _ _ _) fun k e => (Option.some.inj e).symm).trans (KX.of_grown (gr_put _ _ _ _) fun k e => (Option.some.inj e).symm)
          have H6 := Lib.hid (show HB 46 ((w5.setCell ⟨ab, i * 2, none⟩ (.int .i64 (stE (oP L i) s))).setCell ⟨ab, i * 2 + 1, none⟩ (.int .i64 (stV (oP L i) (oV L i) s))) ab (ansU n (pw L (prs L) ++ ((rst L n).take (k + 1)).zip (runA L V.reverse ((rst L n).take (k + 1))))) from by
            rw [WS.out, ← ans_set (n := n) (W := WW) ((stE (oP L i) s), (stV (oP L i) (oV L i) s)) HIN.out]
            exact (H5.out.set _ _).set _ _)
          have K6 := Lib.hid (K5.out.trans (hk6.mono fun b _ h => .inl h))
          have O6 := Lib.hid (show World.ownsRow _ (ab + 1) 2 1 v5 _ _ from own_kx O5.out hk6 (fun b h e => by have := (O5.out.lt b h).1; omega))
          clear hk6 hx1 hx2
          go_wp2_with fail
          go_roundw
          case rel => exact ⟨k + 1, by go_num, HLT.out, by rw [RS2.out]; exact O6.out, H6.out, K6.out⟩
          case measure =>
            have := HLT.out
            show r - ((k + 1 : Nat) : Int).toNat < r - (k : Int).toNat
            omega
        · have hi3 : ¬ (k : Int) < (r : Int) := by omega
          have TK := Lib.hid (show (rst L n).take k = rst L n from List.take_of_length_le (by have := LK.out; have := HR.out; omega))
          have OF := Lib.hid (show wr.ownsRow (w.heap.size) 2 1 u13 (runS L V.reverse (rst L n)).length ((runS L V.reverse (rst L n)).reverse.map (.int .i64)) from by have := OO.out; rw [TK.out] at this; exact own_base this (by have := LB.out; omega))
          have HF := Lib.hid (show HB 46 wr ab (ansU n (allW L V.reverse)) from by have := HH.out; rw [TK.out] at this; unfold allW; rw [HL.out]; exact this)
          clear hlt TK OO HH
          go_wp2_with fail
          go_ret2
          exact ⟨u13, _, ⟨_, rfl⟩, by have := OF.out; rw [List.map_reverse] at this; exact this, HF.out.reads2 (ans_size _ _), B2.out.trans (KK.out.below B2.out.size (fun b hb h => by have := LB.out; omega))⟩
end Go.Proofs.YtkloaopjlbinpaaGreat
