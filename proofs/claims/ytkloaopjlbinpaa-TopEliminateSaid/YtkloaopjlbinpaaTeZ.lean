/- The walk of eliminate's Order. Condition: at most 20 operations. -/
import Derived.Test.YtkloaopjlbinpaaTeY
set_option linter.unusedVariables false
set_option linter.unusedSimpArgs false
namespace Go.Proofs.Ytkloaopjlbinpaa
open Go.RowKit Go.MapKept

/-- append of indices onto a row of the call's own. -/
theorem app_ints {w : World} {base : Nat} {v : Value} {l : List Nat} (h : w.ownsRow base 3 1 v l.length (l.map nI)) {A : Option Addr} {m c : Nat} {l2 : List Nat} (hR : Reads w (fun _ => True) 1 A m (l2.map nI)) (hm : l2.length = m) (hl : l.length + m ≤ 100000) (hb : base ≤ w.heap.size) (ty : TypeId) :
    ∃ A' c' w', (Builtin.append_ #[32, 32] ty #[v, .slice A m c]).run Try.prog w = .ok (.slice A' (l.length + m) c') w' ∧
      w'.ownsRow base 3 1 (.slice A' (l.length + m) c') (l ++ l2).length ((l ++ l2).map nI) ∧ KX (fun b => v.ownBlock = some b) w w' := by
  obtain ⟨i, i1, i2, i3, i4⟩ := int_info
  obtain ⟨v', w', run, e2, e3, e4⟩ := run_append_any (P := Try.prog) w base 32 ty 3 i _ 1 8 Try.underlying32 i1 i2 i3 i4 rfl (by omega) v l.length _ h (fun _ => True) A m c _ hR (by intro u hu; obtain ⟨x, -, rfl⟩ := List.mem_map.1 hu; rfl) (by unfold maxLen; omega) (by omega) hb
  obtain ⟨A', c', rfl, -, -, -⟩ := own_reads (S := fun _ => True) e2 (fun _ _ => trivial)
  exact ⟨A', c', w', run, by rw [List.length_append, hm, List.map_append]; exact e2, KX.of_grown e3 fun k h => h⟩
theorem two_cell {w : World} {A : Option Addr} {l : List (Nat × Nat)} {n j : Nat} {p : Nat × Nat} (hR : Reads w (fun _ => True) 2 A n (l.flatMap twoC)) (hj : j < n) (hx : l[j]? = some p) : ∃ b q, A = some ⟨b, q, none⟩ ∧ b < w.heap.size ∧ w.cell? ⟨b, q + j * 2, none⟩ = some (.int .i64 p.1) ∧ w.cell? ⟨b, q + j * 2 + 1, none⟩ = some (.int .i64 p.2) := by
  obtain ⟨b, q, rfl, hb, -, hc⟩ := hR.2 (by omega)
  have h := fun r hr => flat_get 2 twoC (fun _ => rfl) l j _ hx r hr
  exact ⟨b, q, rfl, hb, by have := hc (j * 2 + 0) _ (h 0 (by omega)); exact this, by have := hc (j * 2 + 1) _ (h 1 (by omega)); rw [← Nat.add_assoc] at this; exact this⟩
theorem fl2_len (l : List (Nat × Nat)) : (fl2 l).length = l.length * 2 := by
  induction l with
  | nil => rfl
  | cons p l ih => show (p.1 :: p.2 :: fl2 l).length = _; rw [List.length_cons, List.length_cons, ih, List.length_cons]; omega
theorem fl2_snoc (l : List (Nat × Nat)) (p : Nat × Nat) : fl2 (l ++ [p]) = fl2 l ++ [p.1, p.2] := by unfold fl2; rw [List.flatMap_append]; rfl
set_option maxRecDepth 100000 in
set_option maxHeartbeats 6400000 in
theorem order_any (w : World) (A : Option Addr) (n c : Nat) (L : List Opn) (hl : L.length = n) (hn : n ≤ 20) (hA : Reads w (fun _ => True) 3 A n (L.flatMap opC)) :
    Calls Try.prog 7 #[.slice A n c] w fun e w' => ∃ v : Value, e = .returned v ∧ w'.ownsRow (w.heap.size) 3 1 v (ordL L).length ((ordL L).map nI) ∧ Below w.heap.size w w' := by
  have HL := Lib.hid hl
  have HN := Lib.hid hn
  have KF := Lib.hid (pairs_any w A n c L hl hn hA)
  clear hl hn hA
  go_enter Try.func7, Try.ntmps7
  go_wp2_with fail
  refine KF.out.mono ?_
  rintro e w1 ⟨v1, v2, rfl, h1, h2, hb⟩
  obtain ⟨A1, c1, rfl, -, -, hR1⟩ := own_reads (S := fun _ => True) h1 (fun _ _ => trivial)
  obtain ⟨A2, c2, rfl, -, -, hR2⟩ := own_reads (S := fun _ => True) h2 (fun _ _ => trivial)
  have PL := Lib.hid (show (prs L).length ≤ n ∧ (rst L n).length ≤ n from ⟨by rw [prs_len]; have := fl_len true L L.length; rw [HL.out] at this ⊢; omega, rst_len L n⟩)
  obtain ⟨m, hm⟩ : ∃ m, m = (prs L).length := ⟨_, rfl⟩
  obtain ⟨r, hr⟩ : ∃ r, r = (rst L n).length := ⟨_, rfl⟩
  rw [← hm, ← hr]
  rw [← hm] at hR1
  rw [← hr] at hR2
  have HM := Lib.hid hm
  have HR := Lib.hid hr
  rw [← hm, ← hr] at PL
  have hm7 : (m : Int) ≤ 20 := by have := PL.out; have := HN.out; omega
  have R1 := Lib.hid hR1
  have R2 := Lib.hid hR2
  have B1 := Lib.hid hb
  clear h1 h2 hb hR1 hR2 hm hr KF
  go_wp2_with fail
  go_loopw [5, 15] (fun v5 v15 wr => ∃ j : Nat, v15 = .int .i64 j ∧ j ≤ m ∧ wr.ownsRow (w1.heap.size) 3 1 v5 (fl2 ((prs L).take j)).length ((fl2 ((prs L).take j)).map nI) ∧ Below w1.heap.size w1 wr) (fun _ v15 _ => m - (intOf v15).toNat)
  case atStart => exact ⟨0, rfl, Nat.zero_le _, World.ownsRow_nil _ _ _ _, Below.refl _ _⟩
  case round =>
    obtain ⟨j, rfl, hj, ho5, hb5⟩ := hrel
    have O5 := Lib.hid ho5
    have B5 := Lib.hid hb5
    have LJ := Lib.hid hj
    clear ho5 hb5 hj
    by_cases hlt : j < m
    · have hi2 : (j : Int) < (m : Int) := by omega
      obtain ⟨p, hp⟩ : ∃ p, (prs L)[j]? = some p := ⟨_, List.getElem?_eq_getElem (by have := HM.out; omega)⟩
      obtain ⟨b, q, rfl, -, d0, d1⟩ := two_cell (R1.out.below B5.out) hlt hp
      obtain ⟨W2, hW2⟩ : ∃ W, W = wr.alloc (.cells #[.int .i64 p.1, .int .i64 p.2] 67) := ⟨_, rfl⟩
      have b2 : Below wr.heap.size wr W2 := by rw [hW2]; exact below_alloc _ _
      have hR : Reads W2 (fun _ => True) 1 (some ⟨wr.heap.size, 0, none⟩) 2 ([p.1, p.2].map nI) := by rw [hW2]; exact Reads.new wr #[.int .i64 p.1, .int .i64 p.2] _ rfl trivial
      have TK := Lib.hid (show fl2 ((prs L).take (j + 1)) = fl2 ((prs L).take j) ++ [p.1, p.2] from by rw [List.take_add_one, hp]; exact fl2_snoc _ _)
      obtain ⟨A5, c5, w5, run, ho5, hk5⟩ := app_ints (c := 2) (own_kx O5.out (KX.of_below (X := fun _ => False) b2) (fun _ _ h => h)) hR rfl (by rw [fl2_len, List.length_take]; have := PL.out; have := HN.out; omega) (Nat.le_trans B5.out.size b2.size) 32
      have O6 := Lib.hid (show w5.ownsRow (w1.heap.size) 3 1 (.slice A5 ((fl2 ((prs L).take j)).length + 2) c5) (fl2 ((prs L).take (j + 1))).length ((fl2 ((prs L).take (j + 1))).map nI) from by rw [TK.out]; exact ho5)
      have B6 := Lib.hid ((B5.out.trans (b2.mono B5.out.size)).trans (hk5.below (Nat.le_trans B5.out.size b2.size) (fun b hb e => by have := (O5.out.lt b e).1; omega)))
      obtain ⟨d5, hd5⟩ : ∃ z, z = (fl2 ((prs L).take j)).length + 2 := ⟨_, rfl⟩
      rw [← hd5] at run O6
      have HLT := Lib.hid hlt
      clear hd5 ho5 hk5 hR b2 hp hlt TK
      go_upto_region 6 with fail
      rw [← hW2]
      clear hW2 d0 d1
      go_wp2_with (at_builtin; refine wpList_app_run rfl _ _ 32 rfl u5 _ _ w5 rfl rfl run ?_)
      go_roundw
      case rel => exact ⟨j + 1, by go_num, HLT.out, O6.out, B6.out⟩
      case measure =>
        have := HLT.out
        show m - ((j + 1 : Nat) : Int).toNat < m - (j : Int).toNat
        omega
    · have hi2 : ¬ (j : Int) < (m : Int) := by omega
      have TK := Lib.hid (show (prs L).take j = prs L from List.take_of_length_le (by have := LJ.out; have := HM.out; omega))
      obtain ⟨A5, c5, w5, run, ho5, hk5⟩ := app_ints (c := c2) O5.out (R2.out.below B5.out) HR.out.symm (by rw [fl2_len, List.length_take]; have := PL.out; have := HN.out; have := HM.out; omega) B5.out.size 32
      have O6 := Lib.hid (show w5.ownsRow (w.heap.size) 3 1 (.slice A5 ((fl2 ((prs L).take j)).length + r) c5) (ordL L).length ((ordL L).map nI) from by rw [show ordL L = fl2 ((prs L).take j) ++ rst L n from by unfold ordL; rw [TK.out, HL.out]]; exact own_base ho5 B1.out.size)
      have B6 := Lib.hid (B1.out.trans ((B5.out.trans (hk5.below B5.out.size (fun b hb e => by have := (O5.out.lt b e).1; omega))).mono B1.out.size))
      obtain ⟨d5, hd5⟩ : ∃ z, z = (fl2 ((prs L).take j)).length + r := ⟨_, rfl⟩
      rw [← hd5] at run O6
      clear hd5 ho5 hk5 hlt TK
      go_wp2_with (at_builtin; refine wpList_app_run rfl _ _ 32 rfl u5 _ _ w5 rfl rfl run ?_)
      go_ret
      exact ⟨_, rfl, O6.out, B6.out⟩
end Go.Proofs.Ytkloaopjlbinpaa
