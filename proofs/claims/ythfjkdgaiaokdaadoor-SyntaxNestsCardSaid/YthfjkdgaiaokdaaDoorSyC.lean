/- The reference's CheckExpr (printed by wip/gensyc.py). Condition: names of at most 1000000 bytes. -/
import Derived.Test.YthfjkdgaiaokdaaDoorSyB
set_option linter.unusedVariables false
set_option linter.unusedSimpArgs false
namespace Go.Proofs.YthfjkdgaiaokdaaDoor
open Go.RowKit

mutual
/-- Short names. -/
def Ex.Sm : Ex → Prop
  | .mk _ _ s m a o => s.length ≤ 1000000 ∧ m.length ≤ 1000000 ∧ Ex.Sms a ∧ Ex.Sms o
def Ex.Sms : List Ex → Prop
  | [] => True
  | e :: t => e.Sm ∧ Ex.Sms t
end
theorem Ex.Sms_mem : ∀ {l : List Ex}, Ex.Sms l → ∀ e ∈ l, e.Sm
  | a :: t, h, e, he => by
    rw [Ex.Sms] at h
    rcases List.mem_cons.1 he with rfl | he
    · exact h.1
    · exact Ex.Sms_mem h.2 e he
theorem chkEs_append {d : Int} : ∀ (a o : List Ex), chkEs d (a ++ o) = if chkEs d a ≠ 0 then chkEs d a else chkEs d o
  | [], o => by simp [chkEs]
  | e :: t, o => by
    rw [List.cons_append, chkEs, chkEs, chkEs_append t o]
    by_cases h : chkE d e = 0
    · simp [h]
    · simp [h]
/-- One expression's error according to the reference, as a call. -/
def RWrongAt (e : Ex) : Prop := ∀ (d : Int) (w : World) (S : Nat → Prop) (cs : List Value), 0 ≤ d → d ≤ 4611686018427387904 → e.Sm → XV w S e cs →
  Calls Tryd.prog 60 #[.agg cs.toArray, .int .i64 d] w fun e' w' => e' = .returned (.int .i64 (chkE d e)) ∧ Below w.heap.size w w'
set_option maxRecDepth 100000 in
theorem rexprWrong_head (e : Ex) (d : Int) (w : World) (S : Nat → Prop) (cs : List Value) (hd : 12 < d) (hx : XV w S e cs) :
    Calls Tryd.prog 60 #[.agg cs.toArray, .int .i64 d] w fun e' w' => e' = .returned (.int .i64 18) ∧ Below w.heap.size w w' := by
  obtain ⟨k, n, s, m, a, o⟩ := e
  obtain ⟨A, na, ca, O, no, co, rfl, hA, hO⟩ := hx.open_
  clear hx hA hO
  unfold exC
  go_enter Tryd.func60, Tryd.ntmps60
  go_wp2
  go_ret
  exact ⟨rfl, (Below.refl _ _).alloc (Nat.le_refl _) _⟩
set_option maxRecDepth 100000 in
theorem rexprWrong_kind (k n : Int) (s m : Str) (a o : List Ex) (d : Int) (w : World) (S : Nat → Prop) (cs : List Value) (hd : ¬ 12 < d) (hk : k < 0 ∨ 7 < k) (hx : XV w S (.mk k n s m a o) cs) :
    Calls Tryd.prog 60 #[.agg cs.toArray, .int .i64 d] w fun e' w' => e' = .returned (.int .i64 2) ∧ Below w.heap.size w w' := by
  obtain ⟨A, na, ca, O, no, co, rfl, hA, hO⟩ := hx.open_
  clear hx hA hO
  unfold exC
  rcases Classical.em (k < 0) with h0 | h0
  · clear hk
    go_enter Tryd.func60, Tryd.ntmps60
    go_wp2
    go_ret
    exact ⟨rfl, (Below.refl _ _).alloc (Nat.le_refl _) _⟩
  · have h7 : 7 < k := by omega
    clear hk
    go_enter Tryd.func60, Tryd.ntmps60
    go_wp2
    go_ret
    exact ⟨rfl, (Below.refl _ _).alloc (Nat.le_refl _) _⟩
set_option maxRecDepth 100000 in
set_option maxHeartbeats 12800000 in
theorem rexprWrong_mid (j : Nat) (hj : j < 8) (n : Int) (s m : Str) (a o : List Ex) (ih : ∀ e ∈ a ++ o, RWrongAt e) (d : Int) (w : World) (S : Nat → Prop) (cs : List Value) (hd0 : 0 ≤ d) (hd : ¬ 12 < d) (hsm : (Ex.mk (j : Int) n s m a o).Sm) (hx : XV w S (.mk (j : Int) n s m a o) cs) :
    Calls Tryd.prog 60 #[.agg cs.toArray, .int .i64 d] w fun e' w' => e' = .returned (.int .i64 (chkE d (.mk (j : Int) n s m a o))) ∧ Below w.heap.size w w' := by
  rw [Ex.Sm] at hsm
  obtain ⟨A, na, ca, O, no, co, rfl, hA, hO⟩ := hx.open_
  have KF := Lib.hid (fun W => rform_any j hj n s m A na ca O no co a o W hA.1.1 hO.1.1)
  have hn := hx.num
  obtain ⟨F, hf⟩ : ∃ F, F = formE (.mk (j : Int) n s m a o) := ⟨_, rfl⟩
  rw [← hf] at KF
  obtain ⟨E, hE⟩ : ∃ E, E = chkE d (.mk (j : Int) n s m a o) := ⟨_, rfl⟩
  rw [← hE]
  have HE := Lib.hid hE
  have HA := Lib.hid hA
  have HO := Lib.hid hO
  have HI := Lib.hid ih
  have HSM := Lib.hid (show ∀ e ∈ a ++ o, e.Sm from fun e he => by
    rcases List.mem_append.1 he with h | h
    · exact Ex.Sms_mem hsm.2.2.1 e h
    · exact Ex.Sms_mem hsm.2.2.2 e h)
  have HH := headE_cases j hj n s m a o d (if j = 0 then 9223372036854775807 else 1) hd hn (fun h => if_pos h) (fun h => if_neg (by omega)) hf
  have HP1 : (decide (j = 2 ∨ 6 ≤ j) = true → decide (j ≤ 1) = false) ∧ (decide (j = 2 ∨ 6 ≤ j) = false → decide (j = 6) = false) := by
    simp
    omega
  have KS := Lib.hid (fun W => name_any s W hsm.1)
  have KM := Lib.hid (fun W => name_any m W hsm.2.1)
  have P1 : ∃ t2 t6 t66 t11 : Bool, ((j : Int) == 2) = t2 ∧ decide (6 ≤ (j : Int)) = t6 ∧ ((j : Int) == 6) = t66 ∧ ((j : Int) == 1) = t11 := ⟨_, _, _, _, rfl, rfl, rfl, rfl⟩
  generalize nameOk s = QS at *
  generalize nameOk m = QM at *
  obtain ⟨f, ef⟩ : ∃ p, F = p := ⟨_, rfl⟩
  obtain ⟨qs, es⟩ : ∃ p, QS = p := ⟨_, rfl⟩
  obtain ⟨qm, em⟩ : ∃ p, QM = p := ⟨_, rfl⟩
  rw [ef] at KF
  rw [es] at KS
  rw [em] at KM
  have HH2 := Lib.hid HH
  have EF := Lib.hid ef
  have ES := Lib.hid es
  have EM := Lib.hid em
  have HN := Lib.hid hn
  clear HH HP1 ef es em P1
  have HX := Lib.hid (show ∀ v, v ≠ 0 → headE d (.mk (j : Int) n s m a o) = v → E = v from fun v h1 h2 => by rw [hE, chkE_head (by rw [h2]; exact h1), h2])
  have HW := Lib.hid (fun X (W : World) (h : Bz (w.alloc (.cells X 83)) W) => (show (∀ j v, X[j]? = some v → W.cell? ⟨w.heap.size, j, none⟩ = some v) from by
    exact fun j v hv => cell_of_Bz h (by rw [cell_of_row _ _ _ _ _ _ (heap_alloc_new w _)]; exact hv) (lt_of_block (heap_alloc_new w _))))
  have hk0 : ¬ (j : Int) < 0 := by omega
  have hk7 : ¬ 7 < (j : Int) := by omega
  have HJ := Lib.hid hj
  clear hx hA hO hj hE hf ih hsm hn
  unfold exC at KF ⊢
  go_enter Tryd.func60, Tryd.ntmps60
  go_wp2_with fail
  obtain ⟨W0, hW0⟩ : ∃ W0 : World, W0 = w.alloc (.cells #[.int .i64 (j : Int), .int .i64 n, .string (bs s), .string (bs m), .slice A na ca, .slice O no co] 83) := ⟨_, rfl⟩
  have HF := Lib.hid (show ∀ W, Bz W0 W → (W.cell? ⟨w.heap.size, 0, none⟩ = some (.int .i64 (j : Int)) ∧ W.cell? ⟨w.heap.size, 1, none⟩ = some (.int .i64 n) ∧ W.cell? ⟨w.heap.size, 2, none⟩ = some (.string (bs s)) ∧ W.cell? ⟨w.heap.size, 3, none⟩ = some (.string (bs m)) ∧ W.cell? ⟨w.heap.size, 4, none⟩ = some (.slice A na ca) ∧ W.cell? ⟨w.heap.size, 5, none⟩ = some (.slice O no co)) from fun W h => by
    subst hW0
    have h2 := HW.out _ W h
    exact ⟨h2 0 _ rfl, h2 1 _ rfl, h2 2 _ rfl, h2 3 _ rfl, h2 4 _ rfl, h2 5 _ rfl⟩)
  have HG0 := Lib.hid (show ∀ W, Bz W0 W → Below w.heap.size w W from fun W h => by
    subst hW0
    have hb := (Below.refl w.heap.size w).alloc (Nat.le_refl _) (.cells #[.int .i64 (j : Int), .int .i64 n, .string (bs s), .string (bs m), .slice A na ca, .slice O no co] 83)
    exact hb.trans (h.b.mono hb.size))
  rw [← hW0]
  clear hW0 HW
  have y0 : Bz W0 W0 := ⟨Below.refl _ _⟩
  refine (KF.out _).mono ?_
  rintro e w1 ⟨rfl, hb1⟩
  have y1 := Bz.next y0 hb1
  clear hb1 KF y0
  obtain ⟨c0, c1, c2, c3, c4, c5⟩ := HF.out _ y1
  cases f with
  | false =>
    go_wp2
    go_ret
    exact ⟨congrArg (fun v => Ending.returned (.int .i64 v)) (HX.out 5 (by decide) (HH2.out.1 EF.out)).symm, HG0.out _ y1⟩
  | true =>
    by_cases hp1 : j = 2 ∨ 6 ≤ j
    · have hp0 : ¬ j ≤ 1 := by omega
      have HNP0 := Lib.hid (show ¬ decide (j ≤ 1) = true from fun h => absurd (of_decide_eq_true h) hp0)
      have HP1 := Lib.hid (decide_eq_true hp1)
      have hp0' : ¬ (j : Int) ≤ 1 := by omega
      by_cases hp2 : j = 6
      · have HP2 := Lib.hid (decide_eq_true hp2)
        have t2 : ((j : Int) == 2) = false := by simp; omega
        have t6 : ((j : Int) == 6) = true := by simp; omega
        have t66 : 6 ≤ (j : Int) := by omega
        clear hp1 hp2 hp0
        go_wp2_with fail
        refine (KS.out _).mono ?_
        rintro e w2 ⟨rfl, hb2⟩
        have y2 := Bz.next y1 hb2
        clear c0 c1 c2 c3 c4 c5 hb2
        obtain ⟨c0, c1, c2, c3, c4, c5⟩ := HF.out _ y2
        cases qs with
          | false =>
            go_wp2
            go_ret
            exact ⟨congrArg (fun v => Ending.returned (.int .i64 v)) (HX.out 16 (by decide) (HH2.out.2.1 EF.out HP1.out ES.out)).symm, HG0.out _ y2⟩
          | true =>
            go_wp2_with fail
            refine (KM.out _).mono ?_
            rintro e w3 ⟨rfl, hb2⟩
            have y3 := Bz.next y2 hb2
            clear c0 c1 c2 c3 c4 c5 hb2
            obtain ⟨c0, c1, c2, c3, c4, c5⟩ := HF.out _ y3
            cases qm with
            | false =>
              go_wp2
              go_ret
              exact ⟨congrArg (fun v => Ending.returned (.int .i64 v)) (HX.out 16 (by decide) (HH2.out.2.2.1 EF.out HP2.out EM.out)).symm, HG0.out _ y3⟩
            | true =>
              have HEP := Lib.hid (show E = chkEs (d + 1) (a ++ o) from by
                have hh0 := HH2.out.2.2.2.2 EF.out (fun _ => ES.out) (fun _ => EM.out) (fun h => absurd h HNP0.out)
                rw [HE.out, chkE_parts hh0, chkEs_append])
              have HLL := Lib.hid (headE_len (HH2.out.2.2.2.2 EF.out (fun _ => ES.out) (fun _ => EM.out) (fun h => absurd h HNP0.out)))
              have hna4 : (na : Int) ≤ 4 := by have := HLL.out.1; have := HA.out.1.1; omega
              have hno4 : (no : Int) ≤ 4 := by have := HLL.out.2; have := HO.out.1.1; omega
              go_wp2_with fail
              clear c0 c1 c2 c3 c4 c5
              have v0 := y3
              clear y3
              go_loopw [5] (fun i wr => ∃ q : Nat, q ≤ (a ++ o).length ∧ i = .int .i64 q ∧ Hid (chkEs (d + 1) ((a ++ o).take q) = 0) ∧ Bz W0 wr) (fun i _ => (a ++ o).length - (intOf i).toNat)
              case atStart => exact ⟨0, Nat.zero_le _, rfl, Lib.hid (by rw [List.take_zero, chkEs]), v0⟩
              case round =>
                clear v0
                obtain ⟨q, hq, rfl, n3, zq⟩ := hrel
                obtain ⟨-, -, -, -, c4, c5⟩ := HF.out _ zq
                have HLE := Lib.hid (show (a ++ o).length = na + no by rw [List.length_append, HA.out.1.1, HO.out.1.1])
                by_cases hl : q < (a ++ o).length
                · have hi2 : (q : Int) < (na : Int) + (no : Int) := by have := HLE.out; omega
                  have HQL := Lib.hid hl
                  by_cases hqa : q < na
                  · have hqa2 : (q : Int) < (na : Int) := by omega
                    obtain ⟨x, b, off, cs, hx, rfl, hb, hS, hxv, hrow⟩ := HA.out.at q hqa
                    have HXQ := Lib.hid (show (a ++ o)[q]? = some x by rw [List.getElem?_append_left (by have := HA.out.1.1; omega)]; exact hx)
                    clear hqa
                    have HXV := Lib.hid hxv
                    have HIH := Lib.hid (HI.out x (List.mem_of_getElem? HXQ.out))
                    have HSX := Lib.hid (HSM.out x (List.mem_of_getElem? HXQ.out))
                    obtain ⟨v, hv⟩ : ∃ v, v = chkE (d + 1) x := ⟨_, rfl⟩
                    have HV := Lib.hid hv
                    have hrow2 := rangeAt_keep hrow ((HG0.out _ zq).block b hb)
                    obtain ⟨xk, xn, xs, xm, xa, xo⟩ := x
                    obtain ⟨A2, na2, ca2, O2, no2, co2, rfl, -, -⟩ := hxv.open_
                    obtain ⟨e0, e1, e2, e3, e4, e5⟩ := exC_at hrow2
                    clear hx hb hS hxv hrow hrow2 hl hq hv
                    unfold exC at HXV
                    go_wp2_with fail
                    have HC2 := HIH.out (d + 1) _ S _ (by omega) (by omega) HSX.out (HXV.out.below (HG0.out _ zq))
                    rw [← HV.out] at HC2
                    refine HC2.mono ?_
                    rintro e' w2 ⟨rfl, hb2⟩
                    have zq2 := zq.next hb2
                    clear HC2 hb2 e0 e1 e2 e3 e4 e5 zq HIH HXV c4 c5
                    by_cases hv0 : v = 0
                    · subst hv0
                      go_wp2
                      go_roundw
                      case rel => exact ⟨q + 1, HQL.out, by go_num, Lib.hid (chkEs_take_ok HXQ.out n3.out HV.out.symm), zq2⟩
                      case measure => exact meas_up _ _ HQL.out
                    · have hv1 : (v != 0) = true := by simp [hv0]
                      have HR := Lib.hid (show E = v by rw [HEP.out]; exact (chkEs_take_bad HXQ.out n3.out (by rw [← HV.out]; exact hv0)).trans HV.out.symm)
                      go_wp2
                      go_ret
                      exact ⟨congrArg (fun v => Ending.returned (.int .i64 v)) HR.out.symm, HG0.out _ zq2⟩
                  · obtain ⟨r, hr⟩ : ∃ r : Nat, q = na + r := ⟨q - na, by omega⟩
                    have hqa2 : ¬ (q : Int) < (na : Int) := by omega
                    have hk : (q : Int) - (na : Int) = (r : Int) := by omega
                    have hr4 : (r : Int) < (no : Int) := by have := HLE.out; omega
                    obtain ⟨x, b, off, cs, hx, rfl, hb, hS, hxv, hrow⟩ := HO.out.at r (by omega)
                    have HXQ := Lib.hid (show (a ++ o)[q]? = some x by rw [hr, HA.out.1.1, List.getElem?_append_right (by omega)]; simpa using hx)
                    clear hqa hr
                    have HXV := Lib.hid hxv
                    have HIH := Lib.hid (HI.out x (List.mem_of_getElem? HXQ.out))
                    have HSX := Lib.hid (HSM.out x (List.mem_of_getElem? HXQ.out))
                    obtain ⟨v, hv⟩ : ∃ v, v = chkE (d + 1) x := ⟨_, rfl⟩
                    have HV := Lib.hid hv
                    have hrow2 := rangeAt_keep hrow ((HG0.out _ zq).block b hb)
                    obtain ⟨xk, xn, xs, xm, xa, xo⟩ := x
                    obtain ⟨A2, na2, ca2, O2, no2, co2, rfl, -, -⟩ := hxv.open_
                    obtain ⟨e0, e1, e2, e3, e4, e5⟩ := exC_at hrow2
                    clear hx hb hS hxv hrow hrow2 hl hq hv
                    unfold exC at HXV
                    go_wp2_with fail
                    have HC2 := HIH.out (d + 1) _ S _ (by omega) (by omega) HSX.out (HXV.out.below (HG0.out _ zq))
                    rw [← HV.out] at HC2
                    refine HC2.mono ?_
                    rintro e' w2 ⟨rfl, hb2⟩
                    have zq2 := zq.next hb2
                    clear HC2 hb2 e0 e1 e2 e3 e4 e5 zq HIH HXV c4 c5
                    by_cases hv0 : v = 0
                    · subst hv0
                      go_wp2
                      go_roundw
                      case rel => exact ⟨q + 1, HQL.out, by go_num, Lib.hid (chkEs_take_ok HXQ.out n3.out HV.out.symm), zq2⟩
                      case measure => exact meas_up _ _ HQL.out
                    · have hv1 : (v != 0) = true := by simp [hv0]
                      have HR := Lib.hid (show E = v by rw [HEP.out]; exact (chkEs_take_bad HXQ.out n3.out (by rw [← HV.out]; exact hv0)).trans HV.out.symm)
                      go_wp2
                      go_ret
                      exact ⟨congrArg (fun v => Ending.returned (.int .i64 v)) HR.out.symm, HG0.out _ zq2⟩
                · have hi2 : ¬ (q : Int) < (na : Int) + (no : Int) := by have := HLE.out; omega
                  have HR := Lib.hid (show E = 0 by rw [HEP.out, ← n3.out, List.take_of_length_le (by omega)])
                  clear hl hq n3
                  go_wp2
                  go_ret
                  exact ⟨congrArg (fun v => Ending.returned (.int .i64 v)) HR.out.symm, HG0.out _ zq⟩
      · have hp2n := Lib.hid (show decide (j = 6) = true → QM = true from fun h => absurd (of_decide_eq_true h) hp2)
        rcases (by omega : j = 2 ∨ (¬ j = 2 ∧ 6 ≤ j)) with hj2 | ⟨hj2, hj6⟩
        · have t2 : ((j : Int) == 2) = true := by simp; omega
          have t6 : ((j : Int) == 6) = false := by simp; omega
          clear hp1 hp2 hp0 hj2
          go_wp2_with fail
          refine (KS.out _).mono ?_
          rintro e w2 ⟨rfl, hb2⟩
          have y2 := Bz.next y1 hb2
          clear c0 c1 c2 c3 c4 c5 hb2
          obtain ⟨c0, c1, c2, c3, c4, c5⟩ := HF.out _ y2
          cases qs with
            | false =>
              go_wp2
              go_ret
              exact ⟨congrArg (fun v => Ending.returned (.int .i64 v)) (HX.out 16 (by decide) (HH2.out.2.1 EF.out HP1.out ES.out)).symm, HG0.out _ y2⟩
            | true =>
              have HEP := Lib.hid (show E = chkEs (d + 1) (a ++ o) from by
                have hh0 := HH2.out.2.2.2.2 EF.out (fun _ => ES.out) hp2n.out (fun h => absurd h HNP0.out)
                rw [HE.out, chkE_parts hh0, chkEs_append])
              have HLL := Lib.hid (headE_len (HH2.out.2.2.2.2 EF.out (fun _ => ES.out) hp2n.out (fun h => absurd h HNP0.out)))
              have hna4 : (na : Int) ≤ 4 := by have := HLL.out.1; have := HA.out.1.1; omega
              have hno4 : (no : Int) ≤ 4 := by have := HLL.out.2; have := HO.out.1.1; omega
              go_wp2_with fail
              clear c0 c1 c2 c3 c4 c5
              have v0 := y2
              clear y2
              go_loopw [5] (fun i wr => ∃ q : Nat, q ≤ (a ++ o).length ∧ i = .int .i64 q ∧ Hid (chkEs (d + 1) ((a ++ o).take q) = 0) ∧ Bz W0 wr) (fun i _ => (a ++ o).length - (intOf i).toNat)
              case atStart => exact ⟨0, Nat.zero_le _, rfl, Lib.hid (by rw [List.take_zero, chkEs]), v0⟩
              case round =>
                clear v0
                obtain ⟨q, hq, rfl, n3, zq⟩ := hrel
                obtain ⟨-, -, -, -, c4, c5⟩ := HF.out _ zq
                have HLE := Lib.hid (show (a ++ o).length = na + no by rw [List.length_append, HA.out.1.1, HO.out.1.1])
                by_cases hl : q < (a ++ o).length
                · have hi2 : (q : Int) < (na : Int) + (no : Int) := by have := HLE.out; omega
                  have HQL := Lib.hid hl
                  by_cases hqa : q < na
                  · have hqa2 : (q : Int) < (na : Int) := by omega
                    obtain ⟨x, b, off, cs, hx, rfl, hb, hS, hxv, hrow⟩ := HA.out.at q hqa
                    have HXQ := Lib.hid (show (a ++ o)[q]? = some x by rw [List.getElem?_append_left (by have := HA.out.1.1; omega)]; exact hx)
                    clear hqa
                    have HXV := Lib.hid hxv
                    have HIH := Lib.hid (HI.out x (List.mem_of_getElem? HXQ.out))
                    have HSX := Lib.hid (HSM.out x (List.mem_of_getElem? HXQ.out))
                    obtain ⟨v, hv⟩ : ∃ v, v = chkE (d + 1) x := ⟨_, rfl⟩
                    have HV := Lib.hid hv
                    have hrow2 := rangeAt_keep hrow ((HG0.out _ zq).block b hb)
                    obtain ⟨xk, xn, xs, xm, xa, xo⟩ := x
                    obtain ⟨A2, na2, ca2, O2, no2, co2, rfl, -, -⟩ := hxv.open_
                    obtain ⟨e0, e1, e2, e3, e4, e5⟩ := exC_at hrow2
                    clear hx hb hS hxv hrow hrow2 hl hq hv
                    unfold exC at HXV
                    go_wp2_with fail
                    have HC2 := HIH.out (d + 1) _ S _ (by omega) (by omega) HSX.out (HXV.out.below (HG0.out _ zq))
                    rw [← HV.out] at HC2
                    refine HC2.mono ?_
                    rintro e' w2 ⟨rfl, hb2⟩
                    have zq2 := zq.next hb2
                    clear HC2 hb2 e0 e1 e2 e3 e4 e5 zq HIH HXV c4 c5
                    by_cases hv0 : v = 0
                    · subst hv0
                      go_wp2
                      go_roundw
                      case rel => exact ⟨q + 1, HQL.out, by go_num, Lib.hid (chkEs_take_ok HXQ.out n3.out HV.out.symm), zq2⟩
                      case measure => exact meas_up _ _ HQL.out
                    · have hv1 : (v != 0) = true := by simp [hv0]
                      have HR := Lib.hid (show E = v by rw [HEP.out]; exact (chkEs_take_bad HXQ.out n3.out (by rw [← HV.out]; exact hv0)).trans HV.out.symm)
                      go_wp2
                      go_ret
                      exact ⟨congrArg (fun v => Ending.returned (.int .i64 v)) HR.out.symm, HG0.out _ zq2⟩
                  · obtain ⟨r, hr⟩ : ∃ r : Nat, q = na + r := ⟨q - na, by omega⟩
                    have hqa2 : ¬ (q : Int) < (na : Int) := by omega
                    have hk : (q : Int) - (na : Int) = (r : Int) := by omega
                    have hr4 : (r : Int) < (no : Int) := by have := HLE.out; omega
                    obtain ⟨x, b, off, cs, hx, rfl, hb, hS, hxv, hrow⟩ := HO.out.at r (by omega)
                    have HXQ := Lib.hid (show (a ++ o)[q]? = some x by rw [hr, HA.out.1.1, List.getElem?_append_right (by omega)]; simpa using hx)
                    clear hqa hr
                    have HXV := Lib.hid hxv
                    have HIH := Lib.hid (HI.out x (List.mem_of_getElem? HXQ.out))
                    have HSX := Lib.hid (HSM.out x (List.mem_of_getElem? HXQ.out))
                    obtain ⟨v, hv⟩ : ∃ v, v = chkE (d + 1) x := ⟨_, rfl⟩
                    have HV := Lib.hid hv
                    have hrow2 := rangeAt_keep hrow ((HG0.out _ zq).block b hb)
                    obtain ⟨xk, xn, xs, xm, xa, xo⟩ := x
                    obtain ⟨A2, na2, ca2, O2, no2, co2, rfl, -, -⟩ := hxv.open_
                    obtain ⟨e0, e1, e2, e3, e4, e5⟩ := exC_at hrow2
                    clear hx hb hS hxv hrow hrow2 hl hq hv
                    unfold exC at HXV
                    go_wp2_with fail
                    have HC2 := HIH.out (d + 1) _ S _ (by omega) (by omega) HSX.out (HXV.out.below (HG0.out _ zq))
                    rw [← HV.out] at HC2
                    refine HC2.mono ?_
                    rintro e' w2 ⟨rfl, hb2⟩
                    have zq2 := zq.next hb2
                    clear HC2 hb2 e0 e1 e2 e3 e4 e5 zq HIH HXV c4 c5
                    by_cases hv0 : v = 0
                    · subst hv0
                      go_wp2
                      go_roundw
                      case rel => exact ⟨q + 1, HQL.out, by go_num, Lib.hid (chkEs_take_ok HXQ.out n3.out HV.out.symm), zq2⟩
                      case measure => exact meas_up _ _ HQL.out
                    · have hv1 : (v != 0) = true := by simp [hv0]
                      have HR := Lib.hid (show E = v by rw [HEP.out]; exact (chkEs_take_bad HXQ.out n3.out (by rw [← HV.out]; exact hv0)).trans HV.out.symm)
                      go_wp2
                      go_ret
                      exact ⟨congrArg (fun v => Ending.returned (.int .i64 v)) HR.out.symm, HG0.out _ zq2⟩
                · have hi2 : ¬ (q : Int) < (na : Int) + (no : Int) := by have := HLE.out; omega
                  have HR := Lib.hid (show E = 0 by rw [HEP.out, ← n3.out, List.take_of_length_le (by omega)])
                  clear hl hq n3
                  go_wp2
                  go_ret
                  exact ⟨congrArg (fun v => Ending.returned (.int .i64 v)) HR.out.symm, HG0.out _ zq⟩
        · have t2 : ((j : Int) == 2) = false := by simp; omega
          have t6 : ((j : Int) == 6) = false := by simp; omega
          have t66 : 6 ≤ (j : Int) := by omega
          clear hp1 hp2 hp0 hj2 hj6
          go_wp2_with fail
          refine (KS.out _).mono ?_
          rintro e w2 ⟨rfl, hb2⟩
          have y2 := Bz.next y1 hb2
          clear c0 c1 c2 c3 c4 c5 hb2
          obtain ⟨c0, c1, c2, c3, c4, c5⟩ := HF.out _ y2
          cases qs with
            | false =>
              go_wp2
              go_ret
              exact ⟨congrArg (fun v => Ending.returned (.int .i64 v)) (HX.out 16 (by decide) (HH2.out.2.1 EF.out HP1.out ES.out)).symm, HG0.out _ y2⟩
            | true =>
              have HEP := Lib.hid (show E = chkEs (d + 1) (a ++ o) from by
                have hh0 := HH2.out.2.2.2.2 EF.out (fun _ => ES.out) hp2n.out (fun h => absurd h HNP0.out)
                rw [HE.out, chkE_parts hh0, chkEs_append])
              have HLL := Lib.hid (headE_len (HH2.out.2.2.2.2 EF.out (fun _ => ES.out) hp2n.out (fun h => absurd h HNP0.out)))
              have hna4 : (na : Int) ≤ 4 := by have := HLL.out.1; have := HA.out.1.1; omega
              have hno4 : (no : Int) ≤ 4 := by have := HLL.out.2; have := HO.out.1.1; omega
              go_wp2_with fail
              clear c0 c1 c2 c3 c4 c5
              have v0 := y2
              clear y2
              go_loopw [5] (fun i wr => ∃ q : Nat, q ≤ (a ++ o).length ∧ i = .int .i64 q ∧ Hid (chkEs (d + 1) ((a ++ o).take q) = 0) ∧ Bz W0 wr) (fun i _ => (a ++ o).length - (intOf i).toNat)
              case atStart => exact ⟨0, Nat.zero_le _, rfl, Lib.hid (by rw [List.take_zero, chkEs]), v0⟩
              case round =>
                clear v0
                obtain ⟨q, hq, rfl, n3, zq⟩ := hrel
                obtain ⟨-, -, -, -, c4, c5⟩ := HF.out _ zq
                have HLE := Lib.hid (show (a ++ o).length = na + no by rw [List.length_append, HA.out.1.1, HO.out.1.1])
                by_cases hl : q < (a ++ o).length
                · have hi2 : (q : Int) < (na : Int) + (no : Int) := by have := HLE.out; omega
                  have HQL := Lib.hid hl
                  by_cases hqa : q < na
                  · have hqa2 : (q : Int) < (na : Int) := by omega
                    obtain ⟨x, b, off, cs, hx, rfl, hb, hS, hxv, hrow⟩ := HA.out.at q hqa
                    have HXQ := Lib.hid (show (a ++ o)[q]? = some x by rw [List.getElem?_append_left (by have := HA.out.1.1; omega)]; exact hx)
                    clear hqa
                    have HXV := Lib.hid hxv
                    have HIH := Lib.hid (HI.out x (List.mem_of_getElem? HXQ.out))
                    have HSX := Lib.hid (HSM.out x (List.mem_of_getElem? HXQ.out))
                    obtain ⟨v, hv⟩ : ∃ v, v = chkE (d + 1) x := ⟨_, rfl⟩
                    have HV := Lib.hid hv
                    have hrow2 := rangeAt_keep hrow ((HG0.out _ zq).block b hb)
                    obtain ⟨xk, xn, xs, xm, xa, xo⟩ := x
                    obtain ⟨A2, na2, ca2, O2, no2, co2, rfl, -, -⟩ := hxv.open_
                    obtain ⟨e0, e1, e2, e3, e4, e5⟩ := exC_at hrow2
                    clear hx hb hS hxv hrow hrow2 hl hq hv
                    unfold exC at HXV
                    go_wp2_with fail
                    have HC2 := HIH.out (d + 1) _ S _ (by omega) (by omega) HSX.out (HXV.out.below (HG0.out _ zq))
                    rw [← HV.out] at HC2
                    refine HC2.mono ?_
                    rintro e' w2 ⟨rfl, hb2⟩
                    have zq2 := zq.next hb2
                    clear HC2 hb2 e0 e1 e2 e3 e4 e5 zq HIH HXV c4 c5
                    by_cases hv0 : v = 0
                    · subst hv0
                      go_wp2
                      go_roundw
                      case rel => exact ⟨q + 1, HQL.out, by go_num, Lib.hid (chkEs_take_ok HXQ.out n3.out HV.out.symm), zq2⟩
                      case measure => exact meas_up _ _ HQL.out
                    · have hv1 : (v != 0) = true := by simp [hv0]
                      have HR := Lib.hid (show E = v by rw [HEP.out]; exact (chkEs_take_bad HXQ.out n3.out (by rw [← HV.out]; exact hv0)).trans HV.out.symm)
                      go_wp2
                      go_ret
                      exact ⟨congrArg (fun v => Ending.returned (.int .i64 v)) HR.out.symm, HG0.out _ zq2⟩
                  · obtain ⟨r, hr⟩ : ∃ r : Nat, q = na + r := ⟨q - na, by omega⟩
                    have hqa2 : ¬ (q : Int) < (na : Int) := by omega
                    have hk : (q : Int) - (na : Int) = (r : Int) := by omega
                    have hr4 : (r : Int) < (no : Int) := by have := HLE.out; omega
                    obtain ⟨x, b, off, cs, hx, rfl, hb, hS, hxv, hrow⟩ := HO.out.at r (by omega)
                    have HXQ := Lib.hid (show (a ++ o)[q]? = some x by rw [hr, HA.out.1.1, List.getElem?_append_right (by omega)]; simpa using hx)
                    clear hqa hr
                    have HXV := Lib.hid hxv
                    have HIH := Lib.hid (HI.out x (List.mem_of_getElem? HXQ.out))
                    have HSX := Lib.hid (HSM.out x (List.mem_of_getElem? HXQ.out))
                    obtain ⟨v, hv⟩ : ∃ v, v = chkE (d + 1) x := ⟨_, rfl⟩
                    have HV := Lib.hid hv
                    have hrow2 := rangeAt_keep hrow ((HG0.out _ zq).block b hb)
                    obtain ⟨xk, xn, xs, xm, xa, xo⟩ := x
                    obtain ⟨A2, na2, ca2, O2, no2, co2, rfl, -, -⟩ := hxv.open_
                    obtain ⟨e0, e1, e2, e3, e4, e5⟩ := exC_at hrow2
                    clear hx hb hS hxv hrow hrow2 hl hq hv
                    unfold exC at HXV
                    go_wp2_with fail
                    have HC2 := HIH.out (d + 1) _ S _ (by omega) (by omega) HSX.out (HXV.out.below (HG0.out _ zq))
                    rw [← HV.out] at HC2
                    refine HC2.mono ?_
                    rintro e' w2 ⟨rfl, hb2⟩
                    have zq2 := zq.next hb2
                    clear HC2 hb2 e0 e1 e2 e3 e4 e5 zq HIH HXV c4 c5
                    by_cases hv0 : v = 0
                    · subst hv0
                      go_wp2
                      go_roundw
                      case rel => exact ⟨q + 1, HQL.out, by go_num, Lib.hid (chkEs_take_ok HXQ.out n3.out HV.out.symm), zq2⟩
                      case measure => exact meas_up _ _ HQL.out
                    · have hv1 : (v != 0) = true := by simp [hv0]
                      have HR := Lib.hid (show E = v by rw [HEP.out]; exact (chkEs_take_bad HXQ.out n3.out (by rw [← HV.out]; exact hv0)).trans HV.out.symm)
                      go_wp2
                      go_ret
                      exact ⟨congrArg (fun v => Ending.returned (.int .i64 v)) HR.out.symm, HG0.out _ zq2⟩
                · have hi2 : ¬ (q : Int) < (na : Int) + (no : Int) := by have := HLE.out; omega
                  have HR := Lib.hid (show E = 0 by rw [HEP.out, ← n3.out, List.take_of_length_le (by omega)])
                  clear hl hq n3
                  go_wp2
                  go_ret
                  exact ⟨congrArg (fun v => Ending.returned (.int .i64 v)) HR.out.symm, HG0.out _ zq⟩
    · have HNP1 := Lib.hid (show decide (j = 2 ∨ 6 ≤ j) = true → QS = true from fun h => absurd (of_decide_eq_true h) hp1)
      have HNP2 := Lib.hid (show decide (j = 6) = true → QM = true from fun h => absurd (of_decide_eq_true h) (by omega))
      have t2 : ((j : Int) == 2) = false := by simp; omega
      have t6 : ((j : Int) == 6) = false := by simp; omega
      have t66 : ¬ 6 ≤ (j : Int) := by omega
      by_cases hp0 : j ≤ 1
      · have HP0 := Lib.hid (decide_eq_true hp0)
        have hp0' : (j : Int) ≤ 1 := by omega
        clear hp1
        by_cases hn0 : n < 0
        · have HN0 := Lib.hid hn0
          go_wp2
          go_ret
          exact ⟨congrArg (fun v => Ending.returned (.int .i64 v)) (HX.out 3 (by decide) (HH2.out.2.2.2.1 EF.out HNP1.out HNP2.out HP0.out (by have := HN0.out; omega))).symm, HG0.out _ y1⟩
        · have HN0 := Lib.hid hn0
          by_cases hj1 : j = 1
          · have HJ1 := Lib.hid hj1
            have t11 : ((j : Int) == 1) = true := by simp; omega
            clear hj1 hp0
            by_cases hn1 : 1 < n
            · have HN1 := Lib.hid hn1
              go_wp2
              go_ret
              exact ⟨congrArg (fun v => Ending.returned (.int .i64 v)) (HX.out 3 (by decide) (HH2.out.2.2.2.1 EF.out HNP1.out HNP2.out HP0.out (by have := HN1.out; have := HJ1.out; rw [if_neg (by omega)]; omega))).symm, HG0.out _ y1⟩
            · have HN1 := Lib.hid hn1
              have HEP := Lib.hid (show E = chkEs (d + 1) (a ++ o) from by
                have hh0 := HH2.out.2.2.2.2 EF.out HNP1.out HNP2.out (fun _ => by have := HN0.out; have := HN1.out; have := HJ1.out; rw [if_neg (by omega)]; omega)
                rw [HE.out, chkE_parts hh0, chkEs_append])
              have HLL := Lib.hid (headE_len (HH2.out.2.2.2.2 EF.out HNP1.out HNP2.out (fun _ => by have := HN0.out; have := HN1.out; have := HJ1.out; rw [if_neg (by omega)]; omega)))
              have hna4 : (na : Int) ≤ 4 := by have := HLL.out.1; have := HA.out.1.1; omega
              have hno4 : (no : Int) ≤ 4 := by have := HLL.out.2; have := HO.out.1.1; omega
              go_wp2_with fail
              clear c0 c1 c2 c3 c4 c5
              have v0 := y1
              clear y1
              go_loopw [5] (fun i wr => ∃ q : Nat, q ≤ (a ++ o).length ∧ i = .int .i64 q ∧ Hid (chkEs (d + 1) ((a ++ o).take q) = 0) ∧ Bz W0 wr) (fun i _ => (a ++ o).length - (intOf i).toNat)
              case atStart => exact ⟨0, Nat.zero_le _, rfl, Lib.hid (by rw [List.take_zero, chkEs]), v0⟩
              case round =>
                clear v0
                obtain ⟨q, hq, rfl, n3, zq⟩ := hrel
                obtain ⟨-, -, -, -, c4, c5⟩ := HF.out _ zq
                have HLE := Lib.hid (show (a ++ o).length = na + no by rw [List.length_append, HA.out.1.1, HO.out.1.1])
                by_cases hl : q < (a ++ o).length
                · have hi2 : (q : Int) < (na : Int) + (no : Int) := by have := HLE.out; omega
                  have HQL := Lib.hid hl
                  by_cases hqa : q < na
                  · have hqa2 : (q : Int) < (na : Int) := by omega
                    obtain ⟨x, b, off, cs, hx, rfl, hb, hS, hxv, hrow⟩ := HA.out.at q hqa
                    have HXQ := Lib.hid (show (a ++ o)[q]? = some x by rw [List.getElem?_append_left (by have := HA.out.1.1; omega)]; exact hx)
                    clear hqa
                    have HXV := Lib.hid hxv
                    have HIH := Lib.hid (HI.out x (List.mem_of_getElem? HXQ.out))
                    have HSX := Lib.hid (HSM.out x (List.mem_of_getElem? HXQ.out))
                    obtain ⟨v, hv⟩ : ∃ v, v = chkE (d + 1) x := ⟨_, rfl⟩
                    have HV := Lib.hid hv
                    have hrow2 := rangeAt_keep hrow ((HG0.out _ zq).block b hb)
                    obtain ⟨xk, xn, xs, xm, xa, xo⟩ := x
                    obtain ⟨A2, na2, ca2, O2, no2, co2, rfl, -, -⟩ := hxv.open_
                    obtain ⟨e0, e1, e2, e3, e4, e5⟩ := exC_at hrow2
                    clear hx hb hS hxv hrow hrow2 hl hq hv
                    unfold exC at HXV
                    go_wp2_with fail
                    have HC2 := HIH.out (d + 1) _ S _ (by omega) (by omega) HSX.out (HXV.out.below (HG0.out _ zq))
                    rw [← HV.out] at HC2
                    refine HC2.mono ?_
                    rintro e' w2 ⟨rfl, hb2⟩
                    have zq2 := zq.next hb2
                    clear HC2 hb2 e0 e1 e2 e3 e4 e5 zq HIH HXV c4 c5
                    by_cases hv0 : v = 0
                    · subst hv0
                      go_wp2
                      go_roundw
                      case rel => exact ⟨q + 1, HQL.out, by go_num, Lib.hid (chkEs_take_ok HXQ.out n3.out HV.out.symm), zq2⟩
                      case measure => exact meas_up _ _ HQL.out
                    · have hv1 : (v != 0) = true := by simp [hv0]
                      have HR := Lib.hid (show E = v by rw [HEP.out]; exact (chkEs_take_bad HXQ.out n3.out (by rw [← HV.out]; exact hv0)).trans HV.out.symm)
                      go_wp2
                      go_ret
                      exact ⟨congrArg (fun v => Ending.returned (.int .i64 v)) HR.out.symm, HG0.out _ zq2⟩
                  · obtain ⟨r, hr⟩ : ∃ r : Nat, q = na + r := ⟨q - na, by omega⟩
                    have hqa2 : ¬ (q : Int) < (na : Int) := by omega
                    have hk : (q : Int) - (na : Int) = (r : Int) := by omega
                    have hr4 : (r : Int) < (no : Int) := by have := HLE.out; omega
                    obtain ⟨x, b, off, cs, hx, rfl, hb, hS, hxv, hrow⟩ := HO.out.at r (by omega)
                    have HXQ := Lib.hid (show (a ++ o)[q]? = some x by rw [hr, HA.out.1.1, List.getElem?_append_right (by omega)]; simpa using hx)
                    clear hqa hr
                    have HXV := Lib.hid hxv
                    have HIH := Lib.hid (HI.out x (List.mem_of_getElem? HXQ.out))
                    have HSX := Lib.hid (HSM.out x (List.mem_of_getElem? HXQ.out))
                    obtain ⟨v, hv⟩ : ∃ v, v = chkE (d + 1) x := ⟨_, rfl⟩
                    have HV := Lib.hid hv
                    have hrow2 := rangeAt_keep hrow ((HG0.out _ zq).block b hb)
                    obtain ⟨xk, xn, xs, xm, xa, xo⟩ := x
                    obtain ⟨A2, na2, ca2, O2, no2, co2, rfl, -, -⟩ := hxv.open_
                    obtain ⟨e0, e1, e2, e3, e4, e5⟩ := exC_at hrow2
                    clear hx hb hS hxv hrow hrow2 hl hq hv
                    unfold exC at HXV
                    go_wp2_with fail
                    have HC2 := HIH.out (d + 1) _ S _ (by omega) (by omega) HSX.out (HXV.out.below (HG0.out _ zq))
                    rw [← HV.out] at HC2
                    refine HC2.mono ?_
                    rintro e' w2 ⟨rfl, hb2⟩
                    have zq2 := zq.next hb2
                    clear HC2 hb2 e0 e1 e2 e3 e4 e5 zq HIH HXV c4 c5
                    by_cases hv0 : v = 0
                    · subst hv0
                      go_wp2
                      go_roundw
                      case rel => exact ⟨q + 1, HQL.out, by go_num, Lib.hid (chkEs_take_ok HXQ.out n3.out HV.out.symm), zq2⟩
                      case measure => exact meas_up _ _ HQL.out
                    · have hv1 : (v != 0) = true := by simp [hv0]
                      have HR := Lib.hid (show E = v by rw [HEP.out]; exact (chkEs_take_bad HXQ.out n3.out (by rw [← HV.out]; exact hv0)).trans HV.out.symm)
                      go_wp2
                      go_ret
                      exact ⟨congrArg (fun v => Ending.returned (.int .i64 v)) HR.out.symm, HG0.out _ zq2⟩
                · have hi2 : ¬ (q : Int) < (na : Int) + (no : Int) := by have := HLE.out; omega
                  have HR := Lib.hid (show E = 0 by rw [HEP.out, ← n3.out, List.take_of_length_le (by omega)])
                  clear hl hq n3
                  go_wp2
                  go_ret
                  exact ⟨congrArg (fun v => Ending.returned (.int .i64 v)) HR.out.symm, HG0.out _ zq⟩
          · have HJ1 := Lib.hid hj1
            have HJ0 := Lib.hid (show j = 0 by omega)
            have t11 : ((j : Int) == 1) = false := by simp; omega
            clear hj1 hp0
            have HEP := Lib.hid (show E = chkEs (d + 1) (a ++ o) from by
              have hh0 := HH2.out.2.2.2.2 EF.out HNP1.out HNP2.out (fun _ => by have := HN0.out; have := HN.out.2; have := HJ0.out; rw [if_pos (by omega)]; omega)
              rw [HE.out, chkE_parts hh0, chkEs_append])
            have HLL := Lib.hid (headE_len (HH2.out.2.2.2.2 EF.out HNP1.out HNP2.out (fun _ => by have := HN0.out; have := HN.out.2; have := HJ0.out; rw [if_pos (by omega)]; omega)))
            have hna4 : (na : Int) ≤ 4 := by have := HLL.out.1; have := HA.out.1.1; omega
            have hno4 : (no : Int) ≤ 4 := by have := HLL.out.2; have := HO.out.1.1; omega
            go_wp2_with fail
            clear c0 c1 c2 c3 c4 c5
            have v0 := y1
            clear y1
            go_loopw [5] (fun i wr => ∃ q : Nat, q ≤ (a ++ o).length ∧ i = .int .i64 q ∧ Hid (chkEs (d + 1) ((a ++ o).take q) = 0) ∧ Bz W0 wr) (fun i _ => (a ++ o).length - (intOf i).toNat)
            case atStart => exact ⟨0, Nat.zero_le _, rfl, Lib.hid (by rw [List.take_zero, chkEs]), v0⟩
            case round =>
              clear v0
              obtain ⟨q, hq, rfl, n3, zq⟩ := hrel
              obtain ⟨-, -, -, -, c4, c5⟩ := HF.out _ zq
              have HLE := Lib.hid (show (a ++ o).length = na + no by rw [List.length_append, HA.out.1.1, HO.out.1.1])
              by_cases hl : q < (a ++ o).length
              · have hi2 : (q : Int) < (na : Int) + (no : Int) := by have := HLE.out; omega
                have HQL := Lib.hid hl
                by_cases hqa : q < na
                · have hqa2 : (q : Int) < (na : Int) := by omega
                  obtain ⟨x, b, off, cs, hx, rfl, hb, hS, hxv, hrow⟩ := HA.out.at q hqa
                  have HXQ := Lib.hid (show (a ++ o)[q]? = some x by rw [List.getElem?_append_left (by have := HA.out.1.1; omega)]; exact hx)
                  clear hqa
                  have HXV := Lib.hid hxv
                  have HIH := Lib.hid (HI.out x (List.mem_of_getElem? HXQ.out))
                  have HSX := Lib.hid (HSM.out x (List.mem_of_getElem? HXQ.out))
                  obtain ⟨v, hv⟩ : ∃ v, v = chkE (d + 1) x := ⟨_, rfl⟩
                  have HV := Lib.hid hv
                  have hrow2 := rangeAt_keep hrow ((HG0.out _ zq).block b hb)
                  obtain ⟨xk, xn, xs, xm, xa, xo⟩ := x
                  obtain ⟨A2, na2, ca2, O2, no2, co2, rfl, -, -⟩ := hxv.open_
                  obtain ⟨e0, e1, e2, e3, e4, e5⟩ := exC_at hrow2
                  clear hx hb hS hxv hrow hrow2 hl hq hv
                  unfold exC at HXV
                  go_wp2_with fail
                  have HC2 := HIH.out (d + 1) _ S _ (by omega) (by omega) HSX.out (HXV.out.below (HG0.out _ zq))
                  rw [← HV.out] at HC2
                  refine HC2.mono ?_
                  rintro e' w2 ⟨rfl, hb2⟩
                  have zq2 := zq.next hb2
                  clear HC2 hb2 e0 e1 e2 e3 e4 e5 zq HIH HXV c4 c5
                  by_cases hv0 : v = 0
                  · subst hv0
                    go_wp2
                    go_roundw
                    case rel => exact ⟨q + 1, HQL.out, by go_num, Lib.hid (chkEs_take_ok HXQ.out n3.out HV.out.symm), zq2⟩
                    case measure => exact meas_up _ _ HQL.out
                  · have hv1 : (v != 0) = true := by simp [hv0]
                    have HR := Lib.hid (show E = v by rw [HEP.out]; exact (chkEs_take_bad HXQ.out n3.out (by rw [← HV.out]; exact hv0)).trans HV.out.symm)
                    go_wp2
                    go_ret
                    exact ⟨congrArg (fun v => Ending.returned (.int .i64 v)) HR.out.symm, HG0.out _ zq2⟩
                · obtain ⟨r, hr⟩ : ∃ r : Nat, q = na + r := ⟨q - na, by omega⟩
                  have hqa2 : ¬ (q : Int) < (na : Int) := by omega
                  have hk : (q : Int) - (na : Int) = (r : Int) := by omega
                  have hr4 : (r : Int) < (no : Int) := by have := HLE.out; omega
                  obtain ⟨x, b, off, cs, hx, rfl, hb, hS, hxv, hrow⟩ := HO.out.at r (by omega)
                  have HXQ := Lib.hid (show (a ++ o)[q]? = some x by rw [hr, HA.out.1.1, List.getElem?_append_right (by omega)]; simpa using hx)
                  clear hqa hr
                  have HXV := Lib.hid hxv
                  have HIH := Lib.hid (HI.out x (List.mem_of_getElem? HXQ.out))
                  have HSX := Lib.hid (HSM.out x (List.mem_of_getElem? HXQ.out))
                  obtain ⟨v, hv⟩ : ∃ v, v = chkE (d + 1) x := ⟨_, rfl⟩
                  have HV := Lib.hid hv
                  have hrow2 := rangeAt_keep hrow ((HG0.out _ zq).block b hb)
                  obtain ⟨xk, xn, xs, xm, xa, xo⟩ := x
                  obtain ⟨A2, na2, ca2, O2, no2, co2, rfl, -, -⟩ := hxv.open_
                  obtain ⟨e0, e1, e2, e3, e4, e5⟩ := exC_at hrow2
                  clear hx hb hS hxv hrow hrow2 hl hq hv
                  unfold exC at HXV
                  go_wp2_with fail
                  have HC2 := HIH.out (d + 1) _ S _ (by omega) (by omega) HSX.out (HXV.out.below (HG0.out _ zq))
                  rw [← HV.out] at HC2
                  refine HC2.mono ?_
                  rintro e' w2 ⟨rfl, hb2⟩
                  have zq2 := zq.next hb2
                  clear HC2 hb2 e0 e1 e2 e3 e4 e5 zq HIH HXV c4 c5
                  by_cases hv0 : v = 0
                  · subst hv0
                    go_wp2
                    go_roundw
                    case rel => exact ⟨q + 1, HQL.out, by go_num, Lib.hid (chkEs_take_ok HXQ.out n3.out HV.out.symm), zq2⟩
                    case measure => exact meas_up _ _ HQL.out
                  · have hv1 : (v != 0) = true := by simp [hv0]
                    have HR := Lib.hid (show E = v by rw [HEP.out]; exact (chkEs_take_bad HXQ.out n3.out (by rw [← HV.out]; exact hv0)).trans HV.out.symm)
                    go_wp2
                    go_ret
                    exact ⟨congrArg (fun v => Ending.returned (.int .i64 v)) HR.out.symm, HG0.out _ zq2⟩
              · have hi2 : ¬ (q : Int) < (na : Int) + (no : Int) := by have := HLE.out; omega
                have HR := Lib.hid (show E = 0 by rw [HEP.out, ← n3.out, List.take_of_length_le (by omega)])
                clear hl hq n3
                go_wp2
                go_ret
                exact ⟨congrArg (fun v => Ending.returned (.int .i64 v)) HR.out.symm, HG0.out _ zq⟩
      · have HNP0 := Lib.hid (show ¬ decide (j ≤ 1) = true from fun h => absurd (of_decide_eq_true h) hp0)
        have hp0' : ¬ (j : Int) ≤ 1 := by omega
        clear hp1 hp0
        have HEP := Lib.hid (show E = chkEs (d + 1) (a ++ o) from by
          have hh0 := HH2.out.2.2.2.2 EF.out HNP1.out HNP2.out (fun h => absurd h HNP0.out)
          rw [HE.out, chkE_parts hh0, chkEs_append])
        have HLL := Lib.hid (headE_len (HH2.out.2.2.2.2 EF.out HNP1.out HNP2.out (fun h => absurd h HNP0.out)))
        have hna4 : (na : Int) ≤ 4 := by have := HLL.out.1; have := HA.out.1.1; omega
        have hno4 : (no : Int) ≤ 4 := by have := HLL.out.2; have := HO.out.1.1; omega
        go_wp2_with fail
        clear c0 c1 c2 c3 c4 c5
        have v0 := y1
        clear y1
        go_loopw [5] (fun i wr => ∃ q : Nat, q ≤ (a ++ o).length ∧ i = .int .i64 q ∧ Hid (chkEs (d + 1) ((a ++ o).take q) = 0) ∧ Bz W0 wr) (fun i _ => (a ++ o).length - (intOf i).toNat)
        case atStart => exact ⟨0, Nat.zero_le _, rfl, Lib.hid (by rw [List.take_zero, chkEs]), v0⟩
        case round =>
          clear v0
          obtain ⟨q, hq, rfl, n3, zq⟩ := hrel
          obtain ⟨-, -, -, -, c4, c5⟩ := HF.out _ zq
          have HLE := Lib.hid (show (a ++ o).length = na + no by rw [List.length_append, HA.out.1.1, HO.out.1.1])
          by_cases hl : q < (a ++ o).length
          · have hi2 : (q : Int) < (na : Int) + (no : Int) := by have := HLE.out; omega
            have HQL := Lib.hid hl
            by_cases hqa : q < na
            · have hqa2 : (q : Int) < (na : Int) := by omega
              obtain ⟨x, b, off, cs, hx, rfl, hb, hS, hxv, hrow⟩ := HA.out.at q hqa
              have HXQ := Lib.hid (show (a ++ o)[q]? = some x by rw [List.getElem?_append_left (by have := HA.out.1.1; omega)]; exact hx)
              clear hqa
              have HXV := Lib.hid hxv
              have HIH := Lib.hid (HI.out x (List.mem_of_getElem? HXQ.out))
              have HSX := Lib.hid (HSM.out x (List.mem_of_getElem? HXQ.out))
              obtain ⟨v, hv⟩ : ∃ v, v = chkE (d + 1) x := ⟨_, rfl⟩
              have HV := Lib.hid hv
              have hrow2 := rangeAt_keep hrow ((HG0.out _ zq).block b hb)
              obtain ⟨xk, xn, xs, xm, xa, xo⟩ := x
              obtain ⟨A2, na2, ca2, O2, no2, co2, rfl, -, -⟩ := hxv.open_
              obtain ⟨e0, e1, e2, e3, e4, e5⟩ := exC_at hrow2
              clear hx hb hS hxv hrow hrow2 hl hq hv
              unfold exC at HXV
              go_wp2_with fail
              have HC2 := HIH.out (d + 1) _ S _ (by omega) (by omega) HSX.out (HXV.out.below (HG0.out _ zq))
              rw [← HV.out] at HC2
              refine HC2.mono ?_
              rintro e' w2 ⟨rfl, hb2⟩
              have zq2 := zq.next hb2
              clear HC2 hb2 e0 e1 e2 e3 e4 e5 zq HIH HXV c4 c5
              by_cases hv0 : v = 0
              · subst hv0
                go_wp2
                go_roundw
                case rel => exact ⟨q + 1, HQL.out, by go_num, Lib.hid (chkEs_take_ok HXQ.out n3.out HV.out.symm), zq2⟩
                case measure => exact meas_up _ _ HQL.out
              · have hv1 : (v != 0) = true := by simp [hv0]
                have HR := Lib.hid (show E = v by rw [HEP.out]; exact (chkEs_take_bad HXQ.out n3.out (by rw [← HV.out]; exact hv0)).trans HV.out.symm)
                go_wp2
                go_ret
                exact ⟨congrArg (fun v => Ending.returned (.int .i64 v)) HR.out.symm, HG0.out _ zq2⟩
            · obtain ⟨r, hr⟩ : ∃ r : Nat, q = na + r := ⟨q - na, by omega⟩
              have hqa2 : ¬ (q : Int) < (na : Int) := by omega
              have hk : (q : Int) - (na : Int) = (r : Int) := by omega
              have hr4 : (r : Int) < (no : Int) := by have := HLE.out; omega
              obtain ⟨x, b, off, cs, hx, rfl, hb, hS, hxv, hrow⟩ := HO.out.at r (by omega)
              have HXQ := Lib.hid (show (a ++ o)[q]? = some x by rw [hr, HA.out.1.1, List.getElem?_append_right (by omega)]; simpa using hx)
              clear hqa hr
              have HXV := Lib.hid hxv
              have HIH := Lib.hid (HI.out x (List.mem_of_getElem? HXQ.out))
              have HSX := Lib.hid (HSM.out x (List.mem_of_getElem? HXQ.out))
              obtain ⟨v, hv⟩ : ∃ v, v = chkE (d + 1) x := ⟨_, rfl⟩
              have HV := Lib.hid hv
              have hrow2 := rangeAt_keep hrow ((HG0.out _ zq).block b hb)
              obtain ⟨xk, xn, xs, xm, xa, xo⟩ := x
              obtain ⟨A2, na2, ca2, O2, no2, co2, rfl, -, -⟩ := hxv.open_
              obtain ⟨e0, e1, e2, e3, e4, e5⟩ := exC_at hrow2
              clear hx hb hS hxv hrow hrow2 hl hq hv
              unfold exC at HXV
              go_wp2_with fail
              have HC2 := HIH.out (d + 1) _ S _ (by omega) (by omega) HSX.out (HXV.out.below (HG0.out _ zq))
              rw [← HV.out] at HC2
              refine HC2.mono ?_
              rintro e' w2 ⟨rfl, hb2⟩
              have zq2 := zq.next hb2
              clear HC2 hb2 e0 e1 e2 e3 e4 e5 zq HIH HXV c4 c5
              by_cases hv0 : v = 0
              · subst hv0
                go_wp2
                go_roundw
                case rel => exact ⟨q + 1, HQL.out, by go_num, Lib.hid (chkEs_take_ok HXQ.out n3.out HV.out.symm), zq2⟩
                case measure => exact meas_up _ _ HQL.out
              · have hv1 : (v != 0) = true := by simp [hv0]
                have HR := Lib.hid (show E = v by rw [HEP.out]; exact (chkEs_take_bad HXQ.out n3.out (by rw [← HV.out]; exact hv0)).trans HV.out.symm)
                go_wp2
                go_ret
                exact ⟨congrArg (fun v => Ending.returned (.int .i64 v)) HR.out.symm, HG0.out _ zq2⟩
          · have hi2 : ¬ (q : Int) < (na : Int) + (no : Int) := by have := HLE.out; omega
            have HR := Lib.hid (show E = 0 by rw [HEP.out, ← n3.out, List.take_of_length_le (by omega)])
            clear hl hq n3
            go_wp2
            go_ret
            exact ⟨congrArg (fun v => Ending.returned (.int .i64 v)) HR.out.symm, HG0.out _ zq⟩
theorem rexprWrong_any (e : Ex) : RWrongAt e := by
  obtain ⟨N, hN⟩ : ∃ N, N = e.size := ⟨_, rfl⟩
  induction N using Nat.strongRecOn generalizing e with
  | _ N ih =>
    intro d w S cs hd0 hdb hsm hx
    by_cases hd : 12 < d
    · have h1 : headE d e = 18 := by unfold headE; rw [if_pos hd]
      rw [chkE_head (by rw [h1]; decide), h1]
      exact rexprWrong_head e d w S cs hd hx
    · obtain ⟨k, n, s, m, a, o⟩ := e
      by_cases hk : k < 0 ∨ 7 < k
      · have h1 : headE d (.mk k n s m a o) = 2 := by
          unfold headE
          rw [if_neg hd]
          exact if_pos hk
        rw [chkE_head (by rw [h1]; decide), h1]
        exact rexprWrong_kind k n s m a o d w S cs hd hk hx
      · obtain ⟨j, rfl⟩ : ∃ j : Nat, k = j := ⟨k.toNat, by omega⟩
        refine rexprWrong_mid j (by omega) n s m a o (fun x hx => ih x.size ?_ x rfl) d w S cs hd0 hd hsm hx
        rw [hN, Ex.size]
        rcases List.mem_append.1 hx with h | h
        · have := Ex.sizes_mem h; omega
        · have := Ex.sizes_mem h; omega
end Go.Proofs.YthfjkdgaiaokdaaDoor
