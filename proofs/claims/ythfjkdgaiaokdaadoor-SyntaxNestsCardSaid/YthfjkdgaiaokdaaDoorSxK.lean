/- The walk of Stmt.wrong (printed by wip/gensxk.py). Conditions: the table of keywords is laid (SxW); at most 1000000 parts. -/
import Derived.Test.YthfjkdgaiaokdaaDoorSxJ
set_option linter.unusedVariables false
set_option linter.unusedSimpArgs false
namespace Go.Proofs.YthfjkdgaiaokdaaDoor
open Go.RowKit

theorem chkS_head {d k : Int} {s : Str} {n : Int} {e : Ex} {b l : List St} (h : headS d k s n e b.length l.length ≠ 0) : chkS d (.mk k s n e b l) = headS d k s n e b.length l.length := by
  rw [chkS, if_pos h]
theorem chkS_parts {d k : Int} {s : Str} {n : Int} {e : Ex} {b l : List St} (h : headS d k s n e b.length l.length = 0) : chkS d (.mk k s n e b l) = if hasX k = true ∧ chkE 1 e ≠ 0 then chkE 1 e else if chkSs (d + 1) b ≠ 0 then chkSs (d + 1) b else chkSs (d + 1) l := by
  rw [chkS, if_neg (by simp [h])]
theorem headS_cases (j : Nat) (hj : j < 7) (s : Str) (n : Int) (e : Ex) (nb nl : Nat) (d : Int) (hd : ¬ 12 < d) {f : Bool} (hf : f = formS (j : Int) s n e nb nl) :
    (f = false → headS d (j : Int) s n e nb nl = 5) ∧ (f = true → decide ((j : Int) ≤ 1 ∧ 0 ≤ (j : Int)) = true → nameOk s = false → headS d (j : Int) s n e nb nl = 16) ∧
    (f = true → (decide ((j : Int) ≤ 1 ∧ 0 ≤ (j : Int)) = true → nameOk s = true) → (n < 0 ∨ ((j : Int) = 4 ∧ 64 < n)) → headS d (j : Int) s n e nb nl = 3) ∧
    (f = true → (decide ((j : Int) ≤ 1 ∧ 0 ≤ (j : Int)) = true → nameOk s = true) → ¬ n < 0 → ¬ ((j : Int) = 4 ∧ 64 < n) → headS d (j : Int) s n e nb nl = 0) := by
  have h0 : ¬ ((j : Int) < 0 ∨ 6 < (j : Int)) := by omega
  have hf2 : f = true ↔ ¬ ((¬ (j : Int) ≤ 1 ∧ s ≠ []) ∨ (¬ ((j : Int) = 4 ∨ (j : Int) = 6) ∧ n ≠ 0) ∨ ((j : Int) ≠ 3 ∧ 0 < nl) ∨ ((j : Int) ≠ 3 ∧ (j : Int) ≠ 4 ∧ 0 < nb) ∨ (hasX (j : Int) = false ∧ emptyE e = false) ∨ ((j : Int) = 2 ∧ e.kind ≠ 6 ∧ e.kind ≠ 7)) := by
    rw [hf, formS]; exact decide_eq_true_iff
  simp only [decide_eq_true_eq]
  unfold headS
  rw [if_neg hd, if_neg h0]
  refine ⟨fun h => ?_, fun h h1 h2 => ?_, fun h h1 h2 => ?_, fun h h1 h2 h3 => ?_⟩
  · rw [if_pos]
    exact Classical.byContradiction fun hc => by rw [hf2.2 hc] at h; cases h
  · rw [if_neg (hf2.1 h), if_pos ⟨h1.1, h2⟩]
  · rw [if_neg (hf2.1 h), if_neg, if_pos h2]
    rintro ⟨h5, h6⟩
    rw [h1 ⟨h5, by omega⟩] at h6; cases h6
  · rw [if_neg (hf2.1 h), if_neg, if_neg]
    · rintro (h5 | h5)
      · exact h2 h5
      · exact h3 h5
    · rintro ⟨h5, h6⟩
      rw [h1 ⟨h5, by omega⟩] at h6; cases h6
set_option maxRecDepth 100000 in
theorem stmtWrong_head (e : St) (d : Int) (w : World) (S : Nat → Prop) (cs : List Value) (hd : 12 < d) (hx : SV w S e cs) :
    Calls Tryd.prog 57 #[.agg cs.toArray, .int .i64 d] w fun e' w' => e' = .returned (.int .i64 18) ∧ Below w.heap.size w w' := by
  obtain ⟨k, s, n, x, b, l⟩ := e
  obtain ⟨ex, B, nb, cb, L, nl, cl, rfl, hex, -, -⟩ := hx.open_
  obtain ⟨ek, en, es, em, a, o⟩ := x
  obtain ⟨A, na, ca, O, no, co, rfl, -, -⟩ := hex.open_
  clear hx hex
  unfold stC exC
  simp only [List.cons_append, List.nil_append]
  go_enter Tryd.func57, Tryd.ntmps57
  go_wp2
  go_ret
  exact ⟨rfl, (Below.refl _ _).alloc (Nat.le_refl _) _⟩
set_option maxRecDepth 100000 in
theorem stmtWrong_kind (k : Int) (s : Str) (n : Int) (x : Ex) (b l : List St) (d : Int) (w : World) (S : Nat → Prop) (cs : List Value) (hd : ¬ 12 < d) (hk : k < 0 ∨ 6 < k) (hx : SV w S (.mk k s n x b l) cs) :
    Calls Tryd.prog 57 #[.agg cs.toArray, .int .i64 d] w fun e' w' => e' = .returned (.int .i64 2) ∧ Below w.heap.size w w' := by
  obtain ⟨ex, B, nb, cb, L, nl, cl, rfl, hex, -, -⟩ := hx.open_
  obtain ⟨ek, en, es, em, a, o⟩ := x
  obtain ⟨A, na, ca, O, no, co, rfl, -, -⟩ := hex.open_
  clear hx hex
  unfold stC exC
  simp only [List.cons_append, List.nil_append]
  rcases Classical.em (k < 0) with h0 | h0
  · clear hk
    go_enter Tryd.func57, Tryd.ntmps57
    go_wp2
    go_ret
    exact ⟨rfl, (Below.refl _ _).alloc (Nat.le_refl _) _⟩
  · have h7 : 6 < k := by omega
    clear hk
    go_enter Tryd.func57, Tryd.ntmps57
    go_wp2
    go_ret
    exact ⟨rfl, (Below.refl _ _).alloc (Nat.le_refl _) _⟩
set_option maxRecDepth 100000 in
set_option maxHeartbeats 12800000 in
theorem stmtWrong_mid (j : Nat) (hj : j < 7) (s : Str) (n : Int) (x : Ex) (b l : List St) (ihb : WrongL b) (ihl : WrongL l) (d : Int) (w : World) (S : Nat → Prop) (cs : List Value) (hd0 : 0 ≤ d) (hd : ¬ 12 < d) (hw : SxW w) (hsz : (St.mk (j : Int) s n x b l).size ≤ 1000000) (hx : SV w S (.mk (j : Int) s n x b l) cs) :
    Calls Tryd.prog 57 #[.agg cs.toArray, .int .i64 d] w fun e' w' => e' = .returned (.int .i64 (chkS d (.mk (j : Int) s n x b l))) ∧ Below w.heap.size w w' := by
  obtain ⟨ex, B, nb, cb, L, nl, cl, rfl, hex, hB, hL⟩ := hx.open_
  have HEX := Lib.hid hex
  have HIX := Lib.hid (exprWrong_any x)
  obtain ⟨V, hV⟩ : ∃ V, V = chkE 1 x := ⟨_, rfl⟩
  have HV := Lib.hid hV
  obtain ⟨E, hE⟩ : ∃ E, E = chkS d (.mk (j : Int) s n x b l) := ⟨_, rfl⟩
  rw [← hE]
  have HE := Lib.hid hE
  obtain ⟨F, hf⟩ : ∃ F, F = formS (j : Int) s n x nb nl := ⟨_, rfl⟩
  have HH := headS_cases j hj s n x nb nl d hd hf
  rw [hB.1.1, hL.1.1] at HH
  have KS := Lib.hid (fun W h => isName_any s W h)
  have KN := Lib.hid (fun W => hasName_any (j : Int) W)
  have KX := Lib.hid (fun W => hasExpr_any (j : Int) W)
  have HXX := Lib.hid (show ∀ v, v ≠ 0 → headS d (j : Int) s n x b.length l.length = v → E = v from fun v h1 h2 => by rw [hE, chkS_head (by rw [h2]; exact h1), h2])
  have HJ := Lib.hid hj
  have HIB := Lib.hid ihb
  have HIL := Lib.hid ihl
  have HB2 := Lib.hid hB
  have HL2 := Lib.hid hL
  have HWS := Lib.hid hw
  rw [St.size] at hsz
  have HSZ := Lib.hid (show St.sizes b ≤ 1000000 ∧ St.sizes l ≤ 1000000 by omega)
  clear hV
  obtain ⟨ek, en, es, em, a, o⟩ := x
  obtain ⟨A, na, ca, O, no, co, rfl, hA, hO⟩ := hex.open_
  have KF := Lib.hid (fun W => formS_any j hj s n ek en es em A na ca O no co B nb cb L nl cl a o W hA.1.1 hO.1.1)
  rw [← hf] at KF
  clear hf
  generalize decide ((j : Int) ≤ 1 ∧ 0 ≤ (j : Int)) = P at *
  generalize nameOk s = QS at *
  obtain ⟨qx, hqx⟩ : ∃ q, q = hasX (j : Int) := ⟨_, rfl⟩
  rw [← hqx] at KX
  have HQX := Lib.hid hqx
  obtain ⟨p, e0⟩ : ∃ p, P = p := ⟨_, rfl⟩
  obtain ⟨f, ef⟩ : ∃ p, F = p := ⟨_, rfl⟩
  obtain ⟨qs, es'⟩ : ∃ p, QS = p := ⟨_, rfl⟩
  rw [e0] at KN
  rw [ef] at KF
  rw [es'] at KS
  have HH2 := Lib.hid HH
  have E0 := Lib.hid e0
  have EF := Lib.hid ef
  have ES := Lib.hid es'
  clear HH e0 ef es' hqx
  have HX := HXX
  clear HXX
  have HW := Lib.hid (fun X (W : World) (h : Bz (w.alloc (.cells X 46)) W) => (show (∀ j v, X[j]? = some v → W.cell? ⟨w.heap.size, j, none⟩ = some v) from by
    exact fun j v hv => cell_of_Bz h (by rw [cell_of_row _ _ _ _ _ _ (heap_alloc_new w _)]; exact hv) (lt_of_block (heap_alloc_new w _))))
  have hk0 : ¬ (j : Int) < 0 := by omega
  have hk7 : ¬ 6 < (j : Int) := by omega
  clear hx hex hA hO hB hL hj hE hw ihb ihl hsz
  unfold stC exC
  simp only [List.cons_append, List.nil_append]
  unfold exC at HEX
  go_enter Tryd.func57, Tryd.ntmps57
  go_upto_block 0 with fail
  obtain ⟨W0, hW0⟩ : ∃ W0 : World, W0 = w.alloc (.cells #[.int .i64 (j : Int), .string (bs s), .int .i64 n, .int .i64 ek, .int .i64 en, .string (bs es), .string (bs em), .slice A na ca, .slice O no co, .slice B nb cb, .slice L nl cl] 46) := ⟨_, rfl⟩
  have HF := Lib.hid (show ∀ W, Bz W0 W → (W.cell? ⟨w.heap.size, 0, none⟩ = some (.int .i64 (j : Int)) ∧ W.cell? ⟨w.heap.size, 1, none⟩ = some (.string (bs s)) ∧ W.cell? ⟨w.heap.size, 2, none⟩ = some (.int .i64 n) ∧ W.cell? ⟨w.heap.size, 3, none⟩ = some (.int .i64 ek) ∧ W.cell? ⟨w.heap.size, 4, none⟩ = some (.int .i64 en) ∧ W.cell? ⟨w.heap.size, 5, none⟩ = some (.string (bs es)) ∧ W.cell? ⟨w.heap.size, 6, none⟩ = some (.string (bs em)) ∧ W.cell? ⟨w.heap.size, 7, none⟩ = some (.slice A na ca) ∧ W.cell? ⟨w.heap.size, 8, none⟩ = some (.slice O no co) ∧ W.cell? ⟨w.heap.size, 9, none⟩ = some (.slice B nb cb) ∧ W.cell? ⟨w.heap.size, 10, none⟩ = some (.slice L nl cl)) from fun W h => by
    subst hW0
    have h2 := HW.out _ W h
    exact ⟨h2 0 _ rfl, h2 1 _ rfl, h2 2 _ rfl, h2 3 _ rfl, h2 4 _ rfl, h2 5 _ rfl, h2 6 _ rfl, h2 7 _ rfl, h2 8 _ rfl, h2 9 _ rfl, h2 10 _ rfl⟩)
  have HG0 := Lib.hid (show ∀ W, Bz W0 W → Below w.heap.size w W from fun W h => by
    subst hW0
    have hb := (Below.refl w.heap.size w).alloc (Nat.le_refl _) (.cells #[.int .i64 (j : Int), .string (bs s), .int .i64 n, .int .i64 ek, .int .i64 en, .string (bs es), .string (bs em), .slice A na ca, .slice O no co, .slice B nb cb, .slice L nl cl] 46)
    exact hb.trans (h.b.mono hb.size))
  rw [← hW0]
  clear hW0 HW
  have z0 : Bz W0 W0 := ⟨Below.refl _ _⟩
  go_cut [] from 9 (fun wx => Bz W0 wx ∧ headS d (j : Int) s n (.mk ek en es em a o) b.length l.length = 0)
  case first =>
    obtain ⟨c0, c1, c2, c3, c4, c5, c6, c7, c8, c9, c10⟩ := HF.out _ z0
    go_wp2_with fail
    refine (KF.out _).mono ?_
    rintro e w1 ⟨rfl, hb1⟩
    have y1 := Bz.next z0 hb1
    clear c0 c1 c2 c3 c4 c5 c6 c7 c8 c9 c10 hb1 KF
    cases f with
    | false =>
      go_wp2
      go_ret
      exact ⟨congrArg (fun v => Ending.returned (.int .i64 v)) (HX.out 5 (by decide) (HH2.out.1 EF.out)).symm, HG0.out _ y1⟩
    | true =>
      obtain ⟨c0, c1, c2, c3, c4, c5, c6, c7, c8, c9, c10⟩ := HF.out _ y1
      go_wp2_with fail
      refine (KN.out _).mono ?_
      rintro e w2 ⟨rfl, rfl⟩
      cases p with
      | false =>
        have HNM := Lib.hid (show P = true → QS = true from fun h => by rw [E0.out] at h; cases h)
        by_cases hn0 : n < 0
        · have HN0 := Lib.hid hn0
          go_wp2
          go_ret
          exact ⟨congrArg (fun v => Ending.returned (.int .i64 v)) (HX.out 3 (by decide) (HH2.out.2.2.1 EF.out HNM.out (by have := HN0.out; omega))).symm, HG0.out _ y1⟩
        · have HN0 := Lib.hid hn0
          by_cases hj4 : (j : Int) = 4
          · have HJ4 := Lib.hid hj4
            have hj5 : ((j : Int) == 4) = true := by simp [hj4]
            clear hj4
            by_cases h64 : 64 < n
            · have H64 := Lib.hid h64
              go_wp2
              go_ret
              exact ⟨congrArg (fun v => Ending.returned (.int .i64 v)) (HX.out 3 (by decide) (HH2.out.2.2.1 EF.out HNM.out (by have := HJ4.out; have := H64.out; omega))).symm, HG0.out _ y1⟩
            · have H64 := Lib.hid h64
              go_wp2
              go_meet
              case rel => exact ⟨y1, HH2.out.2.2.2 EF.out HNM.out (by have := HN0.out; omega) (by have := H64.out; omega)⟩
          · have HJ4 := Lib.hid hj4
            have hj5 : ((j : Int) == 4) = false := by simp [hj4]
            clear hj4
            go_wp2
            go_meet
            case rel => exact ⟨y1, HH2.out.2.2.2 EF.out HNM.out (by have := HN0.out; omega) (by have := HJ4.out; omega)⟩
      | true =>
        go_wp2_with fail
        refine (KS.out _ (HWS.out.below (HG0.out _ y1))).mono ?_
        rintro e w3 ⟨rfl, hb3⟩
        have y3 := Bz.next y1 hb3
        clear c0 c1 c2 c3 c4 c5 c6 c7 c8 c9 c10 hb3
        cases qs with
        | false =>
          go_wp2
          go_ret
          exact ⟨congrArg (fun v => Ending.returned (.int .i64 v)) (HX.out 16 (by decide) (HH2.out.2.1 EF.out E0.out ES.out)).symm, HG0.out _ y3⟩
        | true =>
          obtain ⟨c0, c1, c2, c3, c4, c5, c6, c7, c8, c9, c10⟩ := HF.out _ y3
          have HNM := Lib.hid (show P = true → QS = true from fun _ => ES.out)
          by_cases hn0 : n < 0
          · have HN0 := Lib.hid hn0
            go_wp2
            go_ret
            exact ⟨congrArg (fun v => Ending.returned (.int .i64 v)) (HX.out 3 (by decide) (HH2.out.2.2.1 EF.out HNM.out (by have := HN0.out; omega))).symm, HG0.out _ y3⟩
          · have HN0 := Lib.hid hn0
            by_cases hj4 : (j : Int) = 4
            · have HJ4 := Lib.hid hj4
              have hj5 : ((j : Int) == 4) = true := by simp [hj4]
              clear hj4
              by_cases h64 : 64 < n
              · have H64 := Lib.hid h64
                go_wp2
                go_ret
                exact ⟨congrArg (fun v => Ending.returned (.int .i64 v)) (HX.out 3 (by decide) (HH2.out.2.2.1 EF.out HNM.out (by have := HJ4.out; have := H64.out; omega))).symm, HG0.out _ y3⟩
              · have H64 := Lib.hid h64
                go_wp2
                go_meet
                case rel => exact ⟨y3, HH2.out.2.2.2 EF.out HNM.out (by have := HN0.out; omega) (by have := H64.out; omega)⟩
            · have HJ4 := Lib.hid hj4
              have hj5 : ((j : Int) == 4) = false := by simp [hj4]
              clear hj4
              go_wp2
              go_meet
              case rel => exact ⟨y3, HH2.out.2.2.2 EF.out HNM.out (by have := HN0.out; omega) (by have := HJ4.out; omega)⟩
  case rest =>
    obtain ⟨zx, hh0⟩ := hcut
    have HEP := Lib.hid (show E = if hasX (j : Int) = true ∧ V ≠ 0 then V else if chkSs (d + 1) b ≠ 0 then chkSs (d + 1) b else chkSs (d + 1) l from HE.out.trans (by rw [chkS_parts hh0, ← HV.out]))
    clear HX KF HE HH2 E0 EF ES KS KN hh0 z0
    obtain ⟨c0, c1, c2, c3, c4, c5, c6, c7, c8, c9, c10⟩ := HF.out _ zx
    go_upto_if 51 with (go_at_call 48; refine (KX.out _).mono ?_; rintro e w2 ⟨rfl, rfl⟩)
    go_cut [] from 5 (fun wx => Bz W0 wx ∧ (hasX (j : Int) = true → V = 0))
    case first =>
      cases qx with
      | false =>
        go_wp2
        go_meet
        case rel => exact ⟨zx, fun h => by rw [← HQX.out] at h; cases h⟩
      | true =>
        go_wp2_with fail
        have HC2 := HIX.out 1 _ S _ (by decide) (by decide) (HWS.out.below (HG0.out _ zx)) (HEX.out.below (HG0.out _ zx))
        rw [← HV.out] at HC2
        refine HC2.mono ?_
        rintro e' w2 ⟨rfl, hb2⟩
        have z2 := zx.next hb2
        clear HC2 hb2 c0 c1 c2 c3 c4 c5 c6 c7 c8 c9 c10 zx
        by_cases hv0 : V = 0
        · have HV0 := Lib.hid hv0
          have hv1 : (V != 0) = false := by simp [hv0]
          go_wp2
          go_meet
          case rel => exact ⟨z2, fun _ => HV0.out⟩
        · have hv1 : (V != 0) = true := by simp [hv0]
          have HR := Lib.hid (show E = V by rw [HEP.out, if_pos ⟨HQX.out.symm, hv0⟩])
          go_wp2
          go_ret
          exact ⟨congrArg (fun v => Ending.returned (.int .i64 v)) HR.out.symm, HG0.out _ z2⟩
    case rest =>
      obtain ⟨zy, hvx⟩ := hcut
      have HEQ := Lib.hid (show E = if chkSs (d + 1) b ≠ 0 then chkSs (d + 1) b else chkSs (d + 1) l by rw [HEP.out, if_neg (fun h => h.2 (hvx h.1))])
      clear c0 c1 c2 c3 c4 c5 c6 c7 c8 c9 c10 zx hvx HEP HIX HEX KX
      obtain ⟨-, -, -, -, -, -, -, -, -, c9, c10⟩ := HF.out _ zy
      have HG1 := Lib.hid (HG0.out _ zy)
      clear HF HG0 zy
      go_wp2_with fail
      obtain ⟨W1, hW1⟩ : ∃ W1 : World, W1 = wc.alloc (.cells #[.slice B nb cb, .slice L nl cl] 39) := ⟨_, rfl⟩
      have HC := Lib.hid (show ∀ W, Bz W1 W → W.cell? ⟨wc.heap.size, 0, none⟩ = some (.slice B nb cb) ∧ W.cell? ⟨wc.heap.size, 1, none⟩ = some (.slice L nl cl) from fun W h => by
        subst hW1
        exact ⟨cell_of_Bz h (by rw [cell_of_row _ _ _ _ _ _ (heap_alloc_new wc _)]; rfl) (lt_of_block (heap_alloc_new wc _)), cell_of_Bz h (by rw [cell_of_row _ _ _ _ _ _ (heap_alloc_new wc _)]; rfl) (lt_of_block (heap_alloc_new wc _))⟩)
      have HB1 := Lib.hid (show ∀ W, Bz W1 W → Below w.heap.size w W from fun W h => by
        subst hW1
        have hb := HG1.out.alloc HG1.out.size (.cells #[.slice B nb cb, .slice L nl cl] 39)
        exact hb.trans (h.b.mono hb.size))
      rw [← hW1]
      clear hW1 HG1 c9 c10
      have v0 : Bz W1 W1 := ⟨Below.refl _ _⟩
      go_loopw [64] (fun i wr => ∃ k : Nat, k ≤ 2 ∧ i = .int .i64 k ∧ Hid (1 ≤ k → chkSs (d + 1) b = 0) ∧ Hid (2 ≤ k → chkSs (d + 1) l = 0) ∧ Bz W1 wr) (fun i _ => 2 - (intOf i).toNat)
      case atStart => exact ⟨0, by omega, rfl, Lib.hid (fun h => absurd h (by omega)), Lib.hid (fun h => absurd h (by omega)), v0⟩
      case round =>
        clear v0
        obtain ⟨k, hk, rfl, n1, n2, zr⟩ := hrel
        by_cases hlt : k < 2
        · obtain ⟨A', n', c', l', hc, hX, hin, hl4, hbad, hnext⟩ : ∃ (A' : Option Addr) (n' c' : Nat) (l' : List St), (∀ W, Bz W1 W → W.cell? ⟨wc.heap.size, k, none⟩ = some (.slice A' n' c')) ∧ SL w S A' n' c' l' ∧ WrongL l' ∧ St.sizes l' ≤ 1000000 ∧ (∀ v, v ≠ 0 → chkSs (d + 1) l' = v → E = v) ∧ (chkSs (d + 1) l' = 0 → (1 ≤ k + 1 → chkSs (d + 1) b = 0) ∧ (2 ≤ k + 1 → chkSs (d + 1) l = 0)) := by
            rcases (by omega : k = 0 ∨ k = 1) with rfl | rfl
            · refine ⟨B, nb, cb, b, fun W h => (HC.out W h).1, HB2.out, HIB.out, HSZ.out.1, fun v h1 h2 => ?_, fun h => ⟨fun _ => h, fun h => absurd h (by omega)⟩⟩
              rw [HEQ.out, h2, if_pos h1]
            · refine ⟨L, nl, cl, l, fun W h => (HC.out W h).2, HL2.out, HIL.out, HSZ.out.2, fun v h1 h2 => ?_, fun h => ⟨fun _ => n1.out (by omega), fun _ => h⟩⟩
              rw [HEQ.out, if_neg (by simp [n1.out (by omega)]), h2]
          have HL := Lib.hid hX
          have HIN := Lib.hid hin
          have HBAD := Lib.hid hbad
          have HNEXT := Lib.hid hnext
          have HS4 := Lib.hid hl4
          have HLT := Lib.hid hlt
          have hi : (k : Int) < 2 := by omega
          have hcell := hc _ zr
          obtain ⟨v, hv⟩ : ∃ v, v = chkSs (d + 1) l' := ⟨_, rfl⟩
          have HVL := Lib.hid hv
          clear hc hX hin hbad hnext hlt hk n1 n2 hl4 hv
          go_wp2_with fail
          have HC2 := HIN.out (d + 1) _ S A' n' c' (by omega) (by omega) (HWS.out.below (HB1.out _ zr)) HS4.out (HL.out.below (HB1.out _ zr))
          rw [← HVL.out] at HC2
          refine HC2.mono ?_
          rintro e' w2 ⟨rfl, hb2⟩
          have zq2 := zr.next hb2
          clear HC2 hb2 hcell zr
          by_cases hv0 : v = 0
          · have HR := Lib.hid (show chkSs (d + 1) l' = 0 by rw [← HVL.out]; exact hv0)
            have hv1 : (v != 0) = false := by simp [hv0]
            go_wp2
            go_roundw
            case rel => exact ⟨k + 1, HLT.out, by go_num, Lib.hid (HNEXT.out HR.out).1, Lib.hid (HNEXT.out HR.out).2, zq2⟩
            case measure => exact meas_up _ _ HLT.out
          · have hv1 : (v != 0) = true := by simp [hv0]
            have HR := Lib.hid (show E = v from HBAD.out v hv0 HVL.out.symm)
            go_wp2
            go_ret
            exact ⟨congrArg (fun v => Ending.returned (.int .i64 v)) HR.out.symm, HB1.out _ zq2⟩
        · have hi : ¬ (k : Int) < 2 := by omega
          have HK2 := Lib.hid (show 1 ≤ k ∧ 2 ≤ k by omega)
          go_wp2
          go_ret
          refine ⟨congrArg (fun v => Ending.returned (.int .i64 v)) ?_, HB1.out _ zr⟩
          rw [HEQ.out, if_neg (by simp [n1.out HK2.out.1]), n2.out HK2.out.2]
theorem stmtWrong_any (e : St) : WrongS e := by
  obtain ⟨N, hN⟩ : ∃ N, N = e.size := ⟨_, rfl⟩
  induction N using Nat.strongRecOn generalizing e with
  | _ N ih =>
    intro d w S cs hd0 hdb hw hsz hx
    obtain ⟨k, s, n, x, b, l⟩ := e
    by_cases hd : 12 < d
    · have h1 : headS d k s n x b.length l.length = 18 := by unfold headS; rw [if_pos hd]
      rw [chkS_head (by rw [h1]; decide), h1]
      exact stmtWrong_head _ d w S cs hd hx
    · by_cases hk : k < 0 ∨ 6 < k
      · have h1 : headS d k s n x b.length l.length = 2 := by
          unfold headS
          rw [if_neg hd, if_pos hk]
        rw [chkS_head (by rw [h1]; decide), h1]
        exact stmtWrong_kind k s n x b l d w S cs hd hk hx
      · obtain ⟨j, rfl⟩ : ∃ j : Nat, k = j := ⟨k.toNat, by omega⟩
        refine stmtWrong_mid j (by omega) s n x b l (wrongL_of b fun y hy => ih y.size ?_ y rfl) (wrongL_of l fun y hy => ih y.size ?_ y rfl) d w S cs hd0 hd hw hsz hx
        · have h1 := St.sizes_mem hy
          rw [hN, St.size]; omega
        · have h1 := St.sizes_mem hy
          rw [hN, St.size]; omega
theorem stmtsWrong_any (l : List St) : WrongL l := wrongL_of l fun e _ => stmtWrong_any e
end Go.Proofs.YthfjkdgaiaokdaaDoor
