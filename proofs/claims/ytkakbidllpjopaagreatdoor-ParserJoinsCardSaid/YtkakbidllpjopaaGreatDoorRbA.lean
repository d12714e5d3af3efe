/- The walk of ParserBack. Conditions: the laid tables and error variables (WW). -/
import Derived.Test.YtkakbidllpjopaaGreatDoorW14
import Derived.Test.YtkakbidllpjopaaGreatDoorW15
import Derived.Test.YtkakbidllpjopaaGreatDoorW16
set_option linter.unusedVariables false
set_option linter.unusedSimpArgs false
namespace Go.Proofs.YtkakbidllpjopaaGreatDoor
open Go.RowKit

/-- A valid program's text is parsed to that program. -/
theorem prP_print {p : Prog'} (h : chkP p = 0) (hw : ∀ o ∈ p.opers, St.Wds o.body) (h6 : (txP p).length ≤ 65536) : prP (txP p) = (p, 0, 0) := by
  obtain ⟨L, h1, h2⟩ := scan_print h hw h6
  have h0 : (Lx.scanL (txP p)).2.2 = 0 := by rw [h1]
  have h3 : pP ((Lx.scanL (txP p)).1.map tkq) = .ok p [(0, [])] := by
    rw [h1, ← pP_read h, ← h2]
    rfl
  rw [prP_ok h0 h3, if_pos h]
theorem prP_zero {s : Str} (h : (prP s).2.2 = 0) : (Lx.scanL s).2.2 = 0 ∧ chkP (prP s).1 = 0 ∧ (prP s).2.1 = 0 ∧ (prP s).1.Lim (s.length + 1) ∧ ∃ r, pP ((Lx.scanL s).1.map tkq) = .ok (prP s).1 r := by
  by_cases he : (Lx.scanL s).2.2 = 0
  · cases hp : pP ((Lx.scanL s).1.map tkq) with
    | bad r => rw [prP_bad he hp] at h; cases h
    | ok p r =>
      have e := prP_ok he hp
      by_cases hc : chkP p = 0
      · rw [if_pos hc] at e
        have hl := (size_pP hp).1
        rw [List.length_map] at hl
        have hn := (scan_ok he).2.2.2.1
        rw [e]
        dsimp only
        exact ⟨he, hc, rfl, ⟨by have := hl.1; omega, by have := hl.2.1; omega, fun o ho => by have := hl.2.2 o ho; omega⟩, r, rfl⟩
      · rw [if_neg hc] at e
        rw [e] at h
        exact absurd h hc
  · rw [prP_err he] at h
    exact absurd h he
theorem Lim.few2 {n : Nat} {p : Prog'} (h : p.Lim n) (hn : n ≤ 10000) : p.Few2 := ⟨by have := h.1; omega, by have := h.2.1; omega, fun o ho => by have := (h.2.2 o ho).2; omega⟩
theorem Lim.fit {n : Nat} {p : Prog'} (h : p.Lim n) (hn : n ≤ 1000000) : p.Fit := ⟨by have := h.1; omega, by have := h.2.1; omega, fun o ho => by have := h.2.2 o ho; omega⟩
theorem printE_of {p : Prog'} (h : chkP p = 0) : (printE p = 7 ∧ printS p = []) ∨ (printE p = 0 ∧ printS p = txP p ∧ (txP p).length ≤ 65536) := by
  have e1 : printE p = if 65536 < (txP p).length then 7 else 0 := if_neg (by simp [h])
  have e2 : printS p = if 65536 < (txP p).length then [] else txP p := if_neg (by simp [h])
  rw [e1, e2]
  by_cases hl : 65536 < (txP p).length
  · rw [if_pos hl, if_pos hl]; exact .inl ⟨rfl, rfl⟩
  · rw [if_neg hl, if_neg hl]; exact .inr ⟨rfl, rfl, by omega⟩
set_option maxRecDepth 100000 in
set_option maxHeartbeats 12800000 in
theorem back_any (s : Str) (w : World) (hw : WW w) : Calls Tryz.prog 6 #[.string (bs s)] w fun e w' => e = .returned (.bool true) ∧ Below w.heap.size w w' := by
  have HW := Lib.hid hw
  have B := Lib.hid (Below.refl w.heap.size w)
  have hsz := bs_size s
  by_cases hl : 1200 < s.length
  · have hli : (1200 : Int) < (s.length : Int) := by omega
    clear hw hl
    go_enter Tryz.func6, Tryz.ntmps6
    go_wp2_with fail
    refine (awake_any _ (HW.out.below B.out)).mono ?_
    rintro e wk ⟨rfl, hb⟩
    obtain h0 := B.out
    clear B
    have B := Lib.hid (h0.trans (hb.mono h0.size))
    clear h0
    clear hb
    go_wp2
    go_ret
    exact ⟨rfl, B.out⟩
  · have hli : (s.length : Int) ≤ 1200 := by omega
    have K := Lib.hid (parse_any s w hw (by omega))
    have HZ := Lib.hid (fun h => prP_zero (s := s) h)
    have HLL := Lib.hid (show s.length ≤ 1200 by omega)
    generalize hpr : prP s = T at *
    clear hw hl hpr
    obtain ⟨p, a0, er⟩ := T
    dsimp only at *
    go_enter Tryz.func6, Tryz.ntmps6
    go_wp2_with fail
    refine K.out.mono ?_
    rintro e w1 ⟨v1, rfl, hv, hb⟩
    obtain h0 := B.out
    clear B
    have B := Lib.hid (h0.trans (hb.mono h0.size))
    clear h0
    clear hb K
    obtain ⟨D1, nd1, cd1, O1, no1, co1, rfl, -, -⟩ := id hv
    obtain ⟨w1b, hwb⟩ : ∃ W, W = w1.alloc (.cells #[.slice D1 nd1 cd1, .slice O1 no1 co1] 36) := ⟨_, rfl⟩
    have hb : Below w1.heap.size w1 w1b := by rw [hwb]; exact (Below.refl _ _).alloc (Nat.le_refl _) _
    have P1 := Lib.hid (show HB 36 w1b w1.heap.size #[.slice D1 nd1 cd1, .slice O1 no1 co1] from by rw [hwb]; exact heap_alloc_new w1 _)
    have V1 := Lib.hid (hv.below hb)
    obtain h0 := B.out
    clear B
    have B := Lib.hid (h0.trans (hb.mono h0.size))
    clear h0
    clear hb hv
    go_upto_region 4 with fail
    rw [← hwb]
    clear hwb
    generalize w1.heap.size = pb1 at *
    by_cases he : er = 0
    · subst he
      obtain ⟨-, hc, -, hlim, -⟩ := HZ.out rfl
      have HWD := Lib.hid V1.out.wd
      have HC := Lib.hid hc
      have HLIM := Lib.hid (show p.Lim 1201 from ⟨by have := hlim.1; have := HLL.out; omega, by have := hlim.2.1; have := HLL.out; omega, fun o ho => by have := hlim.2.2 o ho; have := HLL.out; omega⟩)
      have K2 := Lib.hid (show ∀ (W : World) (S : Nat → Prop) (v : Value), Below w.heap.size w W → PV W S p v → Calls Tryz.prog 11 #[v] W fun e w' => e = .returned (.tuple #[.string (bs (printS p)), .int .i64 (printE p)]) ∧ Below W.heap.size W w' from fun W S v hb hv => print_any p v S W (HW.out.below hb).sx hv (Lim.few2 HLIM.out (by omega)))
      clear hc hlim HZ
      go_wp2_with (with_reducible refine at_load_ (t := 36) ?_; refine Hid.out ?_)
      refine Lib.hid ?_
      refine wpList_load_row rfl _ _ rfl pb1 rfl _ _ _ _ P1.out Tryz.underlying36 rfl pr_size ?_
      have KP := Lib.hid (K2.out w1b _ _ B.out V1.out)
      rcases printE_of HC.out with ⟨h1, h2⟩ | ⟨h1, h2, h3⟩
      · rw [h1] at KP
        clear h1 h2 K2
        go_wp2_with fail
        refine KP.out.mono ?_
        rintro e w2 ⟨rfl, hb⟩
        obtain h0 := B.out
        clear B
        have B := Lib.hid (h0.trans (hb.mono h0.size))
        clear h0
        clear hb KP
        go_wp2_with fail
        refine (awake_any _ (HW.out.below B.out)).mono ?_
        rintro e wk ⟨rfl, hb⟩
        obtain h0 := B.out
        clear B
        have B := Lib.hid (h0.trans (hb.mono h0.size))
        clear h0
        clear hb
        go_wp2
        go_ret
        exact ⟨rfl, B.out⟩
      · rw [h1, h2] at KP
        have H6 := Lib.hid h3
        have HPP := Lib.hid (prP_print HC.out HWD.out h3)
        rw [h1, h2] at K2
        clear h1 h2 h3
        generalize txP p = t at *
        go_wp2_with fail
        refine KP.out.mono ?_
        rintro e w2 ⟨rfl, hb⟩
        obtain h0 := P1.out
        clear P1
        have P1 := Lib.hid (h0.below hb)
        clear h0
        obtain h0 := V1.out
        clear V1
        have V1 := Lib.hid (h0.below hb)
        clear h0
        obtain h0 := B.out
        clear B
        have B := Lib.hid (h0.trans (hb.mono h0.size))
        clear h0
        clear hb KP
        have kq := parse_any t w2 (HW.out.below B.out) (by have := H6.out; omega)
        rw [HPP.out] at kq
        have KQ := Lib.hid kq
        clear kq
        go_wp2_with fail
        refine KQ.out.mono ?_
        rintro e w3 ⟨v3, rfl, hv, hb⟩
        obtain h0 := P1.out
        clear P1
        have P1 := Lib.hid (h0.below hb)
        clear h0
        obtain h0 := V1.out
        clear V1
        have V1 := Lib.hid (h0.below hb)
        clear h0
        obtain h0 := B.out
        clear B
        have B := Lib.hid (h0.trans (hb.mono h0.size))
        clear h0
        clear hb KQ
        obtain ⟨D3, nd3, cd3, O3, no3, co3, rfl, -, -⟩ := id hv
        obtain ⟨w3b, hwb⟩ : ∃ W, W = w3.alloc (.cells #[.slice D3 nd3 cd3, .slice O3 no3 co3] 36) := ⟨_, rfl⟩
        have hb : Below w3.heap.size w3 w3b := by rw [hwb]; exact (Below.refl _ _).alloc (Nat.le_refl _) _
        have P3 := Lib.hid (show HB 36 w3b w3.heap.size #[.slice D3 nd3 cd3, .slice O3 no3 co3] from by rw [hwb]; exact heap_alloc_new w3 _)
        have V3 := Lib.hid (hv.below hb)
        obtain h0 := P1.out
        clear P1
        have P1 := Lib.hid (h0.below hb)
        clear h0
        obtain h0 := V1.out
        clear V1
        have V1 := Lib.hid (h0.below hb)
        clear h0
        obtain h0 := B.out
        clear B
        have B := Lib.hid (h0.trans (hb.mono h0.size))
        clear h0
        clear hb hv
        go_upto_region 10 with fail
        rw [← hwb]
        clear hwb
        generalize w3.heap.size = pb3 at *
        go_wp2_with (with_reducible refine at_load_ (t := 36) ?_; refine Hid.out ?_)
        refine Lib.hid ?_
        refine wpList_load_row rfl _ _ rfl pb3 rfl _ _ _ _ P3.out Tryz.underlying36 rfl pr_size ?_
        have KP := Lib.hid (K2.out w3b _ _ B.out V3.out)
        go_wp2_with fail
        refine KP.out.mono ?_
        rintro e w4 ⟨rfl, hb⟩
        obtain h0 := P1.out
        clear P1
        have P1 := Lib.hid (h0.below hb)
        clear h0
        obtain h0 := V1.out
        clear V1
        have V1 := Lib.hid (h0.below hb)
        clear h0
        obtain h0 := P3.out
        clear P3
        have P3 := Lib.hid (h0.below hb)
        clear h0
        obtain h0 := V3.out
        clear V3
        have V3 := Lib.hid (h0.below hb)
        clear h0
        obtain h0 := B.out
        clear B
        have B := Lib.hid (h0.trans (hb.mono h0.size))
        clear h0
        clear hb KP
        go_wp2_with fail
        refine (awake_any _ (HW.out.below B.out)).mono ?_
        rintro e wk ⟨rfl, hb⟩
        obtain h0 := P1.out
        clear P1
        have P1 := Lib.hid (h0.below hb)
        clear h0
        obtain h0 := V1.out
        clear V1
        have V1 := Lib.hid (h0.below hb)
        clear h0
        obtain h0 := P3.out
        clear P3
        have P3 := Lib.hid (h0.below hb)
        clear h0
        obtain h0 := V3.out
        clear V3
        have V3 := Lib.hid (h0.below hb)
        clear h0
        obtain h0 := B.out
        clear B
        have B := Lib.hid (h0.trans (hb.mono h0.size))
        clear h0
        clear hb
        have c10 : wk.cell? ⟨pb1, 0, none⟩ = some (.slice D1 nd1 cd1) := HB.cell P1.out 0
        have c11 : wk.cell? ⟨pb1, 1, none⟩ = some (.slice O1 no1 co1) := HB.cell P1.out 1
        have c30 : wk.cell? ⟨pb3, 0, none⟩ = some (.slice D3 nd3 cd3) := HB.cell P3.out 0
        have c31 : wk.cell? ⟨pb3, 1, none⟩ = some (.slice O3 no3 co3) := HB.cell P3.out 1
        have ks := same_any p p (Lim.fit HLIM.out (by omega)) _ _ _ _ _ V1.out V3.out
        rw [eqC_pos rfl] at ks
        have KS := Lib.hid ks
        clear ks
        go_wp2_with fail
        refine KS.out.mono ?_
        rintro e w5 ⟨rfl, hb⟩
        obtain h0 := B.out
        clear B
        have B := Lib.hid (h0.trans (hb.mono h0.size))
        clear h0
        clear hb KS c10 c11 c30 c31
        have hteq : ((bs t).toList == (bs t).toList) = true := beq_self_eq_true _
        go_wp2
        go_ret
        exact ⟨rfl, B.out⟩
    · have e1 : (er != 0) = true := by simpa using he
      have e2 : decide (er = 0) = false := by simpa using he
      clear HZ
      go_wp2_with fail
      refine (awake_any _ (HW.out.below B.out)).mono ?_
      rintro e wk ⟨rfl, hb⟩
      obtain h0 := B.out
      clear B
      have B := Lib.hid (h0.trans (hb.mono h0.size))
      clear h0
      clear hb
      go_wp2
      go_ret
      exact ⟨rfl, B.out⟩
theorem back_str (s : ByteArray) (w : World) (hw : WW w) : Calls Tryz.prog 6 #[.string s] w fun e w' => e = .returned (.bool true) ∧ Below w.heap.size w w' := by
  rw [← bs_eta s]
  exact back_any _ w hw
end Go.Proofs.YtkakbidllpjopaaGreatDoor
