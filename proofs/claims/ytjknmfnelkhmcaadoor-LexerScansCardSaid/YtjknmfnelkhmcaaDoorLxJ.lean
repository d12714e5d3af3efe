/- The walk of the law LexerWords: true. Condition: the package's tables are laid (LxW). -/
import Derived.Test.YtjknmfnelkhmcaaDoorLxG
set_option linter.unusedVariables false
set_option linter.unusedSimpArgs false
namespace Go.Proofs.YtjknmfnelkhmcaaDoor
open Go.RowKit

theorem LxW.scell {w : World} (h : LxW w) (j : Nat) (hj : j < (sgs.map bs).length) : w.cell? ⟨1, 0 + j, none⟩ = some (.string ((sgs.map bs).getD j ByteArray.empty)) := by
  obtain ⟨t1, f1, h1⟩ := h.sg
  rw [Nat.zero_add, cell_of_row _ _ _ _ _ _ h1, List.getElem?_toArray, List.getElem?_map, List.getD_eq_getElem?_getD, List.getElem?_map]
  rw [List.length_map] at hj
  rw [List.getElem?_eq_getElem hj]
  rfl
/-- A slice of strings that the call has made: its cells. -/
theorem strs_at {w : World} {base n : Nat} {v : Value} {xs : List (List UInt8)} (h : w.ownsRow base 9 1 v n ((xs.map bs).map Value.string)) (hne : 0 < n) (hl : xs.length = n) :
    ∃ g c, v = .slice (some ⟨g, 0, none⟩) n c ∧ g < w.heap.size ∧ ∀ w', Below w.heap.size w w' → ∀ j, j < n → w'.cell? ⟨g, j, none⟩ = some (.string (bs (xs.getD j []))) := by
  rcases h.2 with ⟨_, h0⟩ | ⟨g, cap, cur, rfl, hb, hh, hn, hcap, hsz, htake⟩
  · omega
  · have hlt := lt_of_block hh
    refine ⟨g, cap, rfl, hlt, fun w' hB j hj => ?_⟩
    have h1 : ((xs.map bs).map Value.string)[j]? = some (.string (bs (xs.getD j []))) := by
      rw [List.getElem?_map, List.getElem?_map, List.getElem?_eq_getElem (show j < xs.length by omega), List.getD_eq_getElem?_getD, List.getElem?_eq_getElem (show j < xs.length by omega)]
      rfl
    rw [cell_of_row _ _ _ _ _ _ ((hB.block g hlt).trans hh), ← h1, ← htake, List.getElem?_take_of_lt (by omega), Array.getElem?_toList]
set_option maxRecDepth 100000 in
theorem keywords_any (w : World) (hw : LxW w) : Calls Tryd.prog 13 #[] w fun e w' => ∃ v, e = .returned v ∧ w'.ownsRow w.heap.size 9 1 v 14 ((kws.map bs).map Value.string) ∧ Below w.heap.size w w' := by
  have HK := Lib.hid fun j hj => hw.kcell j hj
  go_enter Tryd.func13, Tryd.ntmps13
  go_wp2_with fail
  refine (Tryd.slices_Clone_string 0 0 14 14 (kws.map bs) w (by decide) (by decide) HK.out).mono ?_
  rintro e w1 ⟨v, rfl, ho, _, hb⟩
  have HO := Lib.hid ho
  have HB := Lib.hid hb
  clear ho hb HK
  go_wp2
  go_ret
  exact ⟨v, rfl, HO.out, HB.out⟩
set_option maxRecDepth 100000 in
theorem signs_any (w : World) (hw : LxW w) : Calls Tryd.prog 14 #[] w fun e w' => ∃ v, e = .returned v ∧ w'.ownsRow w.heap.size 9 1 v 19 ((sgs.map bs).map Value.string) ∧ Below w.heap.size w w' := by
  have HK := Lib.hid fun j hj => hw.scell j hj
  go_enter Tryd.func14, Tryd.ntmps14
  go_wp2_with fail
  refine (Tryd.slices_Clone_string 1 0 19 19 (sgs.map bs) w (by decide) (by decide) HK.out).mono ?_
  rintro e w1 ⟨v, rfl, ho, _, hb⟩
  have HO := Lib.hid ho
  have HB := Lib.hid hb
  clear ho hb HK
  go_wp2
  go_ret
  exact ⟨v, rfl, HO.out, HB.out⟩
theorem bs_append (a b : List UInt8) : bs a ++ bs b = bs (a ++ b) := by
  rw [← bs_eta (bs a ++ bs b)]
  congr 1
theorem list2 {α : Type} (l : List α) (h : l.length = 2) : ∃ a b, l = [a, b] := by
  match l, h with
  | [a, b], _ => exact ⟨a, b, rfl⟩
/-- A list of strings, as a block's cells. -/
def strRow (xs : List (List UInt8)) : Array Value := (xs.map fun x => Value.string (bs x)).toArray
theorem row_strs {w : World} {xs : List (List UInt8)} {t : TypeId} {fr : Nat × Nat} {g : Nat} (h : w.heap[g]? = some (.cells (strRow xs) t fr)) (j : Nat) (hj : j < xs.length) : w.cell? ⟨g, j, none⟩ = some (.string (bs (xs.getD j []))) := by
  rw [cell_of_row _ _ _ _ _ _ h]
  unfold strRow
  rw [List.getElem?_toArray, List.getElem?_map, List.getElem?_eq_getElem hj, List.getD_eq_getElem?_getD, List.getElem?_eq_getElem hj]
  rfl
set_option maxRecDepth 100000 in
theorem rkeys_any (w : World) : Calls Tryd.prog 15 #[] w fun e w' => e = .returned (.slice (some ⟨w.heap.size, 0, none⟩) 14 14) ∧ w' = w.alloc (.cells (strRow kws) 9) := by
  go_enter Tryd.func15, Tryd.ntmps15
  go_wp2
  go_ret
  exact ⟨rfl, rfl⟩
set_option maxRecDepth 100000 in
theorem rsigns_any (w : World) : Calls Tryd.prog 16 #[] w fun e w' => e = .returned (.slice (some ⟨w.heap.size, 0, none⟩) 19 19) ∧ w' = w.alloc (.cells (strRow sgs) 9) := by
  go_enter Tryd.func16, Tryd.ntmps16
  go_wp2
  go_ret
  exact ⟨rfl, rfl⟩
set_option maxRecDepth 100000 in
theorem kws_scan : ∀ k, k < 14 → scanL (kws.getD k []) = ([⟨4, kws.getD k [], 0⟩, ⟨0, [], (kws.getD k []).length⟩], 0, 0) := by decide +kernel
set_option maxRecDepth 100000 in
theorem sgs_scan : ∀ k, k < 19 → scanL (sgs.getD k []) = ([⟨3, sgs.getD k [], 0⟩, ⟨0, [], (sgs.getD k []).length⟩], 0, 0) := by decide +kernel
theorem kws_len : ∀ k, k < 14 → (kws.getD k []).length ≤ 10 := by decide
theorem sgs_len : ∀ k, k < 19 → (sgs.getD k []).length ≤ 10 := by decide
theorem kws_x (l : List UInt8) : kws.contains (120 :: l) = false := by
  simp [kws]
/-- A text that begins with x and is one token: a name of at most 24 bytes. -/
theorem scan_x (l : List UInt8) (t : Tok) (ts : List Tok) (k : Nat) (h : scanL (120 :: l) = (t :: ts, k, 0)) (ht : t.text = 120 :: l) : t.kind = 1 ∧ l.length ≤ 23 := by
  have hb : blankA false (120 :: l) = 0 := by simp [blankA, wsB]
  unfold scanL at h
  split at h
  · cases h
  · unfold scanR at h
    rw [hb, List.drop_zero, scanG_succ, if_neg (by simp)] at h
    have hw0 : word (120 :: l) = 120 :: word l := by unfold word; rw [List.takeWhile_cons, if_pos (by decide)]
    have hd : headDig (word (120 :: l)) = false := by rw [hw0]; rfl
    have hk : kws.contains (word (120 :: l)) = false := by rw [hw0]; exact kws_x _
    by_cases hlong : 24 < (word (120 :: l)).length
    · have hn : nextT (120 :: l) = (0, [], 16) := by unfold nextT; rw [if_neg (by rw [hd]; decide), if_neg (by rw [hk]; decide), if_pos hlong]
      rw [hn] at h
      simp at h
    · have hn : nextT (120 :: l) = (1, word (120 :: l), 0) := by unfold nextT; rw [if_neg (by rw [hd]; decide), if_neg (by rw [hk]; decide), if_neg hlong, if_pos (by rw [hw0]; simp)]
      rw [hn] at h
      dsimp only at h
      rw [if_neg (by decide)] at h
      split at h
      · simp at h
      · next us hu =>
        split at hu
        · cases hu
        · next vs _ =>
          injection hu with hu
          subst hu
          simp at h
          obtain ⟨⟨rfl, _⟩, _⟩ := h
          dsimp only at ht ⊢
          rw [ht] at hlong
          simp at hlong
          exact ⟨rfl, by omega⟩


set_option maxRecDepth 100000 in
set_option maxHeartbeats 12800000 in
theorem words_long (l : List UInt8) (w : World) (hw : LxW w) (h2 : 100 < l.length) :
    Calls Tryd.prog 8 #[.string (bs l)] w fun e w' => e = .returned (.bool true) ∧ Below w.heap.size w w' := by
  have hsz := bs_size l
  have h2i : (100 : Int) < (l.length : Int) := by omega
  have HW := Lib.hid hw
  have HB0 := Lib.hid (Below.refl w.heap.size w)
  clear hw h2
  go_enter Tryd.func8, Tryd.ntmps8
  go_wp2_with fail
  refine (awake_any w HW.out).mono ?_
  rintro e wz ⟨rfl, hb⟩
  have HBz := Lib.hid (HB0.out.trans (hb.mono HB0.out.size))
  clear hb HB0 HW
  go_wp2
  go_ret
  exact ⟨by first | rfl | simp, HBz.out⟩

set_option maxRecDepth 100000 in
set_option maxHeartbeats 12800000 in
theorem words_ok (l : List UInt8) (w : World) (hw : LxW w) (h2 : ¬ 100 < l.length) :
    Calls Tryd.prog 8 #[.string (bs l)] w fun e w' => e = .returned (.bool true) ∧ Below w.heap.size w w' := by
  have hsz := bs_size l
  have h2i : (l.length : Int) ≤ 100 := by omega
  have HL := Lib.hid h2
  have HW := Lib.hid hw
  clear hw h2
  go_enter Tryd.func8, Tryd.ntmps8
  go_wp2_with fail
  refine (keywords_any w HW.out).mono ?_
  rintro e w1 ⟨v, rfl, ho, hb⟩
  obtain ⟨gk, ck, rfl, _, hck⟩ := strs_at ho (by decide) (by rfl)
  have HKA := Lib.hid hck
  have HB1 := Lib.hid hb
  have HW1 := Lib.hid (HW.out.below hb)
  clear ho hck hb HW
  go_wp2_with fail
  refine (signs_any w1 HW1.out).mono ?_
  rintro e w2 ⟨v, rfl, ho, hb⟩
  obtain ⟨gs, cs, rfl, _, hcs⟩ := strs_at ho (by decide) (by rfl)
  have HSC := Lib.hid hcs
  have HKC := Lib.hid fun w' (h : Below w2.heap.size w2 w') j hj => HKA.out w' (hb.trans (h.mono hb.size)) j hj
  have HB2 := Lib.hid (HB1.out.trans (hb.mono HB1.out.size))
  have HW2 := Lib.hid (HW1.out.below hb)
  clear ho hcs hb HKA HB1 HW1
  go_wp2_with fail
  refine (rkeys_any w2).mono ?_
  rintro e w3 ⟨rfl, hw3⟩
  have hb : Below w2.heap.size w2 w3 := by rw [hw3]; exact (Below.refl _ _).alloc (Nat.le_refl _) _
  have HR := Lib.hid (show w3.heap[w2.heap.size]? = some (.cells (strRow kws) 9 (0, 0)) by rw [hw3]; exact heap_alloc_new _ _)
  have HS0 := Lib.hid hb
  have HB3 := Lib.hid (HB2.out.trans (hb.mono HB2.out.size))
  clear hb hw3
  have HRB := Lib.hid (Nat.le_refl w2.heap.size)
  go_wp2
  go_loopw [34] (fun i wr => ∃ k : Nat, k ≤ 14 ∧ i = .int .i64 k ∧ Hid (Below w.heap.size w wr) ∧ Hid (Below w3.heap.size w3 wr)) (fun i _ => 14 - (intOf i).toNat)
  case atStart => exact ⟨0, by omega, rfl, HB3, Lib.hid (Below.refl _ _)⟩
  case round =>
    clear HB3
    obtain ⟨k, hk, rfl, HB, HS⟩ := hrel
    by_cases hlt : k < 14
    · skip
      have hki : (k : Int) < 14 := by omega
      have HK := Lib.hid hlt
      have hlen := kws_len k hlt
      have c1 := row_strs ((HS.out.block w2.heap.size (lt_of_block HR.out)).trans HR.out) k hlt
      have HWr := Lib.hid (HW2.out.below (HS0.out.trans (HS.out.mono HS0.out.size)))
      have HX := Lib.hid (scan_any (kws.getD k []) wr HWr.out (by omega))
      rw [kws_scan k hlt] at HX
      have HGC := Lib.hid fun w' (h : Below wr.heap.size wr w') => HKC.out w' (HS0.out.trans ((HS.out.trans (h.mono HS.out.size)).mono HS0.out.size)) k hlt
      generalize kws.getD k [] = x at *
      clear hk hlt hlen
      have htl : (bs x).toList = x := bs_toList x
      go_wp2_with fail
      refine HX.out.mono ?_
      rintro e wx ⟨v, rfl, ho, hb⟩
      obtain ⟨g, c, rfl, _, _, hc⟩ := toks_at ho (by simp)
      obtain ⟨t0, t1, _⟩ : wx.cell? ⟨g, 0, none⟩ = some (.int .i64 4) ∧ wx.cell? ⟨g, 1, none⟩ = some (.string (bs x)) ∧ wx.cell? ⟨g, 2, none⟩ = some (.int .i64 0) := hc wx (Below.refl _ _) 0 (by simp)
      have c2 := HGC.out wx hb
      have HBx := Lib.hid (HB.out.trans (hb.mono HB.out.size))
      have HSx := Lib.hid (HS.out.trans (hb.mono HS.out.size))
      clear ho hb hc HX HGC HB HS c1 HWr
      go_wp2
      go_roundw
      case rel => exact ⟨k + 1, HK.out, by go_num, HBx, HSx⟩
      case measure => exact meas_up _ _ HK.out
    · skip
      obtain rfl : k = 14 := by omega
      have hki : ¬ ((14 : Nat) : Int) < 14 := by omega
      rw [show ((14 : Nat) : Int) = 14 from rfl]
      clear hk hlt HR HKC
      have HW4 := Lib.hid (HW2.out.below (HS0.out.trans (HS.out.mono HS0.out.size)))
      have HS4 := Lib.hid (HS0.out.trans (HS.out.mono HS0.out.size))
      go_wp2_with fail
      refine (rsigns_any wr).mono ?_
      rintro e w5 ⟨rfl, hw5⟩
      have hb : Below wr.heap.size wr w5 := by rw [hw5]; exact (Below.refl _ _).alloc (Nat.le_refl _) _
      have HR := Lib.hid (show w5.heap[wr.heap.size]? = some (.cells (strRow sgs) 9 (0, 0)) by rw [hw5]; exact heap_alloc_new _ _)
      have HS5 := Lib.hid (HS4.out.trans (hb.mono HS4.out.size))
      have HB5 := Lib.hid (HB.out.trans (hb.mono HB.out.size))
      clear hb hw5 HB HS HS0 HS4 HW4
      generalize wr.heap.size = rb at *
      go_wp2
      go_loopw [70] (fun i wr => ∃ k : Nat, k ≤ 19 ∧ i = .int .i64 k ∧ Hid (Below w.heap.size w wr) ∧ Hid (Below w5.heap.size w5 wr)) (fun i _ => 19 - (intOf i).toNat)
      case atStart => exact ⟨0, by omega, rfl, HB5, Lib.hid (Below.refl _ _)⟩
      case round =>
        clear HB5
        obtain ⟨k, hk, rfl, HB, HS⟩ := hrel
        by_cases hlt : k < 19
        · skip
          have hki : (k : Int) < 19 := by omega
          have HK := Lib.hid hlt
          have hlen := sgs_len k hlt
          have c1 := row_strs ((HS.out.block rb (lt_of_block HR.out)).trans HR.out) k hlt
          have HWr := Lib.hid (HW2.out.below (HS5.out.trans (HS.out.mono HS5.out.size)))
          have HX := Lib.hid (scan_any (sgs.getD k []) wr HWr.out (by omega))
          rw [sgs_scan k hlt] at HX
          have HGC := Lib.hid fun w' (h : Below wr.heap.size wr w') => HSC.out w' (HS5.out.trans ((HS.out.trans (h.mono HS.out.size)).mono HS5.out.size)) k hlt
          generalize sgs.getD k [] = x at *
          clear hk hlt hlen
          have htl : (bs x).toList = x := bs_toList x
          go_wp2_with fail
          refine HX.out.mono ?_
          rintro e wx ⟨v, rfl, ho, hb⟩
          obtain ⟨g, c, rfl, _, _, hc⟩ := toks_at ho (by simp)
          obtain ⟨t0, t1, _⟩ : wx.cell? ⟨g, 0, none⟩ = some (.int .i64 3) ∧ wx.cell? ⟨g, 1, none⟩ = some (.string (bs x)) ∧ wx.cell? ⟨g, 2, none⟩ = some (.int .i64 0) := hc wx (Below.refl _ _) 0 (by simp)
          have c2 := HGC.out wx hb
          have HBx := Lib.hid (HB.out.trans (hb.mono HB.out.size))
          have HSx := Lib.hid (HS.out.trans (hb.mono HS.out.size))
          clear ho hb hc HX HGC HB HS c1 HWr
          go_wp2
          go_roundw
          case rel => exact ⟨k + 1, HK.out, by go_num, HBx, HSx⟩
          case measure => exact meas_up _ _ HK.out
        · skip
          obtain rfl : k = 19 := by omega
          have hki : ¬ ((19 : Nat) : Int) < 19 := by omega
          rw [show ((19 : Nat) : Int) = 19 from rfl]
          clear hk hlt HR HSC
          have HW6 := Lib.hid (HW2.out.below (HS5.out.trans (HS.out.mono HS5.out.size)))
          clear HS HS5 HW2
          have hcat : (⟨#[120]⟩ : ByteArray) ++ bs l = bs (120 :: l) := bs_append [120] l
          have hz2 : (⟨#[120]⟩ : ByteArray).size = 1 := rfl
          have HX := Lib.hid (scan_any (120 :: l) wr HW6.out (by have := HL.out; simp; omega))
          have HSN := Lib.hid fun t ts k h ht => scan_x l t ts k h ht
          generalize hsc : scanL (120 :: l) = sc at *
          obtain ⟨ts, sk, se⟩ := sc
          clear hsc
          dsimp only at HX
          go_wp2_with fail
          refine HX.out.mono ?_
          rintro e w7 ⟨v, rfl, ho, hb⟩
          have HB7 := Lib.hid (HB.out.trans (hb.mono HB.out.size))
          have HW7 := Lib.hid (HW6.out.below hb)
          clear hb HX HB HW6
          by_cases he : se = 0
          · skip
            subst he
            by_cases h2 : ts.length = 2
            · skip
              obtain ⟨t, t2, rfl⟩ : ∃ t t2, ts = [t, t2] := list2 ts h2
              obtain ⟨g, c, rfl, _, _, hc⟩ := toks_at ho (by simp)
              obtain ⟨tk, tx, to⟩ := t
              obtain ⟨t0, t1, _⟩ : w7.cell? ⟨g, 0, none⟩ = some (.int .i64 tk) ∧ w7.cell? ⟨g, 1, none⟩ = some (.string (bs tx)) ∧ w7.cell? ⟨g, 2, none⟩ = some (.int .i64 to) := hc w7 (Below.refl _ _) 0 (by simp)
              have HC := Lib.hid fun wz (h : Below w7.heap.size w7 wz) => (hc wz h 0 (by simp)).1
              rw [show ([(⟨tk, tx, to⟩ : Tok), t2]).length = 2 from rfl]
              have htl : (bs tx).toList = tx := bs_toList tx
              have hxl : (bs (120 :: l)).toList = 120 :: l := bs_toList _
              clear ho hc h2
              by_cases hx : tx = 120 :: l
              · skip
                obtain ⟨hk1, hl23⟩ := HSN.out ⟨tk, tx, to⟩ [t2] sk rfl hx
                have hk1 : tk = 1 := hk1
                subst hk1 hx
                have hl23i : (l.length : Int) ≤ 23 := by omega
                clear hl23 HSN
                go_wp2_with fail
                refine (awake_any w7 HW7.out).mono ?_
                rintro e wz ⟨rfl, hb⟩
                have HBz := Lib.hid (HB7.out.trans (hb.mono HB7.out.size))
                have z0 : wz.cell? ⟨g, 0, none⟩ = some (.int .i64 1) := HC.out wz hb
                clear hb HB7 HW7 HC t0 t1
                go_wp2
                go_ret
                exact ⟨by first | rfl | simp, HBz.out⟩
              · have hxb : (tx == 120 :: l) = false := by simpa using hx
                clear HSN HC
                go_wp2_with fail
                refine (awake_any w7 HW7.out).mono ?_
                rintro e wz ⟨rfl, hb⟩
                have HBz := Lib.hid (HB7.out.trans (hb.mono HB7.out.size))
                clear hb HB7 HW7
                go_wp2
                go_ret
                exact ⟨by first | rfl | simp, HBz.out⟩
            · have h2i2 : ¬ (ts.length : Int) = 2 := by omega
              obtain ⟨A, c, rfl, _, _, _⟩ := own_reads ho (S := fun _ => True) (fun b hb => trivial)
              clear ho HSN h2
              go_wp2_with fail
              refine (awake_any w7 HW7.out).mono ?_
              rintro e wz ⟨rfl, hb⟩
              have HBz := Lib.hid (HB7.out.trans (hb.mono HB7.out.size))
              clear hb HB7 HW7
              go_wp2
              go_ret
              exact ⟨by first | rfl | simp, HBz.out⟩
          · clear ho HSN
            go_wp2_with fail
            refine (awake_any w7 HW7.out).mono ?_
            rintro e wz ⟨rfl, hb⟩
            have HBz := Lib.hid (HB7.out.trans (hb.mono HB7.out.size))
            clear hb HB7 HW7
            go_wp2
            go_ret
            exact ⟨by first | rfl | simp, HBz.out⟩
theorem words_str (s : ByteArray) (w : World) (hw : LxW w) :
    Calls Tryd.prog 8 #[.string s] w fun e w' => e = .returned (.bool true) ∧ Below w.heap.size w w' := by
  have h : Calls Tryd.prog 8 #[.string (bs s.data.toList)] w fun e w' => e = .returned (.bool true) ∧ Below w.heap.size w w' := by
    by_cases h2 : 100 < s.data.toList.length
    · exact words_long _ w hw h2
    · exact words_ok _ w hw h2
  rwa [bs_eta] at h
end Go.Proofs.YtjknmfnelkhmcaaDoor
