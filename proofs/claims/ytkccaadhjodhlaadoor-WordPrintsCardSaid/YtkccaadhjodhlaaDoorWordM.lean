/- The walk of the law WordParses: true. Conditions: the numbers are of their kinds; the laid tables and error variables (PW). -/
import Derived.Test.YtkccaadhjodhlaaDoorWordO
import Derived.Test.YtkccaadhjodhlaaDoorWordU
set_option linter.unusedVariables false
set_option linter.unusedSimpArgs false
namespace Go.Proofs.YtkccaadhjodhlaaDoor
open Go.RowKit

theorem txt_len (v n r : Int) (h0 : -9223372036854775808 ≤ v) (h1 : v ≤ 9223372036854775807) (h2 : 0 ≤ n) (h3 : n < 4294967296) (h4 : 0 ≤ r) (h5 : r < 4294967296) : (txt v n r).length ≤ 110 := by
  have d : ∀ k : Nat, k < 4294967296 → (Lib.decDigits k).length ≤ 20 := fun k hk => by rw [Lib.decDigits_length]; exact Lib.nDigits_le20 _ (by omega)
  have a := Lib.itoa_length_le v h0 h1
  have b := d n.toNat (by omega)
  have c : (Lib.decDigits (whoA r).toNat).length ≤ 20 := d _ (by unfold whoA; split <;> omega)
  have e : (Lib.decDigits (whoB r).toNat).length ≤ 20 := d _ (by unfold whoB; split <;> omega)
  unfold txt
  split
  · simp
  · rw [List.length_append, List.length_append]
    have x : (if n ≠ 0 ∨ kindV r = 1 then 46 :: Lib.decDigits n.toNat else []).length ≤ 21 := by split <;> simp <;> omega
    have y : (if kindV r = 1 then 35 :: (Lib.decDigits (whoA r).toNat ++ 58 :: Lib.decDigits (whoB r).toNat) else []).length ≤ 50 := by split <;> simp <;> omega
    omega
theorem bs_eq (l : List UInt8) : (⟨l.toArray⟩ : ByteArray) = bs l := rfl
theorem prs_nil : prs [] = none := rfl
theorem kind_two {r : Int} (h : kindV r = 2) : r ≠ 0 ∧ whoA r = 0 := by
  unfold kindV at h
  split at h
  · cases h
  · next h0 =>
    split at h
    · cases h
    · next h1 =>
      refine ⟨h0, ?_⟩
      by_cases hw : wOk (r / 16777216) (r % 16777216)
      · rw [whoA_ok hw] at h1; unfold wOk at hw; omega
      · exact whoA_no hw

set_option maxRecDepth 100000 in
set_option maxHeartbeats 12800000 in
theorem parses_long (v n r : Int) (l : List UInt8) (w : World) (h0 : -9223372036854775808 ≤ v) (h1 : v ≤ 9223372036854775807) (h2 : 0 ≤ n) (h3 : n < 4294967296) (h4 : 0 ≤ r) (h5 : r < 4294967296) (hmax : l.length ≤ 9223372036854775807) (hW : PW w) (hl : 300 < l.length) :
    Calls Tryd.prog 8 #[wd v n r, .string (bs l)] w fun e w' => e = .returned (.bool true) ∧ Below w.heap.size w w' := by
  have hsz := bs_size l
  have hli : (300 : Int) < (l.length : Int) := by omega
  unfold wd
  clear hW hl h0 h1 h2 h3 h4 h5
  go_enter Tryd.func8, Tryd.ntmps8
  go_wp2_with fail
  have HB := Lib.hid (show Below w.heap.size w (w.alloc (wdO v n r)) from (Below.refl _ _).alloc (Nat.le_refl _) _)
  unfold wdO at HB
  refine (awake_any _).mono ?_
  rintro e wz ⟨rfl, hb⟩
  have HBz := Lib.hid (HB.out.trans (hb.mono HB.out.size))
  clear hb HB
  go_wp2
  go_ret
  exact ⟨by first | rfl | simp, HBz.out⟩
set_option maxRecDepth 100000 in
set_option maxHeartbeats 12800000 in
theorem parses_two (v n r : Int) (l : List UInt8) (w : World) (h0 : -9223372036854775808 ≤ v) (h1 : v ≤ 9223372036854775807) (h2 : 0 ≤ n) (h3 : n < 4294967296) (h4 : 0 ≤ r) (h5 : r < 4294967296) (hmax : l.length ≤ 9223372036854775807) (hW : PW w) (hl : l.length ≤ 300) (hk : kindV r = 2) :
    Calls Tryd.prog 8 #[wd v n r, .string (bs l)] w fun e w' => e = .returned (.bool true) ∧ Below w.heap.size w w' := by
  have hsz := bs_size l
  have hli : (l.length : Int) ≤ 300 := by omega
  have HLL := Lib.hid (show l.length ≤ 100000 by omega)
  have HTX := Lib.hid fun W (hp : PW W) => text_any v n r W h0 h1 h4 h5 h2 h3 hp.pow
  have HWHO := Lib.hid fun W => who_any r W h4 h5
  have HW := Lib.hid hW
  obtain ⟨hr0, hwa⟩ := kind_two hk
  have htx : txt v n r = [] := by unfold txt; rw [if_pos hk]
  have HPT := Lib.hid fun W (hp : PW W) => parse_any [] W (by simp) hp
  rw [htx] at HTX
  rw [hwa] at HWHO
  rw [prs_nil] at HPT
  dsimp only [prV1, prE1] at HPT
  have hrb : (r == 0) = false := beq_eq_false_iff_ne.2 hr0
  have hrc : (r != 0) = true := by rw [bne, hrb]; rfl
  have hbe : (bs []).toList = [] := bs_toList []
  simp only [bs_eq] at HTX
  have HPL := Lib.hid fun W (hp : PW W) => parse_any l W HLL.out hp
  clear hk htx hwa h0 h1 h2 h3 h4 h5 hmax hW hl
  cases hp : prs l with
  | none =>
    rw [hp] at HPL
    dsimp only [prV1, prE1] at HPL
    clear hp
    unfold wd at HTX HPT HPL ⊢
    go_enter Tryd.func8, Tryd.ntmps8
    go_wp2_with fail
    have hb0 : Below w.heap.size w (w.alloc (wdO v n r)) := (Below.refl _ _).alloc (Nat.le_refl _) _
    have HB1 := Lib.hid hb0
    have X1 := Lib.hid (show WBox (w.alloc (wdO v n r)) w.heap.size v n r from WBox.new)
    clear hb0
    unfold wdO at HB1 X1
    generalize w.alloc (.cells #[.int .i64 v, .int .u32 n, .int .u32 r] 33) = w1 at *
    have x0 := X1.out.c0
    have x1 := X1.out.c1
    have x2 := X1.out.c2
    go_wp2_with fail
    refine (HTX.out w1 (HW.out.below HB1.out)).mono ?_
    rintro e w2 ⟨rfl, hb⟩
    have HB2 := Lib.hid (HB1.out.trans (hb.mono HB1.out.size))
    have X2 := Lib.hid (X1.out.below hb)
    clear hb x0 x1 x2 HB1 X1 HTX
    go_wp2_with fail
    refine (HPT.out w2 (HW.out.below HB2.out)).mono ?_
    rintro e w3 ⟨rfl, hb⟩
    have HB3 := Lib.hid (HB2.out.trans (hb.mono HB2.out.size))
    have X3 := Lib.hid (X2.out.below hb)
    clear hb HB2 X2 HPT
    go_wp2_with (with_reducible refine at_store_ (t := 33) ?_; refine Hid.out ?_)
    refine Lib.hid ?_
    refine put_word (v' := 0) (n' := 0) (r' := 0) rfl (.tmp 6) (.tmp 21) rfl rfl w3.heap.size rfl rfl WBox.new ?_
    intro w4 hx hk
    have Y4 := Lib.hid hx
    have hkk : Keep (fun k => k = w3.heap.size) w3 w4 := (Keep.of_below ((Below.refl w3.heap.size w3).alloc (Nat.le_refl _) (wdO 0 0 0))).trans hk
    have HB4 := Lib.hid (HB3.out.trans (hkk.below HB3.out.size (fun k hk e => by have := HB3.out.size; omega)))
    have X4 := Lib.hid (X3.out.keep hkk (fun e => by have := X3.out.lt; omega))
    clear hx hk hkk HB3 X3
    generalize w3.heap.size = p at *
    have x0 := X4.out.c0
    have x1 := X4.out.c1
    have x2 := X4.out.c2
    have y0 := Y4.out.c0
    have y1 := Y4.out.c1
    have y2 := Y4.out.c2
    go_wp2_with fail
    refine (HWHO.out w4).mono ?_
    rintro e w5 ⟨rfl, hx⟩
    subst w5
    clear HWHO
    go_wp2_with fail
    refine (HPL.out w4 (HW.out.below HB4.out)).mono ?_
    rintro e w5 ⟨rfl, hb⟩
    have HB5 := Lib.hid (HB4.out.trans (hb.mono HB4.out.size))
    clear hb x0 x1 x2 y0 y1 y2 HB4 X4 Y4 HPL
    go_wp2_with (with_reducible refine at_store_ (t := 33) ?_; refine Hid.out ?_)
    refine Lib.hid ?_
    refine put_word (v' := 0) (n' := 0) (r' := 0) rfl (.tmp 10) (.tmp 52) rfl rfl w5.heap.size rfl rfl WBox.new ?_
    intro w6 hx hk
    have Z6 := Lib.hid hx
    have hkk : Keep (fun k => k = w5.heap.size) w5 w6 := (Keep.of_below ((Below.refl w5.heap.size w5).alloc (Nat.le_refl _) (wdO 0 0 0))).trans hk
    have HB6 := Lib.hid (HB5.out.trans (hkk.below HB5.out.size (fun k hk e => by have := HB5.out.size; omega)))
    clear hx hk hkk HB5
    generalize w5.heap.size = p2 at *
    have z0 := Z6.out.c0
    have z1 := Z6.out.c1
    have z2 := Z6.out.c2
    go_wp2_with fail
    refine (awake_any w6).mono ?_
    rintro e wz ⟨rfl, hb⟩
    have HBz := Lib.hid (HB6.out.trans (hb.mono HB6.out.size))
    clear hb
    go_wp2
    go_ret
    exact ⟨by first | rfl | simp, HBz.out⟩
  | some q =>
    obtain ⟨a, b, c⟩ := q
    obtain ⟨hq, hqt⟩ := prs_back hp
    have HTQ := Lib.hid fun W (hw : PW W) => text_any a b c W hq.v0 hq.v1 hq.r0 hq.r1 hq.n0 hq.n1 hw.pow
    rw [hqt] at HTQ
    simp only [bs_eq] at HTQ
    rw [hp] at HPL
    dsimp only [prV1, prE1] at HPL
    clear hp hq hqt
    unfold wd at HTX HPT HPL HTQ ⊢
    go_enter Tryd.func8, Tryd.ntmps8
    go_wp2_with fail
    have hb0 : Below w.heap.size w (w.alloc (wdO v n r)) := (Below.refl _ _).alloc (Nat.le_refl _) _
    have HB1 := Lib.hid hb0
    have X1 := Lib.hid (show WBox (w.alloc (wdO v n r)) w.heap.size v n r from WBox.new)
    clear hb0
    unfold wdO at HB1 X1
    generalize w.alloc (.cells #[.int .i64 v, .int .u32 n, .int .u32 r] 33) = w1 at *
    have x0 := X1.out.c0
    have x1 := X1.out.c1
    have x2 := X1.out.c2
    go_wp2_with fail
    refine (HTX.out w1 (HW.out.below HB1.out)).mono ?_
    rintro e w2 ⟨rfl, hb⟩
    have HB2 := Lib.hid (HB1.out.trans (hb.mono HB1.out.size))
    have X2 := Lib.hid (X1.out.below hb)
    clear hb x0 x1 x2 HB1 X1 HTX
    go_wp2_with fail
    refine (HPT.out w2 (HW.out.below HB2.out)).mono ?_
    rintro e w3 ⟨rfl, hb⟩
    have HB3 := Lib.hid (HB2.out.trans (hb.mono HB2.out.size))
    have X3 := Lib.hid (X2.out.below hb)
    clear hb HB2 X2 HPT
    go_wp2_with (with_reducible refine at_store_ (t := 33) ?_; refine Hid.out ?_)
    refine Lib.hid ?_
    refine put_word (v' := 0) (n' := 0) (r' := 0) rfl (.tmp 6) (.tmp 21) rfl rfl w3.heap.size rfl rfl WBox.new ?_
    intro w4 hx hk
    have Y4 := Lib.hid hx
    have hkk : Keep (fun k => k = w3.heap.size) w3 w4 := (Keep.of_below ((Below.refl w3.heap.size w3).alloc (Nat.le_refl _) (wdO 0 0 0))).trans hk
    have HB4 := Lib.hid (HB3.out.trans (hkk.below HB3.out.size (fun k hk e => by have := HB3.out.size; omega)))
    have X4 := Lib.hid (X3.out.keep hkk (fun e => by have := X3.out.lt; omega))
    clear hx hk hkk HB3 X3
    generalize w3.heap.size = p at *
    have x0 := X4.out.c0
    have x1 := X4.out.c1
    have x2 := X4.out.c2
    have y0 := Y4.out.c0
    have y1 := Y4.out.c1
    have y2 := Y4.out.c2
    go_wp2_with fail
    refine (HWHO.out w4).mono ?_
    rintro e w5 ⟨rfl, hx⟩
    subst w5
    clear HWHO
    go_wp2_with fail
    refine (HPL.out w4 (HW.out.below HB4.out)).mono ?_
    rintro e w5 ⟨rfl, hb⟩
    have HB5 := Lib.hid (HB4.out.trans (hb.mono HB4.out.size))
    clear hb x0 x1 x2 y0 y1 y2 HB4 X4 Y4 HPL
    go_wp2_with (with_reducible refine at_store_ (t := 33) ?_; refine Hid.out ?_)
    refine Lib.hid ?_
    refine put_word (v' := a) (n' := b) (r' := c) rfl (.tmp 10) (.tmp 52) rfl rfl w5.heap.size rfl rfl WBox.new ?_
    intro w6 hx hk
    have Z6 := Lib.hid hx
    have hkk : Keep (fun k => k = w5.heap.size) w5 w6 := (Keep.of_below ((Below.refl w5.heap.size w5).alloc (Nat.le_refl _) (wdO 0 0 0))).trans hk
    have HB6 := Lib.hid (HB5.out.trans (hkk.below HB5.out.size (fun k hk e => by have := HB5.out.size; omega)))
    clear hx hk hkk HB5
    generalize w5.heap.size = p2 at *
    have z0 := Z6.out.c0
    have z1 := Z6.out.c1
    have z2 := Z6.out.c2
    go_wp2_with fail
    refine (HTQ.out w6 (HW.out.below HB6.out)).mono ?_
    rintro e w7 ⟨rfl, hb⟩
    have HB7 := Lib.hid (HB6.out.trans (hb.mono HB6.out.size))
    clear hb z0 z1 z2 HB6 Z6 HTQ
    go_wp2_with fail
    refine (awake_any w7).mono ?_
    rintro e wz ⟨rfl, hb⟩
    have HBz := Lib.hid (HB7.out.trans (hb.mono HB7.out.size))
    clear hb
    go_wp2
    go_ret
    exact ⟨by first | rfl | simp, HBz.out⟩
set_option maxRecDepth 100000 in
set_option maxHeartbeats 12800000 in
theorem parses_zero (v n r : Int) (l : List UInt8) (w : World) (h0 : -9223372036854775808 ≤ v) (h1 : v ≤ 9223372036854775807) (h2 : 0 ≤ n) (h3 : n < 4294967296) (h4 : 0 ≤ r) (h5 : r < 4294967296) (hmax : l.length ≤ 9223372036854775807) (hW : PW w) (hl : l.length ≤ 300) (hk : kindV r ≠ 2) (hr : r = 0) :
    Calls Tryd.prog 8 #[wd v n r, .string (bs l)] w fun e w' => e = .returned (.bool true) ∧ Below w.heap.size w w' := by
  have hsz := bs_size l
  have hli : (l.length : Int) ≤ 300 := by omega
  have HLL := Lib.hid (show l.length ≤ 100000 by omega)
  have HTX := Lib.hid fun W (hp : PW W) => text_any v n r W h0 h1 h4 h5 h2 h3 hp.pow
  have HWHO := Lib.hid fun W => who_any r W h4 h5
  have HW := Lib.hid hW
  have hOK : WOk v n r := ⟨h0, h1, h2, h3, h4, h5, hk⟩
  have HTO := Lib.hid (bs_toList (txt v n r))
  have HPT := Lib.hid fun W (hp : PW W) => parse_any (txt v n r) W (Nat.le_trans (txt_len v n r h0 h1 h2 h3 h4 h5) (by omega)) hp
  rw [prs_txt hOK] at HPT
  dsimp only [prV1, prE1] at HPT
  subst hr
  simp only [bs_eq] at HTX
  have HPL := Lib.hid fun W (hp : PW W) => parse_any l W HLL.out hp
  generalize txt v n 0 = T at *
  clear hk hOK h0 h1 h2 h3 h4 h5 hmax hW hl
  cases hp : prs l with
  | none =>
    rw [hp] at HPL
    dsimp only [prV1, prE1] at HPL
    clear hp
    unfold wd at HTX HPT HPL ⊢
    go_enter Tryd.func8, Tryd.ntmps8
    go_wp2_with fail
    have hb0 : Below w.heap.size w (w.alloc (wdO v n 0)) := (Below.refl _ _).alloc (Nat.le_refl _) _
    have HB1 := Lib.hid hb0
    have X1 := Lib.hid (show WBox (w.alloc (wdO v n 0)) w.heap.size v n 0 from WBox.new)
    clear hb0
    unfold wdO at HB1 X1
    generalize w.alloc (.cells #[.int .i64 v, .int .u32 n, .int .u32 0] 33) = w1 at *
    have x0 := X1.out.c0
    have x1 := X1.out.c1
    have x2 := X1.out.c2
    go_wp2_with fail
    refine (HTX.out w1 (HW.out.below HB1.out)).mono ?_
    rintro e w2 ⟨rfl, hb⟩
    have HB2 := Lib.hid (HB1.out.trans (hb.mono HB1.out.size))
    have X2 := Lib.hid (X1.out.below hb)
    clear hb x0 x1 x2 HB1 X1 HTX
    go_wp2_with fail
    refine (HPT.out w2 (HW.out.below HB2.out)).mono ?_
    rintro e w3 ⟨rfl, hb⟩
    have HB3 := Lib.hid (HB2.out.trans (hb.mono HB2.out.size))
    have X3 := Lib.hid (X2.out.below hb)
    clear hb HB2 X2 HPT
    go_wp2_with (with_reducible refine at_store_ (t := 33) ?_; refine Hid.out ?_)
    refine Lib.hid ?_
    refine put_word (v' := v) (n' := n) (r' := 0) rfl (.tmp 6) (.tmp 21) rfl rfl w3.heap.size rfl rfl WBox.new ?_
    intro w4 hx hk
    have Y4 := Lib.hid hx
    have hkk : Keep (fun k => k = w3.heap.size) w3 w4 := (Keep.of_below ((Below.refl w3.heap.size w3).alloc (Nat.le_refl _) (wdO 0 0 0))).trans hk
    have HB4 := Lib.hid (HB3.out.trans (hkk.below HB3.out.size (fun k hk e => by have := HB3.out.size; omega)))
    have X4 := Lib.hid (X3.out.keep hkk (fun e => by have := X3.out.lt; omega))
    clear hx hk hkk HB3 X3
    generalize w3.heap.size = p at *
    have x0 := X4.out.c0
    have x1 := X4.out.c1
    have x2 := X4.out.c2
    have y0 := Y4.out.c0
    have y1 := Y4.out.c1
    have y2 := Y4.out.c2
    go_wp2_with fail
    refine (HWHO.out w4).mono ?_
    rintro e w5 ⟨rfl, hx⟩
    subst w5
    clear HWHO
    go_wp2_with fail
    refine (HPL.out w4 (HW.out.below HB4.out)).mono ?_
    rintro e w5 ⟨rfl, hb⟩
    have HB5 := Lib.hid (HB4.out.trans (hb.mono HB4.out.size))
    clear hb x0 x1 x2 y0 y1 y2 HB4 X4 Y4 HPL
    go_wp2_with (with_reducible refine at_store_ (t := 33) ?_; refine Hid.out ?_)
    refine Lib.hid ?_
    refine put_word (v' := 0) (n' := 0) (r' := 0) rfl (.tmp 10) (.tmp 52) rfl rfl w5.heap.size rfl rfl WBox.new ?_
    intro w6 hx hk
    have Z6 := Lib.hid hx
    have hkk : Keep (fun k => k = w5.heap.size) w5 w6 := (Keep.of_below ((Below.refl w5.heap.size w5).alloc (Nat.le_refl _) (wdO 0 0 0))).trans hk
    have HB6 := Lib.hid (HB5.out.trans (hkk.below HB5.out.size (fun k hk e => by have := HB5.out.size; omega)))
    clear hx hk hkk HB5
    generalize w5.heap.size = p2 at *
    have z0 := Z6.out.c0
    have z1 := Z6.out.c1
    have z2 := Z6.out.c2
    go_wp2_with fail
    refine (awake_any w6).mono ?_
    rintro e wz ⟨rfl, hb⟩
    have HBz := Lib.hid (HB6.out.trans (hb.mono HB6.out.size))
    clear hb
    go_wp2
    go_ret
    exact ⟨by first | rfl | simp, HBz.out⟩
  | some q =>
    obtain ⟨a, b, c⟩ := q
    obtain ⟨hq, hqt⟩ := prs_back hp
    have HTQ := Lib.hid fun W (hw : PW W) => text_any a b c W hq.v0 hq.v1 hq.r0 hq.r1 hq.n0 hq.n1 hw.pow
    rw [hqt] at HTQ
    simp only [bs_eq] at HTQ
    rw [hp] at HPL
    dsimp only [prV1, prE1] at HPL
    clear hp hq hqt
    unfold wd at HTX HPT HPL HTQ ⊢
    go_enter Tryd.func8, Tryd.ntmps8
    go_wp2_with fail
    have hb0 : Below w.heap.size w (w.alloc (wdO v n 0)) := (Below.refl _ _).alloc (Nat.le_refl _) _
    have HB1 := Lib.hid hb0
    have X1 := Lib.hid (show WBox (w.alloc (wdO v n 0)) w.heap.size v n 0 from WBox.new)
    clear hb0
    unfold wdO at HB1 X1
    generalize w.alloc (.cells #[.int .i64 v, .int .u32 n, .int .u32 0] 33) = w1 at *
    have x0 := X1.out.c0
    have x1 := X1.out.c1
    have x2 := X1.out.c2
    go_wp2_with fail
    refine (HTX.out w1 (HW.out.below HB1.out)).mono ?_
    rintro e w2 ⟨rfl, hb⟩
    have HB2 := Lib.hid (HB1.out.trans (hb.mono HB1.out.size))
    have X2 := Lib.hid (X1.out.below hb)
    clear hb x0 x1 x2 HB1 X1 HTX
    go_wp2_with fail
    refine (HPT.out w2 (HW.out.below HB2.out)).mono ?_
    rintro e w3 ⟨rfl, hb⟩
    have HB3 := Lib.hid (HB2.out.trans (hb.mono HB2.out.size))
    have X3 := Lib.hid (X2.out.below hb)
    clear hb HB2 X2 HPT
    go_wp2_with (with_reducible refine at_store_ (t := 33) ?_; refine Hid.out ?_)
    refine Lib.hid ?_
    refine put_word (v' := v) (n' := n) (r' := 0) rfl (.tmp 6) (.tmp 21) rfl rfl w3.heap.size rfl rfl WBox.new ?_
    intro w4 hx hk
    have Y4 := Lib.hid hx
    have hkk : Keep (fun k => k = w3.heap.size) w3 w4 := (Keep.of_below ((Below.refl w3.heap.size w3).alloc (Nat.le_refl _) (wdO 0 0 0))).trans hk
    have HB4 := Lib.hid (HB3.out.trans (hkk.below HB3.out.size (fun k hk e => by have := HB3.out.size; omega)))
    have X4 := Lib.hid (X3.out.keep hkk (fun e => by have := X3.out.lt; omega))
    clear hx hk hkk HB3 X3
    generalize w3.heap.size = p at *
    have x0 := X4.out.c0
    have x1 := X4.out.c1
    have x2 := X4.out.c2
    have y0 := Y4.out.c0
    have y1 := Y4.out.c1
    have y2 := Y4.out.c2
    go_wp2_with fail
    refine (HWHO.out w4).mono ?_
    rintro e w5 ⟨rfl, hx⟩
    subst w5
    clear HWHO
    go_wp2_with fail
    refine (HPL.out w4 (HW.out.below HB4.out)).mono ?_
    rintro e w5 ⟨rfl, hb⟩
    have HB5 := Lib.hid (HB4.out.trans (hb.mono HB4.out.size))
    clear hb x0 x1 x2 y0 y1 y2 HB4 X4 Y4 HPL
    go_wp2_with (with_reducible refine at_store_ (t := 33) ?_; refine Hid.out ?_)
    refine Lib.hid ?_
    refine put_word (v' := a) (n' := b) (r' := c) rfl (.tmp 10) (.tmp 52) rfl rfl w5.heap.size rfl rfl WBox.new ?_
    intro w6 hx hk
    have Z6 := Lib.hid hx
    have hkk : Keep (fun k => k = w5.heap.size) w5 w6 := (Keep.of_below ((Below.refl w5.heap.size w5).alloc (Nat.le_refl _) (wdO 0 0 0))).trans hk
    have HB6 := Lib.hid (HB5.out.trans (hkk.below HB5.out.size (fun k hk e => by have := HB5.out.size; omega)))
    clear hx hk hkk HB5
    generalize w5.heap.size = p2 at *
    have z0 := Z6.out.c0
    have z1 := Z6.out.c1
    have z2 := Z6.out.c2
    go_wp2_with fail
    refine (HTQ.out w6 (HW.out.below HB6.out)).mono ?_
    rintro e w7 ⟨rfl, hb⟩
    have HB7 := Lib.hid (HB6.out.trans (hb.mono HB6.out.size))
    clear hb z0 z1 z2 HB6 Z6 HTQ
    go_wp2_with fail
    refine (awake_any w7).mono ?_
    rintro e wz ⟨rfl, hb⟩
    have HBz := Lib.hid (HB7.out.trans (hb.mono HB7.out.size))
    clear hb
    go_wp2
    go_ret
    exact ⟨by first | rfl | simp, HBz.out⟩
set_option maxRecDepth 100000 in
set_option maxHeartbeats 12800000 in
theorem parses_held (v n r : Int) (l : List UInt8) (w : World) (h0 : -9223372036854775808 ≤ v) (h1 : v ≤ 9223372036854775807) (h2 : 0 ≤ n) (h3 : n < 4294967296) (h4 : 0 ≤ r) (h5 : r < 4294967296) (hmax : l.length ≤ 9223372036854775807) (hW : PW w) (hl : l.length ≤ 300) (hk : kindV r ≠ 2) (hr : r ≠ 0) :
    Calls Tryd.prog 8 #[wd v n r, .string (bs l)] w fun e w' => e = .returned (.bool true) ∧ Below w.heap.size w w' := by
  have hsz := bs_size l
  have hli : (l.length : Int) ≤ 300 := by omega
  have HLL := Lib.hid (show l.length ≤ 100000 by omega)
  have HTX := Lib.hid fun W (hp : PW W) => text_any v n r W h0 h1 h4 h5 h2 h3 hp.pow
  have HWHO := Lib.hid fun W => who_any r W h4 h5
  have HW := Lib.hid hW
  have hOK : WOk v n r := ⟨h0, h1, h2, h3, h4, h5, hk⟩
  have HTO := Lib.hid (bs_toList (txt v n r))
  have HPT := Lib.hid fun W (hp : PW W) => parse_any (txt v n r) W (Nat.le_trans (txt_len v n r h0 h1 h2 h3 h4 h5) (by omega)) hp
  rw [prs_txt hOK] at HPT
  dsimp only [prV1, prE1] at HPT
  have hrb : (r == 0) = false := beq_eq_false_iff_ne.2 hr
  have hrc : (r != 0) = true := by rw [bne, hrb]; rfl
  have hwp : 0 < whoA r := ((kind_cases hk).resolve_left hr).2.2
  have hwb : (whoA r == 0) = false := beq_eq_false_iff_ne.2 (by omega)
  have hwd : ¬ whoA r = 0 := by omega
  simp only [bs_eq] at HTX
  have HPL := Lib.hid fun W (hp : PW W) => parse_any l W HLL.out hp
  generalize txt v n r = T at *
  clear hk hOK h0 h1 h2 h3 h4 h5 hmax hW hl
  cases hp : prs l with
  | none =>
    rw [hp] at HPL
    dsimp only [prV1, prE1] at HPL
    clear hp
    unfold wd at HTX HPT HPL ⊢
    go_enter Tryd.func8, Tryd.ntmps8
    go_wp2_with fail
    have hb0 : Below w.heap.size w (w.alloc (wdO v n r)) := (Below.refl _ _).alloc (Nat.le_refl _) _
    have HB1 := Lib.hid hb0
    have X1 := Lib.hid (show WBox (w.alloc (wdO v n r)) w.heap.size v n r from WBox.new)
    clear hb0
    unfold wdO at HB1 X1
    generalize w.alloc (.cells #[.int .i64 v, .int .u32 n, .int .u32 r] 33) = w1 at *
    have x0 := X1.out.c0
    have x1 := X1.out.c1
    have x2 := X1.out.c2
    go_wp2_with fail
    refine (HTX.out w1 (HW.out.below HB1.out)).mono ?_
    rintro e w2 ⟨rfl, hb⟩
    have HB2 := Lib.hid (HB1.out.trans (hb.mono HB1.out.size))
    have X2 := Lib.hid (X1.out.below hb)
    clear hb x0 x1 x2 HB1 X1 HTX
    go_wp2_with fail
    refine (HPT.out w2 (HW.out.below HB2.out)).mono ?_
    rintro e w3 ⟨rfl, hb⟩
    have HB3 := Lib.hid (HB2.out.trans (hb.mono HB2.out.size))
    have X3 := Lib.hid (X2.out.below hb)
    clear hb HB2 X2 HPT
    go_wp2_with (with_reducible refine at_store_ (t := 33) ?_; refine Hid.out ?_)
    refine Lib.hid ?_
    refine put_word (v' := v) (n' := n) (r' := r) rfl (.tmp 6) (.tmp 21) rfl rfl w3.heap.size rfl rfl WBox.new ?_
    intro w4 hx hk
    have Y4 := Lib.hid hx
    have hkk : Keep (fun k => k = w3.heap.size) w3 w4 := (Keep.of_below ((Below.refl w3.heap.size w3).alloc (Nat.le_refl _) (wdO 0 0 0))).trans hk
    have HB4 := Lib.hid (HB3.out.trans (hkk.below HB3.out.size (fun k hk e => by have := HB3.out.size; omega)))
    have X4 := Lib.hid (X3.out.keep hkk (fun e => by have := X3.out.lt; omega))
    clear hx hk hkk HB3 X3
    generalize w3.heap.size = p at *
    have x0 := X4.out.c0
    have x1 := X4.out.c1
    have x2 := X4.out.c2
    have y0 := Y4.out.c0
    have y1 := Y4.out.c1
    have y2 := Y4.out.c2
    go_wp2_with fail
    refine (HWHO.out w4).mono ?_
    rintro e w5 ⟨rfl, hx⟩
    subst w5
    clear HWHO
    go_wp2_with fail
    refine (HPL.out w4 (HW.out.below HB4.out)).mono ?_
    rintro e w5 ⟨rfl, hb⟩
    have HB5 := Lib.hid (HB4.out.trans (hb.mono HB4.out.size))
    clear hb x0 x1 x2 y0 y1 y2 HB4 X4 Y4 HPL
    go_wp2_with (with_reducible refine at_store_ (t := 33) ?_; refine Hid.out ?_)
    refine Lib.hid ?_
    refine put_word (v' := 0) (n' := 0) (r' := 0) rfl (.tmp 10) (.tmp 52) rfl rfl w5.heap.size rfl rfl WBox.new ?_
    intro w6 hx hk
    have Z6 := Lib.hid hx
    have hkk : Keep (fun k => k = w5.heap.size) w5 w6 := (Keep.of_below ((Below.refl w5.heap.size w5).alloc (Nat.le_refl _) (wdO 0 0 0))).trans hk
    have HB6 := Lib.hid (HB5.out.trans (hkk.below HB5.out.size (fun k hk e => by have := HB5.out.size; omega)))
    clear hx hk hkk HB5
    generalize w5.heap.size = p2 at *
    have z0 := Z6.out.c0
    have z1 := Z6.out.c1
    have z2 := Z6.out.c2
    go_wp2_with fail
    refine (awake_any w6).mono ?_
    rintro e wz ⟨rfl, hb⟩
    have HBz := Lib.hid (HB6.out.trans (hb.mono HB6.out.size))
    clear hb
    go_wp2
    go_ret
    exact ⟨by first | rfl | simp, HBz.out⟩
  | some q =>
    obtain ⟨a, b, c⟩ := q
    obtain ⟨hq, hqt⟩ := prs_back hp
    have HTQ := Lib.hid fun W (hw : PW W) => text_any a b c W hq.v0 hq.v1 hq.r0 hq.r1 hq.n0 hq.n1 hw.pow
    rw [hqt] at HTQ
    simp only [bs_eq] at HTQ
    rw [hp] at HPL
    dsimp only [prV1, prE1] at HPL
    clear hp hq hqt
    unfold wd at HTX HPT HPL HTQ ⊢
    go_enter Tryd.func8, Tryd.ntmps8
    go_wp2_with fail
    have hb0 : Below w.heap.size w (w.alloc (wdO v n r)) := (Below.refl _ _).alloc (Nat.le_refl _) _
    have HB1 := Lib.hid hb0
    have X1 := Lib.hid (show WBox (w.alloc (wdO v n r)) w.heap.size v n r from WBox.new)
    clear hb0
    unfold wdO at HB1 X1
    generalize w.alloc (.cells #[.int .i64 v, .int .u32 n, .int .u32 r] 33) = w1 at *
    have x0 := X1.out.c0
    have x1 := X1.out.c1
    have x2 := X1.out.c2
    go_wp2_with fail
    refine (HTX.out w1 (HW.out.below HB1.out)).mono ?_
    rintro e w2 ⟨rfl, hb⟩
    have HB2 := Lib.hid (HB1.out.trans (hb.mono HB1.out.size))
    have X2 := Lib.hid (X1.out.below hb)
    clear hb x0 x1 x2 HB1 X1 HTX
    go_wp2_with fail
    refine (HPT.out w2 (HW.out.below HB2.out)).mono ?_
    rintro e w3 ⟨rfl, hb⟩
    have HB3 := Lib.hid (HB2.out.trans (hb.mono HB2.out.size))
    have X3 := Lib.hid (X2.out.below hb)
    clear hb HB2 X2 HPT
    go_wp2_with (with_reducible refine at_store_ (t := 33) ?_; refine Hid.out ?_)
    refine Lib.hid ?_
    refine put_word (v' := v) (n' := n) (r' := r) rfl (.tmp 6) (.tmp 21) rfl rfl w3.heap.size rfl rfl WBox.new ?_
    intro w4 hx hk
    have Y4 := Lib.hid hx
    have hkk : Keep (fun k => k = w3.heap.size) w3 w4 := (Keep.of_below ((Below.refl w3.heap.size w3).alloc (Nat.le_refl _) (wdO 0 0 0))).trans hk
    have HB4 := Lib.hid (HB3.out.trans (hkk.below HB3.out.size (fun k hk e => by have := HB3.out.size; omega)))
    have X4 := Lib.hid (X3.out.keep hkk (fun e => by have := X3.out.lt; omega))
    clear hx hk hkk HB3 X3
    generalize w3.heap.size = p at *
    have x0 := X4.out.c0
    have x1 := X4.out.c1
    have x2 := X4.out.c2
    have y0 := Y4.out.c0
    have y1 := Y4.out.c1
    have y2 := Y4.out.c2
    go_wp2_with fail
    refine (HWHO.out w4).mono ?_
    rintro e w5 ⟨rfl, hx⟩
    subst w5
    clear HWHO
    go_wp2_with fail
    refine (HPL.out w4 (HW.out.below HB4.out)).mono ?_
    rintro e w5 ⟨rfl, hb⟩
    have HB5 := Lib.hid (HB4.out.trans (hb.mono HB4.out.size))
    clear hb x0 x1 x2 y0 y1 y2 HB4 X4 Y4 HPL
    go_wp2_with (with_reducible refine at_store_ (t := 33) ?_; refine Hid.out ?_)
    refine Lib.hid ?_
    refine put_word (v' := a) (n' := b) (r' := c) rfl (.tmp 10) (.tmp 52) rfl rfl w5.heap.size rfl rfl WBox.new ?_
    intro w6 hx hk
    have Z6 := Lib.hid hx
    have hkk : Keep (fun k => k = w5.heap.size) w5 w6 := (Keep.of_below ((Below.refl w5.heap.size w5).alloc (Nat.le_refl _) (wdO 0 0 0))).trans hk
    have HB6 := Lib.hid (HB5.out.trans (hkk.below HB5.out.size (fun k hk e => by have := HB5.out.size; omega)))
    clear hx hk hkk HB5
    generalize w5.heap.size = p2 at *
    have z0 := Z6.out.c0
    have z1 := Z6.out.c1
    have z2 := Z6.out.c2
    go_wp2_with fail
    refine (HTQ.out w6 (HW.out.below HB6.out)).mono ?_
    rintro e w7 ⟨rfl, hb⟩
    have HB7 := Lib.hid (HB6.out.trans (hb.mono HB6.out.size))
    clear hb z0 z1 z2 HB6 Z6 HTQ
    go_wp2_with fail
    refine (awake_any w7).mono ?_
    rintro e wz ⟨rfl, hb⟩
    have HBz := Lib.hid (HB7.out.trans (hb.mono HB7.out.size))
    clear hb
    go_wp2
    go_ret
    exact ⟨by first | rfl | simp, HBz.out⟩
theorem parses_any (v n r : Int) (l : List UInt8) (w : World) (h0 : -9223372036854775808 ≤ v) (h1 : v ≤ 9223372036854775807) (h2 : 0 ≤ n) (h3 : n < 4294967296) (h4 : 0 ≤ r) (h5 : r < 4294967296) (hmax : l.length ≤ 9223372036854775807) (hW : PW w)  :
    Calls Tryd.prog 8 #[wd v n r, .string (bs l)] w fun e w' => e = .returned (.bool true) ∧ Below w.heap.size w w' := by
  by_cases hl : 300 < l.length
  · exact parses_long v n r l w h0 h1 h2 h3 h4 h5 hmax hW hl
  · by_cases hk : kindV r = 2
    · exact parses_two v n r l w h0 h1 h2 h3 h4 h5 hmax hW (by omega) hk
    · by_cases hr : r = 0
      · exact parses_zero v n r l w h0 h1 h2 h3 h4 h5 hmax hW (by omega) hk hr
      · exact parses_held v n r l w h0 h1 h2 h3 h4 h5 hmax hW (by omega) hk hr
theorem parses_str (x : Int × Int × Int) (s : ByteArray) (w : World) (hx : (-9223372036854775808 ≤ x.1 ∧ x.1 ≤ 9223372036854775807) ∧ (0 ≤ x.2.1 ∧ x.2.1 < 4294967296) ∧ (0 ≤ x.2.2 ∧ x.2.2 < 4294967296)) (hmax : s.size ≤ 9223372036854775807) (hW : PW w) :
    Calls Tryd.prog 8 #[.agg #[.int .i64 x.1, .int .u32 x.2.1, .int .u32 x.2.2], .string s] w fun e w' => e = .returned (.bool true) ∧ Below w.heap.size w w' := by
  have h := parses_any x.1 x.2.1 x.2.2 s.data.toList w hx.1.1 hx.1.2 hx.2.1.1 hx.2.1.2 hx.2.2.1 hx.2.2.2 (by rw [← bs_size, bs_eta]; exact hmax) hW
  rwa [bs_eta] at h
end Go.Proofs.YtkccaadhjodhlaaDoor
