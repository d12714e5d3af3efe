/- The walk of word.Text at every word. Conditions: the numbers are of their kinds; the table of powers of ten is laid. -/
import Derived.Test.YtkccaadhjodhlaaDoorWordX
import Derived.Test.YtkccaadhjodhlaaDoorWordC
import Derived.Lib.ItoaLen
set_option linter.unusedVariables false
namespace Go.Proofs.YtkccaadhjodhlaaDoor
open Go.RowKit

theorem add_lists (x y : List UInt8) (h : x.length + y.length ≤ 1000) (w : World) : (Op.stringOp .add ⟨x.toArray⟩ ⟨y.toArray⟩).run Tryd.prog w = .ok (.string ⟨(x ++ y).toArray⟩) w := by
  rw [run_string_add_sum w _ _ (by simp [ByteArray.size]; omega), ByteArray.mk_append_mk]
theorem cat2 (a b : List UInt8) : (ByteArray.mk a.toArray ++ (ByteArray.mk #[46] ++ ByteArray.mk b.toArray)) = ByteArray.mk (a ++ 46 :: b).toArray := by
  rw [show ByteArray.mk #[46] = ByteArray.mk [46].toArray from rfl, ba_app, ba_app]; rfl
theorem cat4 (a b c d : List UInt8) : ((ByteArray.mk a.toArray ++ (ByteArray.mk #[46] ++ ByteArray.mk b.toArray)) ++ (((ByteArray.mk #[35] ++ ByteArray.mk c.toArray) ++ ByteArray.mk #[58]) ++ ByteArray.mk d.toArray)) = ByteArray.mk (a ++ 46 :: b ++ 35 :: (c ++ 58 :: d)).toArray := by
  rw [cat2, show ByteArray.mk #[35] = ByteArray.mk [35].toArray from rfl, show ByteArray.mk #[58] = ByteArray.mk [58].toArray from rfl, ba_app, ba_app, ba_app, ba_app]
  congr 2
  simp

set_option maxRecDepth 100000 in
set_option maxHeartbeats 6400000 in
theorem text_2 (v n s : Int) (w : World) (hv0 : -9223372036854775808 ≤ v) (hv1 : v ≤ 9223372036854775807) (h0 : 0 ≤ s) (h1 : s < 4294967296) (h4 : 0 ≤ n) (h5 : n < 4294967296) (hp : Pow w) (hk : kindV s = 2) :
    Calls Tryd.prog 17 #[wd v n s] w fun e w' => e = .returned (.string ⟨(txt v n s).toArray⟩) ∧ Below w.heap.size w w' := by
  have HK := Lib.hid fun w => kind_any v n s w h0 h1
  rw [hk] at HK
  have HP := Lib.hid hp
  have CI := Lib.hid (fmtI_any v hv0 hv1)
  have CU := Lib.hid fun w (hp : Pow w) => (show Calls Tryd.prog _ _ w _ from by have := fmtU_any n.toNat (by omega) w hp; rwa [show ((n.toNat : Nat) : Int) = n by omega] at this)
  have CW := Lib.hid fun w => who_any s w h0 h1
  rw [show txt v n s = [] by simp [txt, hk]]
  clear hk h0 h1 hv0 hv1 h5 hp
  clear h4
  unfold wd at *
  go_enter Tryd.func17, Tryd.ntmps17
  go_wp2_with fail
  refine (HK.out _).mono ?_
  rintro e w1 ⟨rfl, hx⟩
  have hb : Below (w.alloc (wdO v n s)).heap.size (w.alloc (wdO v n s)) w1 := by rw [hx]; exact (Below.refl _ _).alloc (Nat.le_refl _) _
  have BX := Lib.hid (WBox.new.below hb)
  have HW := Lib.hid (below_new hb)
  clear hb hx HK
  have f0 := BX.out.c0
  have f1 := BX.out.c1
  have f2 := BX.out.c2
  go_wp2
  go_ret
  exact ⟨rfl, HW.out⟩

set_option maxRecDepth 100000 in
set_option maxHeartbeats 6400000 in
theorem text_0 (v n s : Int) (w : World) (hv0 : -9223372036854775808 ≤ v) (hv1 : v ≤ 9223372036854775807) (h0 : 0 ≤ s) (h1 : s < 4294967296) (h4 : 0 ≤ n) (h5 : n < 4294967296) (hp : Pow w) (hk : kindV s = 0) (hn : n = 0) :
    Calls Tryd.prog 17 #[wd v n s] w fun e w' => e = .returned (.string ⟨(txt v n s).toArray⟩) ∧ Below w.heap.size w w' := by
  have HK := Lib.hid fun w => kind_any v n s w h0 h1
  rw [hk] at HK
  have HP := Lib.hid hp
  have CI := Lib.hid (fmtI_any v hv0 hv1)
  have CU := Lib.hid fun w (hp : Pow w) => (show Calls Tryd.prog _ _ w _ from by have := fmtU_any n.toNat (by omega) w hp; rwa [show ((n.toNat : Nat) : Int) = n by omega] at this)
  have CW := Lib.hid fun w => who_any s w h0 h1
  rw [show txt v n s = Lib.itoa v by simp [txt, hk, hn]]
  clear hk h0 h1 hv0 hv1 h5 hp
  subst hn
  clear h4
  generalize Lib.itoa v = L1 at *
  unfold wd at *
  go_enter Tryd.func17, Tryd.ntmps17
  go_wp2_with fail
  refine (HK.out _).mono ?_
  rintro e w1 ⟨rfl, hx⟩
  have hb : Below (w.alloc (wdO v 0 s)).heap.size (w.alloc (wdO v 0 s)) w1 := by rw [hx]; exact (Below.refl _ _).alloc (Nat.le_refl _) _
  have BX := Lib.hid (WBox.new.below hb)
  have HW := Lib.hid (below_new hb)
  clear hb hx HK
  have f0 := BX.out.c0
  have f1 := BX.out.c1
  have f2 := BX.out.c2
  go_wp2_with fail
  refine (CI.out _ (HP.out.below HW.out)).mono ?_
  rintro e w2 ⟨rfl, hb⟩
  have BX2 := Lib.hid (BX.out.below hb)
  have HW2 := Lib.hid (HW.out.trans (hb.mono HW.out.size))
  clear hb f0 f1 f2 BX HW
  have BX := BX2
  have HW := HW2
  clear BX2 HW2
  have f0 := BX.out.c0
  have f1 := BX.out.c1
  have f2 := BX.out.c2
  go_wp2
  go_ret
  exact ⟨rfl, HW.out⟩

set_option maxRecDepth 100000 in
set_option maxHeartbeats 6400000 in
theorem text_1 (v n s : Int) (w : World) (hv0 : -9223372036854775808 ≤ v) (hv1 : v ≤ 9223372036854775807) (h0 : 0 ≤ s) (h1 : s < 4294967296) (h4 : 0 ≤ n) (h5 : n < 4294967296) (hp : Pow w) (hk : kindV s = 0) (hn : n ≠ 0) :
    Calls Tryd.prog 17 #[wd v n s] w fun e w' => e = .returned (.string ⟨(txt v n s).toArray⟩) ∧ Below w.heap.size w w' := by
  have HK := Lib.hid fun w => kind_any v n s w h0 h1
  rw [hk] at HK
  have HP := Lib.hid hp
  have CI := Lib.hid (fmtI_any v hv0 hv1)
  have CU := Lib.hid fun w (hp : Pow w) => (show Calls Tryd.prog _ _ w _ from by have := fmtU_any n.toNat (by omega) w hp; rwa [show ((n.toNat : Nat) : Int) = n by omega] at this)
  have CW := Lib.hid fun w => who_any s w h0 h1
  have l1 : (Lib.itoa v).length ≤ 21 := Lib.itoa_length_le v hv0 hv1
  have l2 : (Lib.decDigits n.toNat).length ≤ 20 := by rw [Lib.decDigits_length]; exact Lib.nDigits_le20 _ (by omega)
  rw [show txt v n s = Lib.itoa v ++ 46 :: Lib.decDigits n.toNat by simp [txt, hk, hn]]
  clear hk h0 h1 hv0 hv1 hp
  have hnb : (n == 0) = false := beq_eq_false_iff_ne.2 hn
  have hnc : (n != 0) = true := by rw [bne, hnb]; rfl
  have hnw : IntKind.u64.wrap n = n := by simp [IntKind.wrap, IntKind.bits, IntKind.signed]; omega
  clear hn h4 h5
  generalize Lib.itoa v = L1 at *
  generalize Lib.decDigits n.toNat = L2 at *
  have c1 := fun w => add_lists [46] L2 (by simp; omega) w
  have c2 := fun w => add_lists L1 ([46] ++ L2) (by simp; omega) w
  have hF : L1 ++ 46 :: L2 = L1 ++ ([46] ++ L2) := rfl
  rw [hF]
  clear hF l1 l2
  generalize L1 ++ ([46] ++ L2) = M2 at *
  generalize [46] ++ L2 = M1 at *
  unfold wd at *
  go_enter Tryd.func17, Tryd.ntmps17
  go_wp2_with fail
  refine (HK.out _).mono ?_
  rintro e w1 ⟨rfl, hx⟩
  have hb : Below (w.alloc (wdO v n s)).heap.size (w.alloc (wdO v n s)) w1 := by rw [hx]; exact (Below.refl _ _).alloc (Nat.le_refl _) _
  have BX := Lib.hid (WBox.new.below hb)
  have HW := Lib.hid (below_new hb)
  clear hb hx HK
  have f0 := BX.out.c0
  have f1 := BX.out.c1
  have f2 := BX.out.c2
  go_wp2_with fail
  refine (CI.out _ (HP.out.below HW.out)).mono ?_
  rintro e w2 ⟨rfl, hb⟩
  have BX2 := Lib.hid (BX.out.below hb)
  have HW2 := Lib.hid (HW.out.trans (hb.mono HW.out.size))
  clear hb f0 f1 f2 BX HW
  have BX := BX2
  have HW := HW2
  clear BX2 HW2
  have f0 := BX.out.c0
  have f1 := BX.out.c1
  have f2 := BX.out.c2
  go_wp2_with fail
  refine (CU.out _ (HP.out.below HW.out)).mono ?_
  rintro e w3 ⟨rfl, hb⟩
  have BX2 := Lib.hid (BX.out.below hb)
  have HW2 := Lib.hid (HW.out.trans (hb.mono HW.out.size))
  clear hb f0 f1 f2 BX HW
  have BX := BX2
  have HW := HW2
  clear BX2 HW2
  have f0 := BX.out.c0
  have f1 := BX.out.c1
  have f2 := BX.out.c2
  go_wp2
  go_ret
  exact ⟨rfl, HW.out⟩

set_option maxRecDepth 100000 in
set_option maxHeartbeats 6400000 in
theorem text_4 (v n s : Int) (w : World) (hv0 : -9223372036854775808 ≤ v) (hv1 : v ≤ 9223372036854775807) (h0 : 0 ≤ s) (h1 : s < 4294967296) (h4 : 0 ≤ n) (h5 : n < 4294967296) (hp : Pow w) (hk : kindV s = 1) (hn : n ≠ 0) :
    Calls Tryd.prog 17 #[wd v n s] w fun e w' => e = .returned (.string ⟨(txt v n s).toArray⟩) ∧ Below w.heap.size w w' := by
  have HK := Lib.hid fun w => kind_any v n s w h0 h1
  rw [hk] at HK
  have HP := Lib.hid hp
  have CI := Lib.hid (fmtI_any v hv0 hv1)
  have CU := Lib.hid fun w (hp : Pow w) => (show Calls Tryd.prog _ _ w _ from by have := fmtU_any n.toNat (by omega) w hp; rwa [show ((n.toNat : Nat) : Int) = n by omega] at this)
  have CW := Lib.hid fun w => who_any s w h0 h1
  have hb2 : 1 ≤ whoA s ∧ whoA s ≤ 72 ∧ 1 ≤ whoB s ∧ whoB s ≤ 16777215 := by
    by_cases h : wOk (s / 16777216) (s % 16777216)
    · rw [whoA_ok h, whoB_ok h]; exact h
    · exfalso
      unfold kindV at hk
      rw [whoA_no h] at hk
      split at hk <;> simp at hk
  have C3 := Lib.hid fun w (hp : Pow w) => (show Calls Tryd.prog _ _ w _ from by have := itoa_any (whoA s) (by omega) (by omega) w hp; rwa [show Lib.itoa (whoA s) = Lib.decDigits (whoA s).toNat by unfold Lib.itoa; rw [if_neg (by omega)]] at this)
  have C4 := Lib.hid fun w (hp : Pow w) => (show Calls Tryd.prog _ _ w _ from by have := itoa_any (whoB s) (by omega) (by omega) w hp; rwa [show Lib.itoa (whoB s) = Lib.decDigits (whoB s).toNat by unfold Lib.itoa; rw [if_neg (by omega)]] at this)
  have l5 := hb2
  have l1 : (Lib.itoa v).length ≤ 21 := Lib.itoa_length_le v hv0 hv1
  have l2 : (Lib.decDigits n.toNat).length ≤ 20 := by rw [Lib.decDigits_length]; exact Lib.nDigits_le20 _ (by omega)
  have l3 : (Lib.decDigits (whoA s).toNat).length ≤ 20 := by rw [Lib.decDigits_length]; exact Lib.nDigits_le20 _ (by omega)
  have l4 : (Lib.decDigits (whoB s).toNat).length ≤ 20 := by rw [Lib.decDigits_length]; exact Lib.nDigits_le20 _ (by omega)
  rw [show txt v n s = Lib.itoa v ++ 46 :: Lib.decDigits n.toNat ++ 35 :: (Lib.decDigits (whoA s).toNat ++ 58 :: Lib.decDigits (whoB s).toNat) by simp [txt, hk]]
  clear hk h0 h1 hv0 hv1 hp
  have hnb : (n == 0) = false := beq_eq_false_iff_ne.2 hn
  have hnc : (n != 0) = true := by rw [bne, hnb]; rfl
  have hnw : IntKind.u64.wrap n = n := by simp [IntKind.wrap, IntKind.bits, IntKind.signed]; omega
  clear hn h4 h5
  generalize Lib.itoa v = L1 at *
  generalize Lib.decDigits n.toNat = L2 at *
  generalize Lib.decDigits (whoA s).toNat = L3 at *
  generalize Lib.decDigits (whoB s).toNat = L4 at *
  generalize whoA s = A at *
  generalize whoB s = B at *
  have c1 := fun w => add_lists [46] L2 (by simp; omega) w
  have c2 := fun w => add_lists L1 ([46] ++ L2) (by simp; omega) w
  have c3 := fun w => add_lists [35] L3 (by simp; omega) w
  have c4 := fun w => add_lists ([35] ++ L3) [58] (by simp; omega) w
  have c5 := fun w => add_lists ([35] ++ L3 ++ [58]) L4 (by simp; omega) w
  have c6 := fun w => add_lists (L1 ++ ([46] ++ L2)) ([35] ++ L3 ++ [58] ++ L4) (by simp; omega) w
  have hF : L1 ++ 46 :: L2 ++ 35 :: (L3 ++ 58 :: L4) = L1 ++ ([46] ++ L2) ++ ([35] ++ L3 ++ [58] ++ L4) := by simp
  rw [hF]
  clear hF l1 l2 l3 l4 l5
  generalize L1 ++ ([46] ++ L2) ++ ([35] ++ L3 ++ [58] ++ L4) = M6 at *
  generalize L1 ++ ([46] ++ L2) = M2 at *
  generalize [35] ++ L3 ++ [58] ++ L4 = M5 at *
  generalize [35] ++ L3 ++ [58] = M4 at *
  generalize [35] ++ L3 = M3 at *
  generalize [46] ++ L2 = M1 at *
  unfold wd at *
  go_enter Tryd.func17, Tryd.ntmps17
  go_wp2_with fail
  refine (HK.out _).mono ?_
  rintro e w1 ⟨rfl, hx⟩
  have hb : Below (w.alloc (wdO v n s)).heap.size (w.alloc (wdO v n s)) w1 := by rw [hx]; exact (Below.refl _ _).alloc (Nat.le_refl _) _
  have BX := Lib.hid (WBox.new.below hb)
  have HW := Lib.hid (below_new hb)
  clear hb hx HK
  have f0 := BX.out.c0
  have f1 := BX.out.c1
  have f2 := BX.out.c2
  go_wp2_with fail
  refine (CI.out _ (HP.out.below HW.out)).mono ?_
  rintro e w2 ⟨rfl, hb⟩
  have BX2 := Lib.hid (BX.out.below hb)
  have HW2 := Lib.hid (HW.out.trans (hb.mono HW.out.size))
  clear hb f0 f1 f2 BX HW
  have BX := BX2
  have HW := HW2
  clear BX2 HW2
  have f0 := BX.out.c0
  have f1 := BX.out.c1
  have f2 := BX.out.c2
  go_wp2_with fail
  refine (CU.out _ (HP.out.below HW.out)).mono ?_
  rintro e w3 ⟨rfl, hb⟩
  have BX2 := Lib.hid (BX.out.below hb)
  have HW2 := Lib.hid (HW.out.trans (hb.mono HW.out.size))
  clear hb f0 f1 f2 BX HW
  have BX := BX2
  have HW := HW2
  clear BX2 HW2
  have f0 := BX.out.c0
  have f1 := BX.out.c1
  have f2 := BX.out.c2
  go_wp2_with fail
  refine (CW.out _).mono ?_
  rintro e w9 ⟨rfl, hx⟩
  subst w9
  go_wp2_with fail
  refine (C3.out _ (HP.out.below HW.out)).mono ?_
  rintro e w4 ⟨rfl, hb⟩
  have BX2 := Lib.hid (BX.out.below hb)
  have HW2 := Lib.hid (HW.out.trans (hb.mono HW.out.size))
  clear hb f0 f1 f2 BX HW
  have BX := BX2
  have HW := HW2
  clear BX2 HW2
  have f0 := BX.out.c0
  have f1 := BX.out.c1
  have f2 := BX.out.c2
  go_wp2_with fail
  refine (C4.out _ (HP.out.below HW.out)).mono ?_
  rintro e w5 ⟨rfl, hb⟩
  have BX2 := Lib.hid (BX.out.below hb)
  have HW2 := Lib.hid (HW.out.trans (hb.mono HW.out.size))
  clear hb f0 f1 f2 BX HW
  have BX := BX2
  have HW := HW2
  clear BX2 HW2
  have f0 := BX.out.c0
  have f1 := BX.out.c1
  have f2 := BX.out.c2
  go_wp2
  go_ret
  exact ⟨rfl, HW.out⟩

set_option maxRecDepth 100000 in
set_option maxHeartbeats 6400000 in
theorem text_3 (v n s : Int) (w : World) (hv0 : -9223372036854775808 ≤ v) (hv1 : v ≤ 9223372036854775807) (h0 : 0 ≤ s) (h1 : s < 4294967296) (h4 : 0 ≤ n) (h5 : n < 4294967296) (hp : Pow w) (hk : kindV s = 1) (hn : n = 0) :
    Calls Tryd.prog 17 #[wd v n s] w fun e w' => e = .returned (.string ⟨(txt v n s).toArray⟩) ∧ Below w.heap.size w w' := by
  have HK := Lib.hid fun w => kind_any v n s w h0 h1
  rw [hk] at HK
  have HP := Lib.hid hp
  have CI := Lib.hid (fmtI_any v hv0 hv1)
  have CU := Lib.hid fun w (hp : Pow w) => (show Calls Tryd.prog _ _ w _ from by have := fmtU_any n.toNat (by omega) w hp; rwa [show ((n.toNat : Nat) : Int) = n by omega] at this)
  have CW := Lib.hid fun w => who_any s w h0 h1
  have hb2 : 1 ≤ whoA s ∧ whoA s ≤ 72 ∧ 1 ≤ whoB s ∧ whoB s ≤ 16777215 := by
    by_cases h : wOk (s / 16777216) (s % 16777216)
    · rw [whoA_ok h, whoB_ok h]; exact h
    · exfalso
      unfold kindV at hk
      rw [whoA_no h] at hk
      split at hk <;> simp at hk
  have C3 := Lib.hid fun w (hp : Pow w) => (show Calls Tryd.prog _ _ w _ from by have := itoa_any (whoA s) (by omega) (by omega) w hp; rwa [show Lib.itoa (whoA s) = Lib.decDigits (whoA s).toNat by unfold Lib.itoa; rw [if_neg (by omega)]] at this)
  have C4 := Lib.hid fun w (hp : Pow w) => (show Calls Tryd.prog _ _ w _ from by have := itoa_any (whoB s) (by omega) (by omega) w hp; rwa [show Lib.itoa (whoB s) = Lib.decDigits (whoB s).toNat by unfold Lib.itoa; rw [if_neg (by omega)]] at this)
  have l5 := hb2
  have l1 : (Lib.itoa v).length ≤ 21 := Lib.itoa_length_le v hv0 hv1
  have l2 : (Lib.decDigits n.toNat).length ≤ 20 := by rw [Lib.decDigits_length]; exact Lib.nDigits_le20 _ (by omega)
  have l3 : (Lib.decDigits (whoA s).toNat).length ≤ 20 := by rw [Lib.decDigits_length]; exact Lib.nDigits_le20 _ (by omega)
  have l4 : (Lib.decDigits (whoB s).toNat).length ≤ 20 := by rw [Lib.decDigits_length]; exact Lib.nDigits_le20 _ (by omega)
  rw [show txt v n s = Lib.itoa v ++ 46 :: Lib.decDigits n.toNat ++ 35 :: (Lib.decDigits (whoA s).toNat ++ 58 :: Lib.decDigits (whoB s).toNat) by simp [txt, hk]]
  clear hk h0 h1 hv0 hv1 h5 hp
  subst hn
  clear h4
  generalize Lib.itoa v = L1 at *
  generalize Lib.decDigits (0 : Int).toNat = L2 at *
  generalize Lib.decDigits (whoA s).toNat = L3 at *
  generalize Lib.decDigits (whoB s).toNat = L4 at *
  generalize whoA s = A at *
  generalize whoB s = B at *
  have c1 := fun w => add_lists [46] L2 (by simp; omega) w
  have c2 := fun w => add_lists L1 ([46] ++ L2) (by simp; omega) w
  have c3 := fun w => add_lists [35] L3 (by simp; omega) w
  have c4 := fun w => add_lists ([35] ++ L3) [58] (by simp; omega) w
  have c5 := fun w => add_lists ([35] ++ L3 ++ [58]) L4 (by simp; omega) w
  have c6 := fun w => add_lists (L1 ++ ([46] ++ L2)) ([35] ++ L3 ++ [58] ++ L4) (by simp; omega) w
  have hF : L1 ++ 46 :: L2 ++ 35 :: (L3 ++ 58 :: L4) = L1 ++ ([46] ++ L2) ++ ([35] ++ L3 ++ [58] ++ L4) := by simp
  rw [hF]
  clear hF l1 l2 l3 l4 l5
  generalize L1 ++ ([46] ++ L2) ++ ([35] ++ L3 ++ [58] ++ L4) = M6 at *
  generalize L1 ++ ([46] ++ L2) = M2 at *
  generalize [35] ++ L3 ++ [58] ++ L4 = M5 at *
  generalize [35] ++ L3 ++ [58] = M4 at *
  generalize [35] ++ L3 = M3 at *
  generalize [46] ++ L2 = M1 at *
  unfold wd at *
  go_enter Tryd.func17, Tryd.ntmps17
  go_wp2_with fail
  refine (HK.out _).mono ?_
  rintro e w1 ⟨rfl, hx⟩
  have hb : Below (w.alloc (wdO v 0 s)).heap.size (w.alloc (wdO v 0 s)) w1 := by rw [hx]; exact (Below.refl _ _).alloc (Nat.le_refl _) _
  have BX := Lib.hid (WBox.new.below hb)
  have HW := Lib.hid (below_new hb)
  clear hb hx HK
  have f0 := BX.out.c0
  have f1 := BX.out.c1
  have f2 := BX.out.c2
  go_wp2_with fail
  refine (CI.out _ (HP.out.below HW.out)).mono ?_
  rintro e w2 ⟨rfl, hb⟩
  have BX2 := Lib.hid (BX.out.below hb)
  have HW2 := Lib.hid (HW.out.trans (hb.mono HW.out.size))
  clear hb f0 f1 f2 BX HW
  have BX := BX2
  have HW := HW2
  clear BX2 HW2
  have f0 := BX.out.c0
  have f1 := BX.out.c1
  have f2 := BX.out.c2
  go_wp2_with fail
  refine (CU.out _ (HP.out.below HW.out)).mono ?_
  rintro e w3 ⟨rfl, hb⟩
  have BX2 := Lib.hid (BX.out.below hb)
  have HW2 := Lib.hid (HW.out.trans (hb.mono HW.out.size))
  clear hb f0 f1 f2 BX HW
  have BX := BX2
  have HW := HW2
  clear BX2 HW2
  have f0 := BX.out.c0
  have f1 := BX.out.c1
  have f2 := BX.out.c2
  go_wp2_with fail
  refine (CW.out _).mono ?_
  rintro e w9 ⟨rfl, hx⟩
  subst w9
  go_wp2_with fail
  refine (C3.out _ (HP.out.below HW.out)).mono ?_
  rintro e w4 ⟨rfl, hb⟩
  have BX2 := Lib.hid (BX.out.below hb)
  have HW2 := Lib.hid (HW.out.trans (hb.mono HW.out.size))
  clear hb f0 f1 f2 BX HW
  have BX := BX2
  have HW := HW2
  clear BX2 HW2
  have f0 := BX.out.c0
  have f1 := BX.out.c1
  have f2 := BX.out.c2
  go_wp2_with fail
  refine (C4.out _ (HP.out.below HW.out)).mono ?_
  rintro e w5 ⟨rfl, hb⟩
  have BX2 := Lib.hid (BX.out.below hb)
  have HW2 := Lib.hid (HW.out.trans (hb.mono HW.out.size))
  clear hb f0 f1 f2 BX HW
  have BX := BX2
  have HW := HW2
  clear BX2 HW2
  have f0 := BX.out.c0
  have f1 := BX.out.c1
  have f2 := BX.out.c2
  go_wp2
  go_ret
  exact ⟨rfl, HW.out⟩

theorem text_any (v n s : Int) (w : World) (hv0 : -9223372036854775808 ≤ v) (hv1 : v ≤ 9223372036854775807) (h0 : 0 ≤ s) (h1 : s < 4294967296) (h4 : 0 ≤ n) (h5 : n < 4294967296) (hp : Pow w) :
    Calls Tryd.prog 17 #[wd v n s] w fun e w' => e = .returned (.string ⟨(txt v n s).toArray⟩) ∧ Below w.heap.size w w' := by
  have h : kindV s = 0 ∨ kindV s = 1 ∨ kindV s = 2 := by
    unfold kindV
    split
    · exact .inl rfl
    · split
      · exact .inr (.inl rfl)
      · exact .inr (.inr rfl)
  rcases h with hk | hk | hk
  · by_cases hn : n = 0
    · exact text_0 v n s w hv0 hv1 h0 h1 h4 h5 hp hk hn
    · exact text_1 v n s w hv0 hv1 h0 h1 h4 h5 hp hk hn
  · by_cases hn : n = 0
    · exact text_3 v n s w hv0 hv1 h0 h1 h4 h5 hp hk hn
    · exact text_4 v n s w hv0 hv1 h0 h1 h4 h5 hp hk hn
  · exact text_2 v n s w hv0 hv1 h0 h1 h4 h5 hp hk
end Go.Proofs.YtkccaadhjodhlaaDoor
