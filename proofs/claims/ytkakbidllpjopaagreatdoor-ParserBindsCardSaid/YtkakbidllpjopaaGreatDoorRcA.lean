/- The walk of ParserBinds. Conditions: the laid tables and error variables (WW). -/
import Derived.Test.YtkakbidllpjopaaGreatDoorW14
import Derived.Test.YtkakbidllpjopaaGreatDoorW02
import Derived.Deep.QuietTactic
import Derived.BigQuiet
set_option linter.unusedVariables false
set_option linter.unusedSimpArgs false
namespace Go.Proofs.YtkakbidllpjopaaGreatDoor
open Go.RowKit

/-- The operators' strength, in the order of Binaries. -/
def tightL : List Nat := [3, 3, 4, 4, 4, 2, 2, 2, 2, 2, 2, 1, 0]
def sgA (i : Nat) : Str := sgns.getD i []
def bSrc (i k : Nat) : Str := [49, 32] ++ sgA i ++ [32, 50, 32] ++ sgA k ++ [32, 51]
def bYes (i k : Nat) : Str := [40, 49, 32] ++ sgA i ++ [32, 50, 41, 32] ++ sgA k ++ [32, 51]
def bNo (i k : Nat) : Str := [49, 32] ++ sgA i ++ [32, 40, 50, 32] ++ sgA k ++ [32, 51, 41]
def bOk (i k : Nat) : Bool := ((prE (bSrc i k)).2.2 == 0) && (printE (aloneP (prE (bSrc i k)).1) == 0) && (printS (aloneP (prE (bSrc i k)).1) == [111, 112, 32, 120, 40, 41, 32, 123, 10, 32, 32, 114, 101, 116, 117, 114, 110, 32] ++ (if tightL.getD i 0 < tightL.getD k 0 then bNo i k else bYes i k) ++ [59, 10, 125, 10]) && decide ((prE (bSrc i k)).1.size ≤ 9000)
theorem bOk_all : ∀ i < 13, ∀ k < 13, bOk i k = true := by decide +kernel
theorem below_drewN (w : World) (n : Nat) : Below w.heap.size w (w.drewN n) := ⟨rfl, rfl, rfl, Nat.le_refl _, fun _ _ => rfl⟩
theorem sgA_len : ∀ i < 13, (sgA i).length ≤ 3 := by decide +kernel
set_option maxRecDepth 100000 in
set_option maxHeartbeats 12800000 in
theorem binds_any (a b : Int) (ha : 0 ≤ a ∧ a ≤ 255) (hb : 0 ≤ b ∧ b ≤ 255) (w : World) (hw : WW w) : Calls Tryz.prog 3 #[.int .u8 a, .int .u8 b] w fun e w' => e = .returned (.bool true) ∧ Below w.heap.size w w' := by
  obtain ⟨i, hi, hi13⟩ : ∃ i : Nat, a.tmod 13 = (i : Int) ∧ i < 13 := ⟨(a % 13).toNat, by rw [Int.tmod_eq_emod_of_nonneg ha.1]; omega, by omega⟩
  obtain ⟨k, hk, hk13⟩ : ∃ k : Nat, b.tmod 13 = (k : Int) ∧ k < 13 := ⟨(b % 13).toNat, by rw [Int.tmod_eq_emod_of_nonneg hb.1]; omega, by omega⟩
  have hwa : IntKind.i64.wrap a = a := by simp [IntKind.wrap, IntKind.bits, IntKind.signed]; omega
  have hwb : IntKind.i64.wrap b = b := by simp [IntKind.wrap, IntKind.bits, IntKind.signed]; omega
  have hok := bOk_all i hi13 k hk13
  have hxl := sgA_len i hi13
  have hyl := sgA_len k hk13
  unfold bOk at hok
  simp only [Bool.and_eq_true, beq_iff_eq, decide_eq_true_eq] at hok
  obtain ⟨⟨⟨k1, k2⟩, k3⟩, k4⟩ := hok
  have HW := Lib.hid hw
  have B := Lib.hid (Below.refl w.heap.size w)
  have K0 := Lib.hid (binaries_any w)
  obtain ⟨src, hsrc⟩ : ∃ z, z = bSrc i k := ⟨_, rfl⟩
  rw [← hsrc] at k1 k2 k3 k4
  have KE := Lib.hid (show src.length ≤ 100 → ∀ W, Below w.heap.size w W → Calls Tryz.prog 10 #[.string (bs src)] W fun e w' => ∃ cs : List Value, e = .returned (.tuple #[.agg cs.toArray, .int .i64 (prE src).2.1, .int .i64 0]) ∧ XV w' (fun b => W.heap.size ≤ b) (prE src).1 cs ∧ Below W.heap.size W w' from fun hl W hb => by
    have h := pexpr_any src W (HW.out.below hb) (by omega)
    rw [k1] at h
    exact h)
  have KP := Lib.hid (show ∀ (W : World) (v : Value), Below w.heap.size w W → PV W (fun _ => True) (aloneP (prE src).1) v → Calls Tryz.prog 11 #[v] W fun e w' => e = .returned (.tuple #[.string (bs (printS (aloneP (prE src).1))), .int .i64 0]) ∧ Below W.heap.size W w' from fun W v hb hv => by
    have h := print_any _ v _ W (HW.out.below hb).sx hv (alone_few2 k4)
    rw [k2] at h
    exact h)
  have HPT := Lib.hid k3
  have HSRC := Lib.hid hsrc
  generalize printS (aloneP (prE src).1) = ptxt at *
  generalize (prE src).1 = ex at *
  generalize (prE src).2.1 = zat at *
  have HT := Lib.hid (show tightL[i]? = some (tightL.getD i 0) ∧ tightL[k]? = some (tightL.getD k 0) from by
    rw [List.getD_eq_getElem?_getD, List.getD_eq_getElem?_getD, List.getElem?_eq_getElem (show i < tightL.length from hi13), List.getElem?_eq_getElem (show k < tightL.length from hk13)]
    exact ⟨rfl, rfl⟩)
  have HSX := Lib.hid (show sgns[i]? = some (sgA i) ∧ sgns[k]? = some (sgA k) from by
    unfold sgA
    rw [List.getD_eq_getElem?_getD, List.getD_eq_getElem?_getD, List.getElem?_eq_getElem (show i < sgns.length from hi13), List.getElem?_eq_getElem (show k < sgns.length from hk13)]
    exact ⟨rfl, rfl⟩)
  have HBS := Lib.hid (show src = [49, 32] ++ sgA i ++ [32, 50, 32] ++ sgA k ++ [32, 51] ∧ bYes i k = [40, 49, 32] ++ sgA i ++ [32, 50, 41, 32] ++ sgA k ++ [32, 51] ∧ bNo i k = [49, 32] ++ sgA i ++ [32, 40, 50, 32] ++ sgA k ++ [32, 51, 41] from ⟨hsrc, rfl, rfl⟩)
  generalize bYes i k = yes at *
  generalize bNo i k = no at *
  generalize sgA i = x at *
  generalize sgA k = y at *
  generalize tightL.getD i 0 = ti at *
  generalize tightL.getD k 0 = tk at *
  have hii : (i : Int) < 13 := by omega
  have hki : (k : Int) < 13 := by omega
  have HI := Lib.hid (And.intro hi13 hk13)
  clear hw k1 k2 k3 k4 hsrc ha hb hi13 hk13 HSRC
  go_enter Tryz.func3, Tryz.ntmps3
  go_wp2_with fail
  refine K0.out.mono ?_
  rintro e w1 ⟨v, rfl, ho, hb⟩
  obtain ⟨A, c, rfl, -, -, hR⟩ := own_reads (S := fun _ => True) ho (fun _ _ => trivial)
  obtain ⟨sb, so, rfl, hsb, -, hcell⟩ := hR.2 (by omega)
  have hq : ∀ (j : Nat) (s : Str), sgns[j]? = some s → ∀ W, Below w1.heap.size w1 W → W.cell? ⟨sb, so + j, none⟩ = some (.string (bs s)) := fun j s hj W hW => by
    rw [hW.cell (p := ⟨sb, so + j, none⟩) hsb]
    exact hcell j _ (by rw [List.getElem?_map, List.getElem?_map, hj]; rfl)
  have HX := Lib.hid (hq i x HSX.out.1)
  have HY := Lib.hid (hq k y HSX.out.2)
  obtain ⟨wT, hwT⟩ : ∃ W, W = w1.alloc (.cells #[.int .i64 3, .int .i64 3, .int .i64 4, .int .i64 4, .int .i64 4, .int .i64 2, .int .i64 2, .int .i64 2, .int .i64 2, .int .i64 2, .int .i64 2, .int .i64 1, .int .i64 0] 3) := ⟨_, rfl⟩
  have hbT : Below w1.heap.size w1 wT := by rw [hwT]; exact (Below.refl _ _).alloc (Nat.le_refl _) _
  have hrT : wT.heap[w1.heap.size]? = some (.cells #[.int .i64 3, .int .i64 3, .int .i64 4, .int .i64 4, .int .i64 4, .int .i64 2, .int .i64 2, .int .i64 2, .int .i64 2, .int .i64 2, .int .i64 2, .int .i64 1, .int .i64 0] 3 (0, 0)) := by rw [hwT]; exact heap_alloc_new w1 _
  have hqt : ∀ (j t : Nat), tightL[j]? = some t → ∀ W, Below wT.heap.size wT W → W.cell? ⟨w1.heap.size, j, none⟩ = some (.int .i64 t) := fun j t hj W hW => by
    rw [hW.cell (p := ⟨w1.heap.size, j, none⟩) (lt_of_block hrT), cell_of_row _ _ _ _ _ _ hrT]
    rw [show (#[.int .i64 3, .int .i64 3, .int .i64 4, .int .i64 4, .int .i64 4, .int .i64 2, .int .i64 2, .int .i64 2, .int .i64 2, .int .i64 2, .int .i64 2, .int .i64 1, .int .i64 0] : Array Value) = (tightL.map fun t : Nat => Value.int .i64 (t : Int)).toArray from rfl, List.getElem?_toArray, List.getElem?_map, hj]
    rfl
  have HTI := Lib.hid (hqt i ti HT.out.1)
  have HTK := Lib.hid (hqt k tk HT.out.2)
  obtain h1 := B.out
  clear B
  have B := Lib.hid (h1.trans ((hb.trans (hbT.mono hb.size)).mono h1.size))
  have BT := Lib.hid hbT
  have HTBs := Lib.hid hbT.size
  clear h1 hb hbT hrT hqt hq hcell hR ho hsb K0 HT HSX
  go_upto_region 6 with fail
  rw [← hwT]
  clear hwT
  generalize w1.heap.size = tb at *
  obtain ⟨c1, hc1⟩ : ∃ c, c = ([49, 32] : Str) ++ x := ⟨_, rfl⟩
  have lc1 : c1.length = 2 + x.length := by rw [hc1]; exact List.length_append
  have jc1 : ∀ w, (Op.stringOp .add (⟨#[49, 32]⟩ : ByteArray) (bs x)).run Tryz.prog w = .ok (.string (bs c1)) w := fun w => by rw [hc1]; exact add_big ([49, 32] : Str) x (by first | omega | (simp; omega)) w
  obtain ⟨c2, hc2⟩ : ∃ c, c = c1 ++ ([32, 50, 32] : Str) := ⟨_, rfl⟩
  have lc2 : c2.length = c1.length + 3 := by rw [hc2]; exact List.length_append
  have jc2 : ∀ w, (Op.stringOp .add (bs c1) (⟨#[32, 50, 32]⟩ : ByteArray)).run Tryz.prog w = .ok (.string (bs c2)) w := fun w => by rw [hc2]; exact add_big c1 ([32, 50, 32] : Str) (by first | omega | (simp; omega)) w
  obtain ⟨c3, hc3⟩ : ∃ c, c = c2 ++ y := ⟨_, rfl⟩
  have lc3 : c3.length = c2.length + y.length := by rw [hc3]; exact List.length_append
  have jc3 : ∀ w, (Op.stringOp .add (bs c2) (bs y)).run Tryz.prog w = .ok (.string (bs c3)) w := fun w => by rw [hc3]; exact add_big c2 y (by first | omega | (simp; omega)) w
  obtain ⟨c4, hc4⟩ : ∃ c, c = c3 ++ ([32, 51] : Str) := ⟨_, rfl⟩
  have lc4 : c4.length = c3.length + 2 := by rw [hc4]; exact List.length_append
  have jc4 : ∀ w, (Op.stringOp .add (bs c3) (⟨#[32, 51]⟩ : ByteArray)).run Tryz.prog w = .ok (.string (bs c4)) w := fun w => by rw [hc4]; exact add_big c3 ([32, 51] : Str) (by first | omega | (simp; omega)) w
  have hsrc : c4 = src := by rw [HBS.out.1, hc4, hc3, hc2, hc1]
  have hsl : src.length ≤ 100 := by rw [← hsrc]; omega
  rw [hsrc] at jc4
  have KX := Lib.hid (KE.out hsl)
  clear hc1 hc2 hc3 hc4 hsrc hsl
  have HSZ := Lib.hid (show x.length ≤ 3 ∧ y.length ≤ 3 from ⟨hxl, hyl⟩)
  have g1 : wT.cell? ⟨sb, so + i, none⟩ = some (.string (bs x)) := HX.out wT BT.out
  have g2 : wT.cell? ⟨sb, so + k, none⟩ = some (.string (bs y)) := HY.out wT BT.out
  go_cut [9, 10, 11] from 26 (fun v9 v10 v11 wz => ∃ (k1 n1 : Int) (s1 m1 : Str) (A1 : Option Addr) (na1 ca1 : Nat) (O1 : Option Addr) (no1 co1 eb : Nat), v9 = .pointer (some ⟨eb, 0, none⟩) ∧ v11 = .int .i64 0 ∧ XB wz eb #[.int .i64 k1, .int .i64 n1, .string (bs s1), .string (bs m1), .slice A1 na1 ca1, .slice O1 no1 co1] ∧ XV wz (fun _ => True) ex (exC k1 n1 s1 m1 A1 na1 ca1 O1 no1 co1) ∧ Below w.heap.size w wz ∧ Below wT.heap.size wT wz)
  case first =>
    rename_i J0 K0 hR0 hK0
    refine wp_region_held_drew (S := fun W => W.cell? ⟨sb, so + i, none⟩ = some (.string (bs x)) ∧ W.cell? ⟨sb, so + k, none⟩ = some (.string (bs y))) (by kernel_rfl) ⟨g1, g2⟩ (fun hHeld => ?_)
    have hdr : Below wT.heap.size wT wT.drew := (Below.refl _ _).drew
    have B2 := Lib.hid (B.out.trans (hdr.mono B.out.size))
    have D2 := Lib.hid (BT.out.trans (hdr.mono HTBs.out))
    have T2 := Lib.hid hdr
    clear g1 g2 hdr
    generalize wT.drew = wq at *
    refine wpAnyH_take (i := 0) (oi := ⟨some 27, _, _, _, _, _⟩) (v := .slice (some ⟨sb, so, none⟩) 13 c) rfl (by kernel_rfl) (by kernel_rfl) (by kernel_rfl) (fun _ _ _ h => h) (Or.inl ⟨by rfl, ?_⟩) hHeld ?_
    · intro W' hW
      obtain ⟨g1, g2⟩ := hW
      go_simp
    try simp only [Act.put, List.setIfInBounds_toArray, List.set_cons_zero, List.set_cons_succ]
    refine wpAnyH_take (i := 1) (oi := ⟨some 28, _, _, _, _, _⟩) (v := .int .i64 (i : Int)) rfl (by kernel_rfl) (by kernel_rfl) (by kernel_rfl) (fun _ _ _ h => h) (Or.inl ⟨by rfl, ?_⟩) hHeld ?_
    · intro W' hW
      obtain ⟨g1, g2⟩ := hW
      go_simp
    try simp only [Act.put, List.setIfInBounds_toArray, List.set_cons_zero, List.set_cons_succ]
    refine wpAnyH_take (i := 2) (oi := ⟨some 29, _, _, _, _, _⟩) (v := .pointer (some ⟨sb, so + i, none⟩)) rfl (by kernel_rfl) (by kernel_rfl) (by kernel_rfl) (fun _ _ _ h => h) (Or.inl ⟨by rfl, ?_⟩) hHeld ?_
    · intro W' hW
      obtain ⟨g1, g2⟩ := hW
      go_simp
    try simp only [Act.put, List.setIfInBounds_toArray, List.set_cons_zero, List.set_cons_succ]
    refine wpAnyH_take (i := 3) (oi := ⟨some 30, _, _, _, _, _⟩) (v := .string (bs x)) rfl (by kernel_rfl) (by kernel_rfl) (by kernel_rfl) (fun _ _ _ h => h) (Or.inl ⟨by rfl, ?_⟩) hHeld ?_
    · intro W' hW
      obtain ⟨g1, g2⟩ := hW
      go_simp
    try simp only [Act.put, List.setIfInBounds_toArray, List.set_cons_zero, List.set_cons_succ]
    refine wpAnyH_take (i := 4) (oi := ⟨some 31, _, _, _, _, _⟩) (v := .string (bs c1)) rfl (by kernel_rfl) (by kernel_rfl) (by kernel_rfl) (fun _ _ _ h => h) (Or.inl ⟨by rfl, ?_⟩) hHeld ?_
    · intro W' hW
      obtain ⟨g1, g2⟩ := hW
      go_simp
    try simp only [Act.put, List.setIfInBounds_toArray, List.set_cons_zero, List.set_cons_succ]
    refine wpAnyH_take (i := 5) (oi := ⟨some 32, _, _, _, _, _⟩) (v := .string (bs c2)) rfl (by kernel_rfl) (by kernel_rfl) (by kernel_rfl) (fun _ _ _ h => h) (Or.inl ⟨by rfl, ?_⟩) hHeld ?_
    · intro W' hW
      obtain ⟨g1, g2⟩ := hW
      go_simp
    try simp only [Act.put, List.setIfInBounds_toArray, List.set_cons_zero, List.set_cons_succ]
    refine wpAnyH_take (i := 6) (oi := ⟨some 33, _, _, _, _, _⟩) (v := .slice (some ⟨sb, so, none⟩) 13 c) rfl (by kernel_rfl) (by kernel_rfl) (by kernel_rfl) (fun _ _ _ h => h) (Or.inl ⟨by rfl, ?_⟩) hHeld ?_
    · intro W' hW
      obtain ⟨g1, g2⟩ := hW
      go_simp
    try simp only [Act.put, List.setIfInBounds_toArray, List.set_cons_zero, List.set_cons_succ]
    refine wpAnyH_take (i := 7) (oi := ⟨some 34, _, _, _, _, _⟩) (v := .int .i64 (k : Int)) rfl (by kernel_rfl) (by kernel_rfl) (by kernel_rfl) (fun _ _ _ h => h) (Or.inl ⟨by rfl, ?_⟩) hHeld ?_
    · intro W' hW
      obtain ⟨g1, g2⟩ := hW
      go_simp
    try simp only [Act.put, List.setIfInBounds_toArray, List.set_cons_zero, List.set_cons_succ]
    refine wpAnyH_take (i := 8) (oi := ⟨some 35, _, _, _, _, _⟩) (v := .pointer (some ⟨sb, so + k, none⟩)) rfl (by kernel_rfl) (by kernel_rfl) (by kernel_rfl) (fun _ _ _ h => h) (Or.inl ⟨by rfl, ?_⟩) hHeld ?_
    · intro W' hW
      obtain ⟨g1, g2⟩ := hW
      go_simp
    try simp only [Act.put, List.setIfInBounds_toArray, List.set_cons_zero, List.set_cons_succ]
    refine wpAnyH_take (i := 9) (oi := ⟨some 36, _, _, _, _, _⟩) (v := .string (bs y)) rfl (by kernel_rfl) (by kernel_rfl) (by kernel_rfl) (fun _ _ _ h => h) (Or.inl ⟨by rfl, ?_⟩) hHeld ?_
    · intro W' hW
      obtain ⟨g1, g2⟩ := hW
      go_simp
    try simp only [Act.put, List.setIfInBounds_toArray, List.set_cons_zero, List.set_cons_succ]
    refine wpAnyH_take (i := 10) (oi := ⟨some 37, _, _, _, _, _⟩) (v := .string (bs c3)) rfl (by kernel_rfl) (by kernel_rfl) (by kernel_rfl) (fun _ _ _ h => h) (Or.inl ⟨by rfl, ?_⟩) hHeld ?_
    · intro W' hW
      obtain ⟨g1, g2⟩ := hW
      go_simp
    try simp only [Act.put, List.setIfInBounds_toArray, List.set_cons_zero, List.set_cons_succ]
    refine wpAnyH_take (i := 11) (oi := ⟨some 38, _, _, _, _, _⟩) (v := .string (bs src)) rfl (by kernel_rfl) (by kernel_rfl) (by kernel_rfl) (fun _ _ _ h => h) (Or.inl ⟨by rfl, ?_⟩) hHeld ?_
    · intro W' hW
      obtain ⟨g1, g2⟩ := hW
      go_simp
    try simp only [Act.put, List.setIfInBounds_toArray, List.set_cons_zero, List.set_cons_succ]
    refine wpAnyH_ready (rs := [12, 17]) (by kernel_rfl) (by simp) ?_
    refine AllReadyH.cons (o := ⟨some 39, _, _, _, _, _⟩) rfl (fun K hK => ?_) (AllReadyH.cons (o := ⟨some 9, _, _, _, _, _⟩) rfl (fun K hK => ?_) AllReadyH.nil)
    · go_simp
      refine (KX.out wq B2.out).mono ?_
      rintro e wk ⟨cs, rfl, hv, hb⟩
      obtain ⟨xx, hxx⟩ : ∃ z, z = ex := ⟨_, rfl⟩
      rw [← hxx] at hv
      have HXX := Lib.hid hxx
      obtain ⟨k1, n1, s1, m1, a1, o1⟩ := xx
      obtain ⟨A1, na1, ca1, O1, no1, co1, rfl, -, -⟩ := hv.open_
      rw [show (exC k1 n1 s1 m1 A1 na1 ca1 O1 no1 co1).toArray = #[.int .i64 k1, .int .i64 n1, .string (bs s1), .string (bs m1), .slice A1 na1 ca1, .slice O1 no1 co1] from rfl]
      have HV := Lib.hid (show XV wk (fun _ => True) ex (exC k1 n1 s1 m1 A1 na1 ca1 O1 no1 co1) from by rw [← HXX.out]; exact hv.more (fun _ _ _ => trivial))
      have B3 := Lib.hid (B2.out.trans (hb.mono B2.out.size))
      have T3 := Lib.hid (T2.out.trans (hb.mono T2.out.size))
      clear hv hb hxx
      refine hK.out _ _ ⟨HX.out _ (BT.out.trans (T3.out.mono HTBs.out)), HY.out _ (BT.out.trans (T3.out.mono HTBs.out))⟩ (fun hHeld => ?_)
      clear hK
      try simp only [Act.put, List.setIfInBounds_toArray, List.set_cons_zero, List.set_cons_succ]
      refine wpAnyH_take (i := 13) (oi := ⟨some 26, _, _, _, _, _⟩) (v := .tuple #[.agg #[.int .i64 k1, .int .i64 n1, .string (bs s1), .string (bs m1), .slice A1 na1 ca1, .slice O1 no1 co1], .int .i64 zat, .int .i64 0]) rfl (by kernel_rfl) (by kernel_rfl) (by kernel_rfl) (fun _ _ _ h => h) (Or.inl ⟨by rfl, ?_⟩) hHeld ?_
      · intro W' hW
        obtain ⟨g1, g2⟩ := hW
        go_simp
      try simp only [Act.put, List.setIfInBounds_toArray, List.set_cons_zero, List.set_cons_succ]
      refine wpAnyH_take (i := 14) (oi := ⟨some 40, _, _, _, _, _⟩) (v := .agg #[.int .i64 k1, .int .i64 n1, .string (bs s1), .string (bs m1), .slice A1 na1 ca1, .slice O1 no1 co1]) rfl (by kernel_rfl) (by kernel_rfl) (by kernel_rfl) (fun _ _ _ h => h) (Or.inl ⟨by rfl, ?_⟩) hHeld ?_
      · intro W' hW
        obtain ⟨g1, g2⟩ := hW
        go_simp
      try simp only [Act.put, List.setIfInBounds_toArray, List.set_cons_zero, List.set_cons_succ]
      refine wpAnyH_take (i := 15) (oi := ⟨some 41, _, _, _, _, _⟩) (v := .int .i64 zat) rfl (by kernel_rfl) (by kernel_rfl) (by kernel_rfl) (fun _ _ _ h => h) (Or.inl ⟨by rfl, ?_⟩) hHeld ?_
      · intro W' hW
        obtain ⟨g1, g2⟩ := hW
        go_simp
      try simp only [Act.put, List.setIfInBounds_toArray, List.set_cons_zero, List.set_cons_succ]
      refine wpAnyH_take (i := 16) (oi := ⟨some 42, _, _, _, _, _⟩) (v := .int .i64 0) rfl (by kernel_rfl) (by kernel_rfl) (by kernel_rfl) (fun _ _ _ h => h) (Or.inl ⟨by rfl, ?_⟩) hHeld ?_
      · intro W' hW
        obtain ⟨g1, g2⟩ := hW
        go_simp
      try simp only [Act.put, List.setIfInBounds_toArray, List.set_cons_zero, List.set_cons_succ]
      refine wpAnyH_ready (rs := [17]) (by kernel_rfl) (by simp) ?_
      refine AllReadyH.cons (o := ⟨some 9, _, _, _, _, _⟩) rfl (fun K hK => ?_) AllReadyH.nil
      go_simp
      obtain ⟨eb, heb⟩ : ∃ z, z = wk.heap.size := ⟨_, rfl⟩
      obtain ⟨wn, hwn⟩ : ∃ W, W = wk.alloc (.cells #[.int .i64 0, .int .i64 0, .string { data := #[] }, .string { data := #[] }, .slice none 0 0, .slice none 0 0] 27) := ⟨_, rfl⟩
      have hb : Below wk.heap.size wk wn := by rw [hwn]; exact (Below.refl _ _).alloc (Nat.le_refl _) _
      have B4 := Lib.hid (B3.out.trans (hb.mono B3.out.size))
      have T4 := Lib.hid (T3.out.trans (hb.mono T3.out.size))
      have EB := Lib.hid (show XB wn eb #[.int .i64 0, .int .i64 0, .string { data := #[] }, .string { data := #[] }, .slice none 0 0, .slice none 0 0] from by rw [heb, hwn]; exact heap_alloc_new wk _)
      have HEB := Lib.hid (show wT.heap.size ≤ eb ∧ w.heap.size ≤ eb from by rw [heb]; exact ⟨T3.out.size, B3.out.size⟩)
      have HVn := Lib.hid ((HV.out.more (S' := fun k => k ≠ eb) (fun q hq _ => by omega)).below hb)
      rw [← heb, ← hwn]
      clear hb hwn heb
      refine hK.out _ _ ⟨HX.out _ (BT.out.trans (T4.out.mono HTBs.out)), HY.out _ (BT.out.trans (T4.out.mono HTBs.out))⟩ (fun hHeld => ?_)
      clear hK
      try simp only [Act.put, List.setIfInBounds_toArray, List.set_cons_zero, List.set_cons_succ]
      refine wpAnyH_ready (rs := [18]) (by kernel_rfl) (by simp) ?_
      refine AllReadyH.cons (o := ⟨none, _, _, _, _, _⟩) rfl (fun K hK => ?_) AllReadyH.nil
      refine Eq.mpr (if_pos (by kernel_rfl)) ?_
      refine wp_store_row 27 (.tmp 9) (.tmp 40) rfl eb #[.int .i64 k1, .int .i64 n1, .string (bs s1), .string (bs m1), .slice A1 na1 ca1, .slice O1 no1 co1] rfl rfl 27 _ EB.out ex_size rfl (by simp [Value.oneCell']) ?_
      have gz : wn.grownBy (wn.setRow eb #[.int .i64 k1, .int .i64 n1, .string (bs s1), .string (bs m1), .slice A1 na1 ca1, .slice O1 no1 co1]) (some eb) := ⟨rfl, rfl, rfl, Nat.le_of_eq (by simp [World.setRow]), fun k _ hk => setRow_other _ _ _ _ (fun e => hk (by rw [e]))⟩
      have hxz : XB (wn.setRow eb #[.int .i64 k1, .int .i64 n1, .string (bs s1), .string (bs m1), .slice A1 na1 ca1, .slice O1 no1 co1]) eb #[.int .i64 k1, .int .i64 n1, .string (bs s1), .string (bs m1), .slice A1 na1 ca1, .slice O1 no1 co1] := setRow_heap _ _ _ _ _ _ EB.out
      generalize wn.setRow eb #[.int .i64 k1, .int .i64 n1, .string (bs s1), .string (bs m1), .slice A1 na1 ca1, .slice O1 no1 co1] = wz at *
      have BZ := Lib.hid (B4.out.trans (below_gr gz (B := w.heap.size) B4.out.size HEB.out.2))
      have TZ := Lib.hid (T4.out.trans (below_gr gz (B := wT.heap.size) T4.out.size HEB.out.1))
      have VZ := Lib.hid (HVn.out.gr (S' := fun _ => True) gz (fun k _ hk => ⟨hk, trivial⟩))
      have XZ := Lib.hid hxz
      clear gz hxz
      refine hK.out _ _ ⟨HX.out _ (BT.out.trans (TZ.out.mono HTBs.out)), HY.out _ (BT.out.trans (TZ.out.mono HTBs.out))⟩ (fun hHeld => ?_)
      clear hK
      try simp only [Act.put, List.setIfInBounds_toArray, List.set_cons_zero, List.set_cons_succ]
      refine wpAnyH_ready (rs := [19]) (by kernel_rfl) (by simp) ?_
      refine AllReadyH.cons (o := ⟨some 10, _, _, _, _, _⟩) rfl (fun K hK => ?_) AllReadyH.nil
      go_simp
      refine hK.out _ _ ⟨HX.out _ (BT.out.trans (TZ.out.mono HTBs.out)), HY.out _ (BT.out.trans (TZ.out.mono HTBs.out))⟩ (fun hHeld => ?_)
      clear hK
      try simp only [Act.put, List.setIfInBounds_toArray, List.set_cons_zero, List.set_cons_succ]
      refine wpAnyH_ready (rs := [20]) (by kernel_rfl) (by simp) ?_
      refine AllReadyH.cons (o := ⟨some 11, _, _, _, _, _⟩) rfl (fun K hK => ?_) AllReadyH.nil
      go_simp
      refine hK.out _ _ ⟨HX.out _ (BT.out.trans (TZ.out.mono HTBs.out)), HY.out _ (BT.out.trans (TZ.out.mono HTBs.out))⟩ (fun hHeld => ?_)
      clear hK
      try simp only [Act.put, List.setIfInBounds_toArray, List.set_cons_zero, List.set_cons_succ]
      refine wpAnyH_done (by kernel_rfl) ?_ _
      refine hK0 _ _ (Met.intro (hR0 _ _ ?_))
      (repeat apply Exists.intro)
      refine ⟨?rel, rfl⟩
      case rel => exact ⟨k1, n1, s1, m1, A1, na1, ca1, O1, no1, co1, eb, rfl, rfl, XZ.out, VZ.out, BZ.out, TZ.out⟩
    · go_simp
      obtain ⟨eb, heb⟩ : ∃ z, z = wq.heap.size := ⟨_, rfl⟩
      obtain ⟨wn, hwn⟩ : ∃ W, W = wq.alloc (.cells #[.int .i64 0, .int .i64 0, .string { data := #[] }, .string { data := #[] }, .slice none 0 0, .slice none 0 0] 27) := ⟨_, rfl⟩
      have hb : Below wq.heap.size wq wn := by rw [hwn]; exact (Below.refl _ _).alloc (Nat.le_refl _) _
      have B4 := Lib.hid (B2.out.trans (hb.mono B2.out.size))
      have T4 := Lib.hid (T2.out.trans (hb.mono T2.out.size))
      have EB := Lib.hid (show XB wn eb #[.int .i64 0, .int .i64 0, .string { data := #[] }, .string { data := #[] }, .slice none 0 0, .slice none 0 0] from by rw [heb, hwn]; exact heap_alloc_new wq _)
      have HEB := Lib.hid (show wT.heap.size ≤ eb ∧ w.heap.size ≤ eb from by rw [heb]; exact ⟨T2.out.size, B2.out.size⟩)
      rw [← heb, ← hwn]
      clear hb hwn heb
      refine hK.out _ _ ⟨HX.out _ (BT.out.trans (T4.out.mono HTBs.out)), HY.out _ (BT.out.trans (T4.out.mono HTBs.out))⟩ (fun hHeld => ?_)
      clear hK
      try simp only [Act.put, List.setIfInBounds_toArray, List.set_cons_zero, List.set_cons_succ]
      refine wpAnyH_ready (rs := [12]) (by kernel_rfl) (by simp) ?_
      refine AllReadyH.cons (o := ⟨some 39, _, _, _, _, _⟩) rfl (fun K hK => ?_) AllReadyH.nil
      go_simp
      refine (KX.out wn B4.out).mono ?_
      rintro e wk ⟨cs, rfl, hv, hb⟩
      obtain ⟨xx, hxx⟩ : ∃ z, z = ex := ⟨_, rfl⟩
      rw [← hxx] at hv
      have HXX := Lib.hid hxx
      obtain ⟨k1, n1, s1, m1, a1, o1⟩ := xx
      obtain ⟨A1, na1, ca1, O1, no1, co1, rfl, -, -⟩ := hv.open_
      rw [show (exC k1 n1 s1 m1 A1 na1 ca1 O1 no1 co1).toArray = #[.int .i64 k1, .int .i64 n1, .string (bs s1), .string (bs m1), .slice A1 na1 ca1, .slice O1 no1 co1] from rfl]
      have HV := Lib.hid (show XV wk (fun k => k ≠ eb) ex (exC k1 n1 s1 m1 A1 na1 ca1 O1 no1 co1) from by rw [← HXX.out]; exact hv.more (fun q _ (hq : wn.heap.size ≤ q) => by have : eb < wn.heap.size := XB.lt EB.out; omega))
      have B3 := Lib.hid (B4.out.trans (hb.mono B4.out.size))
      have T3 := Lib.hid (T4.out.trans (hb.mono T4.out.size))
      have EBn := Lib.hid (EB.out.below hb)
      clear hv hb hxx
      refine hK.out _ _ ⟨HX.out _ (BT.out.trans (T3.out.mono HTBs.out)), HY.out _ (BT.out.trans (T3.out.mono HTBs.out))⟩ (fun hHeld => ?_)
      clear hK
      try simp only [Act.put, List.setIfInBounds_toArray, List.set_cons_zero, List.set_cons_succ]
      refine wpAnyH_take (i := 13) (oi := ⟨some 26, _, _, _, _, _⟩) (v := .tuple #[.agg #[.int .i64 k1, .int .i64 n1, .string (bs s1), .string (bs m1), .slice A1 na1 ca1, .slice O1 no1 co1], .int .i64 zat, .int .i64 0]) rfl (by kernel_rfl) (by kernel_rfl) (by kernel_rfl) (fun _ _ _ h => h) (Or.inl ⟨by rfl, ?_⟩) hHeld ?_
      · intro W' hW
        obtain ⟨g1, g2⟩ := hW
        go_simp
      try simp only [Act.put, List.setIfInBounds_toArray, List.set_cons_zero, List.set_cons_succ]
      refine wpAnyH_take (i := 14) (oi := ⟨some 40, _, _, _, _, _⟩) (v := .agg #[.int .i64 k1, .int .i64 n1, .string (bs s1), .string (bs m1), .slice A1 na1 ca1, .slice O1 no1 co1]) rfl (by kernel_rfl) (by kernel_rfl) (by kernel_rfl) (fun _ _ _ h => h) (Or.inl ⟨by rfl, ?_⟩) hHeld ?_
      · intro W' hW
        obtain ⟨g1, g2⟩ := hW
        go_simp
      try simp only [Act.put, List.setIfInBounds_toArray, List.set_cons_zero, List.set_cons_succ]
      refine wpAnyH_take (i := 15) (oi := ⟨some 41, _, _, _, _, _⟩) (v := .int .i64 zat) rfl (by kernel_rfl) (by kernel_rfl) (by kernel_rfl) (fun _ _ _ h => h) (Or.inl ⟨by rfl, ?_⟩) hHeld ?_
      · intro W' hW
        obtain ⟨g1, g2⟩ := hW
        go_simp
      try simp only [Act.put, List.setIfInBounds_toArray, List.set_cons_zero, List.set_cons_succ]
      refine wpAnyH_take (i := 16) (oi := ⟨some 42, _, _, _, _, _⟩) (v := .int .i64 0) rfl (by kernel_rfl) (by kernel_rfl) (by kernel_rfl) (fun _ _ _ h => h) (Or.inl ⟨by rfl, ?_⟩) hHeld ?_
      · intro W' hW
        obtain ⟨g1, g2⟩ := hW
        go_simp
      try simp only [Act.put, List.setIfInBounds_toArray, List.set_cons_zero, List.set_cons_succ]
      refine wpAnyH_ready (rs := [18]) (by kernel_rfl) (by simp) ?_
      refine AllReadyH.cons (o := ⟨none, _, _, _, _, _⟩) rfl (fun K hK => ?_) AllReadyH.nil
      refine Eq.mpr (if_pos (by kernel_rfl)) ?_
      refine wp_store_row 27 (.tmp 9) (.tmp 40) rfl eb #[.int .i64 k1, .int .i64 n1, .string (bs s1), .string (bs m1), .slice A1 na1 ca1, .slice O1 no1 co1] rfl rfl 27 _ EBn.out ex_size rfl (by simp [Value.oneCell']) ?_
      have gz : wk.grownBy (wk.setRow eb #[.int .i64 k1, .int .i64 n1, .string (bs s1), .string (bs m1), .slice A1 na1 ca1, .slice O1 no1 co1]) (some eb) := ⟨rfl, rfl, rfl, Nat.le_of_eq (by simp [World.setRow]), fun k _ hk => setRow_other _ _ _ _ (fun e => hk (by rw [e]))⟩
      have hxz : XB (wk.setRow eb #[.int .i64 k1, .int .i64 n1, .string (bs s1), .string (bs m1), .slice A1 na1 ca1, .slice O1 no1 co1]) eb #[.int .i64 k1, .int .i64 n1, .string (bs s1), .string (bs m1), .slice A1 na1 ca1, .slice O1 no1 co1] := setRow_heap _ _ _ _ _ _ EBn.out
      generalize wk.setRow eb #[.int .i64 k1, .int .i64 n1, .string (bs s1), .string (bs m1), .slice A1 na1 ca1, .slice O1 no1 co1] = wz at *
      have BZ := Lib.hid (B3.out.trans (below_gr gz (B := w.heap.size) B3.out.size HEB.out.2))
      have TZ := Lib.hid (T3.out.trans (below_gr gz (B := wT.heap.size) T3.out.size HEB.out.1))
      have VZ := Lib.hid (HV.out.gr (S' := fun _ => True) gz (fun k _ hk => ⟨hk, trivial⟩))
      have XZ := Lib.hid hxz
      clear gz hxz
      refine hK.out _ _ ⟨HX.out _ (BT.out.trans (TZ.out.mono HTBs.out)), HY.out _ (BT.out.trans (TZ.out.mono HTBs.out))⟩ (fun hHeld => ?_)
      clear hK
      try simp only [Act.put, List.setIfInBounds_toArray, List.set_cons_zero, List.set_cons_succ]
      refine wpAnyH_ready (rs := [19]) (by kernel_rfl) (by simp) ?_
      refine AllReadyH.cons (o := ⟨some 10, _, _, _, _, _⟩) rfl (fun K hK => ?_) AllReadyH.nil
      go_simp
      refine hK.out _ _ ⟨HX.out _ (BT.out.trans (TZ.out.mono HTBs.out)), HY.out _ (BT.out.trans (TZ.out.mono HTBs.out))⟩ (fun hHeld => ?_)
      clear hK
      try simp only [Act.put, List.setIfInBounds_toArray, List.set_cons_zero, List.set_cons_succ]
      refine wpAnyH_ready (rs := [20]) (by kernel_rfl) (by simp) ?_
      refine AllReadyH.cons (o := ⟨some 11, _, _, _, _, _⟩) rfl (fun K hK => ?_) AllReadyH.nil
      go_simp
      refine hK.out _ _ ⟨HX.out _ (BT.out.trans (TZ.out.mono HTBs.out)), HY.out _ (BT.out.trans (TZ.out.mono HTBs.out))⟩ (fun hHeld => ?_)
      clear hK
      try simp only [Act.put, List.setIfInBounds_toArray, List.set_cons_zero, List.set_cons_succ]
      refine wpAnyH_done (by kernel_rfl) ?_ _
      refine hK0 _ _ (Met.intro (hR0 _ _ ?_))
      (repeat apply Exists.intro)
      refine ⟨?rel, rfl⟩
      case rel => exact ⟨k1, n1, s1, m1, A1, na1, ca1, O1, no1, co1, eb, rfl, rfl, XZ.out, VZ.out, BZ.out, TZ.out⟩
  case rest =>
    obtain ⟨wz, rfl⟩ : ∃ z : World, z = wc := ⟨_, rfl⟩
    obtain ⟨k1, n1, s1, m1, A1, na1, ca1, O1, no1, co1, eb, rfl, rfl, hx, hv, hb0, ht0⟩ := hcut
    clear B
    have XB_ := Lib.hid hx
    have XV_ := Lib.hid hv
    have B := Lib.hid hb0
    have T := Lib.hid ht0
    clear hx hv hb0 ht0 g1 g2 KX jc1 lc1 jc2 lc2 jc3 lc3 jc4 lc4
    go_wp2_with fail
    have g1 : wz.cell? ⟨sb, so + i, none⟩ = some (.string (bs x)) := HX.out _ (BT.out.trans (T.out.mono HTBs.out))
    have g2 : wz.cell? ⟨sb, so + k, none⟩ = some (.string (bs y)) := HY.out _ (BT.out.trans (T.out.mono HTBs.out))
    have hxl := HSZ.out.1
    have hyl := HSZ.out.2
    obtain ⟨d1, hd1⟩ : ∃ c, c = ([49, 32] : Str) ++ x := ⟨_, rfl⟩
    have ld1 : d1.length = 2 + x.length := by rw [hd1]; exact List.length_append
    have jd1 : ∀ w, (Op.stringOp .add (⟨#[49, 32]⟩ : ByteArray) (bs x)).run Tryz.prog w = .ok (.string (bs d1)) w := fun w => by rw [hd1]; exact add_big ([49, 32] : Str) x (by first | omega | (simp; omega)) w
    obtain ⟨d2, hd2⟩ : ∃ c, c = d1 ++ ([32, 40, 50, 32] : Str) := ⟨_, rfl⟩
    have ld2 : d2.length = d1.length + 4 := by rw [hd2]; exact List.length_append
    have jd2 : ∀ w, (Op.stringOp .add (bs d1) (⟨#[32, 40, 50, 32]⟩ : ByteArray)).run Tryz.prog w = .ok (.string (bs d2)) w := fun w => by rw [hd2]; exact add_big d1 ([32, 40, 50, 32] : Str) (by first | omega | (simp; omega)) w
    obtain ⟨d3, hd3⟩ : ∃ c, c = d2 ++ y := ⟨_, rfl⟩
    have ld3 : d3.length = d2.length + y.length := by rw [hd3]; exact List.length_append
    have jd3 : ∀ w, (Op.stringOp .add (bs d2) (bs y)).run Tryz.prog w = .ok (.string (bs d3)) w := fun w => by rw [hd3]; exact add_big d2 y (by first | omega | (simp; omega)) w
    obtain ⟨d4, hd4⟩ : ∃ c, c = d3 ++ ([32, 51, 41] : Str) := ⟨_, rfl⟩
    have ld4 : d4.length = d3.length + 3 := by rw [hd4]; exact List.length_append
    have jd4 : ∀ w, (Op.stringOp .add (bs d3) (⟨#[32, 51, 41]⟩ : ByteArray)).run Tryz.prog w = .ok (.string (bs d4)) w := fun w => by rw [hd4]; exact add_big d3 ([32, 51, 41] : Str) (by first | omega | (simp; omega)) w
    have hno : d4 = no := by rw [HBS.out.2.2, hd4, hd3, hd2, hd1]
    have hnl : no.length ≤ 100 := by rw [← hno]; omega
    rw [hno] at jd4
    clear hd1 hd2 hd3 hd4 hno
    go_quiet (fail)
    generalize hwn : World.drewN _ _ = w3
    have hb : Below wz.heap.size wz w3 := by rw [← hwn]; exact below_drewN _ _
    clear hwn
    obtain h0 := XB_.out
    clear XB_
    have XB_ := Lib.hid (h0.below hb)
    clear h0
    obtain h0 := XV_.out
    clear XV_
    have XV_ := Lib.hid (h0.below hb)
    clear h0
    obtain h0 := B.out
    clear B
    have B := Lib.hid (h0.trans (hb.mono h0.size))
    clear h0
    obtain h0 := T.out
    clear T
    have T := Lib.hid (h0.trans (hb.mono h0.size))
    clear h0
    clear hb g1 g2 jd1 ld1 jd2 ld2 jd3 ld3 jd4 ld4
    go_wp2_with fail
    have t1 : w3.cell? ⟨tb, i, none⟩ = some (.int .i64 (ti : Int)) := HTI.out _ T.out
    have t2 : w3.cell? ⟨tb, k, none⟩ = some (.int .i64 (tk : Int)) := HTK.out _ T.out
    go_quiet (fail)
    generalize hwn : World.drewN _ _ = w4
    have hb : Below w3.heap.size w3 w4 := by rw [← hwn]; exact below_drewN _ _
    clear hwn
    obtain h0 := XB_.out
    clear XB_
    have XB_ := Lib.hid (h0.below hb)
    clear h0
    obtain h0 := XV_.out
    clear XV_
    have XV_ := Lib.hid (h0.below hb)
    clear h0
    obtain h0 := B.out
    clear B
    have B := Lib.hid (h0.trans (hb.mono h0.size))
    clear h0
    obtain h0 := T.out
    clear T
    have T := Lib.hid (h0.trans (hb.mono h0.size))
    clear h0
    clear hb t1 t2
    by_cases hlt : ti < tk
    · have hge : ¬ (tk : Int) ≤ (ti : Int) := by omega
      have hged : decide ((tk : Int) ≤ (ti : Int)) = false := by simpa using hge
      have hpt := HPT.out
      rw [if_pos hlt] at hpt
      clear hlt HPT
      go_wp2_with (with_reducible refine at_load_ (t := 27) ?_; refine Hid.out ?_)
      refine Lib.hid ?_
      refine xb_load rfl _ rfl eb rfl XB_.out rfl ?_
      have KA := Lib.hid (alone_any ex (exC k1 n1 s1 m1 A1 na1 ca1 O1 no1 co1) w4 _ XV_.out)
      clear XB_
      go_wp2_with fail
      refine KA.out.mono ?_
      rintro e w6 ⟨v, rfl, hp, hb⟩
      have HP := Lib.hid hp
      obtain h0 := B.out
      clear B
      have B := Lib.hid (h0.trans (hb.mono h0.size))
      clear h0
      clear hp hb KA XV_
      have K6 := Lib.hid (KP.out w6 v B.out HP.out)
      clear KP HP
      go_wp2_with fail
      refine K6.out.mono ?_
      rintro e w7 ⟨rfl, hb⟩
      obtain h0 := B.out
      clear B
      have B := Lib.hid (h0.trans (hb.mono h0.size))
      clear h0
      clear hb K6
      go_wp2_with fail
      refine (awake_any w7 (HW.out.below B.out)).mono ?_
      rintro e w8 ⟨rfl, hb⟩
      obtain h0 := B.out
      clear B
      have B := Lib.hid (h0.trans (hb.mono h0.size))
      clear h0
      clear hb
      obtain ⟨f1, hf1⟩ : ∃ c, c = ([111, 112, 32, 120, 40, 41, 32, 123, 10, 32, 32, 114, 101, 116, 117, 114, 110, 32] : Str) ++ no := ⟨_, rfl⟩
      have lf1 : f1.length = 18 + no.length := by rw [hf1]; exact List.length_append
      have jf1 : ∀ w, (Op.stringOp .add (⟨#[111, 112, 32, 120, 40, 41, 32, 123, 10, 32, 32, 114, 101, 116, 117, 114, 110, 32]⟩ : ByteArray) (bs no)).run Tryz.prog w = .ok (.string (bs f1)) w := fun w => by rw [hf1]; exact add_big ([111, 112, 32, 120, 40, 41, 32, 123, 10, 32, 32, 114, 101, 116, 117, 114, 110, 32] : Str) no (by first | omega | (simp; omega)) w
      obtain ⟨f2, hf2⟩ : ∃ c, c = f1 ++ ([59, 10, 125, 10] : Str) := ⟨_, rfl⟩
      have lf2 : f2.length = f1.length + 4 := by rw [hf2]; exact List.length_append
      have jf2 : ∀ w, (Op.stringOp .add (bs f1) (⟨#[59, 10, 125, 10]⟩ : ByteArray)).run Tryz.prog w = .ok (.string (bs f2)) w := fun w => by rw [hf2]; exact add_big f1 ([59, 10, 125, 10] : Str) (by first | omega | (simp; omega)) w
      have hfin : f2 = ptxt := by rw [hpt, hf2, hf1]
      rw [hfin] at jf2
      have HF := Lib.hid hpt
      clear hf1 hf2 hfin hpt
      have hteq : ((bs ptxt).toList == (bs ptxt).toList) = true := beq_self_eq_true _
      go_wp2
      go_ret
      exact ⟨by first | rfl | (rw [HF.out]; simp) | simp, B.out⟩
    · have hge : (tk : Int) ≤ (ti : Int) := by omega
      have hged : decide ((tk : Int) ≤ (ti : Int)) = true := by simpa using hge
      have hpt := HPT.out
      rw [if_neg hlt] at hpt
      clear hlt HPT hnl
      go_wp2_with fail
      have g1 : w4.cell? ⟨sb, so + i, none⟩ = some (.string (bs x)) := HX.out _ (BT.out.trans (T.out.mono HTBs.out))
      have g2 : w4.cell? ⟨sb, so + k, none⟩ = some (.string (bs y)) := HY.out _ (BT.out.trans (T.out.mono HTBs.out))
      obtain ⟨q1, hq1⟩ : ∃ c, c = ([40, 49, 32] : Str) ++ x := ⟨_, rfl⟩
      have lq1 : q1.length = 3 + x.length := by rw [hq1]; exact List.length_append
      have jq1 : ∀ w, (Op.stringOp .add (⟨#[40, 49, 32]⟩ : ByteArray) (bs x)).run Tryz.prog w = .ok (.string (bs q1)) w := fun w => by rw [hq1]; exact add_big ([40, 49, 32] : Str) x (by first | omega | (simp; omega)) w
      obtain ⟨q2, hq2⟩ : ∃ c, c = q1 ++ ([32, 50, 41, 32] : Str) := ⟨_, rfl⟩
      have lq2 : q2.length = q1.length + 4 := by rw [hq2]; exact List.length_append
      have jq2 : ∀ w, (Op.stringOp .add (bs q1) (⟨#[32, 50, 41, 32]⟩ : ByteArray)).run Tryz.prog w = .ok (.string (bs q2)) w := fun w => by rw [hq2]; exact add_big q1 ([32, 50, 41, 32] : Str) (by first | omega | (simp; omega)) w
      obtain ⟨q3, hq3⟩ : ∃ c, c = q2 ++ y := ⟨_, rfl⟩
      have lq3 : q3.length = q2.length + y.length := by rw [hq3]; exact List.length_append
      have jq3 : ∀ w, (Op.stringOp .add (bs q2) (bs y)).run Tryz.prog w = .ok (.string (bs q3)) w := fun w => by rw [hq3]; exact add_big q2 y (by first | omega | (simp; omega)) w
      obtain ⟨q4, hq4⟩ : ∃ c, c = q3 ++ ([32, 51] : Str) := ⟨_, rfl⟩
      have lq4 : q4.length = q3.length + 2 := by rw [hq4]; exact List.length_append
      have jq4 : ∀ w, (Op.stringOp .add (bs q3) (⟨#[32, 51]⟩ : ByteArray)).run Tryz.prog w = .ok (.string (bs q4)) w := fun w => by rw [hq4]; exact add_big q3 ([32, 51] : Str) (by first | omega | (simp; omega)) w
      have hyes : q4 = yes := by rw [HBS.out.2.1, hq4, hq3, hq2, hq1]
      have hnl : yes.length ≤ 100 := by rw [← hyes]; omega
      rw [hyes] at jq4
      clear hq1 hq2 hq3 hq4 hyes
      go_quiet (fail)
      generalize hwn : World.drewN _ _ = w5
      have hb : Below w4.heap.size w4 w5 := by rw [← hwn]; exact below_drewN _ _
      clear hwn
      obtain h0 := XB_.out
      clear XB_
      have XB_ := Lib.hid (h0.below hb)
      clear h0
      obtain h0 := XV_.out
      clear XV_
      have XV_ := Lib.hid (h0.below hb)
      clear h0
      obtain h0 := B.out
      clear B
      have B := Lib.hid (h0.trans (hb.mono h0.size))
      clear h0
      obtain h0 := T.out
      clear T
      have T := Lib.hid (h0.trans (hb.mono h0.size))
      clear h0
      clear hb g1 g2 jq1 lq1 jq2 lq2 jq3 lq3 jq4 lq4
      go_wp2_with (with_reducible refine at_load_ (t := 27) ?_; refine Hid.out ?_)
      refine Lib.hid ?_
      refine xb_load rfl _ rfl eb rfl XB_.out rfl ?_
      have KA := Lib.hid (alone_any ex (exC k1 n1 s1 m1 A1 na1 ca1 O1 no1 co1) w5 _ XV_.out)
      clear XB_
      go_wp2_with fail
      refine KA.out.mono ?_
      rintro e w6 ⟨v, rfl, hp, hb⟩
      have HP := Lib.hid hp
      obtain h0 := B.out
      clear B
      have B := Lib.hid (h0.trans (hb.mono h0.size))
      clear h0
      clear hp hb KA XV_
      have K6 := Lib.hid (KP.out w6 v B.out HP.out)
      clear KP HP
      go_wp2_with fail
      refine K6.out.mono ?_
      rintro e w7 ⟨rfl, hb⟩
      obtain h0 := B.out
      clear B
      have B := Lib.hid (h0.trans (hb.mono h0.size))
      clear h0
      clear hb K6
      go_wp2_with fail
      refine (awake_any w7 (HW.out.below B.out)).mono ?_
      rintro e w8 ⟨rfl, hb⟩
      obtain h0 := B.out
      clear B
      have B := Lib.hid (h0.trans (hb.mono h0.size))
      clear h0
      clear hb
      obtain ⟨f1, hf1⟩ : ∃ c, c = ([111, 112, 32, 120, 40, 41, 32, 123, 10, 32, 32, 114, 101, 116, 117, 114, 110, 32] : Str) ++ yes := ⟨_, rfl⟩
      have lf1 : f1.length = 18 + yes.length := by rw [hf1]; exact List.length_append
      have jf1 : ∀ w, (Op.stringOp .add (⟨#[111, 112, 32, 120, 40, 41, 32, 123, 10, 32, 32, 114, 101, 116, 117, 114, 110, 32]⟩ : ByteArray) (bs yes)).run Tryz.prog w = .ok (.string (bs f1)) w := fun w => by rw [hf1]; exact add_big ([111, 112, 32, 120, 40, 41, 32, 123, 10, 32, 32, 114, 101, 116, 117, 114, 110, 32] : Str) yes (by first | omega | (simp; omega)) w
      obtain ⟨f2, hf2⟩ : ∃ c, c = f1 ++ ([59, 10, 125, 10] : Str) := ⟨_, rfl⟩
      have lf2 : f2.length = f1.length + 4 := by rw [hf2]; exact List.length_append
      have jf2 : ∀ w, (Op.stringOp .add (bs f1) (⟨#[59, 10, 125, 10]⟩ : ByteArray)).run Tryz.prog w = .ok (.string (bs f2)) w := fun w => by rw [hf2]; exact add_big f1 ([59, 10, 125, 10] : Str) (by first | omega | (simp; omega)) w
      have hfin : f2 = ptxt := by rw [hpt, hf2, hf1]
      rw [hfin] at jf2
      have HF := Lib.hid hpt
      clear hf1 hf2 hfin hpt
      have hteq : ((bs ptxt).toList == (bs ptxt).toList) = true := beq_self_eq_true _
      go_wp2
      go_ret
      exact ⟨by first | rfl | (rw [HF.out]; simp) | simp, B.out⟩
theorem binds_int (a b : Int) (ha : 0 ≤ a ∧ a ≤ 255) (hb : 0 ≤ b ∧ b ≤ 255) (w : World) (hw : WW w) : Calls Tryz.prog 3 #[.int .u8 a, .int .u8 b] w fun e w' => e = .returned (.bool true) ∧ Below w.heap.size w w' := binds_any a b ha hb w hw
end Go.Proofs.YtkakbidllpjopaaGreatDoor
