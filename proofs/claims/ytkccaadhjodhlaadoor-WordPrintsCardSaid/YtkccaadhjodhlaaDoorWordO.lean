/- The walk of word.Parse in one contract: the word with that text form, or the error. Conditions: the laid tables and error variables (PW). -/
import Derived.Test.YtkccaadhjodhlaaDoorWordQ
import Derived.Test.YtkccaadhjodhlaaDoorWordY
import Derived.Great.BuildSlice
set_option linter.unusedVariables false
set_option linter.unusedSimpArgs false
namespace Go.Proofs.YtkccaadhjodhlaaDoor
open Go.RowKit

theorem bs_toList (l : List UInt8) : (bs l).toList = l := Lib.toList_data (bs l)
/-- What Parse answers, as values. -/
def prV1 : Option (Int × Int × Int) → Value
  | some (v, n, r) => wd v n r
  | none => wd 0 0 0
def prE1 : Option (Int × Int × Int) → Int
  | some _ => 0
  | none => 5
theorem Tryd.sizeW : (Tryd.prog.info? 33).map (·.size) = some 3 := by kernel_rfl
theorem res_word {fn : Func} {p u : Tmp} (h : fn.results = #[.cell p 33, .tmp u]) (tmps : Array Value) (w : World) (g : Nat) (v n r c : Int) (hp : tmps.getD p undef = .pointer (some ⟨g, 0, none⟩)) (hu : tmps.getD u undef = .int .i64 c) (hg : WBox w g v n r) :
    (results fn tmps).run Tryd.prog w = .ok (.tuple #[wd v n r, .int .i64 c]) w := by
  rw [results_cell_tmp h, hp, hu]
  have hl := run_loadVar_row (P := Tryd.prog) w g 33 33 #[.int .i64 v, .int .u32 n, .int .u32 r] (0, 0) _ hg Tryd.underlying33 rfl Tryd.sizeW
  simp [asAddr, hl, wd, Result.andThen]
section
variable {P : Program} {ops : Array Oper} {rest : List Oper} {a : Act} {w : World} {Q : Exit → Act → World → Prop} {d : Option Tmp} {ty t : TypeId} {pos : String} {x y : Operand}
theorem at_store_ {aft} {g} (h : wpList P ops Q (⟨d, .store t x y, ty, pos, aft, g⟩ :: rest) a w) : wpList P ops Q (⟨d, .store t x y, ty, pos, aft, g⟩ :: rest) a w := h
theorem at_load_ {aft} {g} (h : wpList P ops Q (⟨d, .load t x, ty, pos, aft, g⟩ :: rest) a w) : wpList P ops Q (⟨d, .load t x, ty, pos, aft, g⟩ :: rest) a w := h
end
section
variable {ops : Array Oper} {rest : List Oper} {a : Act} {w : World} {Q : Exit → Act → World → Prop} {o : Oper} {v n r v' n' r' : Int}
theorem put_word (hg : o.guard = none) (x y : Operand) (ho : o.op = .store 33 x y) (hd : o.dst = none) (g : Nat) (hx : a.eval x = .pointer (some ⟨g, 0, none⟩)) (hy : a.eval y = wd v' n' r')
    (h0 : WBox w g v n r) (k : ∀ w', WBox w' g v' n' r' → Keep (fun k => k = g) w w' → wpList Tryd.prog ops Q rest a w') : wpList Tryd.prog ops Q (o :: rest) a w :=
  wpList_store_rowTo hg _ x y ho hd g _ hx hy 33 _ h0 Tryd.sizeW rfl (by simp [Value.oneCell']) (k _ (setRow_heap _ _ _ _ _ _ h0) (Keep.setRow (S := fun k => k = g) (Keep.of_below (Below.refl _ _)) rfl _))
theorem get_word (hg : o.guard = none) (x : Operand) (ho : o.op = .load 33 x) (g : Nat) (hx : a.eval x = .pointer (some ⟨g, 0, none⟩)) (h0 : WBox w g v n r)
    (h : wpList Tryd.prog ops Q rest (a.put o.dst (wd v n r)) w) : wpList Tryd.prog ops Q (o :: rest) a w :=
  wpList_load_row hg _ x ho g hx _ _ _ _ h0 Tryd.underlying33 rfl Tryd.sizeW h
end
theorem WBox.set0 {w : World} {b : Nat} {v n r : Int} (h : WBox w b v n r) (x : Int) : WBox (w.setCell ⟨b, 0, none⟩ (.int .i64 x)) b x n r ∧ Keep (fun k => k = b) w (w.setCell ⟨b, 0, none⟩ (.int .i64 x)) := by
  obtain ⟨k1, k2⟩ := (Keep.of_below (S := fun k => k = b) (Below.refl _ w)).setCell rfl (show w.heap[b]? = some (.cells _ _ (0, 0)) from h) (.int .i64 x) (off := 0)
  exact ⟨k2, k1⟩
theorem WBox.set2 {w : World} {b : Nat} {v n r : Int} (h : WBox w b v n r) (x : Int) : WBox (w.setCell ⟨b, 2, none⟩ (.int .u32 x)) b v n x ∧ Keep (fun k => k = b) w (w.setCell ⟨b, 2, none⟩ (.int .u32 x)) := by
  obtain ⟨k1, k2⟩ := (Keep.of_below (S := fun k => k = b) (Below.refl _ w)).setCell rfl (show w.heap[b]? = some (.cells _ _ (0, 0)) from h) (.int .u32 x) (off := 2)
  exact ⟨k2, k1⟩
theorem WBox.keep {S : Nat → Prop} {w w' : World} {b : Nat} {v n r : Int} (h : WBox w b v n r) (k : Keep S w w') (hS : ¬ S b) : WBox w' b v n r := (k.other b h.lt hS).trans h
theorem hrNE {l : List UInt8} (h : prE l = 0) : prR l = if 0 < prW l ∨ 0 < prS l then rVal (prW l) (prS l) else 0 := rfl

theorem prW_lt (l : List UInt8) : 0 ≤ prW l ∧ prW l < 4294967296 := by
  unfold prW
  split
  · have := natU_lt (cutC 58 (cutC 35 l).2.1).1; omega
  · omega
theorem prS_lt (l : List UInt8) : 0 ≤ prS l ∧ prS l < 4294967296 := by
  unfold prS
  split
  · have := natU_lt (cutC 58 (cutC 35 l).2.1).2.1; omega
  · omega

set_option maxRecDepth 100000 in
set_option maxHeartbeats 12800000 in
theorem parse_any (l : List UInt8) (w : World) (hl : l.length ≤ 100000) (hW : PW w) :
    Calls Tryd.prog 18 #[.string (bs l)] w fun e w' => e = .returned (.tuple #[prV1 (prs l), .int .i64 (prE1 (prs l))]) ∧ Below w.heap.size w w' := by
  have HL := Lib.hid hl
  have HW := Lib.hid hW
  have hsz := bs_size l
  have HLN := Lib.hid (cutC_len 35 l)
  have HLM := Lib.hid (cutC_len 46 (cutC 35 l).1)
  have HWL := Lib.hid (prW_lt l)
  have HSL := Lib.hid (prS_lt l)
  have HVL := Lib.hid (prV_lt l)
  clear hl hW
  go_enter Tryd.func18, Tryd.ntmps18
  go_wp2_with fail
  have h0 : Below w.heap.size w (w.alloc (wdO 0 0 0)) := (Below.refl _ _).alloc (Nat.le_refl _) _
  have h1 : Below w.heap.size w ((w.alloc (wdO 0 0 0)).alloc (wdO 0 0 0)) := h0.alloc (by simp) _
  have h2 : Below w.heap.size w (((w.alloc (wdO 0 0 0)).alloc (wdO 0 0 0)).alloc (.cells #[.int .u32 0] 22)) := h1.alloc (by simp <;> omega) _
  have h3 : Below w.heap.size w ((((w.alloc (wdO 0 0 0)).alloc (wdO 0 0 0)).alloc (.cells #[.int .u32 0] 22)).alloc (.cells #[.int .u32 0] 22)) := h2.alloc (by simp <;> omega) _
  have n1 : (w.alloc (wdO 0 0 0)).heap.size = w.heap.size + 1 := by simp
  have n2 : ((w.alloc (wdO 0 0 0)).alloc (wdO 0 0 0)).heap.size = w.heap.size + 2 := by simp
  have n3 : (((w.alloc (wdO 0 0 0)).alloc (wdO 0 0 0)).alloc (.cells #[.int .u32 0] 22)).heap.size = w.heap.size + 3 := by simp
  have r0 : WBox ((((w.alloc (wdO 0 0 0)).alloc (wdO 0 0 0)).alloc (.cells #[.int .u32 0] 22)).alloc (.cells #[.int .u32 0] 22)) w.heap.size 0 0 0 := ((WBox.new.alloc _).alloc _).alloc _
  have r1 : WBox ((((w.alloc (wdO 0 0 0)).alloc (wdO 0 0 0)).alloc (.cells #[.int .u32 0] 22)).alloc (.cells #[.int .u32 0] 22)) (w.heap.size + 1) 0 0 0 := by have := ((WBox.new (w := w.alloc (wdO 0 0 0)) (v := 0) (n := 0) (r := 0)).alloc (.cells #[.int .u32 0] 22)).alloc (.cells #[.int .u32 0] 22); rwa [n1] at this
  have r2 : U32 ((((w.alloc (wdO 0 0 0)).alloc (wdO 0 0 0)).alloc (.cells #[.int .u32 0] 22)).alloc (.cells #[.int .u32 0] 22)) (w.heap.size + 2) 0 := by have := heap_alloc2_old ((w.alloc (wdO 0 0 0)).alloc (wdO 0 0 0)) (.cells #[.int .u32 0] 22) (.cells #[.int .u32 0] 22); rwa [n2] at this
  have r3 : U32 ((((w.alloc (wdO 0 0 0)).alloc (wdO 0 0 0)).alloc (.cells #[.int .u32 0] 22)).alloc (.cells #[.int .u32 0] 22)) (w.heap.size + 3) 0 := by have := heap_alloc_new (((w.alloc (wdO 0 0 0)).alloc (wdO 0 0 0)).alloc (.cells #[.int .u32 0] 22)) (.cells #[.int .u32 0] 22); rwa [n3] at this
  have HB4 := Lib.hid h3
  have R0 := Lib.hid r0
  have R1 := Lib.hid r1
  have R2 := Lib.hid r2
  have R3 := Lib.hid r3
  clear h0 h1 h2 h3 n1 n2 n3 r0 r1 r2 r3
  unfold wdO at HB4 R0 R1 R2 R3
  generalize ((((w.alloc (.cells #[.int .i64 0, .int .u32 0, .int .u32 0] 33)).alloc (.cells #[.int .i64 0, .int .u32 0, .int .u32 0] 33)).alloc (.cells #[.int .u32 0] 22)).alloc (.cells #[.int .u32 0] 22)) = w4 at *
  refine (partP_any l (w.heap.size + 3) (w.heap.size + 2) w w4 HL.out HW.out HB4.out (by omega) (by omega) (by omega) R3.out R2.out).mono ?_
  rintro e w5 ⟨rfl, hk, h3, h2⟩
  have HB5 := Lib.hid (HB4.out.trans (hk.below HB4.out.size (fun k hk e => by omega)))
  have P0 := Lib.hid (R0.out.keep hk (by omega))
  have P1 := Lib.hid (R1.out.keep hk (by omega))
  have P2 := Lib.hid h2
  have P3 := Lib.hid h3
  clear hk h3 h2 R0 R1 R2 R3 HB4
  go_wp2_with fail
  refine (natural_any ⟨w.heap.size + 1, 1, none⟩ w5).mono ?_
  rintro e w6 ⟨rfl, rfl⟩
  have hba : Below w5.heap.size w5 (w5.alloc (.cells #[.pointer (some ⟨w.heap.size + 1, 1, none⟩)] 57)) := (Below.refl _ _).alloc (Nat.le_refl _) _
  have HX6 := Lib.hid (show (w5.alloc (.cells #[.pointer (some ⟨w.heap.size + 1, 1, none⟩)] 57)).cell? ⟨w5.heap.size, 0, none⟩ = some (.pointer (some ⟨w.heap.size + 1, 1, none⟩)) by rw [cell_of_row _ _ _ _ _ _ (heap_alloc_new w5 (.cells #[.pointer (some ⟨w.heap.size + 1, 1, none⟩)] 57))]; rfl)
  have HB6 := Lib.hid (HB5.out.trans (hba.mono HB5.out.size))
  have S0 := Lib.hid (P0.out.below hba)
  have S1 := Lib.hid (P1.out.below hba)
  have S2 := Lib.hid (P2.out.below hba)
  have S3 := Lib.hid (P3.out.below hba)
  clear hba P0 P1 P2 P3 HB5
  generalize w5.alloc (.cells #[.pointer (some ⟨w.heap.size + 1, 1, none⟩)] 57) = w6 at *
  go_wp2_with fail
  refine (partV_any (cutC 35 l).1 w5.heap.size (w.heap.size + 1) 0 0 w w6 (Nat.le_trans HLN.out.1 HL.out) HW.out HB6.out (by omega) HX6.out S1.out).mono ?_
  rintro e w7 ⟨rfl, hk, h1⟩
  have HB7 := Lib.hid (HB6.out.trans (hk.below HB6.out.size (fun k hk e => by omega)))
  have T0 := Lib.hid (S0.out.keep hk (by omega))
  have T1 := Lib.hid (show WBox w7 (w.heap.size + 1) 0 (prV l) 0 from h1)
  have T2 := Lib.hid (S2.out.keep hk (by omega))
  have T3 := Lib.hid (S3.out.keep hk (by omega))
  clear hk h1 S0 S1 S2 S3 HX6 HB6
  rw [show (!(cutC 46 (cutC 35 l).1).2.2 || natB (cutC 46 (cutC 35 l).1).2.1) = prB l from rfl]
  go_wp2_with fail
  refine (parseI_any (cutC 46 (cutC 35 l).1).1 w7 (Nat.le_trans HLM.out.1 (Nat.le_trans HLN.out.1 HL.out)) (HW.out.below HB7.out)).mono ?_
  rintro e w8 ⟨hb8, hm⟩
  have HB8 := Lib.hid (HB7.out.trans (hb8.mono HB7.out.size))
  have U0 := Lib.hid (T0.out.below hb8)
  have U1 := Lib.hid (T1.out.below hb8)
  have U2 := Lib.hid (T2.out.below hb8)
  have U3 := Lib.hid (T3.out.below hb8)
  clear hb8 T0 T1 T2 T3 HB7
  have HPS := Lib.hid (show prs l = match prN l with | .ok n => if prA l = true ∧ prB l = true ∧ prE l = 0 ∧ txt n (prV l) (prR l) = l then some (n, prV l, prR l) else none | .syntax => none | .range => none from rfl)
  rw [show Lib.parseIntB 64 (cutC 46 (cutC 35 l).1).1 = prN l from rfl] at hm
  cases hN : prN l with
  | ok n =>
    rw [hN] at hm HPS
    dsimp only at hm HPS
    subst hm
    have HNB := Lib.hid (prN_lt hN)
    clear hN
    by_cases hA : prA l = true
    · skip
      try rw [hA] at HPS
      rw [hA]
      by_cases hBt : prB l = true
      · skip
        try rw [hBt] at HPS
        rw [hBt]
        have HST := Lib.hid (U1.out.set0 n)
        have hcW := U2.out.cell
        have hcS := U3.out.cell
        have hwc0 := U1.out.c0
        have hwfz := U1.out.fz 0
        by_cases hpw : 0 < prW l
        · skip
          have hd1 : decide (0 < prW l) = true := decide_eq_true hpw
          have HRC := Lib.hid (ref_any (prW l) (prS l))
          have HM0 := Lib.hid (show prR l = rVal (prW l) (prS l) by unfold prR; rw [if_pos (Or.inl hpw)])
          have HM1 := Lib.hid (show prE l = rErr (prW l) (prS l) by unfold prE; rw [if_pos (Or.inl hpw)])
          have hm1 : IntKind.i64.wrap (prW l) = prW l := by have := HWL.out; simp [IntKind.wrap, IntKind.bits, IntKind.signed]; omega
          have hm2 : IntKind.i64.wrap (prS l) = prS l := by have := HSL.out; simp [IntKind.wrap, IntKind.bits, IntKind.signed]; omega
          obtain ⟨hx1, hk1⟩ := HST.out
          have W1 := Lib.hid hx1
          have W0 := Lib.hid (U0.out.keep hk1 (by omega))
          have HB9 := Lib.hid (HB8.out.trans (hk1.below HB8.out.size (fun k hk e => by omega)))
          have W2 := (U2.out.keep hk1 (by omega)).cell
          have W3 := (U3.out.keep hk1 (by omega)).cell
          clear hx1 hk1
          have hfzq := W1.out.fz 2
          have hwc2 := W1.out.c2
          go_wp2_with fail
          refine (HRC.out _).mono ?_
          rintro e wr ⟨rfl, rfl⟩
          by_cases hE : rErr (prW l) (prS l) = 0
          · skip
            rw [hE]
            have HE0 := Lib.hid (show prE l = 0 from HM1.out.trans hE)
            have HRR := Lib.hid HM0.out
            have HRL := Lib.hid (rVal_lt (prW l) (prS l))
            have HS2 := Lib.hid (W1.out.set2 (rVal (prW l) (prS l)))
            clear hE
            obtain ⟨hx1, hk1⟩ := HS2.out
            have X1 := Lib.hid hx1
            have X0 := Lib.hid (W0.out.keep hk1 (by omega))
            have HB10 := Lib.hid (HB9.out.trans (hk1.below HB9.out.size (fun k hk e => by omega)))
            clear hx1 hk1
            skip
            go_wp2_with (with_reducible refine at_load_ (t := 33) ?_; refine Hid.out ?_)
            refine Lib.hid ?_
            refine get_word rfl (.tmp 4) rfl (w.heap.size + 1) rfl X1.out ?_
            try simp only [Act.put, List.setIfInBounds_toArray, List.set_cons_zero, List.set_cons_succ]
            go_wp2_with fail
            refine (text_any n (prV l) (rVal (prW l) (prS l)) _ HNB.out.1 HNB.out.2 HRL.out.1 HRL.out.2 HVL.out.1 HVL.out.2 (HW.out.below HB10.out).pow).mono ?_
            rintro e wt ⟨rfl, hbt⟩
            have HBT := Lib.hid (HB10.out.trans (hbt.mono HB10.out.size))
            have V0 := Lib.hid (X0.out.below hbt)
            have V1 := Lib.hid (X1.out.below hbt)
            clear hbt
            rw [show (⟨(txt n (prV l) (rVal (prW l) (prS l))).toArray⟩ : ByteArray) = bs (txt n (prV l) (rVal (prW l) (prS l))) from rfl]
            by_cases hT : txt n (prV l) (rVal (prW l) (prS l)) = l
            · skip
              rw [hT]
              have HPN := Lib.hid (show prs l = some (n, prV l, rVal (prW l) (prS l)) by rw [HPS.out, if_pos ⟨by trivial, by trivial, HE0.out, by rw [HRR.out]; exact hT⟩, HRR.out])
              clear hT
              go_wp2_with (with_reducible refine at_load_ (t := 33) ?_; refine Hid.out ?_)
              refine Lib.hid ?_
              refine get_word rfl (.tmp 4) rfl (w.heap.size + 1) rfl V1.out ?_
              try simp only [Act.put, List.setIfInBounds_toArray, List.set_cons_zero, List.set_cons_succ]
              go_wp2_with (with_reducible refine at_store_ (t := 33) ?_; refine Hid.out ?_)
              refine Lib.hid ?_
              refine put_word (v' := n) (n' := prV l) (r' := rVal (prW l) (prS l)) rfl (.tmp 2) (.tmp 69) rfl rfl w.heap.size rfl rfl V0.out ?_
              intro wx hx kx
              have HX := Lib.hid hx
              have HBX := Lib.hid (HBT.out.trans (kx.below HBT.out.size (fun k hk e => by omega)))
              clear hx kx
              go_wp2
              try simp only [Exit.inBlock, Exit.then]
              refine bodyPost_ret (v := .tuple #[wd n (prV l) (rVal (prW l) (prS l)), .int .i64 0]) ?_ rfl ⟨by rw [HPN.out]; rfl, HBX.out⟩
              rw [res_word rfl _ _ w.heap.size n (prV l) (rVal (prW l) (prS l)) 0 rfl rfl HX.out]
            · skip
              have HPN := Lib.hid (show prs l = none by rw [HPS.out, if_neg (by rw [HRR.out]; exact fun h => hT h.2.2.2)])
              have hTb : ((bs (txt n (prV l) (rVal (prW l) (prS l)))).toList == (bs l).toList) = false := beq_eq_false_iff_ne.2 (fun h => hT (by rwa [bs_toList, bs_toList] at h))
              clear hT
              go_wp2_with (with_reducible refine at_store_ (t := 33) ?_; refine Hid.out ?_)
              refine Lib.hid ?_
              refine put_word (v' := 0) (n' := 0) (r' := 0) rfl (.tmp 2) (.tmp 68) rfl rfl w.heap.size rfl rfl V0.out ?_
              intro wx hx kx
              have HX := Lib.hid hx
              have HBX := Lib.hid (HBT.out.trans (kx.below HBT.out.size (fun k hk e => by omega)))
              clear hx kx
              go_wp2
              try simp only [Exit.inBlock, Exit.then]
              refine bodyPost_ret (v := .tuple #[wd 0 0 0, .int .i64 5]) ?_ rfl ⟨by rw [HPN.out]; rfl, HBX.out⟩
              rw [res_word rfl _ _ w.heap.size 0 0 0 5 rfl rfl HX.out]
          · skip
            have HPN := Lib.hid (show prs l = none by rw [HPS.out, if_neg (fun h => hE (HM1.out.symm.trans h.2.2.1))])
            go_wp2_with (with_reducible refine at_store_ (t := 33) ?_; refine Hid.out ?_)
            refine Lib.hid ?_
            refine put_word (v' := 0) (n' := 0) (r' := 0) rfl (.tmp 2) (.tmp 61) rfl rfl w.heap.size rfl rfl W0.out ?_
            intro wx hx kx
            have HX := Lib.hid hx
            have HBX := Lib.hid (HB9.out.trans (kx.below HB9.out.size (fun k hk e => by omega)))
            clear hx kx
            go_wp2
            try simp only [Exit.inBlock, Exit.then]
            refine bodyPost_ret (v := .tuple #[wd 0 0 0, .int .i64 5]) ?_ rfl ⟨by rw [HPN.out]; rfl, HBX.out⟩
            rw [res_word rfl _ _ w.heap.size 0 0 0 5 rfl rfl HX.out]
        · skip
          have hd1 : decide (0 < prW l) = false := decide_eq_false hpw
          by_cases hps : 0 < prS l
          · skip
            have hd2 : decide (0 < prS l) = true := decide_eq_true hps
            have HRC := Lib.hid (ref_any (prW l) (prS l))
            have HM0 := Lib.hid (show prR l = rVal (prW l) (prS l) by unfold prR; rw [if_pos (Or.inr hps)])
            have HM1 := Lib.hid (show prE l = rErr (prW l) (prS l) by unfold prE; rw [if_pos (Or.inr hps)])
            have hm1 : IntKind.i64.wrap (prW l) = prW l := by have := HWL.out; simp [IntKind.wrap, IntKind.bits, IntKind.signed]; omega
            have hm2 : IntKind.i64.wrap (prS l) = prS l := by have := HSL.out; simp [IntKind.wrap, IntKind.bits, IntKind.signed]; omega
            obtain ⟨hx1, hk1⟩ := HST.out
            have W1 := Lib.hid hx1
            have W0 := Lib.hid (U0.out.keep hk1 (by omega))
            have HB9 := Lib.hid (HB8.out.trans (hk1.below HB8.out.size (fun k hk e => by omega)))
            have W2 := (U2.out.keep hk1 (by omega)).cell
            have W3 := (U3.out.keep hk1 (by omega)).cell
            clear hx1 hk1
            have hfzq := W1.out.fz 2
            have hwc2 := W1.out.c2
            go_wp2_with fail
            refine (HRC.out _).mono ?_
            rintro e wr ⟨rfl, rfl⟩
            by_cases hE : rErr (prW l) (prS l) = 0
            · skip
              rw [hE]
              have HE0 := Lib.hid (show prE l = 0 from HM1.out.trans hE)
              have HRR := Lib.hid HM0.out
              have HRL := Lib.hid (rVal_lt (prW l) (prS l))
              have HS2 := Lib.hid (W1.out.set2 (rVal (prW l) (prS l)))
              clear hE
              obtain ⟨hx1, hk1⟩ := HS2.out
              have X1 := Lib.hid hx1
              have X0 := Lib.hid (W0.out.keep hk1 (by omega))
              have HB10 := Lib.hid (HB9.out.trans (hk1.below HB9.out.size (fun k hk e => by omega)))
              clear hx1 hk1
              skip
              go_wp2_with (with_reducible refine at_load_ (t := 33) ?_; refine Hid.out ?_)
              refine Lib.hid ?_
              refine get_word rfl (.tmp 4) rfl (w.heap.size + 1) rfl X1.out ?_
              try simp only [Act.put, List.setIfInBounds_toArray, List.set_cons_zero, List.set_cons_succ]
              go_wp2_with fail
              refine (text_any n (prV l) (rVal (prW l) (prS l)) _ HNB.out.1 HNB.out.2 HRL.out.1 HRL.out.2 HVL.out.1 HVL.out.2 (HW.out.below HB10.out).pow).mono ?_
              rintro e wt ⟨rfl, hbt⟩
              have HBT := Lib.hid (HB10.out.trans (hbt.mono HB10.out.size))
              have V0 := Lib.hid (X0.out.below hbt)
              have V1 := Lib.hid (X1.out.below hbt)
              clear hbt
              rw [show (⟨(txt n (prV l) (rVal (prW l) (prS l))).toArray⟩ : ByteArray) = bs (txt n (prV l) (rVal (prW l) (prS l))) from rfl]
              by_cases hT : txt n (prV l) (rVal (prW l) (prS l)) = l
              · skip
                rw [hT]
                have HPN := Lib.hid (show prs l = some (n, prV l, rVal (prW l) (prS l)) by rw [HPS.out, if_pos ⟨by trivial, by trivial, HE0.out, by rw [HRR.out]; exact hT⟩, HRR.out])
                clear hT
                go_wp2_with (with_reducible refine at_load_ (t := 33) ?_; refine Hid.out ?_)
                refine Lib.hid ?_
                refine get_word rfl (.tmp 4) rfl (w.heap.size + 1) rfl V1.out ?_
                try simp only [Act.put, List.setIfInBounds_toArray, List.set_cons_zero, List.set_cons_succ]
                go_wp2_with (with_reducible refine at_store_ (t := 33) ?_; refine Hid.out ?_)
                refine Lib.hid ?_
                refine put_word (v' := n) (n' := prV l) (r' := rVal (prW l) (prS l)) rfl (.tmp 2) (.tmp 69) rfl rfl w.heap.size rfl rfl V0.out ?_
                intro wx hx kx
                have HX := Lib.hid hx
                have HBX := Lib.hid (HBT.out.trans (kx.below HBT.out.size (fun k hk e => by omega)))
                clear hx kx
                go_wp2
                try simp only [Exit.inBlock, Exit.then]
                refine bodyPost_ret (v := .tuple #[wd n (prV l) (rVal (prW l) (prS l)), .int .i64 0]) ?_ rfl ⟨by rw [HPN.out]; rfl, HBX.out⟩
                rw [res_word rfl _ _ w.heap.size n (prV l) (rVal (prW l) (prS l)) 0 rfl rfl HX.out]
              · skip
                have HPN := Lib.hid (show prs l = none by rw [HPS.out, if_neg (by rw [HRR.out]; exact fun h => hT h.2.2.2)])
                have hTb : ((bs (txt n (prV l) (rVal (prW l) (prS l)))).toList == (bs l).toList) = false := beq_eq_false_iff_ne.2 (fun h => hT (by rwa [bs_toList, bs_toList] at h))
                clear hT
                go_wp2_with (with_reducible refine at_store_ (t := 33) ?_; refine Hid.out ?_)
                refine Lib.hid ?_
                refine put_word (v' := 0) (n' := 0) (r' := 0) rfl (.tmp 2) (.tmp 68) rfl rfl w.heap.size rfl rfl V0.out ?_
                intro wx hx kx
                have HX := Lib.hid hx
                have HBX := Lib.hid (HBT.out.trans (kx.below HBT.out.size (fun k hk e => by omega)))
                clear hx kx
                go_wp2
                try simp only [Exit.inBlock, Exit.then]
                refine bodyPost_ret (v := .tuple #[wd 0 0 0, .int .i64 5]) ?_ rfl ⟨by rw [HPN.out]; rfl, HBX.out⟩
                rw [res_word rfl _ _ w.heap.size 0 0 0 5 rfl rfl HX.out]
            · skip
              have HPN := Lib.hid (show prs l = none by rw [HPS.out, if_neg (fun h => hE (HM1.out.symm.trans h.2.2.1))])
              go_wp2_with (with_reducible refine at_store_ (t := 33) ?_; refine Hid.out ?_)
              refine Lib.hid ?_
              refine put_word (v' := 0) (n' := 0) (r' := 0) rfl (.tmp 2) (.tmp 61) rfl rfl w.heap.size rfl rfl W0.out ?_
              intro wx hx kx
              have HX := Lib.hid hx
              have HBX := Lib.hid (HB9.out.trans (kx.below HB9.out.size (fun k hk e => by omega)))
              clear hx kx
              go_wp2
              try simp only [Exit.inBlock, Exit.then]
              refine bodyPost_ret (v := .tuple #[wd 0 0 0, .int .i64 5]) ?_ rfl ⟨by rw [HPN.out]; rfl, HBX.out⟩
              rw [res_word rfl _ _ w.heap.size 0 0 0 5 rfl rfl HX.out]
          · skip
            have hd2 : decide (0 < prS l) = false := decide_eq_false hps
            have HE0 := Lib.hid (show prE l = 0 by unfold prE; rw [if_neg (fun h => h.elim hpw hps)])
            have HRR := Lib.hid (show prR l = 0 by unfold prR; rw [if_neg (fun h => h.elim hpw hps)])
            have HRL := Lib.hid (show (0 : Int) ≤ 0 ∧ (0 : Int) < 4294967296 by omega)
            obtain ⟨hx1, hk1⟩ := HST.out
            have W1 := Lib.hid hx1
            have W0 := Lib.hid (U0.out.keep hk1 (by omega))
            have HB9 := Lib.hid (HB8.out.trans (hk1.below HB8.out.size (fun k hk e => by omega)))
            clear hx1 hk1
            skip
            go_wp2_with (with_reducible refine at_load_ (t := 33) ?_; refine Hid.out ?_)
            refine Lib.hid ?_
            refine get_word rfl (.tmp 4) rfl (w.heap.size + 1) rfl W1.out ?_
            try simp only [Act.put, List.setIfInBounds_toArray, List.set_cons_zero, List.set_cons_succ]
            go_wp2_with fail
            refine (text_any n (prV l) (0) _ HNB.out.1 HNB.out.2 HRL.out.1 HRL.out.2 HVL.out.1 HVL.out.2 (HW.out.below HB9.out).pow).mono ?_
            rintro e wt ⟨rfl, hbt⟩
            have HBT := Lib.hid (HB9.out.trans (hbt.mono HB9.out.size))
            have V0 := Lib.hid (W0.out.below hbt)
            have V1 := Lib.hid (W1.out.below hbt)
            clear hbt
            rw [show (⟨(txt n (prV l) (0)).toArray⟩ : ByteArray) = bs (txt n (prV l) (0)) from rfl]
            by_cases hT : txt n (prV l) (0) = l
            · skip
              rw [hT]
              have HPN := Lib.hid (show prs l = some (n, prV l, 0) by rw [HPS.out, if_pos ⟨by trivial, by trivial, HE0.out, by rw [HRR.out]; exact hT⟩, HRR.out])
              clear hT
              go_wp2_with (with_reducible refine at_load_ (t := 33) ?_; refine Hid.out ?_)
              refine Lib.hid ?_
              refine get_word rfl (.tmp 4) rfl (w.heap.size + 1) rfl V1.out ?_
              try simp only [Act.put, List.setIfInBounds_toArray, List.set_cons_zero, List.set_cons_succ]
              go_wp2_with (with_reducible refine at_store_ (t := 33) ?_; refine Hid.out ?_)
              refine Lib.hid ?_
              refine put_word (v' := n) (n' := prV l) (r' := 0) rfl (.tmp 2) (.tmp 69) rfl rfl w.heap.size rfl rfl V0.out ?_
              intro wx hx kx
              have HX := Lib.hid hx
              have HBX := Lib.hid (HBT.out.trans (kx.below HBT.out.size (fun k hk e => by omega)))
              clear hx kx
              go_wp2
              try simp only [Exit.inBlock, Exit.then]
              refine bodyPost_ret (v := .tuple #[wd n (prV l) (0), .int .i64 0]) ?_ rfl ⟨by rw [HPN.out]; rfl, HBX.out⟩
              rw [res_word rfl _ _ w.heap.size n (prV l) (0) 0 rfl rfl HX.out]
            · skip
              have HPN := Lib.hid (show prs l = none by rw [HPS.out, if_neg (by rw [HRR.out]; exact fun h => hT h.2.2.2)])
              have hTb : ((bs (txt n (prV l) (0))).toList == (bs l).toList) = false := beq_eq_false_iff_ne.2 (fun h => hT (by rwa [bs_toList, bs_toList] at h))
              clear hT
              go_wp2_with (with_reducible refine at_store_ (t := 33) ?_; refine Hid.out ?_)
              refine Lib.hid ?_
              refine put_word (v' := 0) (n' := 0) (r' := 0) rfl (.tmp 2) (.tmp 68) rfl rfl w.heap.size rfl rfl V0.out ?_
              intro wx hx kx
              have HX := Lib.hid hx
              have HBX := Lib.hid (HBT.out.trans (kx.below HBT.out.size (fun k hk e => by omega)))
              clear hx kx
              go_wp2
              try simp only [Exit.inBlock, Exit.then]
              refine bodyPost_ret (v := .tuple #[wd 0 0 0, .int .i64 5]) ?_ rfl ⟨by rw [HPN.out]; rfl, HBX.out⟩
              rw [res_word rfl _ _ w.heap.size 0 0 0 5 rfl rfl HX.out]
      · skip
        have hBf : prB l = false := by simpa using hBt
        rw [hBf]
        have HPN := Lib.hid (show prs l = none by rw [HPS.out]; try simp [hBf])
        clear hBt hBf
        go_wp2_with (with_reducible refine at_store_ (t := 33) ?_; refine Hid.out ?_)
        refine Lib.hid ?_
        refine put_word (v' := 0) (n' := 0) (r' := 0) rfl (.tmp 2) (.tmp 42) rfl rfl w.heap.size rfl rfl U0.out ?_
        intro wx hx kx
        have HX := Lib.hid hx
        have HBX := Lib.hid (HB8.out.trans (kx.below HB8.out.size (fun k hk e => by omega)))
        clear hx kx
        go_wp2
        try simp only [Exit.inBlock, Exit.then]
        refine bodyPost_ret (v := .tuple #[wd 0 0 0, .int .i64 5]) ?_ rfl ⟨by rw [HPN.out]; rfl, HBX.out⟩
        rw [res_word rfl _ _ w.heap.size 0 0 0 5 rfl rfl HX.out]
    · skip
      have hAf : prA l = false := by simpa using hA
      rw [hAf]
      have HPN := Lib.hid (show prs l = none by rw [HPS.out]; try simp [hAf])
      clear hA hAf
      go_wp2_with (with_reducible refine at_store_ (t := 33) ?_; refine Hid.out ?_)
      refine Lib.hid ?_
      refine put_word (v' := 0) (n' := 0) (r' := 0) rfl (.tmp 2) (.tmp 42) rfl rfl w.heap.size rfl rfl U0.out ?_
      intro wx hx kx
      have HX := Lib.hid hx
      have HBX := Lib.hid (HB8.out.trans (kx.below HB8.out.size (fun k hk e => by omega)))
      clear hx kx
      go_wp2
      try simp only [Exit.inBlock, Exit.then]
      refine bodyPost_ret (v := .tuple #[wd 0 0 0, .int .i64 5]) ?_ rfl ⟨by rw [HPN.out]; rfl, HBX.out⟩
      rw [res_word rfl _ _ w.heap.size 0 0 0 5 rfl rfl HX.out]
  | «syntax» =>
    rw [hN] at hm HPS
    dsimp only at hm HPS
    obtain ⟨xv, tv, pv, rfl⟩ := hm
    clear hN
    by_cases hA : prA l = true
    · skip
      try rw [hA] at HPS
      rw [hA]
      by_cases hBt : prB l = true
      · skip
        try rw [hBt] at HPS
        rw [hBt]
        have HPN := Lib.hid (show prs l = none from HPS.out)
        go_wp2_with (with_reducible refine at_store_ (t := 33) ?_; refine Hid.out ?_)
        refine Lib.hid ?_
        refine put_word (v' := 0) (n' := 0) (r' := 0) rfl (.tmp 2) (.tmp 42) rfl rfl w.heap.size rfl rfl U0.out ?_
        intro wx hx kx
        have HX := Lib.hid hx
        have HBX := Lib.hid (HB8.out.trans (kx.below HB8.out.size (fun k hk e => by omega)))
        clear hx kx
        go_wp2
        try simp only [Exit.inBlock, Exit.then]
        refine bodyPost_ret (v := .tuple #[wd 0 0 0, .int .i64 5]) ?_ rfl ⟨by rw [HPN.out]; rfl, HBX.out⟩
        rw [res_word rfl _ _ w.heap.size 0 0 0 5 rfl rfl HX.out]
      · skip
        have hBf : prB l = false := by simpa using hBt
        rw [hBf]
        have HPN := Lib.hid (show prs l = none by rw [HPS.out]; try simp [hBf])
        clear hBt hBf
        go_wp2_with (with_reducible refine at_store_ (t := 33) ?_; refine Hid.out ?_)
        refine Lib.hid ?_
        refine put_word (v' := 0) (n' := 0) (r' := 0) rfl (.tmp 2) (.tmp 42) rfl rfl w.heap.size rfl rfl U0.out ?_
        intro wx hx kx
        have HX := Lib.hid hx
        have HBX := Lib.hid (HB8.out.trans (kx.below HB8.out.size (fun k hk e => by omega)))
        clear hx kx
        go_wp2
        try simp only [Exit.inBlock, Exit.then]
        refine bodyPost_ret (v := .tuple #[wd 0 0 0, .int .i64 5]) ?_ rfl ⟨by rw [HPN.out]; rfl, HBX.out⟩
        rw [res_word rfl _ _ w.heap.size 0 0 0 5 rfl rfl HX.out]
    · skip
      have hAf : prA l = false := by simpa using hA
      rw [hAf]
      have HPN := Lib.hid (show prs l = none by rw [HPS.out]; try simp [hAf])
      clear hA hAf
      go_wp2_with (with_reducible refine at_store_ (t := 33) ?_; refine Hid.out ?_)
      refine Lib.hid ?_
      refine put_word (v' := 0) (n' := 0) (r' := 0) rfl (.tmp 2) (.tmp 42) rfl rfl w.heap.size rfl rfl U0.out ?_
      intro wx hx kx
      have HX := Lib.hid hx
      have HBX := Lib.hid (HB8.out.trans (kx.below HB8.out.size (fun k hk e => by omega)))
      clear hx kx
      go_wp2
      try simp only [Exit.inBlock, Exit.then]
      refine bodyPost_ret (v := .tuple #[wd 0 0 0, .int .i64 5]) ?_ rfl ⟨by rw [HPN.out]; rfl, HBX.out⟩
      rw [res_word rfl _ _ w.heap.size 0 0 0 5 rfl rfl HX.out]
  | range =>
    rw [hN] at hm HPS
    dsimp only at hm HPS
    obtain ⟨xv, tv, pv, rfl⟩ := hm
    clear hN
    by_cases hA : prA l = true
    · skip
      try rw [hA] at HPS
      rw [hA]
      by_cases hBt : prB l = true
      · skip
        try rw [hBt] at HPS
        rw [hBt]
        have HPN := Lib.hid (show prs l = none from HPS.out)
        go_wp2_with (with_reducible refine at_store_ (t := 33) ?_; refine Hid.out ?_)
        refine Lib.hid ?_
        refine put_word (v' := 0) (n' := 0) (r' := 0) rfl (.tmp 2) (.tmp 42) rfl rfl w.heap.size rfl rfl U0.out ?_
        intro wx hx kx
        have HX := Lib.hid hx
        have HBX := Lib.hid (HB8.out.trans (kx.below HB8.out.size (fun k hk e => by omega)))
        clear hx kx
        go_wp2
        try simp only [Exit.inBlock, Exit.then]
        refine bodyPost_ret (v := .tuple #[wd 0 0 0, .int .i64 5]) ?_ rfl ⟨by rw [HPN.out]; rfl, HBX.out⟩
        rw [res_word rfl _ _ w.heap.size 0 0 0 5 rfl rfl HX.out]
      · skip
        have hBf : prB l = false := by simpa using hBt
        rw [hBf]
        have HPN := Lib.hid (show prs l = none by rw [HPS.out]; try simp [hBf])
        clear hBt hBf
        go_wp2_with (with_reducible refine at_store_ (t := 33) ?_; refine Hid.out ?_)
        refine Lib.hid ?_
        refine put_word (v' := 0) (n' := 0) (r' := 0) rfl (.tmp 2) (.tmp 42) rfl rfl w.heap.size rfl rfl U0.out ?_
        intro wx hx kx
        have HX := Lib.hid hx
        have HBX := Lib.hid (HB8.out.trans (kx.below HB8.out.size (fun k hk e => by omega)))
        clear hx kx
        go_wp2
        try simp only [Exit.inBlock, Exit.then]
        refine bodyPost_ret (v := .tuple #[wd 0 0 0, .int .i64 5]) ?_ rfl ⟨by rw [HPN.out]; rfl, HBX.out⟩
        rw [res_word rfl _ _ w.heap.size 0 0 0 5 rfl rfl HX.out]
    · skip
      have hAf : prA l = false := by simpa using hA
      rw [hAf]
      have HPN := Lib.hid (show prs l = none by rw [HPS.out]; try simp [hAf])
      clear hA hAf
      go_wp2_with (with_reducible refine at_store_ (t := 33) ?_; refine Hid.out ?_)
      refine Lib.hid ?_
      refine put_word (v' := 0) (n' := 0) (r' := 0) rfl (.tmp 2) (.tmp 42) rfl rfl w.heap.size rfl rfl U0.out ?_
      intro wx hx kx
      have HX := Lib.hid hx
      have HBX := Lib.hid (HB8.out.trans (kx.below HB8.out.size (fun k hk e => by omega)))
      clear hx kx
      go_wp2
      try simp only [Exit.inBlock, Exit.then]
      refine bodyPost_ret (v := .tuple #[wd 0 0 0, .int .i64 5]) ?_ rfl ⟨by rw [HPN.out]; rfl, HBX.out⟩
      rw [res_word rfl _ _ w.heap.size 0 0 0 5 rfl rfl HX.out]
end Go.Proofs.YtkccaadhjodhlaaDoor
