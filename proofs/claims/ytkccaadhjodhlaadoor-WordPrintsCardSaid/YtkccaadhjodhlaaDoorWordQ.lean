/- The walks of the closure of word.Parse, of word.part with either reader, of strconv.ParseInt in one contract. Conditions: the laid tables and error variables (PW). -/
import Derived.Test.YtkccaadhjodhlaaDoorWordR
set_option linter.unusedVariables false
set_option linter.unusedSimpArgs false
namespace Go.Proofs.YtkccaadhjodhlaaDoor
open Go.RowKit

/-- A variable of one cell that holds a uint32. -/
def U32 (w : World) (b : Nat) (x : Int) : Prop := w.heap[b]? = some (.cells #[.int .u32 x] 22 (0, 0))
theorem U32.keep {S : Nat → Prop} {w w' : World} {b : Nat} {x : Int} (h : U32 w b x) (k : Keep S w w') (hS : ¬ S b) : U32 w' b x := (k.other b (lt_of_block h) hS).trans h
theorem U32.below {w w' : World} {b : Nat} {x : Int} (h : U32 w b x) (k : Below w.heap.size w w') : U32 w' b x := (k.block b (lt_of_block h)).trans h
theorem U32.cell {w : World} {b : Nat} {x : Int} (h : U32 w b x) : w.cell? ⟨b, 0, none⟩ = some (.int .u32 x) := by rw [cell_of_row _ _ _ _ _ _ h]; rfl
/-- What the closure of word.Parse answers and stores. -/
def fB (l : List UInt8) : Bool := natB (cutC 58 l).1 && (!(cutC 58 l).2.2 || natB (cutC 58 l).2.1)
def fS (l : List UInt8) : Int := if (cutC 58 l).2.2 = true then (natU (cutC 58 l).2.1 : Int) else 0
def fW (l : List UInt8) : Int := (natU (cutC 58 l).1 : Int)

set_option maxRecDepth 100000 in
set_option maxHeartbeats 6400000 in
theorem prsF_a (l : List UInt8) (ps pw : Nat) (wb w : World) (hl : l.length ≤ 100000) (hW : PW wb) (hwb : Below wb.heap.size wb w) (hps : wb.heap.size ≤ ps) (hpw : wb.heap.size ≤ pw) (hne : ps ≠ pw) (hs : U32 w ps 0) (hw : U32 w pw 0) (his : (cutC 58 l).2.2 = true) (hnb : natB (cutC 58 l).1 = true) :
    Calls Tryd.prog 26 #[.string (bs l), .pointer (some ⟨ps, 0, none⟩), .pointer (some ⟨pw, 0, none⟩)] w fun e w' => e = .returned (.bool (fB l)) ∧ Keep (fun k => k = ps ∨ k = pw) w w' ∧ U32 w' ps (fS l) ∧ U32 w' pw (fW l) := by
  have HLN := Lib.hid (cutC_len 58 l)
  have eB : fB l = natB (cutC 58 l).2.1 := by unfold fB; rw [hnb, his]; rfl
  have eS : fS l = (natU (cutC 58 l).2.1 : Int) := by unfold fS; rw [his]; rfl
  rw [eB, eS]
  have eW : fW l = (natU (cutC 58 l).1 : Int) := rfl
  rw [eW]
  have HWB := Lib.hid hW
  have HBB := Lib.hid hwb
  have HPS := Lib.hid hps
  have HPW := Lib.hid hpw
  have HNE := Lib.hid hne
  have HUS := Lib.hid hs
  have HUW := Lib.hid hw
  have HL := Lib.hid hl
  have HNB := Lib.hid hnb
  have HIS := Lib.hid his
  have HPSL := Lib.hid (show ps < w.heap.size from lt_of_block hs)
  have HPWL := Lib.hid (show pw < w.heap.size from lt_of_block hw)
  clear eB eS eW hW hwb hps hpw hne hs hw hl hnb his
  go_enter Tryd.func26, Tryd.ntmps26
  go_wp2_with fail
  refine (natural_any ⟨ps, 0, none⟩ w).mono ?_
  rintro e wa ⟨rfl, rfl⟩
  have hba : Below w.heap.size w (w.alloc (.cells #[.pointer (some ⟨ps, 0, none⟩)] 57)) := (Below.refl _ _).alloc (Nat.le_refl _) _
  have HXA := Lib.hid (show (w.alloc (.cells #[.pointer (some ⟨ps, 0, none⟩)] 57)).cell? ⟨w.heap.size, 0, none⟩ = some (.pointer (some ⟨ps, 0, none⟩)) by rw [cell_of_row _ _ _ _ _ _ (heap_alloc_new w (.cells #[.pointer (some ⟨ps, 0, none⟩)] 57))]; rfl)
  have HXL := Lib.hid (show w.heap.size < (w.alloc (.cells #[.pointer (some ⟨ps, 0, none⟩)] 57)).heap.size by simp)
  have HBA := Lib.hid hba
  clear hba
  generalize w.alloc (.cells #[.pointer (some ⟨ps, 0, none⟩)] 57) = wa at *
  have HBBA := Lib.hid (HBB.out.trans (HBA.out.mono HBB.out.size))
  have HUSA := Lib.hid (HUS.out.below HBA.out)
  have HUWA := Lib.hid (HUW.out.below HBA.out)
  go_wp2_with fail
  refine (partN_yes 58 l ⟨w.heap.size, 0, none⟩ (fun b w1 w2 => b = natB (cutC 58 l).2.1 ∧ Keep (fun k => k = ps) w1 w2 ∧ U32 w2 ps (natU (cutC 58 l).2.1 : Int)) wa HL.out HIS.out (fun w1 hb1 => ?_)).mono ?_
  · exact (natF_any (cutC 58 l).2.1 w.heap.size ps 0 #[.int .u32 0] 22 0 w1 (Nat.le_trans HLN.out.2 HL.out) (HWB.out.below (HBBA.out.trans (hb1.mono HBBA.out.size))) ((hb1.cell (p := ⟨w.heap.size, 0, none⟩) HXL.out).trans HXA.out) (HUSA.out.below hb1) rfl).mono fun e w2 ⟨h1, h2, h3⟩ => ⟨_, h1, rfl, h2, h3⟩
  rintro e w2 ⟨b1, w1, rfl, hb1, rfl, hk, hu⟩
  have HK := Lib.hid (((Keep.of_below HBA.out).trans (Keep.of_below hb1)).trans hk : Keep (fun k => k = ps) w w2)
  have HUS2 := Lib.hid hu
  have HUW2 := Lib.hid (((HUWA.out.below hb1)).keep hk (fun e => HNE.out e.symm))
  clear hb1 hk hu
  have HBB2 := Lib.hid (HBB.out.trans (HK.out.below HBB.out.size (fun k hk e => by have := HPS.out; omega)))
  go_wp2_with fail
  refine (natural_any ⟨pw, 0, none⟩ w2).mono ?_
  rintro e w3 ⟨rfl, rfl⟩
  have hba : Below w2.heap.size w2 (w2.alloc (.cells #[.pointer (some ⟨pw, 0, none⟩)] 57)) := (Below.refl _ _).alloc (Nat.le_refl _) _
  have HX3 := Lib.hid (show (w2.alloc (.cells #[.pointer (some ⟨pw, 0, none⟩)] 57)).cell? ⟨w2.heap.size, 0, none⟩ = some (.pointer (some ⟨pw, 0, none⟩)) by rw [cell_of_row _ _ _ _ _ _ (heap_alloc_new w2 (.cells #[.pointer (some ⟨pw, 0, none⟩)] 57))]; rfl)
  have HB3 := Lib.hid hba
  clear hba
  generalize w2.alloc (.cells #[.pointer (some ⟨pw, 0, none⟩)] 57) = w3 at *
  have HBB3 := Lib.hid (HBB2.out.trans (HB3.out.mono HBB2.out.size))
  go_wp2_with fail
  refine (natF_any (cutC 58 l).1 w2.heap.size pw 0 #[.int .u32 0] 22 0 w3 (Nat.le_trans HLN.out.1 HL.out) (HWB.out.below HBB3.out) HX3.out (HUW2.out.below HB3.out) rfl).mono ?_
  rw [HNB.out]
  rintro e w4 ⟨rfl, hk4, hu4⟩
  have HK4 := Lib.hid (show Keep (fun k => k = ps ∨ k = pw) w w4 from ((HK.out.mono fun k e => .inl e).trans (Keep.of_below HB3.out)).trans (hk4.mono fun k e => .inr e))
  have HU4 := Lib.hid (show U32 w4 pw _ from hu4)
  have HS4 := Lib.hid ((HUS2.out.below HB3.out).keep hk4 HNE.out)
  clear hk4 hu4
  go_wp2
  go_ret
  exact ⟨by first | rfl | simp, HK4.out, HS4.out, HU4.out⟩
set_option maxRecDepth 100000 in
set_option maxHeartbeats 6400000 in
theorem prsF_b (l : List UInt8) (ps pw : Nat) (wb w : World) (hl : l.length ≤ 100000) (hW : PW wb) (hwb : Below wb.heap.size wb w) (hps : wb.heap.size ≤ ps) (hpw : wb.heap.size ≤ pw) (hne : ps ≠ pw) (hs : U32 w ps 0) (hw : U32 w pw 0) (his : (cutC 58 l).2.2 = true) (hnb : natB (cutC 58 l).1 = false) :
    Calls Tryd.prog 26 #[.string (bs l), .pointer (some ⟨ps, 0, none⟩), .pointer (some ⟨pw, 0, none⟩)] w fun e w' => e = .returned (.bool (fB l)) ∧ Keep (fun k => k = ps ∨ k = pw) w w' ∧ U32 w' ps (fS l) ∧ U32 w' pw (fW l) := by
  have HLN := Lib.hid (cutC_len 58 l)
  have eB : fB l = false := by unfold fB; rw [hnb]; rfl
  have eS : fS l = (natU (cutC 58 l).2.1 : Int) := by unfold fS; rw [his]; rfl
  rw [eB, eS]
  have eW : fW l = (natU (cutC 58 l).1 : Int) := rfl
  rw [eW]
  have HWB := Lib.hid hW
  have HBB := Lib.hid hwb
  have HPS := Lib.hid hps
  have HPW := Lib.hid hpw
  have HNE := Lib.hid hne
  have HUS := Lib.hid hs
  have HUW := Lib.hid hw
  have HL := Lib.hid hl
  have HNB := Lib.hid hnb
  have HIS := Lib.hid his
  have HPSL := Lib.hid (show ps < w.heap.size from lt_of_block hs)
  have HPWL := Lib.hid (show pw < w.heap.size from lt_of_block hw)
  clear eB eS eW hW hwb hps hpw hne hs hw hl hnb his
  go_enter Tryd.func26, Tryd.ntmps26
  go_wp2_with fail
  refine (natural_any ⟨ps, 0, none⟩ w).mono ?_
  rintro e wa ⟨rfl, rfl⟩
  have hba : Below w.heap.size w (w.alloc (.cells #[.pointer (some ⟨ps, 0, none⟩)] 57)) := (Below.refl _ _).alloc (Nat.le_refl _) _
  have HXA := Lib.hid (show (w.alloc (.cells #[.pointer (some ⟨ps, 0, none⟩)] 57)).cell? ⟨w.heap.size, 0, none⟩ = some (.pointer (some ⟨ps, 0, none⟩)) by rw [cell_of_row _ _ _ _ _ _ (heap_alloc_new w (.cells #[.pointer (some ⟨ps, 0, none⟩)] 57))]; rfl)
  have HXL := Lib.hid (show w.heap.size < (w.alloc (.cells #[.pointer (some ⟨ps, 0, none⟩)] 57)).heap.size by simp)
  have HBA := Lib.hid hba
  clear hba
  generalize w.alloc (.cells #[.pointer (some ⟨ps, 0, none⟩)] 57) = wa at *
  have HBBA := Lib.hid (HBB.out.trans (HBA.out.mono HBB.out.size))
  have HUSA := Lib.hid (HUS.out.below HBA.out)
  have HUWA := Lib.hid (HUW.out.below HBA.out)
  go_wp2_with fail
  refine (partN_yes 58 l ⟨w.heap.size, 0, none⟩ (fun b w1 w2 => b = natB (cutC 58 l).2.1 ∧ Keep (fun k => k = ps) w1 w2 ∧ U32 w2 ps (natU (cutC 58 l).2.1 : Int)) wa HL.out HIS.out (fun w1 hb1 => ?_)).mono ?_
  · exact (natF_any (cutC 58 l).2.1 w.heap.size ps 0 #[.int .u32 0] 22 0 w1 (Nat.le_trans HLN.out.2 HL.out) (HWB.out.below (HBBA.out.trans (hb1.mono HBBA.out.size))) ((hb1.cell (p := ⟨w.heap.size, 0, none⟩) HXL.out).trans HXA.out) (HUSA.out.below hb1) rfl).mono fun e w2 ⟨h1, h2, h3⟩ => ⟨_, h1, rfl, h2, h3⟩
  rintro e w2 ⟨b1, w1, rfl, hb1, rfl, hk, hu⟩
  have HK := Lib.hid (((Keep.of_below HBA.out).trans (Keep.of_below hb1)).trans hk : Keep (fun k => k = ps) w w2)
  have HUS2 := Lib.hid hu
  have HUW2 := Lib.hid (((HUWA.out.below hb1)).keep hk (fun e => HNE.out e.symm))
  clear hb1 hk hu
  have HBB2 := Lib.hid (HBB.out.trans (HK.out.below HBB.out.size (fun k hk e => by have := HPS.out; omega)))
  go_wp2_with fail
  refine (natural_any ⟨pw, 0, none⟩ w2).mono ?_
  rintro e w3 ⟨rfl, rfl⟩
  have hba : Below w2.heap.size w2 (w2.alloc (.cells #[.pointer (some ⟨pw, 0, none⟩)] 57)) := (Below.refl _ _).alloc (Nat.le_refl _) _
  have HX3 := Lib.hid (show (w2.alloc (.cells #[.pointer (some ⟨pw, 0, none⟩)] 57)).cell? ⟨w2.heap.size, 0, none⟩ = some (.pointer (some ⟨pw, 0, none⟩)) by rw [cell_of_row _ _ _ _ _ _ (heap_alloc_new w2 (.cells #[.pointer (some ⟨pw, 0, none⟩)] 57))]; rfl)
  have HB3 := Lib.hid hba
  clear hba
  generalize w2.alloc (.cells #[.pointer (some ⟨pw, 0, none⟩)] 57) = w3 at *
  have HBB3 := Lib.hid (HBB2.out.trans (HB3.out.mono HBB2.out.size))
  go_wp2_with fail
  refine (natF_any (cutC 58 l).1 w2.heap.size pw 0 #[.int .u32 0] 22 0 w3 (Nat.le_trans HLN.out.1 HL.out) (HWB.out.below HBB3.out) HX3.out (HUW2.out.below HB3.out) rfl).mono ?_
  rw [HNB.out]
  rintro e w4 ⟨rfl, hk4, hu4⟩
  have HK4 := Lib.hid (show Keep (fun k => k = ps ∨ k = pw) w w4 from ((HK.out.mono fun k e => .inl e).trans (Keep.of_below HB3.out)).trans (hk4.mono fun k e => .inr e))
  have HU4 := Lib.hid (show U32 w4 pw _ from hu4)
  have HS4 := Lib.hid ((HUS2.out.below HB3.out).keep hk4 HNE.out)
  clear hk4 hu4
  go_wp2
  go_ret
  exact ⟨by first | rfl | simp, HK4.out, HS4.out, HU4.out⟩
set_option maxRecDepth 100000 in
set_option maxHeartbeats 6400000 in
theorem prsF_c (l : List UInt8) (ps pw : Nat) (wb w : World) (hl : l.length ≤ 100000) (hW : PW wb) (hwb : Below wb.heap.size wb w) (hps : wb.heap.size ≤ ps) (hpw : wb.heap.size ≤ pw) (hne : ps ≠ pw) (hs : U32 w ps 0) (hw : U32 w pw 0) (his : (cutC 58 l).2.2 = false) (hnb : natB (cutC 58 l).1 = true) :
    Calls Tryd.prog 26 #[.string (bs l), .pointer (some ⟨ps, 0, none⟩), .pointer (some ⟨pw, 0, none⟩)] w fun e w' => e = .returned (.bool (fB l)) ∧ Keep (fun k => k = ps ∨ k = pw) w w' ∧ U32 w' ps (fS l) ∧ U32 w' pw (fW l) := by
  have HLN := Lib.hid (cutC_len 58 l)
  have eB : fB l = true := by unfold fB; rw [hnb, his]; rfl
  have eS : fS l = 0 := by unfold fS; rw [his]; rfl
  rw [eB, eS]
  have eW : fW l = (natU (cutC 58 l).1 : Int) := rfl
  rw [eW]
  have HWB := Lib.hid hW
  have HBB := Lib.hid hwb
  have HPS := Lib.hid hps
  have HPW := Lib.hid hpw
  have HNE := Lib.hid hne
  have HUS := Lib.hid hs
  have HUW := Lib.hid hw
  have HL := Lib.hid hl
  have HNB := Lib.hid hnb
  have HIS := Lib.hid his
  have HPSL := Lib.hid (show ps < w.heap.size from lt_of_block hs)
  have HPWL := Lib.hid (show pw < w.heap.size from lt_of_block hw)
  clear eB eS eW hW hwb hps hpw hne hs hw hl hnb his
  go_enter Tryd.func26, Tryd.ntmps26
  go_wp2_with fail
  refine (natural_any ⟨ps, 0, none⟩ w).mono ?_
  rintro e wa ⟨rfl, rfl⟩
  have hba : Below w.heap.size w (w.alloc (.cells #[.pointer (some ⟨ps, 0, none⟩)] 57)) := (Below.refl _ _).alloc (Nat.le_refl _) _
  have HXA := Lib.hid (show (w.alloc (.cells #[.pointer (some ⟨ps, 0, none⟩)] 57)).cell? ⟨w.heap.size, 0, none⟩ = some (.pointer (some ⟨ps, 0, none⟩)) by rw [cell_of_row _ _ _ _ _ _ (heap_alloc_new w (.cells #[.pointer (some ⟨ps, 0, none⟩)] 57))]; rfl)
  have HXL := Lib.hid (show w.heap.size < (w.alloc (.cells #[.pointer (some ⟨ps, 0, none⟩)] 57)).heap.size by simp)
  have HBA := Lib.hid hba
  clear hba
  generalize w.alloc (.cells #[.pointer (some ⟨ps, 0, none⟩)] 57) = wa at *
  have HBBA := Lib.hid (HBB.out.trans (HBA.out.mono HBB.out.size))
  have HUSA := Lib.hid (HUS.out.below HBA.out)
  have HUWA := Lib.hid (HUW.out.below HBA.out)
  go_wp2_with fail
  refine (partN_no 58 l ⟨w.heap.size, 0, none⟩ wa HL.out HIS.out).mono ?_
  rintro e w2 ⟨rfl, hb1⟩
  have HK := Lib.hid ((Keep.of_below HBA.out).trans (Keep.of_below hb1) : Keep (fun k => k = ps) w w2)
  have HUS2 := Lib.hid (HUSA.out.below hb1)
  have HUW2 := Lib.hid (HUWA.out.below hb1)
  clear hb1
  have HBB2 := Lib.hid (HBB.out.trans (HK.out.below HBB.out.size (fun k hk e => by have := HPS.out; omega)))
  go_wp2_with fail
  refine (natural_any ⟨pw, 0, none⟩ w2).mono ?_
  rintro e w3 ⟨rfl, rfl⟩
  have hba : Below w2.heap.size w2 (w2.alloc (.cells #[.pointer (some ⟨pw, 0, none⟩)] 57)) := (Below.refl _ _).alloc (Nat.le_refl _) _
  have HX3 := Lib.hid (show (w2.alloc (.cells #[.pointer (some ⟨pw, 0, none⟩)] 57)).cell? ⟨w2.heap.size, 0, none⟩ = some (.pointer (some ⟨pw, 0, none⟩)) by rw [cell_of_row _ _ _ _ _ _ (heap_alloc_new w2 (.cells #[.pointer (some ⟨pw, 0, none⟩)] 57))]; rfl)
  have HB3 := Lib.hid hba
  clear hba
  generalize w2.alloc (.cells #[.pointer (some ⟨pw, 0, none⟩)] 57) = w3 at *
  have HBB3 := Lib.hid (HBB2.out.trans (HB3.out.mono HBB2.out.size))
  go_wp2_with fail
  refine (natF_any (cutC 58 l).1 w2.heap.size pw 0 #[.int .u32 0] 22 0 w3 (Nat.le_trans HLN.out.1 HL.out) (HWB.out.below HBB3.out) HX3.out (HUW2.out.below HB3.out) rfl).mono ?_
  rw [HNB.out]
  rintro e w4 ⟨rfl, hk4, hu4⟩
  have HK4 := Lib.hid (show Keep (fun k => k = ps ∨ k = pw) w w4 from ((HK.out.mono fun k e => .inl e).trans (Keep.of_below HB3.out)).trans (hk4.mono fun k e => .inr e))
  have HU4 := Lib.hid (show U32 w4 pw _ from hu4)
  have HS4 := Lib.hid ((HUS2.out.below HB3.out).keep hk4 HNE.out)
  clear hk4 hu4
  go_wp2
  go_ret
  exact ⟨by first | rfl | simp, HK4.out, HS4.out, HU4.out⟩
set_option maxRecDepth 100000 in
set_option maxHeartbeats 6400000 in
theorem prsF_d (l : List UInt8) (ps pw : Nat) (wb w : World) (hl : l.length ≤ 100000) (hW : PW wb) (hwb : Below wb.heap.size wb w) (hps : wb.heap.size ≤ ps) (hpw : wb.heap.size ≤ pw) (hne : ps ≠ pw) (hs : U32 w ps 0) (hw : U32 w pw 0) (his : (cutC 58 l).2.2 = false) (hnb : natB (cutC 58 l).1 = false) :
    Calls Tryd.prog 26 #[.string (bs l), .pointer (some ⟨ps, 0, none⟩), .pointer (some ⟨pw, 0, none⟩)] w fun e w' => e = .returned (.bool (fB l)) ∧ Keep (fun k => k = ps ∨ k = pw) w w' ∧ U32 w' ps (fS l) ∧ U32 w' pw (fW l) := by
  have HLN := Lib.hid (cutC_len 58 l)
  have eB : fB l = false := by unfold fB; rw [hnb]; rfl
  have eS : fS l = 0 := by unfold fS; rw [his]; rfl
  rw [eB, eS]
  have eW : fW l = (natU (cutC 58 l).1 : Int) := rfl
  rw [eW]
  have HWB := Lib.hid hW
  have HBB := Lib.hid hwb
  have HPS := Lib.hid hps
  have HPW := Lib.hid hpw
  have HNE := Lib.hid hne
  have HUS := Lib.hid hs
  have HUW := Lib.hid hw
  have HL := Lib.hid hl
  have HNB := Lib.hid hnb
  have HIS := Lib.hid his
  have HPSL := Lib.hid (show ps < w.heap.size from lt_of_block hs)
  have HPWL := Lib.hid (show pw < w.heap.size from lt_of_block hw)
  clear eB eS eW hW hwb hps hpw hne hs hw hl hnb his
  go_enter Tryd.func26, Tryd.ntmps26
  go_wp2_with fail
  refine (natural_any ⟨ps, 0, none⟩ w).mono ?_
  rintro e wa ⟨rfl, rfl⟩
  have hba : Below w.heap.size w (w.alloc (.cells #[.pointer (some ⟨ps, 0, none⟩)] 57)) := (Below.refl _ _).alloc (Nat.le_refl _) _
  have HXA := Lib.hid (show (w.alloc (.cells #[.pointer (some ⟨ps, 0, none⟩)] 57)).cell? ⟨w.heap.size, 0, none⟩ = some (.pointer (some ⟨ps, 0, none⟩)) by rw [cell_of_row _ _ _ _ _ _ (heap_alloc_new w (.cells #[.pointer (some ⟨ps, 0, none⟩)] 57))]; rfl)
  have HXL := Lib.hid (show w.heap.size < (w.alloc (.cells #[.pointer (some ⟨ps, 0, none⟩)] 57)).heap.size by simp)
  have HBA := Lib.hid hba
  clear hba
  generalize w.alloc (.cells #[.pointer (some ⟨ps, 0, none⟩)] 57) = wa at *
  have HBBA := Lib.hid (HBB.out.trans (HBA.out.mono HBB.out.size))
  have HUSA := Lib.hid (HUS.out.below HBA.out)
  have HUWA := Lib.hid (HUW.out.below HBA.out)
  go_wp2_with fail
  refine (partN_no 58 l ⟨w.heap.size, 0, none⟩ wa HL.out HIS.out).mono ?_
  rintro e w2 ⟨rfl, hb1⟩
  have HK := Lib.hid ((Keep.of_below HBA.out).trans (Keep.of_below hb1) : Keep (fun k => k = ps) w w2)
  have HUS2 := Lib.hid (HUSA.out.below hb1)
  have HUW2 := Lib.hid (HUWA.out.below hb1)
  clear hb1
  have HBB2 := Lib.hid (HBB.out.trans (HK.out.below HBB.out.size (fun k hk e => by have := HPS.out; omega)))
  go_wp2_with fail
  refine (natural_any ⟨pw, 0, none⟩ w2).mono ?_
  rintro e w3 ⟨rfl, rfl⟩
  have hba : Below w2.heap.size w2 (w2.alloc (.cells #[.pointer (some ⟨pw, 0, none⟩)] 57)) := (Below.refl _ _).alloc (Nat.le_refl _) _
  have HX3 := Lib.hid (show (w2.alloc (.cells #[.pointer (some ⟨pw, 0, none⟩)] 57)).cell? ⟨w2.heap.size, 0, none⟩ = some (.pointer (some ⟨pw, 0, none⟩)) by rw [cell_of_row _ _ _ _ _ _ (heap_alloc_new w2 (.cells #[.pointer (some ⟨pw, 0, none⟩)] 57))]; rfl)
  have HB3 := Lib.hid hba
  clear hba
  generalize w2.alloc (.cells #[.pointer (some ⟨pw, 0, none⟩)] 57) = w3 at *
  have HBB3 := Lib.hid (HBB2.out.trans (HB3.out.mono HBB2.out.size))
  go_wp2_with fail
  refine (natF_any (cutC 58 l).1 w2.heap.size pw 0 #[.int .u32 0] 22 0 w3 (Nat.le_trans HLN.out.1 HL.out) (HWB.out.below HBB3.out) HX3.out (HUW2.out.below HB3.out) rfl).mono ?_
  rw [HNB.out]
  rintro e w4 ⟨rfl, hk4, hu4⟩
  have HK4 := Lib.hid (show Keep (fun k => k = ps ∨ k = pw) w w4 from ((HK.out.mono fun k e => .inl e).trans (Keep.of_below HB3.out)).trans (hk4.mono fun k e => .inr e))
  have HU4 := Lib.hid (show U32 w4 pw _ from hu4)
  have HS4 := Lib.hid ((HUS2.out.below HB3.out).keep hk4 HNE.out)
  clear hk4 hu4
  go_wp2
  go_ret
  exact ⟨by first | rfl | simp, HK4.out, HS4.out, HU4.out⟩
theorem prsF_any (l : List UInt8) (ps pw : Nat) (wb w : World) (hl : l.length ≤ 100000) (hW : PW wb) (hwb : Below wb.heap.size wb w) (hps : wb.heap.size ≤ ps) (hpw : wb.heap.size ≤ pw) (hne : ps ≠ pw) (hs : U32 w ps 0) (hw : U32 w pw 0) :
    Calls Tryd.prog 26 #[.string (bs l), .pointer (some ⟨ps, 0, none⟩), .pointer (some ⟨pw, 0, none⟩)] w fun e w' => e = .returned (.bool (fB l)) ∧ Keep (fun k => k = ps ∨ k = pw) w w' ∧ U32 w' ps (fS l) ∧ U32 w' pw (fW l) := by
  cases his : (cutC 58 l).2.2 <;> cases hnb : natB (cutC 58 l).1
  · exact prsF_d l ps pw wb w hl hW hwb hps hpw hne hs hw his hnb
  · exact prsF_c l ps pw wb w hl hW hwb hps hpw hne hs hw his hnb
  · exact prsF_b l ps pw wb w hl hW hwb hps hpw hne hs hw his hnb
  · exact prsF_a l ps pw wb w hl hW hwb hps hpw hne hs hw his hnb
/-- word.part with the closure of word.Parse. -/
theorem partP_any (l : List UInt8) (ps pw : Nat) (wb w : World) (hl : l.length ≤ 100000) (hW : PW wb) (hwb : Below wb.heap.size wb w) (hps : wb.heap.size ≤ ps) (hpw : wb.heap.size ≤ pw) (hne : ps ≠ pw) (hs : U32 w ps 0) (hw : U32 w pw 0) :
    Calls Tryd.prog 25 #[.string (bs l), .string ⟨#[35]⟩, .func (.func 26) #[] #[.pointer (some ⟨ps, 0, none⟩), .pointer (some ⟨pw, 0, none⟩)]] w fun e w' => e = .returned (.tuple #[.string (bs (cutC 35 l).1), .bool (prA l)]) ∧ Keep (fun k => k = ps ∨ k = pw) w w' ∧ U32 w' ps (prS l) ∧ U32 w' pw (prW l) := by
  have hln := cutC_len 35 l
  cases his : (cutC 35 l).2.2 with
  | false =>
    refine (partP_no 35 l ⟨ps, 0, none⟩ ⟨pw, 0, none⟩ w hl his).mono fun e w' ⟨h1, h2⟩ => ⟨?_, Keep.of_below h2, ?_, ?_⟩
    · rw [h1]; unfold prA; rw [his]; rfl
    · rw [show prS l = 0 by unfold prS; rw [his]; rfl]; exact hs.below h2
    · rw [show prW l = 0 by unfold prW; rw [his]; rfl]; exact hw.below h2
  | true =>
    refine (partP_yes 35 l ⟨ps, 0, none⟩ ⟨pw, 0, none⟩ (fun b w1 w2 => b = fB (cutC 35 l).2.1 ∧ Keep (fun k => k = ps ∨ k = pw) w1 w2 ∧ U32 w2 ps (fS (cutC 35 l).2.1) ∧ U32 w2 pw (fW (cutC 35 l).2.1)) w hl his (fun w1 hb1 => ?_)).mono ?_
    · exact (prsF_any (cutC 35 l).2.1 ps pw wb w1 (by omega) hW (hwb.trans (hb1.mono hwb.size)) hps hpw hne (hs.below hb1) (hw.below hb1)).mono fun e w2 ⟨h1, h2⟩ => ⟨_, h1, rfl, h2⟩
    · rintro e w2 ⟨b, w1, rfl, hb1, rfl, h2, h3, h4⟩
      refine ⟨?_, (Keep.of_below hb1).trans h2, ?_, ?_⟩
      · unfold prA fB; rw [his]; rfl
      · rw [show prS l = fS (cutC 35 l).2.1 by unfold prS fS; rw [his]; simp]; exact h3
      · rw [show prW l = fW (cutC 35 l).2.1 by unfold prW fW; rw [his]; rfl]; exact h4
/-- word.part with 'natural' of the version in a word's block q; the box b holds its address. -/
theorem partV_any (l : List UInt8) (b q : Nat) (v r : Int) (wb w : World) (hl : l.length ≤ 100000) (hW : PW wb) (hwb : Below wb.heap.size wb w) (hq : wb.heap.size ≤ q) (hb : w.cell? ⟨b, 0, none⟩ = some (.pointer (some ⟨q, 1, none⟩))) (hw : w.heap[q]? = some (wdO v 0 r)) :
    Calls Tryd.prog 25 #[.string (bs l), .string ⟨#[46]⟩, .func (.func 35) #[] #[.pointer (some ⟨b, 0, none⟩)]] w fun e w' => e = .returned (.tuple #[.string (bs (cutC 46 l).1), .bool (!(cutC 46 l).2.2 || natB (cutC 46 l).2.1)]) ∧ Keep (fun k => k = q) w w' ∧ w'.heap[q]? = some (wdO v (if (cutC 46 l).2.2 = true then (natU (cutC 46 l).2.1 : Int) else 0) r) := by
  have hln := cutC_len 46 l
  cases his : (cutC 46 l).2.2 with
  | false =>
    refine (partN_no 46 l ⟨b, 0, none⟩ w hl his).mono fun e w' ⟨h1, h2⟩ => ⟨?_, Keep.of_below h2, ?_⟩
    · rw [h1]; rfl
    · exact (h2.block q (lt_of_block hw)).trans hw
  | true =>
    refine (partN_yes 46 l ⟨b, 0, none⟩ (fun bb w1 w2 => bb = natB (cutC 46 l).2.1 ∧ Keep (fun k => k = q) w1 w2 ∧ w2.heap[q]? = some (wdO v (natU (cutC 46 l).2.1 : Int) r)) w hl his (fun w1 hb1 => ?_)).mono ?_
    · exact (natF_any (cutC 46 l).2.1 b q 1 #[.int .i64 v, .int .u32 0, .int .u32 r] 33 0 w1 (by omega) (hW.below (hwb.trans (hb1.mono hwb.size))) ((hb1.cell (p := ⟨b, 0, none⟩) (World.block_lt_of_cell? _ _ hb)).trans hb) ((hb1.block q (lt_of_block hw)).trans hw) rfl).mono fun e w2 ⟨h1, h2, h3⟩ => ⟨_, h1, rfl, h2, h3⟩
    · rintro e w2 ⟨bb, w1, rfl, hb1, rfl, h2, h3⟩
      exact ⟨rfl, (Keep.of_below hb1).trans h2, h3⟩
/-- strconv.ParseInt in one contract. -/
theorem parseI_any (l : List UInt8) (w : World) (hl : l.length ≤ 100000) (hW : PW w) :
    Calls Tryd.prog 28 #[.string (bs l), .int .i64 10, .int .i64 64] w fun e w' => Below w.heap.size w w' ∧ match Lib.parseIntB 64 l with
      | .ok v => e = .returned (.tuple #[.int .i64 v, .nilIface])
      | .syntax => ∃ x t p, e = .returned (.tuple #[.int .i64 x, .iface t p])
      | .range => ∃ x t p, e = .returned (.tuple #[.int .i64 x, .iface t p]) := by
  have hsz := bs_size l
  obtain ⟨_, ⟨ev1, hs1, hs2⟩, ev2, hr1, hr2⟩ := hW
  cases hp : Lib.parseIntB 64 l with
  | ok u => exact (Tryd.strconv_ParseInt_10_at64_ok (bs l) (by omega) u hp w).mono fun e w' ⟨h1, h2⟩ => ⟨h2.elim (fun e => e ▸ Below.refl _ _) (fun ⟨t, e⟩ => e ▸ Lib.bytesWorld_below _ _ _), h1⟩
  | «syntax» => exact (Tryd.strconv_ParseInt_10_at64_syntax (bs l) (by omega) hp ev1 w hs1 hs2).mono fun e w' ⟨N, h1, _, _, h2⟩ => ⟨h2, _, _, _, h1⟩
  | range => exact (Tryd.strconv_ParseInt_10_at64_range (bs l) (by omega) hp ev2 w hr1 hr2).mono fun e w' ⟨N, h1, _, _, h2⟩ => ⟨h2, _, _, _, h1⟩
end Go.Proofs.YtkccaadhjodhlaaDoor
