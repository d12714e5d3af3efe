/- The walks of strings.Cut (at a separator of one byte), of word.natural, word.part and the closure of word.Parse. Conditions: the laid tables and error variables (PW). -/
import Derived.Test.YtkccaadhjodhlaaDoorWordP
import Derived.Test.YtkccaadhjodhlaaDoorWordZ
set_option linter.unusedVariables false
set_option linter.unusedSimpArgs false
namespace Go.Proofs.YtkccaadhjodhlaaDoor
open Go.RowKit

/-- A string out of its bytes. -/
def bs (l : List UInt8) : ByteArray := ⟨⟨l⟩⟩
theorem bs_eta (s : ByteArray) : bs s.data.toList = s := by obtain ⟨⟨l⟩⟩ := s; rfl
theorem bs_list (l : List UInt8) : (bs l).data.toList = l := rfl
theorem bs_size (l : List UInt8) : (bs l).size = l.length := rfl
theorem bs_extract (l : List UInt8) (a b : Nat) : (bs l).extract a b = bs ((l.drop a).take (b - a)) := by
  rw [← bs_eta ((bs l).extract a b), ← Lib.toList_data, Lib.extract_toList, bs_list]
theorem bs_tail (l : List UInt8) (a : Nat) : (bs l).extract a (bs l).size = bs (l.drop a) := by
  rw [bs_extract, bs_size, List.take_of_length_le (by simp)]
theorem bs_head (l : List UInt8) (b : Nat) : (bs l).extract 0 b = bs (l.take b) := by
  rw [bs_extract, List.drop_zero, Nat.sub_zero]
theorem bs_inj {a b : List UInt8} (h : bs a = bs b) : a = b := by
  have := congrArg (fun s => s.data.toList) h
  exact this
theorem below_drewN' {B : Nat} {w W : World} (h : Below B w W) (n : Nat) : Below B w (W.drewN n) := ⟨h.os, h.tape, h.output, h.size, h.block⟩
/-- The laid table and the two error variables. -/
structure PW (w : World) : Prop where
  pow : Pow w
  es : ∃ ev, w.cell? ⟨1, 0, none⟩ = some ev ∧ (ev = .nilIface ∨ ∃ te pe, ev = .iface te pe)
  er : ∃ ev, w.cell? ⟨2, 0, none⟩ = some ev ∧ (ev = .nilIface ∨ ∃ te pe, ev = .iface te pe)
theorem PW.below {w w' : World} (h : PW w) (hb : Below w.heap.size w w') : PW w' := by
  obtain ⟨h0, ⟨e1, h1, k1⟩, e2, h2, k2⟩ := h
  exact ⟨h0.below hb, ⟨e1, (hb.cell (p := ⟨_, 0, none⟩) (World.block_lt_of_cell? _ _ h1)).trans h1, k1⟩, e2, (hb.cell (p := ⟨_, 0, none⟩) (World.block_lt_of_cell? _ _ h2)).trans h2, k2⟩
/-- Of what was there, only blocks of S have turned. -/
structure Keep (S : Nat → Prop) (w w' : World) : Prop where
  os : w'.os = w.os
  tape : w'.tape = w.tape
  output : w'.output = w.output
  size : w.heap.size ≤ w'.heap.size
  other : ∀ k, k < w.heap.size → ¬ S k → w'.heap[k]? = w.heap[k]?
section
variable {S T : Nat → Prop} {w w' w2 : World} {q b : Nat}
theorem Keep.of_below (h : Below w.heap.size w w') : Keep S w w' := ⟨h.os, h.tape, h.output, h.size, fun k hk _ => h.block k hk⟩
theorem Keep.trans (h : Keep S w w') (k : Keep S w' w2) : Keep S w w2 :=
  ⟨k.os.trans h.os, k.tape.trans h.tape, k.output.trans h.output, Nat.le_trans h.size k.size, fun i hi hS => (k.other i (Nat.lt_of_lt_of_le hi h.size) hS).trans (h.other i hi hS)⟩
theorem Keep.mono (h : Keep S w w') (hS : ∀ k, S k → T k) : Keep T w w' := ⟨h.os, h.tape, h.output, h.size, fun k hk hT => h.other k hk fun e => hT (hS k e)⟩
theorem Keep.below {B : Nat} (h : Keep S w w') (hB : B ≤ w.heap.size) (hS : ∀ k, k < B → ¬ S k) : Below B w w' := ⟨h.os, h.tape, h.output, h.size, fun k hk => h.other k (Nat.lt_of_lt_of_le hk hB) (hS k hk)⟩
theorem Keep.setRow (h : Keep S w w') (hq : S q) (cs : Array Value) : Keep S w (w'.setRow q cs) :=
  ⟨h.os, h.tape, h.output, by simpa [World.setRow] using h.size, fun k hk hS => (setRow_other w' q k cs (fun e => hS (e ▸ hq))).trans (h.other k hk hS)⟩
theorem Keep.cell {p : Addr} (h : Keep S w w') (hp : p.block < w.heap.size) (hS : ¬ S p.block) : w'.cell? p = w.cell? p := World.cell?_of_block (h.other _ hp hS)
/-- A store into a cell of a row. -/
theorem Keep.setCell {cs : Array Value} {t : TypeId} {off : Nat} (h : Keep S w w') (hq : S q) (hr : w'.heap[q]? = some (.cells cs t (0, 0))) (v : Value) :
    Keep S w (w'.setCell ⟨q, off, none⟩ v) ∧ (w'.setCell ⟨q, off, none⟩ v).heap[q]? = some (.cells (cs.setIfInBounds off v) t (0, 0)) := by
  rw [setCell_eq_setRow w' q off _ _ _ v hr]
  exact ⟨h.setRow hq _, setRow_heap _ _ _ _ _ _ hr⟩
theorem nofrozen {cs : Array Value} {t : TypeId} (h : w.heap[b]? = some (.cells cs t (0, 0))) (o : Nat) : w.frozen? ⟨b, o, none⟩ = false := by simp [World.frozen?, h]
end

set_option maxRecDepth 100000 in
set_option maxHeartbeats 3200000 in
theorem cutI_any (c : UInt8) (l : List UInt8) (w : World) (hl : l.length ≤ 100000) :
    Calls Tryd.prog 43 #[.string (bs l), .string ⟨#[c]⟩] w fun e w' => e = .returned (.tuple #[.string (bs (cutC c l).1), .string (bs (cutC c l).2.1), .bool (cutC c l).2.2]) ∧ Below w.heap.size w w' := by
  have HI := Lib.hid (Tryd.stringslite_Index_one (bs l) c w)
  have hsz := bs_size l
  have hli : (l.length : Int) ≤ 100000 := by omega
  rw [bs_list] at HI
  rcases cutC_of (c := c) (l := l) with ⟨h1, h2⟩ | ⟨k, h1, h2, h3⟩
  · rw [h1] at HI
    rw [h2]
    clear h1 h2 hl
    go_enter Tryd.func43, Tryd.ntmps43
    go_wp2_with fail
    refine HI.out.mono ?_
    rintro e w1 ⟨rfl, rfl⟩
    go_wp2
    go_ret3
    exact ⟨rfl, Below.refl _ _⟩
  · rw [h1] at HI
    rw [h3]
    have hki : (k : Int) < (l.length : Int) := by omega
    have hk0 : (0 : Int) ≤ (k : Int) := by omega
    have hks : (k : Int) ≤ ((bs l).size : Int) := by omega
    have hks1 : (k : Int) + 1 ≤ ((bs l).size : Int) := by omega
    have z1 : (⟨#[c]⟩ : ByteArray).size = 1 := rfl
    have H1 := Lib.hid (bs_head l k)
    have H2 := Lib.hid (bs_tail l (k + 1))
    have HK := Lib.hid h2
    clear h1 h2 h3 hl
    go_enter Tryd.func43, Tryd.ntmps43
    go_wp2_with fail
    refine HI.out.mono ?_
    rintro e w1 ⟨rfl, rfl⟩
    go_wp2
    go_quiet (fail)
    go_wp2
    go_ret3
    refine ⟨?_, below_drewN' (Below.refl _ _) _⟩
    try rw [← H1.out, ← H2.out]
    rfl
set_option maxRecDepth 100000 in
set_option maxHeartbeats 3200000 in
theorem cut_any (c : UInt8) (l : List UInt8) (w : World) (hl : l.length ≤ 100000) :
    Calls Tryd.prog 34 #[.string (bs l), .string ⟨#[c]⟩] w fun e w' => e = .returned (.tuple #[.string (bs (cutC c l).1), .string (bs (cutC c l).2.1), .bool (cutC c l).2.2]) ∧ Below w.heap.size w w' := by
  have HI := Lib.hid (cutI_any c l w hl)
  generalize cutC c l = t at *
  obtain ⟨t1, t2, t3⟩ := t
  dsimp only at HI ⊢
  clear hl
  go_enter Tryd.func34, Tryd.ntmps34
  go_wp2_with fail
  refine HI.out.mono ?_
  rintro e w1 ⟨rfl, hb⟩
  go_wp2
  go_ret3
  exact ⟨rfl, hb⟩
set_option maxRecDepth 100000 in
theorem natural_any (a : Addr) (w : World) :
    Calls Tryd.prog 27 #[.pointer (some a)] w fun e w' => e = .returned (.func (.func 35) #[] #[.pointer (some ⟨w.heap.size, 0, none⟩)]) ∧ w' = w.alloc (.cells #[.pointer (some a)] 57) := by
  go_enter Tryd.func27, Tryd.ntmps27
  go_wp2
  go_ret
  exact ⟨rfl, rfl⟩

set_option maxRecDepth 100000 in
set_option maxHeartbeats 3200000 in
theorem natF_any (l : List UInt8) (b q off : Nat) (cs : Array Value) (t : TypeId) (x : Int) (w : World) (hl : l.length ≤ 100000) (hW : PW w) (hb : w.cell? ⟨b, 0, none⟩ = some (.pointer (some ⟨q, off, none⟩)))
    (hq : w.heap[q]? = some (.cells cs t (0, 0))) (ho : cs[off]? = some (.int .u32 x)) :
    Calls Tryd.prog 35 #[.string (bs l), .pointer (some ⟨b, 0, none⟩)] w fun e w' => e = .returned (.bool (natB l)) ∧ Keep (fun k => k = q) w w' ∧ w'.heap[q]? = some (.cells (cs.setIfInBounds off (.int .u32 (natU l))) t (0, 0)) := by
  have hsz := bs_size l
  have HB := Lib.hid hb
  have HQ := Lib.hid hq
  have HO := Lib.hid ho
  have HU := Lib.hid (natU_lt l)
  have hqs : q < w.heap.size := lt_of_block hq
  have HQS := Lib.hid hqs
  obtain ⟨_, ⟨ev1, hs1, hs2⟩, ev2, hr1, hr2⟩ := hW
  cases hp : Lib.parseUintB 32 l with
  | ok u =>
    have HC := Lib.hid (Tryd.strconv_ParseUint_10_at32_ok (bs l) (by omega) u hp w)
    have hun : natU l = (u : Int) := by unfold natU; rw [hp]; try rfl
    have hbn : natB l = true := by unfold natB; rw [hp]; try rfl
    have hwu : IntKind.u32.wrap ((u : Int) : Int) = ((u : Int) : Int) := by have h9 : ((natU l : Nat) : Int) < 4294967296 := (by have := HU.out; omega); rw [hun] at h9; simp [IntKind.wrap, IntKind.bits, IntKind.signed]; try omega
    rw [hun, hbn]
    clear hun hbn hp hs1 hs2 hr1 hr2 hb hq ho hqs HU
    go_enter Tryd.func35, Tryd.ntmps35
    go_wp2_with fail
    refine HC.out.mono ?_
    rintro e w1 ⟨rfl, hw⟩
    have HK := Lib.hid (show Below w.heap.size w w1 from hw.elim (fun e => e ▸ Below.refl _ _) (fun e => e ▸ Lib.bytesWorld_below _ _ _))
    have q1 := (HK.out.block q HQS.out).trans HQ.out
    have Q1 := Lib.hid q1
    have hfz := nofrozen q1 off
    have hc1 : w1.cell? ⟨q, off, none⟩ = some (.int .u32 x) := by rw [cell_of_row _ _ _ _ _ _ q1]; exact HO.out
    have hb1 := (HK.out.cell (p := ⟨b, 0, none⟩) (World.block_lt_of_cell? _ _ HB.out)).trans HB.out
    clear q1
    go_wp2
    go_ret
    obtain ⟨k1, k2⟩ := (Keep.of_below (S := fun k => k = q) HK.out).setCell rfl Q1.out (.int .u32 (u : Int)) (off := off)
    exact ⟨rfl, k1, k2⟩
  | «syntax» =>
    have HC := Lib.hid (Tryd.strconv_ParseUint_10_at32_syntax (bs l) (by omega) hp ev1 w hs1 hs2)
    have hun : natU l = (0 : Int) := by unfold natU; rw [hp]; try rfl
    have hbn : natB l = false := by unfold natB; rw [hp]; try rfl
    have hwu : IntKind.u32.wrap ((0 : Int) : Int) = ((0 : Int) : Int) := by have h9 : ((natU l : Nat) : Int) < 4294967296 := (by have := HU.out; omega); rw [hun] at h9; simp [IntKind.wrap, IntKind.bits, IntKind.signed]; try omega
    rw [hun, hbn]
    clear hun hbn hp hs1 hs2 hr1 hr2 hb hq ho hqs HU
    go_enter Tryd.func35, Tryd.ntmps35
    go_wp2_with fail
    refine HC.out.mono ?_
    rintro e w1 ⟨N, rfl, _, _, hw⟩
    have HK := Lib.hid (show Below w.heap.size w w1 from hw)
    have q1 := (HK.out.block q HQS.out).trans HQ.out
    have Q1 := Lib.hid q1
    have hfz := nofrozen q1 off
    have hc1 : w1.cell? ⟨q, off, none⟩ = some (.int .u32 x) := by rw [cell_of_row _ _ _ _ _ _ q1]; exact HO.out
    have hb1 := (HK.out.cell (p := ⟨b, 0, none⟩) (World.block_lt_of_cell? _ _ HB.out)).trans HB.out
    clear q1
    go_wp2
    go_ret
    obtain ⟨k1, k2⟩ := (Keep.of_below (S := fun k => k = q) HK.out).setCell rfl Q1.out (.int .u32 (0 : Int)) (off := off)
    exact ⟨rfl, k1, k2⟩
  | range =>
    have HC := Lib.hid (Tryd.strconv_ParseUint_10_at32_range (bs l) (by omega) hp ev2 w hr1 hr2)
    have hun : natU l = (4294967295 : Int) := by unfold natU; rw [hp]; try rfl
    have hbn : natB l = false := by unfold natB; rw [hp]; try rfl
    have hwu : IntKind.u32.wrap ((4294967295 : Int) : Int) = ((4294967295 : Int) : Int) := by have h9 : ((natU l : Nat) : Int) < 4294967296 := (by have := HU.out; omega); rw [hun] at h9; simp [IntKind.wrap, IntKind.bits, IntKind.signed]; try omega
    rw [hun, hbn]
    clear hun hbn hp hs1 hs2 hr1 hr2 hb hq ho hqs HU
    go_enter Tryd.func35, Tryd.ntmps35
    go_wp2_with fail
    refine HC.out.mono ?_
    rintro e w1 ⟨N, rfl, _, _, hw⟩
    have HK := Lib.hid (show Below w.heap.size w w1 from hw)
    have q1 := (HK.out.block q HQS.out).trans HQ.out
    have Q1 := Lib.hid q1
    have hfz := nofrozen q1 off
    have hc1 : w1.cell? ⟨q, off, none⟩ = some (.int .u32 x) := by rw [cell_of_row _ _ _ _ _ _ q1]; exact HO.out
    have hb1 := (HK.out.cell (p := ⟨b, 0, none⟩) (World.block_lt_of_cell? _ _ HB.out)).trans HB.out
    clear q1
    go_wp2
    go_ret
    obtain ⟨k1, k2⟩ := (Keep.of_below (S := fun k => k = q) HK.out).setCell rfl Q1.out (.int .u32 (4294967295 : Int)) (off := off)
    exact ⟨rfl, k1, k2⟩

set_option maxRecDepth 100000 in
set_option maxHeartbeats 3200000 in
/-- word.part, where the separator occurs: the reader is called on what stands behind it. -/
theorem partN_yes (c : UInt8) (l : List UInt8) (p : Addr) (R : Bool → World → World → Prop) (w : World) (hl : l.length ≤ 100000) (h : (cutC c l).2.2 = true)
    (hF : ∀ w1, Below w.heap.size w w1 → Calls Tryd.prog 35 #[.string (bs (cutC c l).2.1), .pointer (some p)] w1 fun e w2 => ∃ b, e = .returned (.bool b) ∧ R b w1 w2) :
    Calls Tryd.prog 25 #[.string (bs l), .string ⟨#[c]⟩, .func (.func 35) #[] #[.pointer (some p)]] w fun e w' => ∃ b w1, e = .returned (.tuple #[.string (bs (cutC c l).1), .bool b]) ∧ Below w.heap.size w w1 ∧ R b w1 w' := by
  have HC := Lib.hid (cut_any c l w hl)
  have HF := Lib.hid hF
  rw [h] at HC
  clear hF hl h
  generalize (cutC c l).1 = t1 at *
  generalize (cutC c l).2.1 = t2 at *
  go_enter Tryd.func25, Tryd.ntmps25
  go_wp2_with fail
  refine HC.out.mono ?_
  rintro e w1 ⟨rfl, hb⟩
  have HB := Lib.hid hb
  go_wp2_with fail
  refine (HF.out w1 HB.out).mono ?_
  rintro e w2 ⟨b, rfl, hR⟩
  have HR := Lib.hid hR
  clear hb hR HF HC
  go_wp2
  go_ret2
  exact ⟨b, w1, by rfl, HB.out, HR.out⟩
set_option maxRecDepth 100000 in
set_option maxHeartbeats 3200000 in
theorem partN_no (c : UInt8) (l : List UInt8) (p : Addr) (w : World) (hl : l.length ≤ 100000) (h : (cutC c l).2.2 = false) :
    Calls Tryd.prog 25 #[.string (bs l), .string ⟨#[c]⟩, .func (.func 35) #[] #[.pointer (some p)]] w fun e w' => e = .returned (.tuple #[.string (bs (cutC c l).1), .bool true]) ∧ Below w.heap.size w w' := by
  have HC := Lib.hid (cut_any c l w hl)
  rw [h] at HC
  clear hl h
  generalize (cutC c l).1 = t1 at *
  generalize (cutC c l).2.1 = t2 at *
  go_enter Tryd.func25, Tryd.ntmps25
  go_wp2_with fail
  refine HC.out.mono ?_
  rintro e w1 ⟨rfl, hb⟩
  have HB := Lib.hid hb
  clear hb HC
  go_wp2
  go_ret2
  exact ⟨by rfl, HB.out⟩

set_option maxRecDepth 100000 in
set_option maxHeartbeats 3200000 in
/-- word.part, where the separator occurs: the reader is called on what stands behind it. -/
theorem partP_yes (c : UInt8) (l : List UInt8) (p q : Addr) (R : Bool → World → World → Prop) (w : World) (hl : l.length ≤ 100000) (h : (cutC c l).2.2 = true)
    (hF : ∀ w1, Below w.heap.size w w1 → Calls Tryd.prog 26 #[.string (bs (cutC c l).2.1), .pointer (some p), .pointer (some q)] w1 fun e w2 => ∃ b, e = .returned (.bool b) ∧ R b w1 w2) :
    Calls Tryd.prog 25 #[.string (bs l), .string ⟨#[c]⟩, .func (.func 26) #[] #[.pointer (some p), .pointer (some q)]] w fun e w' => ∃ b w1, e = .returned (.tuple #[.string (bs (cutC c l).1), .bool b]) ∧ Below w.heap.size w w1 ∧ R b w1 w' := by
  have HC := Lib.hid (cut_any c l w hl)
  have HF := Lib.hid hF
  rw [h] at HC
  clear hF hl h
  generalize (cutC c l).1 = t1 at *
  generalize (cutC c l).2.1 = t2 at *
  go_enter Tryd.func25, Tryd.ntmps25
  go_wp2_with fail
  refine HC.out.mono ?_
  rintro e w1 ⟨rfl, hb⟩
  have HB := Lib.hid hb
  go_wp2_with fail
  refine (HF.out w1 HB.out).mono ?_
  rintro e w2 ⟨b, rfl, hR⟩
  have HR := Lib.hid hR
  clear hb hR HF HC
  go_wp2
  go_ret2
  exact ⟨b, w1, by rfl, HB.out, HR.out⟩
set_option maxRecDepth 100000 in
set_option maxHeartbeats 3200000 in
theorem partP_no (c : UInt8) (l : List UInt8) (p q : Addr) (w : World) (hl : l.length ≤ 100000) (h : (cutC c l).2.2 = false) :
    Calls Tryd.prog 25 #[.string (bs l), .string ⟨#[c]⟩, .func (.func 26) #[] #[.pointer (some p), .pointer (some q)]] w fun e w' => e = .returned (.tuple #[.string (bs (cutC c l).1), .bool true]) ∧ Below w.heap.size w w' := by
  have HC := Lib.hid (cut_any c l w hl)
  rw [h] at HC
  clear hl h
  generalize (cutC c l).1 = t1 at *
  generalize (cutC c l).2.1 = t2 at *
  go_enter Tryd.func25, Tryd.ntmps25
  go_wp2_with fail
  refine HC.out.mono ?_
  rintro e w1 ⟨rfl, hb⟩
  have HB := Lib.hid hb
  clear hb HC
  go_wp2
  go_ret2
  exact ⟨by rfl, HB.out⟩

end Go.Proofs.YtkccaadhjodhlaaDoor
