/- The walk of law28's do. Conditions: the store answers to the reference's (Rel), one to six cells, at most 900 commits before. -/
import Derived.Test.YtpejhgkcofilmaaRh
set_option linter.unusedVariables false
namespace Go.Proofs.Ytpejhgkcofilmaa
open Go.RowKit

def saC (a : SA) : Array Value := #[.int .u8 a.kind, .slice a.AW a.mw a.cw, .int .i64 a.num, .slice a.AR a.mr a.cr]
def SA.val (a : SA) : Value := .agg (saC a)
def SA.ok (a : SA) (w : World) (S : Nat → Prop) : Prop := (0 ≤ a.kind ∧ a.kind ≤ 255) ∧ Wrs w S a.AW a.mw a.ws ∧ Ents w S a.AR a.mr a.raw ∧ a.mr ≤ a.cr ∧ ∀ e ∈ a.raw, EntOk e
theorem Ents.keep {w w' : World} {S : Nat → Prop} {A : Option Addr} {n : Nat} {l : List Ent} (h : Ents w S A n l) (hs : w.heap.size ≤ w'.heap.size) (hk : ∀ p : Addr, p.block < w.heap.size → S p.block → w'.cell? p = w.cell? p) : Ents w' S A n l := ⟨h.1, h.2.keep hs hk⟩
theorem Wrs.more {w : World} {S S' : Nat → Prop} {A : Option Addr} {n : Nat} {l : List Wr} (h : Wrs w S A n l) (hS : ∀ b, b < w.heap.size → S b → S' b) : Wrs w S' A n l := ⟨h.1, h.2.more hS⟩
theorem SA.ok.below {a : SA} {w w' : World} {S : Nat → Prop} (h : a.ok w S) (hb : Below w.heap.size w w') : a.ok w' S := ⟨h.1, h.2.1.below hb, h.2.2.1.below hb, h.2.2.2⟩
theorem SA.ok.more {a : SA} {w : World} {S S' : Nat → Prop} (h : a.ok w S) (hS : ∀ b, b < w.heap.size → S b → S' b) : a.ok w S' := ⟨h.1, h.2.1.more hS, h.2.2.1.more hS, h.2.2.2⟩
/-- The blocks that are not do's own. -/
def SQ (S : Nat → Prop) (p : Nat) (b : Nat) : Prop := S b ∧ (b < p ∨ p + 5 ≤ b)
/-- What do's walk keeps. -/
structure DoI (w0 : World) (S : Nat → Prop) (a : SA) (s : Sn) (d : Rd) (b1 b2 : Option Nat) (sa sv : Value) (w : World) : Prop where
  p3 : w.heap[w0.heap.size]? = some (.cells (stoCells s.c s.n (.map b1) (.map b2) s.B s.T) 57 (0, 0))
  p4 : w.heap[w0.heap.size + 1]? = some (.cells (rCells sa sv d.R) 80 (0, 0))
  p5 : w.heap[w0.heap.size + 2]? = some (.cells (saC a) 93 (0, 0))
  p6 : (Sn.zero 0).At w (fun _ => False) (w0.heap.size + 3)
  p7 : Rd.zero.At w (fun _ => False) (w0.heap.size + 4)
  hm : s.Maps w (SQ S w0.heap.size) b1 b2
  hd : d.Mem w (SQ S w0.heap.size) sa sv
  ha : a.ok w (SQ S w0.heap.size)
  hB : Below w0.heap.size w0 w
section
variable {w0 w w' : World} {S : Nat → Prop} {a : SA} {s : Sn} {d : Rd} {b1 b2 : Option Nat} {sa sv : Value}
theorem DoI.lt (h : DoI w0 S a s d b1 b2 sa sv w) : w0.heap.size + 5 ≤ w.heap.size := h.p7.lt
theorem DoI.below (h : DoI w0 S a s d b1 b2 sa sv w) (hb : Below w.heap.size w w') : DoI w0 S a s d b1 b2 sa sv w' where
  p3 := (hb.block _ (lt_of_block h.p3)).trans h.p3
  p4 := (hb.block _ (lt_of_block h.p4)).trans h.p4
  p5 := (hb.block _ (lt_of_block h.p5)).trans h.p5
  p6 := h.p6.below hb
  p7 := h.p7.below hb
  hm := h.hm.below hb
  hd := h.hd.below hb
  ha := h.ha.below hb
  hB := h.hB.trans (hb.mono h.hB.size)
theorem DoI.new (h : DoI w0 S a s d b1 b2 sa sv w) (hS : ∀ b, w0.heap.size ≤ b → S b) : ∀ b, w.heap.size ≤ b → SQ S w0.heap.size b := fun b hb => ⟨hS b (by have := h.lt; omega), .inr (by have := h.lt; omega)⟩
/-- The act's cells. -/
theorem act_cells {b : Nat} {t : TypeId} (h : w.heap[b]? = some (.cells (saC a) t (0, 0))) : w.cell? ⟨b, 0, none⟩ = some (.int .u8 a.kind) ∧ w.cell? ⟨b, 1, none⟩ = some (.slice a.AW a.mw a.cw) ∧ w.cell? ⟨b, 2, none⟩ = some (.int .i64 a.num) ∧ w.cell? ⟨b, 3, none⟩ = some (.slice a.AR a.mr a.cr) := by
  refine ⟨?_, ?_, ?_, ?_⟩ <;> (rw [cell_of_row _ _ _ _ _ _ h]; rfl)
end
section
variable {a : Act} {w : World} {K : Act → World → Prop} {Q : Exit → Act → World → Prop} {o : Oper} {s s0 : Sn} {d d0 : Rd} {S S0 : Nat → Prop} {b1 b2 : Option Nat} {sa sv : Value}
theorem wp_put_st (x y : Operand) (ho : o.op = .store 57 x y) (g : Nat) (hx : a.eval x = .pointer (some ⟨g, 0, none⟩)) (hy : a.eval y = s.val b1 b2)
    (h0 : s0.At w S0 g) (hm : s.Maps w S b1 b2) (hS : ¬ S g) (k : ∀ w', s.At w' S g → Touch g w w' → K (a.put o.dst undef) w') : o.wp Try.prog a w K Q := by
  obtain ⟨c1, c2, h1, _⟩ := h0
  exact wp_store_row 57 x y ho g (stoCells s.c s.n (.map b1) (.map b2) s.B s.T) hx hy 57 _ h1 Try.size57 rfl (sto_ones ..) (k _ ⟨b1, b2, setRow_heap _ _ _ _ _ _ h1, hm.setRow hS _⟩ ⟨_, rfl⟩)
theorem wp_put_rr (x y : Operand) (ho : o.op = .store 80 x y) (g : Nat) (hx : a.eval x = .pointer (some ⟨g, 0, none⟩)) (hy : a.eval y = d.val sa sv)
    (h0 : d0.At w S0 g) (hm : d.Mem w S sa sv) (hS : ¬ S g) (k : ∀ w', d.At w' S g → Touch g w w' → K (a.put o.dst undef) w') : o.wp Try.prog a w K Q := by
  obtain ⟨c1, c2, h1, _⟩ := h0
  exact wp_store_row 80 x y ho g (rCells sa sv d.R) hx hy 80 _ h1 Try.size80 rfl (rd_ones hm.slc.1 hm.slc.2 _) (k _ ⟨sa, sv, setRow_heap _ _ _ _ _ _ h1, hm.setRow hS _⟩ ⟨_, rfl⟩)
end
theorem Touch.maps {g : Nat} {w w' : World} {s : Sn} {S : Nat → Prop} {b1 b2 : Option Nat} (h : Touch g w w') (hm : s.Maps w S b1 b2) (hS : ¬ S g) : s.Maps w' S b1 b2 := by
  obtain ⟨cs, rfl⟩ := h
  exact hm.setRow hS cs
theorem Touch.mem {g : Nat} {w w' : World} {d : Rd} {S : Nat → Prop} {sa sv : Value} (h : Touch g w w') (hm : d.Mem w S sa sv) (hS : ¬ S g) : d.Mem w' S sa sv := by
  obtain ⟨cs, rfl⟩ := h
  exact hm.setRow hS cs
theorem tmod_u8 {a b r : Int} (h0 : 0 ≤ a) (h : a % b = r) : a.tmod b = r := by rw [Int.tmod_eq_emod_of_nonneg h0]; exact h
theorem openS_full {s : Sn} (h : ¬ s.free < 8) : s.openS = s := by
  obtain ⟨g1, g2⟩ := find_free s.B
  unfold Sn.openS
  unfold Sn.free at h
  cases hf : freeR s.B with
  | none => rfl
  | some r =>
    rw [hf] at h
    exact absurd (g1 r hf).1 h

set_option maxRecDepth 100000 in
set_option maxHeartbeats 12800000 in
theorem do_open {S : Nat → Prop} (n : Nat) (s : Sn) (d : Rd) (m : Int) (a : SA) (b1 b2 : Option Nat) (sa sv : Value) (w : World) (hS : ∀ b, w.heap.size ≤ b → S b) (hr : Rel n s d m) (hm9 : m ≤ 900) (hn1 : 1 ≤ n) (hn6 : n ≤ 6)
    (hm : s.Maps w S b1 b2) (hd : d.Mem w S sa sv) (ha : a.ok w S) (h8 : a.ws.length ≤ 8) (h8r : a.raw.length ≤ 8) (hk : a.kind % 6 = 3) :
    Calls Try.prog 39 #[s.val b1 b2, d.val sa sv, a.val] w fun e w' => ∃ c5 c6 sa' sv', e = .returned (.tuple #[(doS n s d a).val c5 c6, (doD n s d a).val sa' sv', .bool true]) ∧ (doS n s d a).Maps w' S c5 c6 ∧ (doD n s d a).Mem w' S sa' sv' ∧ Below w.heap.size w w' := by
  have HREL := Lib.hid hr
  have HM9 := Lib.hid hm9
  have HN6 := Lib.hid (And.intro hn1 hn6)
  have HL8 := Lib.hid (And.intro h8 h8r)
  have HS := Lib.hid hS
  have hk0 : 0 ≤ a.kind := ha.1.1
  have hk1 : a.kind ≤ 255 := ha.1.2
  have HM0 := Lib.hid (hm.more (S' := SQ S w.heap.size) fun b hb h => ⟨h, .inl hb⟩)
  have HD0 := Lib.hid (hd.more (S' := SQ S w.heap.size) fun b hb h => ⟨h, .inl hb⟩)
  have HA0 := Lib.hid (ha.more (S' := SQ S w.heap.size) fun b hb h => ⟨h, .inl hb⟩)
  have htm : a.kind.tmod 6 = 3 := tmod_u8 hk0 hk
  have HDS := Lib.hid (show doS n s d a = s.openS from by unfold doS; rw [if_pos hk])
  have HDD := Lib.hid (show doD n s d a = (d.openR s.free).1 from by unfold doD; rw [if_pos hk])
  clear hk
  clear hS hr hm9 hn1 hn6 hm hd ha h8 h8r
  unfold SA.val saC
  go_enter Try.func39, Try.ntmps39
  go_wp2_with (with_reducible refine at_box_ (t := 57) ?_; refine box_row rfl _ rfl rfl ?_)
  intro w1 e1 hb1 hz1
  have E1 := Lib.hid e1
  have B1 := Lib.hid hb1
  have Z1 := Lib.hid hz1
  have HD1 := Lib.hid (HD0.out.below hb1)
  clear e1 hb1 hz1
  go_wp2_with (with_reducible refine at_box_ (t := 80) ?_; refine box_rd rfl _ rfl rfl HD1.out ?_)
  intro w2 e2 _ hb2 hz2
  rw [Z1.out] at e2 hz2
  rw [Z1.out]
  have E2 := Lib.hid e2
  have E1' := Lib.hid ((hb2.block _ (lt_of_block E1.out)).trans E1.out)
  have B2 := Lib.hid (B1.out.trans (hb2.mono B1.out.size))
  have Z2 := Lib.hid (show w2.heap.size = w.heap.size + 2 by rw [hz2])
  clear e2 hb2 hz2 E1 B1 HD1 Z1
  have ba : Below w2.heap.size w2 (w2.alloc (.cells (saC a) 93)) := (Below.refl _ _).alloc (Nat.le_refl _) _
  have E5 := Lib.hid (show (w2.alloc (.cells (saC a) 93)).heap[w.heap.size + 2]? = some (.cells (saC a) 93 (0, 0)) from by have := heap_alloc_new w2 (.cells (saC a) 93); rw [Z2.out] at this; exact this)
  have E3 := Lib.hid ((ba.block _ (lt_of_block E1'.out)).trans E1'.out)
  have E4 := Lib.hid ((ba.block _ (lt_of_block E2.out)).trans E2.out)
  have B3 := Lib.hid (B2.out.trans (ba.mono B2.out.size))
  have Z3 := Lib.hid (show w2.heap.size + 1 = w.heap.size + 3 by rw [Z2.out])
  clear ba E1' E2 B2
  unfold saC at E5 E3 E4 B3
  go_wp2_with (with_reducible refine at_alloc_ (t := 57) ?_; refine alloc_at (S := fun _ => False) rfl rfl ?_)
  intro w4 hp hb hz
  rw [Z3.out] at hp hz
  rw [Z3.out, Z2.out]
  have P6 := Lib.hid hp
  have F3 := Lib.hid ((hb.block _ (by have := lt_of_block E3.out; simpa using this)).trans E3.out)
  have F4 := Lib.hid ((hb.block _ (by have := lt_of_block E4.out; simpa using this)).trans E4.out)
  have F5 := Lib.hid ((hb.block _ (by have := lt_of_block E5.out; simpa using this)).trans E5.out)
  have B4 := Lib.hid (B3.out.trans (hb.mono (by have := B3.out.size; simpa using this)))
  have Z4 := Lib.hid (show w4.heap.size = w.heap.size + 4 by rw [hz])
  clear hp hb hz E3 E4 E5 B3 Z3 Z2
  go_wp2_with (with_reducible refine at_alloc_ (t := 80) ?_; refine alloc_rd (S := fun _ => False) rfl rfl ?_)
  intro w5 hp hb hz
  rw [Z4.out] at hp
  rw [Z4.out]
  have HI := Lib.hid (show DoI w S a s d b1 b2 sa sv w5 from ⟨(hb.block _ (lt_of_block F3.out)).trans F3.out, (hb.block _ (lt_of_block F4.out)).trans F4.out, (hb.block _ (lt_of_block F5.out)).trans F5.out, P6.out.below hb, hp, HM0.out.below (B4.out.trans (hb.mono B4.out.size)), HD0.out.below (B4.out.trans (hb.mono B4.out.size)), HA0.out.below (B4.out.trans (hb.mono B4.out.size)), B4.out.trans (hb.mono B4.out.size)⟩)
  clear hp hb hz P6 F3 F4 F5 B4 Z4 HM0 HD0 HA0
  have q0 := (act_cells HI.out.p5).1
  obtain ⟨hf8, hfl, hfa⟩ := HREL.out.free
  have HFR := Lib.hid (And.intro hf8 (And.intro hfl hfa))
  have HST := Lib.hid (show d.st.length ≤ 1000000 by have := HREL.out.hst; have := HREL.out.hnm; have := HM9.out; omega)
  clear hf8 hfl hfa
  have CO := Lib.hid (st_open2 (s := s) (b1 := b1) (b2 := b2) w5)
  by_cases hf : s.free < 8
  · skip
    rw [if_pos hf, if_pos hf] at CO
    have HO2 := Lib.hid (show (d.openR s.free).2 = (s.free : Int) + 1 from by unfold Rd.openR; rw [if_pos hf])
    have hfp : ((s.free : Int) + 1 == 0) = false := beq_eq_false_iff_ne.2 (by omega)
    clear hf
    go_wp2_with (with_reducible refine at_load_ (t := 57) ?_; refine get_sto rfl _ rfl w.heap.size rfl HI.out.p3 ?_)
    refine CO.out.mono ?_
    rintro e w6 ⟨rfl, hb⟩
    have HMo := Lib.hid (Sn.openS_maps (HI.out.hm.below hb))
    have HI_1 := Lib.hid (HI.out.below hb)
    clear HI
    clear hb CO q0
    have HMn := Lib.hid (HMo.out.more (S' := fun b => SQ S w.heap.size b ∧ b ≠ w6.heap.size) fun b hb h => ⟨h, by omega⟩)
    have HQq9 := Lib.hid HI_1.out.lt
    go_wp2_with (with_reducible refine at_alloc_ (t := 57) ?_; refine alloc_at (S := fun _ => False) rfl rfl ?_)
    intro w7 hp hb hz
    have RN := Lib.hid hp
    have HMm := Lib.hid (HMn.out.below hb)
    have HBB := Lib.hid hb
    clear hp hb hz HMn
    clear HMo
    go_wp2_with (with_reducible refine at_store_ (t := 57) ?_; refine Hid.out ?_)
    refine Lib.hid ?_
    refine put_at rfl (.tmp 9) (.tmp 30) rfl rfl w6.heap.size rfl rfl RN.out HMm.out (fun h => h.2 rfl) ?_
    intro w8 hp ht
    have hbb := ht.below HBB.out (Nat.le_refl _)
    have HI_2 := Lib.hid (HI_1.out.below hbb)
    clear HI_1
    have X9 := Lib.hid hp
    clear hp ht hbb RN HMm HBB
    generalize w6.heap.size = q9 at *
    go_wp2_with (with_reducible refine at_load_ (t := 80) ?_; refine get_rd (d := d) (sa := sa) (sv := sv) rfl _ rfl (w.heap.size + 1) rfl HI_2.out.p4 ?_)
    refine (ropen_any (S := SQ S w.heap.size) w8 HI_2.out.hd HST.out s.free HFR.out.1 HFR.out.2.1 HFR.out.2.2).mono ?_
    rintro e w9 ⟨sa', sv', rfl, hmd, hb⟩
    rw [HO2.out]
    have HDo := Lib.hid hmd
    have HI_3 := Lib.hid (HI_2.out.below hb)
    have X9_3 := Lib.hid (X9.out.below hb)
    clear HI_2 X9
    clear hb hmd
    have HMn := Lib.hid (HDo.out.more (S' := fun b => SQ S w.heap.size b ∧ b ≠ w9.heap.size) fun b hb h => ⟨h, by omega⟩)
    have HQq12 := Lib.hid HI_3.out.lt
    go_wp2_with (with_reducible refine at_alloc_ (t := 80) ?_; refine alloc_rd (S := fun _ => False) rfl rfl ?_)
    intro w10 hp hb hz
    have RN := Lib.hid hp
    have HMm := Lib.hid (HMn.out.below hb)
    have HBB := Lib.hid hb
    clear hp hb hz HMn
    clear HDo
    go_wp2_with (with_reducible refine at_store_ (t := 80) ?_; refine Hid.out ?_)
    refine Lib.hid ?_
    refine put_rd rfl (.tmp 12) (.tmp 36) rfl rfl w9.heap.size rfl rfl RN.out HMm.out (fun h => h.2 rfl) ?_
    intro w11 hp ht
    have hbb := ht.below HBB.out (Nat.le_refl _)
    have HI_4 := Lib.hid (HI_3.out.below hbb)
    have X9_4 := Lib.hid (X9_3.out.below hbb)
    clear HI_3 X9_3
    have Y12 := Lib.hid hp
    clear hp ht hbb RN HMm HBB
    generalize w9.heap.size = q12 at *
    go_wp2_with fail
    obtain ⟨k1, k2, e1, hm1⟩ := X9_4.out
    obtain ⟨l1, l2, e2, hm2⟩ := Y12.out
    have HF1 := Lib.hid e1
    have HF2 := Lib.hid e2
    have HM1 := Lib.hid hm1
    have HM2 := Lib.hid hm2
    clear e1 hm1
    clear e2 hm2
    refine wp_region_held_drew (S := fun W => W.heap[q9]? = some (.cells (stoCells s.openS.c s.openS.n (.map k1) (.map k2) s.openS.B s.openS.T) 57 (0, 0)) ∧ W.heap[q12]? = some (.cells (rCells l1 l2 (d.openR s.free).1.R) 80 (0, 0))) (by kernel_rfl) ⟨HF1.out, HF2.out⟩ (fun hHeld => ?_)
    have HHD := Lib.hid hHeld
    have hbd : Below w11.heap.size w11 w11.drew := (Below.refl _ _).drew
    have HID := Lib.hid (HI_4.out.below hbd)
    have HMD1 := Lib.hid (HM1.out.below hbd)
    have HMD2 := Lib.hid (HM2.out.below hbd)
    clear hHeld hbd HF1 HF2 HM1 HM2 HI_4 X9_4 Y12
    generalize w11.drew = wd at *
    refine wpAnyH_take (i := 0) (oi := ⟨some 48, _, _, _, _, _⟩) (v := s.openS.val k1 k2) rfl (by kernel_rfl) (by kernel_rfl) (by kernel_rfl) (fun _ _ _ h => h) (yields_sto (by rfl) _ rfl q9 rfl 57 (0, 0) (fun _ h => h.1)) HHD.out ?_
    try simp only [Act.put, List.setIfInBounds_toArray, List.set_cons_zero, List.set_cons_succ]
    refine wpAnyH_take (i := 1) (oi := ⟨some 49, _, _, _, _, _⟩) (v := (d.openR s.free).1.val l1 l2) rfl (by kernel_rfl) (by kernel_rfl) (by kernel_rfl) (fun _ _ _ h => h) (yields_rd (by rfl) _ rfl q12 rfl 80 (0, 0) (fun _ h => h.2)) HHD.out ?_
    try simp only [Act.put, List.setIfInBounds_toArray, List.set_cons_zero, List.set_cons_succ]
    refine wpAnyH_take (i := 2) (oi := ⟨some 50, _, _, _, _, _⟩) (v := .int .i64 0) rfl (by kernel_rfl) (by kernel_rfl) (by kernel_rfl) (fun _ _ _ h => h) (Or.inl ⟨by kernel_rfl, ?_⟩) HHD.out ?_
    · intro W' hW
      go_simp
    try simp only [Act.put, List.setIfInBounds_toArray, List.set_cons_zero, List.set_cons_succ]
    refine wpAnyH_take (i := 3) (oi := ⟨some 51, _, _, _, _, _⟩) (v := .bool true) rfl (by kernel_rfl) (by kernel_rfl) (by kernel_rfl) (fun _ _ _ h => h) (Or.inl ⟨by kernel_rfl, ?_⟩) HHD.out ?_
    · intro W' hW
      go_simp
    try simp only [Act.put, List.setIfInBounds_toArray, List.set_cons_zero, List.set_cons_succ]
    refine wpAnyH_take (i := 4) (oi := ⟨some 52, _, _, _, _, _⟩) (v := .bool true) rfl (by kernel_rfl) (by kernel_rfl) (by kernel_rfl) (fun _ _ _ h => h) (Or.inl ⟨by kernel_rfl, ?_⟩) HHD.out ?_
    · intro W' hW
      go_simp
    try simp only [Act.put, List.setIfInBounds_toArray, List.set_cons_zero, List.set_cons_succ]
    refine wpAnyH_take (i := 5) (oi := ⟨some 53, _, _, _, _, _⟩) (v := .int .i64 ((s.free : Int) + 1)) rfl (by kernel_rfl) (by kernel_rfl) (by kernel_rfl) (fun _ _ _ h => h) (Or.inl ⟨by kernel_rfl, ?_⟩) HHD.out ?_
    · intro W' hW
      go_simp
    try simp only [Act.put, List.setIfInBounds_toArray, List.set_cons_zero, List.set_cons_succ]
    refine wpAnyH_take (i := 6) (oi := ⟨some 54, _, _, _, _, _⟩) (v := .int .i64 ((s.free : Int) + 1)) rfl (by kernel_rfl) (by kernel_rfl) (by kernel_rfl) (fun _ _ _ h => h) (Or.inl ⟨by kernel_rfl, ?_⟩) HHD.out ?_
    · intro W' hW
      go_simp
    try simp only [Act.put, List.setIfInBounds_toArray, List.set_cons_zero, List.set_cons_succ]
    refine wpAnyH_take (i := 7) (oi := ⟨some 55, _, _, _, _, _⟩) (v := .bool true) rfl (by kernel_rfl) (by kernel_rfl) (by kernel_rfl) (fun _ _ _ h => h) (Or.inl ⟨by kernel_rfl, ?_⟩) HHD.out ?_
    · intro W' hW
      go_simp
    try simp only [Act.put, List.setIfInBounds_toArray, List.set_cons_zero, List.set_cons_succ]
    refine wpAnyH_take (i := 8) (oi := ⟨some 56, _, _, _, _, _⟩) (v := .bool true) rfl (by kernel_rfl) (by kernel_rfl) (by kernel_rfl) (fun _ _ _ h => h) (Or.inl ⟨by kernel_rfl, ?_⟩) HHD.out ?_
    · intro W' hW
      go_simp
    try simp only [Act.put, List.setIfInBounds_toArray, List.set_cons_zero, List.set_cons_succ]
    have P6D := Lib.hid HID.out.p6
    have P7D := Lib.hid HID.out.p7
    have HBD := Lib.hid HID.out.hB
    clear HID
    refine wpAnyH_ready (rs := [9]) (by kernel_rfl) (by simp) ?_
    refine AllReadyH.cons (o := ⟨none, _, _, _, _, _⟩) rfl (fun K hK => ?_) (AllReadyH.nil)
    refine Eq.mpr (if_pos (by kernel_rfl)) ?_
    refine wp_put_st (.tmp 6) (.tmp 48) rfl (w.heap.size + 3) rfl rfl P6D.out HMD1.out (fun h => by have h := h.1.2; omega) ?_
    intro wa hp ht
    have P6F := Lib.hid hp
    have HHA := Lib.hid (show wa.heap[q9]? = some (.cells (stoCells s.openS.c s.openS.n (.map k1) (.map k2) s.openS.B s.openS.T) 57 (0, 0)) ∧ wa.heap[q12]? = some (.cells (rCells l1 l2 (d.openR s.free).1.R) 80 (0, 0)) from ⟨(ht.block (by have := HQq9.out; omega)).trans HHD.out.1, (ht.block (by have := HQq12.out; omega)).trans HHD.out.2⟩)
    have P7A := Lib.hid (ht.rat P7D.out (by omega) (fun h => h))
    have MA2 := Lib.hid (ht.mem HMD2.out (fun h => by have h := h.1.2; omega))
    have HBA := Lib.hid (ht.below HBD.out (by omega))
    clear hp ht HHD P6D P7D HMD1 HMD2 HBD
    refine hK.out _ _ HHA.out (fun hHeldq => ?_)
    clear hK hHeldq
    try simp only [Act.put]
    refine wpAnyH_ready (rs := [10]) (by kernel_rfl) (by simp) ?_
    refine AllReadyH.cons (o := ⟨none, _, _, _, _, _⟩) rfl (fun K hK => ?_) (AllReadyH.nil)
    refine Eq.mpr (if_pos (by kernel_rfl)) ?_
    refine wp_put_rr (.tmp 7) (.tmp 49) rfl (w.heap.size + 4) rfl rfl P7A.out MA2.out (fun h => by have h := h.1.2; omega) ?_
    intro wb hp ht
    have P7F := Lib.hid hp
    have HHB := Lib.hid (show wb.heap[q9]? = some (.cells (stoCells s.openS.c s.openS.n (.map k1) (.map k2) s.openS.B s.openS.T) 57 (0, 0)) ∧ wb.heap[q12]? = some (.cells (rCells l1 l2 (d.openR s.free).1.R) 80 (0, 0)) from ⟨(ht.block (by have := HQq9.out; omega)).trans HHA.out.1, (ht.block (by have := HQq12.out; omega)).trans HHA.out.2⟩)
    have P6G := Lib.hid (ht.at P6F.out (by omega) (fun h => by have h := h.1.2; omega))
    have HBF := Lib.hid (ht.below HBA.out (by omega))
    clear hp ht P6F HHA P7A MA2 HBA
    have P6F := P6G
    clear P6G
    refine hK.out _ _ HHB.out (fun hHeldq => ?_)
    clear hK hHeldq
    try simp only [Act.put]
    refine wpAnyH_take (i := 11) (oi := ⟨some 8, _, _, _, _, _⟩) (v := .bool true) rfl (by kernel_rfl) (by kernel_rfl) (by kernel_rfl) (fun _ _ _ h => h) (Or.inl ⟨by kernel_rfl, ?_⟩) HHB.out ?_
    · intro W' hW
      go_simp
    try simp only [Act.put, List.setIfInBounds_toArray, List.set_cons_zero, List.set_cons_succ]
    refine wpAnyH_done (by kernel_rfl) ?_ _
    clear HHB
    have H6S := Lib.hid (fun b (h : (fun b => SQ S w.heap.size b ∧ b ≠ q9) b) => (show S b from h.1.1))
    have H7S := Lib.hid (fun b (h : (fun b => SQ S w.heap.size b ∧ b ≠ q12) b) => (show S b from h.1.1))
    go_wp2_with fail
    obtain ⟨c5, c6, hblk, hmaps⟩ := P6F.out
    obtain ⟨sa5, sv5, hblk2, hmem⟩ := P7F.out
    have hl := load_sto _ _ _ _ _ hblk rfl
    have hl2 := load_rd _ _ _ _ _ hblk2 rfl
    refine bodyPost_ret (v := .tuple #[s.openS.val c5 c6, (d.openR s.free).1.val sa5 sv5, .bool true]) ?_ rfl ⟨c5, c6, sa5, sv5, by rw [HDS.out, HDD.out], by rw [HDS.out]; exact hmaps.more fun b _ h => H6S.out b h, by rw [HDD.out]; exact hmem.more fun b _ h => H7S.out b h, HBF.out⟩
    simp [results, Try.results39, asAddr, hl, hl2, Sn.val, sto, Rd.val, Result.andThen]
  · skip
    rw [if_neg hf, if_neg hf] at CO
    have HO2 := Lib.hid (show (d.openR s.free).2 = 0 from by unfold Rd.openR; rw [if_neg hf])
    have HNO := Lib.hid (show s.openS = s ∧ (d.openR s.free).1 = d from ⟨openS_full hf, by unfold Rd.openR; rw [if_neg hf]⟩)
    clear hf
    go_wp2_with (with_reducible refine at_load_ (t := 57) ?_; refine get_sto rfl _ rfl w.heap.size rfl HI.out.p3 ?_)
    refine CO.out.mono ?_
    rintro e w6 ⟨rfl, hb⟩
    have HMo := Lib.hid (Sn.openS_maps (HI.out.hm.below hb))
    have HI_1 := Lib.hid (HI.out.below hb)
    clear HI
    clear hb CO q0
    have HMn := Lib.hid (HMo.out.more (S' := fun b => SQ S w.heap.size b ∧ b ≠ w6.heap.size) fun b hb h => ⟨h, by omega⟩)
    have HQq9 := Lib.hid HI_1.out.lt
    go_wp2_with (with_reducible refine at_alloc_ (t := 57) ?_; refine alloc_at (S := fun _ => False) rfl rfl ?_)
    intro w7 hp hb hz
    have RN := Lib.hid hp
    have HMm := Lib.hid (HMn.out.below hb)
    have HBB := Lib.hid hb
    clear hp hb hz HMn
    clear HMo
    go_wp2_with (with_reducible refine at_store_ (t := 57) ?_; refine Hid.out ?_)
    refine Lib.hid ?_
    refine put_at rfl (.tmp 9) (.tmp 30) rfl rfl w6.heap.size rfl rfl RN.out HMm.out (fun h => h.2 rfl) ?_
    intro w8 hp ht
    have hbb := ht.below HBB.out (Nat.le_refl _)
    have HI_2 := Lib.hid (HI_1.out.below hbb)
    clear HI_1
    have X9 := Lib.hid hp
    clear hp ht hbb RN HMm HBB
    generalize w6.heap.size = q9 at *
    go_wp2_with (with_reducible refine at_load_ (t := 80) ?_; refine get_rd (d := d) (sa := sa) (sv := sv) rfl _ rfl (w.heap.size + 1) rfl HI_2.out.p4 ?_)
    refine (ropen_any (S := SQ S w.heap.size) w8 HI_2.out.hd HST.out s.free HFR.out.1 HFR.out.2.1 HFR.out.2.2).mono ?_
    rintro e w9 ⟨sa', sv', rfl, hmd, hb⟩
    rw [HO2.out]
    have HDo := Lib.hid hmd
    have HI_3 := Lib.hid (HI_2.out.below hb)
    have X9_3 := Lib.hid (X9.out.below hb)
    clear HI_2 X9
    clear hb hmd
    have HMn := Lib.hid (HDo.out.more (S' := fun b => SQ S w.heap.size b ∧ b ≠ w9.heap.size) fun b hb h => ⟨h, by omega⟩)
    have HQq12 := Lib.hid HI_3.out.lt
    go_wp2_with (with_reducible refine at_alloc_ (t := 80) ?_; refine alloc_rd (S := fun _ => False) rfl rfl ?_)
    intro w10 hp hb hz
    have RN := Lib.hid hp
    have HMm := Lib.hid (HMn.out.below hb)
    have HBB := Lib.hid hb
    clear hp hb hz HMn
    clear HDo
    go_wp2_with (with_reducible refine at_store_ (t := 80) ?_; refine Hid.out ?_)
    refine Lib.hid ?_
    refine put_rd rfl (.tmp 12) (.tmp 36) rfl rfl w9.heap.size rfl rfl RN.out HMm.out (fun h => h.2 rfl) ?_
    intro w11 hp ht
    have hbb := ht.below HBB.out (Nat.le_refl _)
    have HI_4 := Lib.hid (HI_3.out.below hbb)
    have X9_4 := Lib.hid (X9_3.out.below hbb)
    clear HI_3 X9_3
    have Y12 := Lib.hid hp
    clear hp ht hbb RN HMm HBB
    generalize w9.heap.size = q12 at *
    go_wp2_with fail
    obtain ⟨k1, k2, e1, hm1⟩ := X9_4.out
    have HF1 := Lib.hid e1
    have HF2 := Lib.hid HI_4.out.p4
    have HM1 := Lib.hid hm1
    have HM2 := Lib.hid HI_4.out.hd
    clear e1 hm1
    refine wp_region_held_drew (S := fun W => W.heap[q9]? = some (.cells (stoCells s.openS.c s.openS.n (.map k1) (.map k2) s.openS.B s.openS.T) 57 (0, 0)) ∧ W.heap[(w.heap.size + 1)]? = some (.cells (rCells sa sv d.R) 80 (0, 0))) (by kernel_rfl) ⟨HF1.out, HF2.out⟩ (fun hHeld => ?_)
    have HHD := Lib.hid hHeld
    have hbd : Below w11.heap.size w11 w11.drew := (Below.refl _ _).drew
    have HID := Lib.hid (HI_4.out.below hbd)
    have HMD1 := Lib.hid (HM1.out.below hbd)
    have HMD2 := Lib.hid (HM2.out.below hbd)
    clear hHeld hbd HF1 HF2 HM1 HM2 HI_4 X9_4 Y12
    generalize w11.drew = wd at *
    refine wpAnyH_take (i := 0) (oi := ⟨some 40, _, _, _, _, _⟩) (v := s.openS.val k1 k2) rfl (by kernel_rfl) (by kernel_rfl) (by kernel_rfl) (fun _ _ _ h => h) (yields_sto (by rfl) _ rfl q9 rfl 57 (0, 0) (fun _ h => h.1)) HHD.out ?_
    try simp only [Act.put, List.setIfInBounds_toArray, List.set_cons_zero, List.set_cons_succ]
    refine wpAnyH_take (i := 1) (oi := ⟨some 41, _, _, _, _, _⟩) (v := d.val sa sv) rfl (by kernel_rfl) (by kernel_rfl) (by kernel_rfl) (fun _ _ _ h => h) (yields_rd (by rfl) _ rfl (w.heap.size + 1) rfl 80 (0, 0) (fun _ h => h.2)) HHD.out ?_
    try simp only [Act.put, List.setIfInBounds_toArray, List.set_cons_zero, List.set_cons_succ]
    refine wpAnyH_take (i := 2) (oi := ⟨some 42, _, _, _, _, _⟩) (v := .int .i64 9) rfl (by kernel_rfl) (by kernel_rfl) (by kernel_rfl) (fun _ _ _ h => h) (Or.inl ⟨by kernel_rfl, ?_⟩) HHD.out ?_
    · intro W' hW
      go_simp
    try simp only [Act.put, List.setIfInBounds_toArray, List.set_cons_zero, List.set_cons_succ]
    refine wpAnyH_take (i := 3) (oi := ⟨some 43, _, _, _, _, _⟩) (v := .bool true) rfl (by kernel_rfl) (by kernel_rfl) (by kernel_rfl) (fun _ _ _ h => h) (Or.inl ⟨by kernel_rfl, ?_⟩) HHD.out ?_
    · intro W' hW
      go_simp
    try simp only [Act.put, List.setIfInBounds_toArray, List.set_cons_zero, List.set_cons_succ]
    refine wpAnyH_take (i := 4) (oi := ⟨some 44, _, _, _, _, _⟩) (v := .bool true) rfl (by kernel_rfl) (by kernel_rfl) (by kernel_rfl) (fun _ _ _ h => h) (Or.inl ⟨by kernel_rfl, ?_⟩) HHD.out ?_
    · intro W' hW
      go_simp
    try simp only [Act.put, List.setIfInBounds_toArray, List.set_cons_zero, List.set_cons_succ]
    refine wpAnyH_take (i := 5) (oi := ⟨some 45, _, _, _, _, _⟩) (v := .int .i64 0) rfl (by kernel_rfl) (by kernel_rfl) (by kernel_rfl) (fun _ _ _ h => h) (Or.inl ⟨by kernel_rfl, ?_⟩) HHD.out ?_
    · intro W' hW
      go_simp
    try simp only [Act.put, List.setIfInBounds_toArray, List.set_cons_zero, List.set_cons_succ]
    refine wpAnyH_take (i := 6) (oi := ⟨some 46, _, _, _, _, _⟩) (v := .bool true) rfl (by kernel_rfl) (by kernel_rfl) (by kernel_rfl) (fun _ _ _ h => h) (Or.inl ⟨by kernel_rfl, ?_⟩) HHD.out ?_
    · intro W' hW
      go_simp
    try simp only [Act.put, List.setIfInBounds_toArray, List.set_cons_zero, List.set_cons_succ]
    refine wpAnyH_take (i := 7) (oi := ⟨some 47, _, _, _, _, _⟩) (v := .bool true) rfl (by kernel_rfl) (by kernel_rfl) (by kernel_rfl) (fun _ _ _ h => h) (Or.inl ⟨by kernel_rfl, ?_⟩) HHD.out ?_
    · intro W' hW
      go_simp
    try simp only [Act.put, List.setIfInBounds_toArray, List.set_cons_zero, List.set_cons_succ]
    have P6D := Lib.hid HID.out.p6
    have P7D := Lib.hid HID.out.p7
    have HBD := Lib.hid HID.out.hB
    clear HID
    refine wpAnyH_ready (rs := [8]) (by kernel_rfl) (by simp) ?_
    refine AllReadyH.cons (o := ⟨none, _, _, _, _, _⟩) rfl (fun K hK => ?_) (AllReadyH.nil)
    refine Eq.mpr (if_pos (by kernel_rfl)) ?_
    refine wp_put_st (.tmp 6) (.tmp 40) rfl (w.heap.size + 3) rfl rfl P6D.out HMD1.out (fun h => by have h := h.1.2; omega) ?_
    intro wa hp ht
    have P6F := Lib.hid hp
    have HHA := Lib.hid (show wa.heap[q9]? = some (.cells (stoCells s.openS.c s.openS.n (.map k1) (.map k2) s.openS.B s.openS.T) 57 (0, 0)) ∧ wa.heap[(w.heap.size + 1)]? = some (.cells (rCells sa sv d.R) 80 (0, 0)) from ⟨(ht.block (by have := HQq9.out; omega)).trans HHD.out.1, (ht.block (by omega)).trans HHD.out.2⟩)
    have P7A := Lib.hid (ht.rat P7D.out (by omega) (fun h => h))
    have MA2 := Lib.hid (ht.mem HMD2.out (fun h => by have h := h.2; omega))
    have HBA := Lib.hid (ht.below HBD.out (by omega))
    clear hp ht HHD P6D P7D HMD1 HMD2 HBD
    refine hK.out _ _ HHA.out (fun hHeldq => ?_)
    clear hK hHeldq
    try simp only [Act.put]
    refine wpAnyH_ready (rs := [9]) (by kernel_rfl) (by simp) ?_
    refine AllReadyH.cons (o := ⟨none, _, _, _, _, _⟩) rfl (fun K hK => ?_) (AllReadyH.nil)
    refine Eq.mpr (if_pos (by kernel_rfl)) ?_
    refine wp_put_rr (.tmp 7) (.tmp 41) rfl (w.heap.size + 4) rfl rfl P7A.out MA2.out (fun h => by have h := h.2; omega) ?_
    intro wb hp ht
    have P7F := Lib.hid hp
    have HHB := Lib.hid (show wb.heap[q9]? = some (.cells (stoCells s.openS.c s.openS.n (.map k1) (.map k2) s.openS.B s.openS.T) 57 (0, 0)) ∧ wb.heap[(w.heap.size + 1)]? = some (.cells (rCells sa sv d.R) 80 (0, 0)) from ⟨(ht.block (by have := HQq9.out; omega)).trans HHA.out.1, (ht.block (by omega)).trans HHA.out.2⟩)
    have P6G := Lib.hid (ht.at P6F.out (by omega) (fun h => by have h := h.1.2; omega))
    have HBF := Lib.hid (ht.below HBA.out (by omega))
    clear hp ht P6F HHA P7A MA2 HBA
    have P6F := P6G
    clear P6G
    refine hK.out _ _ HHB.out (fun hHeldq => ?_)
    clear hK hHeldq
    try simp only [Act.put]
    refine wpAnyH_take (i := 10) (oi := ⟨some 8, _, _, _, _, _⟩) (v := .bool true) rfl (by kernel_rfl) (by kernel_rfl) (by kernel_rfl) (fun _ _ _ h => h) (Or.inl ⟨by kernel_rfl, ?_⟩) HHB.out ?_
    · intro W' hW
      go_simp
    try simp only [Act.put, List.setIfInBounds_toArray, List.set_cons_zero, List.set_cons_succ]
    refine wpAnyH_done (by kernel_rfl) ?_ _
    clear HHB
    have H6S := Lib.hid (fun b (h : (fun b => SQ S w.heap.size b ∧ b ≠ q9) b) => (show S b from h.1.1))
    have H7S := Lib.hid (fun b (h : SQ S w.heap.size b) => (show S b from h.1))
    go_wp2_with fail
    obtain ⟨c5, c6, hblk, hmaps⟩ := P6F.out
    obtain ⟨sa5, sv5, hblk2, hmem⟩ := P7F.out
    have hl := load_sto _ _ _ _ _ hblk rfl
    have hl2 := load_rd _ _ _ _ _ hblk2 rfl
    refine bodyPost_ret (v := .tuple #[s.openS.val c5 c6, d.val sa5 sv5, .bool true]) ?_ rfl ⟨c5, c6, sa5, sv5, by rw [HDS.out, HDD.out, HNO.out.2], by rw [HDS.out]; exact hmaps.more fun b _ h => H6S.out b h, by rw [HDD.out, HNO.out.2]; exact hmem.more fun b _ h => H7S.out b h, HBF.out⟩
    simp [results, Try.results39, asAddr, hl, hl2, Sn.val, sto, Rd.val, Result.andThen]
theorem rclose2 {S : Nat → Prop} {d : Rd} {sa sv : Value} (i : Int) (w : World) (hm : d.Mem w S sa sv) (h : isD d.R i = true) :
    Calls Try.prog 69 #[d.val sa sv, .int .i64 i] w fun e w' => ∃ sa' sv', e = .returned ((d.closeD i).val sa' sv') ∧ (d.closeD i).Mem w' S sa' sv' ∧ Below w.heap.size w w' := by
  have hr : 1 ≤ i ∧ i ≤ 8 := by
    unfold isD at h
    simp at h
    omega
  obtain ⟨k, rfl⟩ : ∃ k : Nat, i = (k : Int) + 1 := ⟨(i - 1).toNat, by omega⟩
  have e : d.closeD ((k : Int) + 1) = d.setR k (-1) := by
    unfold Rd.closeD
    rw [if_pos h, show ((k : Int) + 1 - 1).toNat = k by omega]
  rw [e]
  exact rclose_any k (by omega) w hm

set_option maxRecDepth 100000 in
set_option maxHeartbeats 12800000 in
theorem do_close {S : Nat → Prop} (n : Nat) (s : Sn) (d : Rd) (m : Int) (a : SA) (b1 b2 : Option Nat) (sa sv : Value) (w : World) (hS : ∀ b, w.heap.size ≤ b → S b) (hr : Rel n s d m) (hm9 : m ≤ 900) (hn1 : 1 ≤ n) (hn6 : n ≤ 6)
    (hm : s.Maps w S b1 b2) (hd : d.Mem w S sa sv) (ha : a.ok w S) (h8 : a.ws.length ≤ 8) (h8r : a.raw.length ≤ 8) (hk : a.kind % 6 = 4) :
    Calls Try.prog 39 #[s.val b1 b2, d.val sa sv, a.val] w fun e w' => ∃ c5 c6 sa' sv', e = .returned (.tuple #[(doS n s d a).val c5 c6, (doD n s d a).val sa' sv', .bool true]) ∧ (doS n s d a).Maps w' S c5 c6 ∧ (doD n s d a).Mem w' S sa' sv' ∧ Below w.heap.size w w' := by
  have HREL := Lib.hid hr
  have HM9 := Lib.hid hm9
  have HN6 := Lib.hid (And.intro hn1 hn6)
  have HL8 := Lib.hid (And.intro h8 h8r)
  have HS := Lib.hid hS
  have hk0 : 0 ≤ a.kind := ha.1.1
  have hk1 : a.kind ≤ 255 := ha.1.2
  have HM0 := Lib.hid (hm.more (S' := SQ S w.heap.size) fun b hb h => ⟨h, .inl hb⟩)
  have HD0 := Lib.hid (hd.more (S' := SQ S w.heap.size) fun b hb h => ⟨h, .inl hb⟩)
  have HA0 := Lib.hid (ha.more (S' := SQ S w.heap.size) fun b hb h => ⟨h, .inl hb⟩)
  have htm : a.kind.tmod 6 = 4 := tmod_u8 hk0 hk
  have HDS := Lib.hid (show doS n s d a = s.closeS a.num from by unfold doS; rw [if_neg (by rw [hk]; decide), if_pos hk])
  have HDD := Lib.hid (show doD n s d a = d.closeD a.num from by unfold doD; rw [if_neg (by rw [hk]; decide), if_pos hk])
  clear hk
  clear hS hr hm9 hn1 hn6 hm hd ha h8 h8r
  unfold SA.val saC
  go_enter Try.func39, Try.ntmps39
  go_wp2_with (with_reducible refine at_box_ (t := 57) ?_; refine box_row rfl _ rfl rfl ?_)
  intro w1 e1 hb1 hz1
  have E1 := Lib.hid e1
  have B1 := Lib.hid hb1
  have Z1 := Lib.hid hz1
  have HD1 := Lib.hid (HD0.out.below hb1)
  clear e1 hb1 hz1
  go_wp2_with (with_reducible refine at_box_ (t := 80) ?_; refine box_rd rfl _ rfl rfl HD1.out ?_)
  intro w2 e2 _ hb2 hz2
  rw [Z1.out] at e2 hz2
  rw [Z1.out]
  have E2 := Lib.hid e2
  have E1' := Lib.hid ((hb2.block _ (lt_of_block E1.out)).trans E1.out)
  have B2 := Lib.hid (B1.out.trans (hb2.mono B1.out.size))
  have Z2 := Lib.hid (show w2.heap.size = w.heap.size + 2 by rw [hz2])
  clear e2 hb2 hz2 E1 B1 HD1 Z1
  have ba : Below w2.heap.size w2 (w2.alloc (.cells (saC a) 93)) := (Below.refl _ _).alloc (Nat.le_refl _) _
  have E5 := Lib.hid (show (w2.alloc (.cells (saC a) 93)).heap[w.heap.size + 2]? = some (.cells (saC a) 93 (0, 0)) from by have := heap_alloc_new w2 (.cells (saC a) 93); rw [Z2.out] at this; exact this)
  have E3 := Lib.hid ((ba.block _ (lt_of_block E1'.out)).trans E1'.out)
  have E4 := Lib.hid ((ba.block _ (lt_of_block E2.out)).trans E2.out)
  have B3 := Lib.hid (B2.out.trans (ba.mono B2.out.size))
  have Z3 := Lib.hid (show w2.heap.size + 1 = w.heap.size + 3 by rw [Z2.out])
  clear ba E1' E2 B2
  unfold saC at E5 E3 E4 B3
  go_wp2_with (with_reducible refine at_alloc_ (t := 57) ?_; refine alloc_at (S := fun _ => False) rfl rfl ?_)
  intro w4 hp hb hz
  rw [Z3.out] at hp hz
  rw [Z3.out, Z2.out]
  have P6 := Lib.hid hp
  have F3 := Lib.hid ((hb.block _ (by have := lt_of_block E3.out; simpa using this)).trans E3.out)
  have F4 := Lib.hid ((hb.block _ (by have := lt_of_block E4.out; simpa using this)).trans E4.out)
  have F5 := Lib.hid ((hb.block _ (by have := lt_of_block E5.out; simpa using this)).trans E5.out)
  have B4 := Lib.hid (B3.out.trans (hb.mono (by have := B3.out.size; simpa using this)))
  have Z4 := Lib.hid (show w4.heap.size = w.heap.size + 4 by rw [hz])
  clear hp hb hz E3 E4 E5 B3 Z3 Z2
  go_wp2_with (with_reducible refine at_alloc_ (t := 80) ?_; refine alloc_rd (S := fun _ => False) rfl rfl ?_)
  intro w5 hp hb hz
  rw [Z4.out] at hp
  rw [Z4.out]
  have HI := Lib.hid (show DoI w S a s d b1 b2 sa sv w5 from ⟨(hb.block _ (lt_of_block F3.out)).trans F3.out, (hb.block _ (lt_of_block F4.out)).trans F4.out, (hb.block _ (lt_of_block F5.out)).trans F5.out, P6.out.below hb, hp, HM0.out.below (B4.out.trans (hb.mono B4.out.size)), HD0.out.below (B4.out.trans (hb.mono B4.out.size)), HA0.out.below (B4.out.trans (hb.mono B4.out.size)), B4.out.trans (hb.mono B4.out.size)⟩)
  clear hp hb hz P6 F3 F4 F5 B4 Z4 HM0 HD0 HA0
  have q0 := (act_cells HI.out.p5).1
  have q2 := (act_cells HI.out.p5).2.2.1
  have CC := Lib.hid (st_close2 (s := s) (b1 := b1) (b2 := b2) a.num w5)
  have HIS := Lib.hid (HREL.out.isR a.num)
  by_cases hir : isR s.B a.num = true
  · skip
    rw [if_pos hir] at CC
    have HID0 := Lib.hid (HIS.out.trans hir)
    clear hir HIS
    go_wp2_with (with_reducible refine at_load_ (t := 57) ?_; refine get_sto rfl _ rfl w.heap.size rfl HI.out.p3 ?_)
    refine CC.out.mono ?_
    rintro e w6 ⟨rfl, hb⟩
    have HMo := Lib.hid (Sn.closeS_maps (HI.out.hm.below hb) a.num)
    have HI_1 := Lib.hid (HI.out.below hb)
    clear HI
    clear hb CC q0 q2
    have HMn := Lib.hid (HMo.out.more (S' := fun b => SQ S w.heap.size b ∧ b ≠ w6.heap.size) fun b hb h => ⟨h, by omega⟩)
    have HQq14 := Lib.hid HI_1.out.lt
    go_wp2_with (with_reducible refine at_alloc_ (t := 57) ?_; refine alloc_at (S := fun _ => False) rfl rfl ?_)
    intro w7 hp hb hz
    have RN := Lib.hid hp
    have HMm := Lib.hid (HMn.out.below hb)
    have HBB := Lib.hid hb
    clear hp hb hz HMn
    clear HMo
    go_wp2_with (with_reducible refine at_store_ (t := 57) ?_; refine Hid.out ?_)
    refine Lib.hid ?_
    refine put_at rfl (.tmp 14) (.tmp 64) rfl rfl w6.heap.size rfl rfl RN.out HMm.out (fun h => h.2 rfl) ?_
    intro w8 hp ht
    have hbb := ht.below HBB.out (Nat.le_refl _)
    have HI_2 := Lib.hid (HI_1.out.below hbb)
    clear HI_1
    have X14 := Lib.hid hp
    clear hp ht hbb RN HMm HBB
    generalize w6.heap.size = q14 at *
    have q2 := (act_cells HI_2.out.p5).2.2.1
    go_wp2_with (with_reducible refine at_load_ (t := 80) ?_; refine get_rd (d := d) (sa := sa) (sv := sv) rfl _ rfl (w.heap.size + 1) rfl HI_2.out.p4 ?_)
    refine (ris_any (S := SQ S w.heap.size) a.num w8 HI_2.out.hd).mono ?_
    rintro e w9 ⟨rfl, hb⟩
    rw [HID0.out]
    have HI_3 := Lib.hid (HI_2.out.below hb)
    have X14_3 := Lib.hid (X14.out.below hb)
    clear HI_2 X14
    clear hb q2
    go_wp2_with fail
    obtain ⟨k1, k2, e1, hm1⟩ := X14_3.out
    have HF1 := Lib.hid e1
    have HF2 := Lib.hid HI_3.out.p4
    have HM1 := Lib.hid hm1
    have HM2 := Lib.hid HI_3.out.hd
    clear e1 hm1
    have HF3 := Lib.hid HI_3.out.p5
    refine wp_region_held_drew (S := fun W => W.heap[q14]? = some (.cells (stoCells (s.closeS a.num).c (s.closeS a.num).n (.map k1) (.map k2) (s.closeS a.num).B (s.closeS a.num).T) 57 (0, 0)) ∧ W.heap[(w.heap.size + 1)]? = some (.cells (rCells sa sv d.R) 80 (0, 0)) ∧ W.heap[w.heap.size + 2]? = some (.cells (saC a) 93 (0, 0))) (by kernel_rfl) ⟨HF1.out, HF2.out, HF3.out⟩ (fun hHeld => ?_)
    have HHD := Lib.hid hHeld
    have hbd : Below w9.heap.size w9 w9.drew := (Below.refl _ _).drew
    have HID := Lib.hid (HI_3.out.below hbd)
    have HMD1 := Lib.hid (HM1.out.below hbd)
    have HMD2 := Lib.hid (HM2.out.below hbd)
    clear hHeld hbd HF1 HF2 HM1 HM2 HF3 HI_3 X14_3
    generalize w9.drew = wd at *
    refine wpAnyH_take (i := 0) (oi := ⟨some 75, _, _, _, _, _⟩) (v := (s.closeS a.num).val k1 k2) rfl (by kernel_rfl) (by kernel_rfl) (by kernel_rfl) (fun _ _ _ h => h) (yields_sto (by rfl) _ rfl q14 rfl 57 (0, 0) (fun _ h => h.1)) HHD.out ?_
    try simp only [Act.put, List.setIfInBounds_toArray, List.set_cons_zero, List.set_cons_succ]
    refine wpAnyH_take (i := 1) (oi := ⟨some 76, _, _, _, _, _⟩) (v := d.val sa sv) rfl (by kernel_rfl) (by kernel_rfl) (by kernel_rfl) (fun _ _ _ h => h) (yields_rd (by rfl) _ rfl (w.heap.size + 1) rfl 80 (0, 0) (fun _ h => h.2.1)) HHD.out ?_
    try simp only [Act.put, List.setIfInBounds_toArray, List.set_cons_zero, List.set_cons_succ]
    refine wpAnyH_take (i := 2) (oi := ⟨some 77, _, _, _, _, _⟩) (v := .pointer (some ⟨w.heap.size + 2, 2, none⟩)) rfl (by kernel_rfl) (by kernel_rfl) (by kernel_rfl) (fun _ _ _ h => h) (Or.inl ⟨by kernel_rfl, ?_⟩) HHD.out ?_
    · intro W' hW
      go_simp
    try simp only [Act.put, List.setIfInBounds_toArray, List.set_cons_zero, List.set_cons_succ]
    refine wpAnyH_take (i := 3) (oi := ⟨some 78, _, _, _, _, _⟩) (v := .int .i64 a.num) rfl (by kernel_rfl) (by kernel_rfl) (by kernel_rfl) (fun _ _ _ h => h) (Or.inl ⟨by kernel_rfl, ?_⟩) HHD.out ?_
    · intro W' hW
      have hf := (act_cells hW.2.2).2.2.1
      go_simp
    try simp only [Act.put, List.setIfInBounds_toArray, List.set_cons_zero, List.set_cons_succ]
    refine wpAnyH_take (i := 5) (oi := ⟨some 80, _, _, _, _, _⟩) (v := .int .i64 0) rfl (by kernel_rfl) (by kernel_rfl) (by kernel_rfl) (fun _ _ _ h => h) (Or.inl ⟨by kernel_rfl, ?_⟩) HHD.out ?_
    · intro W' hW
      go_simp
    try simp only [Act.put, List.setIfInBounds_toArray, List.set_cons_zero, List.set_cons_succ]
    refine wpAnyH_take (i := 6) (oi := ⟨some 81, _, _, _, _, _⟩) (v := .bool true) rfl (by kernel_rfl) (by kernel_rfl) (by kernel_rfl) (fun _ _ _ h => h) (Or.inl ⟨by kernel_rfl, ?_⟩) HHD.out ?_
    · intro W' hW
      go_simp
    try simp only [Act.put, List.setIfInBounds_toArray, List.set_cons_zero, List.set_cons_succ]
    refine wpAnyH_ready (rs := [4]) (by kernel_rfl) (by simp) ?_
    refine AllReadyH.cons (o := ⟨some 79, _, _, _, _, _⟩) rfl (fun K hK => ?_) (AllReadyH.nil)
    go_simp
    refine (rclose2 (S := SQ S w.heap.size) a.num wd HMD2.out HID0.out).mono ?_
    rintro e we ⟨sa', sv', rfl, hmd, hb⟩
    have HME2 := Lib.hid hmd
    clear hmd
    have HHE := Lib.hid (show we.heap[q14]? = some (.cells (stoCells (s.closeS a.num).c (s.closeS a.num).n (.map k1) (.map k2) (s.closeS a.num).B (s.closeS a.num).T) 57 (0, 0)) ∧ we.heap[(w.heap.size + 1)]? = some (.cells (rCells sa sv d.R) 80 (0, 0)) ∧ we.heap[w.heap.size + 2]? = some (.cells (saC a) 93 (0, 0)) from ⟨(hb.block _ (lt_of_block HHD.out.1)).trans HHD.out.1, (hb.block _ (lt_of_block HHD.out.2.1)).trans HHD.out.2.1, (hb.block _ (lt_of_block HHD.out.2.2)).trans HHD.out.2.2⟩)
    have HIE := Lib.hid (HID.out.below hb)
    have HMF1 := Lib.hid (HMD1.out.below hb)
    clear hb HID HMD1 HMD2 HHD
    have HID := HIE
    have HMD1 := HMF1
    have HMD2 := HME2
    have HHD := HHE
    clear HIE HMF1 HME2 HHE
    refine hK.out _ _ HHD.out (fun hHeldq => ?_)
    clear hK hHeldq
    try simp only [Act.put, List.setIfInBounds_toArray, List.set_cons_zero, List.set_cons_succ]
    have P6D := Lib.hid HID.out.p6
    have P7D := Lib.hid HID.out.p7
    have HBD := Lib.hid HID.out.hB
    clear HID
    refine wpAnyH_ready (rs := [7]) (by kernel_rfl) (by simp) ?_
    refine AllReadyH.cons (o := ⟨none, _, _, _, _, _⟩) rfl (fun K hK => ?_) (AllReadyH.nil)
    refine Eq.mpr (if_pos (by kernel_rfl)) ?_
    refine wp_put_st (.tmp 6) (.tmp 75) rfl (w.heap.size + 3) rfl rfl P6D.out HMD1.out (fun h => by have h := h.1.2; omega) ?_
    intro wa hp ht
    have P6F := Lib.hid hp
    have HHA := Lib.hid (show wa.heap[q14]? = some (.cells (stoCells (s.closeS a.num).c (s.closeS a.num).n (.map k1) (.map k2) (s.closeS a.num).B (s.closeS a.num).T) 57 (0, 0)) ∧ wa.heap[(w.heap.size + 1)]? = some (.cells (rCells sa sv d.R) 80 (0, 0)) ∧ wa.heap[w.heap.size + 2]? = some (.cells (saC a) 93 (0, 0)) from ⟨(ht.block (by have := HQq14.out; omega)).trans HHD.out.1, (ht.block (by omega)).trans HHD.out.2.1, (ht.block (by omega)).trans HHD.out.2.2⟩)
    have P7A := Lib.hid (ht.rat P7D.out (by omega) (fun h => h))
    have MA2 := Lib.hid (ht.mem HMD2.out (fun h => by have h := h.2; omega))
    have HBA := Lib.hid (ht.below HBD.out (by omega))
    clear hp ht HHD P6D P7D HMD1 HMD2 HBD
    refine hK.out _ _ HHA.out (fun hHeldq => ?_)
    clear hK hHeldq
    try simp only [Act.put]
    refine wpAnyH_ready (rs := [8]) (by kernel_rfl) (by simp) ?_
    refine AllReadyH.cons (o := ⟨none, _, _, _, _, _⟩) rfl (fun K hK => ?_) (AllReadyH.nil)
    refine Eq.mpr (if_pos (by kernel_rfl)) ?_
    refine wp_put_rr (.tmp 7) (.tmp 79) rfl (w.heap.size + 4) rfl rfl P7A.out MA2.out (fun h => by have h := h.2; omega) ?_
    intro wb hp ht
    have P7F := Lib.hid hp
    have HHB := Lib.hid (show wb.heap[q14]? = some (.cells (stoCells (s.closeS a.num).c (s.closeS a.num).n (.map k1) (.map k2) (s.closeS a.num).B (s.closeS a.num).T) 57 (0, 0)) ∧ wb.heap[(w.heap.size + 1)]? = some (.cells (rCells sa sv d.R) 80 (0, 0)) ∧ wb.heap[w.heap.size + 2]? = some (.cells (saC a) 93 (0, 0)) from ⟨(ht.block (by have := HQq14.out; omega)).trans HHA.out.1, (ht.block (by omega)).trans HHA.out.2.1, (ht.block (by omega)).trans HHA.out.2.2⟩)
    have P6G := Lib.hid (ht.at P6F.out (by omega) (fun h => by have h := h.1.2; omega))
    have HBF := Lib.hid (ht.below HBA.out (by omega))
    clear hp ht P6F HHA P7A MA2 HBA
    have P6F := P6G
    clear P6G
    refine hK.out _ _ HHB.out (fun hHeldq => ?_)
    clear hK hHeldq
    try simp only [Act.put]
    refine wpAnyH_take (i := 9) (oi := ⟨some 8, _, _, _, _, _⟩) (v := .bool true) rfl (by kernel_rfl) (by kernel_rfl) (by kernel_rfl) (fun _ _ _ h => h) (Or.inl ⟨by kernel_rfl, ?_⟩) HHB.out ?_
    · intro W' hW
      go_simp
    try simp only [Act.put, List.setIfInBounds_toArray, List.set_cons_zero, List.set_cons_succ]
    refine wpAnyH_done (by kernel_rfl) ?_ _
    clear HHB
    have H6S := Lib.hid (fun b (h : (fun b => SQ S w.heap.size b ∧ b ≠ q14) b) => (show S b from h.1.1))
    have H7S := Lib.hid (fun b (h : SQ S w.heap.size b) => (show S b from h.1))
    go_wp2_with fail
    obtain ⟨c5, c6, hblk, hmaps⟩ := P6F.out
    obtain ⟨sa5, sv5, hblk2, hmem⟩ := P7F.out
    have hl := load_sto _ _ _ _ _ hblk rfl
    have hl2 := load_rd _ _ _ _ _ hblk2 rfl
    refine bodyPost_ret (v := .tuple #[(s.closeS a.num).val c5 c6, (d.closeD a.num).val sa5 sv5, .bool true]) ?_ rfl ⟨c5, c6, sa5, sv5, by rw [HDS.out, HDD.out], by rw [HDS.out]; exact hmaps.more fun b _ h => H6S.out b h, by rw [HDD.out]; exact hmem.more fun b _ h => H7S.out b h, HBF.out⟩
    simp [results, Try.results39, asAddr, hl, hl2, Sn.val, sto, Rd.val, Result.andThen]
  · skip
    rw [if_neg hir] at CC
    have HID0 := Lib.hid (HIS.out.trans (show isR s.B a.num = false by simpa using hir))
    have HNO := Lib.hid (show s.closeS a.num = s ∧ d.closeD a.num = d from ⟨by unfold Sn.closeS; rw [if_neg hir], by unfold Rd.closeD; rw [HID0.out]; rfl⟩)
    clear hir HIS
    go_wp2_with (with_reducible refine at_load_ (t := 57) ?_; refine get_sto rfl _ rfl w.heap.size rfl HI.out.p3 ?_)
    refine CC.out.mono ?_
    rintro e w6 ⟨rfl, hb⟩
    have HMo := Lib.hid (Sn.closeS_maps (HI.out.hm.below hb) a.num)
    have HI_1 := Lib.hid (HI.out.below hb)
    clear HI
    clear hb CC q0 q2
    have HMn := Lib.hid (HMo.out.more (S' := fun b => SQ S w.heap.size b ∧ b ≠ w6.heap.size) fun b hb h => ⟨h, by omega⟩)
    have HQq14 := Lib.hid HI_1.out.lt
    go_wp2_with (with_reducible refine at_alloc_ (t := 57) ?_; refine alloc_at (S := fun _ => False) rfl rfl ?_)
    intro w7 hp hb hz
    have RN := Lib.hid hp
    have HMm := Lib.hid (HMn.out.below hb)
    have HBB := Lib.hid hb
    clear hp hb hz HMn
    clear HMo
    go_wp2_with (with_reducible refine at_store_ (t := 57) ?_; refine Hid.out ?_)
    refine Lib.hid ?_
    refine put_at rfl (.tmp 14) (.tmp 64) rfl rfl w6.heap.size rfl rfl RN.out HMm.out (fun h => h.2 rfl) ?_
    intro w8 hp ht
    have hbb := ht.below HBB.out (Nat.le_refl _)
    have HI_2 := Lib.hid (HI_1.out.below hbb)
    clear HI_1
    have X14 := Lib.hid hp
    clear hp ht hbb RN HMm HBB
    generalize w6.heap.size = q14 at *
    have q2 := (act_cells HI_2.out.p5).2.2.1
    go_wp2_with (with_reducible refine at_load_ (t := 80) ?_; refine get_rd (d := d) (sa := sa) (sv := sv) rfl _ rfl (w.heap.size + 1) rfl HI_2.out.p4 ?_)
    refine (ris_any (S := SQ S w.heap.size) a.num w8 HI_2.out.hd).mono ?_
    rintro e w9 ⟨rfl, hb⟩
    rw [HID0.out]
    have HI_3 := Lib.hid (HI_2.out.below hb)
    have X14_3 := Lib.hid (X14.out.below hb)
    clear HI_2 X14
    clear hb q2
    go_wp2_with fail
    obtain ⟨k1, k2, e1, hm1⟩ := X14_3.out
    have HF1 := Lib.hid e1
    have HF2 := Lib.hid HI_3.out.p4
    have HM1 := Lib.hid hm1
    have HM2 := Lib.hid HI_3.out.hd
    clear e1 hm1
    refine wp_region_held_drew (S := fun W => W.heap[q14]? = some (.cells (stoCells (s.closeS a.num).c (s.closeS a.num).n (.map k1) (.map k2) (s.closeS a.num).B (s.closeS a.num).T) 57 (0, 0)) ∧ W.heap[(w.heap.size + 1)]? = some (.cells (rCells sa sv d.R) 80 (0, 0))) (by kernel_rfl) ⟨HF1.out, HF2.out⟩ (fun hHeld => ?_)
    have HHD := Lib.hid hHeld
    have hbd : Below w9.heap.size w9 w9.drew := (Below.refl _ _).drew
    have HID := Lib.hid (HI_3.out.below hbd)
    have HMD1 := Lib.hid (HM1.out.below hbd)
    have HMD2 := Lib.hid (HM2.out.below hbd)
    clear hHeld hbd HF1 HF2 HM1 HM2 HI_3 X14_3
    generalize w9.drew = wd at *
    refine wpAnyH_take (i := 0) (oi := ⟨some 71, _, _, _, _, _⟩) (v := (s.closeS a.num).val k1 k2) rfl (by kernel_rfl) (by kernel_rfl) (by kernel_rfl) (fun _ _ _ h => h) (yields_sto (by rfl) _ rfl q14 rfl 57 (0, 0) (fun _ h => h.1)) HHD.out ?_
    try simp only [Act.put, List.setIfInBounds_toArray, List.set_cons_zero, List.set_cons_succ]
    refine wpAnyH_take (i := 1) (oi := ⟨some 72, _, _, _, _, _⟩) (v := d.val sa sv) rfl (by kernel_rfl) (by kernel_rfl) (by kernel_rfl) (fun _ _ _ h => h) (yields_rd (by rfl) _ rfl (w.heap.size + 1) rfl 80 (0, 0) (fun _ h => h.2)) HHD.out ?_
    try simp only [Act.put, List.setIfInBounds_toArray, List.set_cons_zero, List.set_cons_succ]
    refine wpAnyH_take (i := 2) (oi := ⟨some 73, _, _, _, _, _⟩) (v := .int .i64 10) rfl (by kernel_rfl) (by kernel_rfl) (by kernel_rfl) (fun _ _ _ h => h) (Or.inl ⟨by kernel_rfl, ?_⟩) HHD.out ?_
    · intro W' hW
      go_simp
    try simp only [Act.put, List.setIfInBounds_toArray, List.set_cons_zero, List.set_cons_succ]
    refine wpAnyH_take (i := 3) (oi := ⟨some 74, _, _, _, _, _⟩) (v := .bool true) rfl (by kernel_rfl) (by kernel_rfl) (by kernel_rfl) (fun _ _ _ h => h) (Or.inl ⟨by kernel_rfl, ?_⟩) HHD.out ?_
    · intro W' hW
      go_simp
    try simp only [Act.put, List.setIfInBounds_toArray, List.set_cons_zero, List.set_cons_succ]
    have P6D := Lib.hid HID.out.p6
    have P7D := Lib.hid HID.out.p7
    have HBD := Lib.hid HID.out.hB
    clear HID
    refine wpAnyH_ready (rs := [4]) (by kernel_rfl) (by simp) ?_
    refine AllReadyH.cons (o := ⟨none, _, _, _, _, _⟩) rfl (fun K hK => ?_) (AllReadyH.nil)
    refine Eq.mpr (if_pos (by kernel_rfl)) ?_
    refine wp_put_st (.tmp 6) (.tmp 71) rfl (w.heap.size + 3) rfl rfl P6D.out HMD1.out (fun h => by have h := h.1.2; omega) ?_
    intro wa hp ht
    have P6F := Lib.hid hp
    have HHA := Lib.hid (show wa.heap[q14]? = some (.cells (stoCells (s.closeS a.num).c (s.closeS a.num).n (.map k1) (.map k2) (s.closeS a.num).B (s.closeS a.num).T) 57 (0, 0)) ∧ wa.heap[(w.heap.size + 1)]? = some (.cells (rCells sa sv d.R) 80 (0, 0)) from ⟨(ht.block (by have := HQq14.out; omega)).trans HHD.out.1, (ht.block (by omega)).trans HHD.out.2⟩)
    have P7A := Lib.hid (ht.rat P7D.out (by omega) (fun h => h))
    have MA2 := Lib.hid (ht.mem HMD2.out (fun h => by have h := h.2; omega))
    have HBA := Lib.hid (ht.below HBD.out (by omega))
    clear hp ht HHD P6D P7D HMD1 HMD2 HBD
    refine hK.out _ _ HHA.out (fun hHeldq => ?_)
    clear hK hHeldq
    try simp only [Act.put]
    refine wpAnyH_ready (rs := [5]) (by kernel_rfl) (by simp) ?_
    refine AllReadyH.cons (o := ⟨none, _, _, _, _, _⟩) rfl (fun K hK => ?_) (AllReadyH.nil)
    refine Eq.mpr (if_pos (by kernel_rfl)) ?_
    refine wp_put_rr (.tmp 7) (.tmp 72) rfl (w.heap.size + 4) rfl rfl P7A.out MA2.out (fun h => by have h := h.2; omega) ?_
    intro wb hp ht
    have P7F := Lib.hid hp
    have HHB := Lib.hid (show wb.heap[q14]? = some (.cells (stoCells (s.closeS a.num).c (s.closeS a.num).n (.map k1) (.map k2) (s.closeS a.num).B (s.closeS a.num).T) 57 (0, 0)) ∧ wb.heap[(w.heap.size + 1)]? = some (.cells (rCells sa sv d.R) 80 (0, 0)) from ⟨(ht.block (by have := HQq14.out; omega)).trans HHA.out.1, (ht.block (by omega)).trans HHA.out.2⟩)
    have P6G := Lib.hid (ht.at P6F.out (by omega) (fun h => by have h := h.1.2; omega))
    have HBF := Lib.hid (ht.below HBA.out (by omega))
    clear hp ht P6F HHA P7A MA2 HBA
    have P6F := P6G
    clear P6G
    refine hK.out _ _ HHB.out (fun hHeldq => ?_)
    clear hK hHeldq
    try simp only [Act.put]
    refine wpAnyH_take (i := 6) (oi := ⟨some 8, _, _, _, _, _⟩) (v := .bool true) rfl (by kernel_rfl) (by kernel_rfl) (by kernel_rfl) (fun _ _ _ h => h) (Or.inl ⟨by kernel_rfl, ?_⟩) HHB.out ?_
    · intro W' hW
      go_simp
    try simp only [Act.put, List.setIfInBounds_toArray, List.set_cons_zero, List.set_cons_succ]
    refine wpAnyH_done (by kernel_rfl) ?_ _
    clear HHB
    have H6S := Lib.hid (fun b (h : (fun b => SQ S w.heap.size b ∧ b ≠ q14) b) => (show S b from h.1.1))
    have H7S := Lib.hid (fun b (h : SQ S w.heap.size b) => (show S b from h.1))
    go_wp2_with fail
    obtain ⟨c5, c6, hblk, hmaps⟩ := P6F.out
    obtain ⟨sa5, sv5, hblk2, hmem⟩ := P7F.out
    have hl := load_sto _ _ _ _ _ hblk rfl
    have hl2 := load_rd _ _ _ _ _ hblk2 rfl
    refine bodyPost_ret (v := .tuple #[(s.closeS a.num).val c5 c6, d.val sa5 sv5, .bool true]) ?_ rfl ⟨c5, c6, sa5, sv5, by rw [HDS.out, HDD.out, HNO.out.2], by rw [HDS.out]; exact hmaps.more fun b _ h => H6S.out b h, by rw [HDD.out, HNO.out.2]; exact hmem.more fun b _ h => H7S.out b h, HBF.out⟩
    simp [results, Try.results39, asAddr, hl, hl2, Sn.val, sto, Rd.val, Result.andThen]
end Go.Proofs.Ytpejhgkcofilmaa
