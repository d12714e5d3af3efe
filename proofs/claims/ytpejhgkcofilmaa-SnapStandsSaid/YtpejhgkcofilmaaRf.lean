/- The walk of law28's entries. Conditions: the reference's store has one to six cells; at most a thousand writes. -/
import Derived.Test.YtpejhgkcofilmaaRe
set_option linter.unusedVariables false
namespace Go.Proofs.Ytpejhgkcofilmaa
open Go.RowKit

/-- One write of an act. -/
structure Wr where
  pl : Int
  new : Int
  only : Bool
  wrong : Bool
def wrC (x : Wr) : List Value := [.int .u8 x.pl, .int .i64 x.new, .bool x.only, .bool x.wrong]
def Wrs (w : World) (S : Nat → Prop) (A : Option Addr) (n : Nat) (l : List Wr) : Prop := (n = l.length ∧ ∀ x ∈ l, 0 ≤ x.pl ∧ x.pl ≤ 255) ∧ Reads w S 4 A n (l.flatMap wrC)
theorem Wrs.below {w w' : World} {S : Nat → Prop} {A : Option Addr} {n : Nat} {l : List Wr} (h : Wrs w S A n l) (hb : Below w.heap.size w w') : Wrs w' S A n l := ⟨h.1, h.2.below hb⟩
theorem Wrs.cell {w : World} {S : Nat → Prop} {A : Option Addr} {n : Nat} {l : List Wr} (h : Wrs w S A n l) (k : Nat) (hk : k < l.length) :
    ∃ b o, A = some ⟨b, o, none⟩ ∧ b < w.heap.size ∧ ∀ w', Below w.heap.size w w' → w'.cell? ⟨b, o + k * 4, none⟩ = some (.int .u8 l[k].pl) ∧ w'.cell? ⟨b, o + k * 4 + 1, none⟩ = some (.int .i64 l[k].new) ∧ w'.cell? ⟨b, o + k * 4 + 2, none⟩ = some (.bool l[k].only) ∧ w'.cell? ⟨b, o + k * 4 + 3, none⟩ = some (.bool l[k].wrong) := by
  obtain ⟨⟨rfl, _⟩, h1⟩ := h
  obtain ⟨b, o, e, hb, hS, hc⟩ := h1.2 (by omega)
  refine ⟨b, o, e, hb, fun w' hb' => ?_⟩
  have g := fun (j : Nat) (u : Value) (hj : j < 4) (hu : (wrC l[k])[j]? = some u) => (hb'.cell (p := ⟨b, o + (k * 4 + j), none⟩) hb).trans (hc (k * 4 + j) u ((flat_get2 (s := 4) (fun _ => rfl) l k hk j hj).trans hu))
  refine ⟨?_, ?_, ?_, ?_⟩
  · have := g 0 _ (by omega) rfl; rwa [← Nat.add_assoc] at this
  · have := g 1 _ (by omega) rfl; rwa [← Nat.add_assoc] at this
  · have := g 2 _ (by omega) rfl; rwa [← Nat.add_assoc] at this
  · have := g 3 _ (by omega) rfl; rwa [← Nat.add_assoc] at this
/-- The entry of a write. -/
def Rd.oldE (d : Rd) (i : Int) (x : Wr) : Int := if x.wrong = true then wrap64 (d.nowAt i + 1) else d.nowAt i
def Rd.entE (d : Rd) (i : Int) (x : Wr) : Ent := ⟨i, d.oldE i x, d.vsAt i, 0, if x.only = true then d.oldE i x else x.new, !x.only⟩
def Rd.entS (d : Rd) (n : Nat) (s : List Ent × (Int → Bool)) (x : Wr) : List Ent × (Int → Bool) :=
  if s.2 (x.pl % (n : Int)) = true then s else (s.1 ++ [d.entE (x.pl % (n : Int)) x], fun k => if k = x.pl % (n : Int) then true else s.2 k)
def Rd.entF (d : Rd) (n : Nat) (l : List Wr) : List Ent × (Int → Bool) := l.foldl (d.entS n) ([], fun _ => false)
def Rd.ents (d : Rd) (n : Nat) (l : List Wr) : List Ent := (d.entF n l).1
theorem entF_step (d : Rd) (n : Nat) (l : List Wr) (k : Nat) (hk : k < l.length) : d.entF n (l.take (k + 1)) = d.entS n (d.entF n (l.take k)) l[k] := by
  unfold Rd.entF
  rw [List.take_succ_eq_append_getElem hk, List.foldl_append, List.foldl_cons, List.foldl_nil]
theorem entS_len (d : Rd) (n : Nat) (s : List Ent × (Int → Bool)) (x : Wr) : (d.entS n s x).1.length ≤ s.1.length + 1 := by
  unfold Rd.entS
  split
  · omega
  · simp
theorem entF_len (d : Rd) (n : Nat) (l : List Wr) : (d.entF n l).1.length ≤ l.length := by
  have h : ∀ (l : List Wr) (s : List Ent × (Int → Bool)), (l.foldl (d.entS n) s).1.length ≤ s.1.length + l.length := by
    intro l
    induction l with
    | nil => intro s; simp
    | cons x t ih =>
      intro s
      have h1 := ih (d.entS n s x)
      have h2 := entS_len d n s x
      rw [List.foldl_cons, List.length_cons]
      omega
  have := h l ([], fun _ => false)
  unfold Rd.entF
  simpa using this
/-- What the entries satisfy. -/
theorem entF_all (d : Rd) (n : Nat) (p : Ent → Prop) (l : List Wr) (h : ∀ x ∈ l, p (d.entE (x.pl % (n : Int)) x)) : ∀ e ∈ d.ents n l, p e := by
  have g : ∀ (l : List Wr) (s : List Ent × (Int → Bool)), (∀ x ∈ l, p (d.entE (x.pl % (n : Int)) x)) → (∀ e ∈ s.1, p e) → ∀ e ∈ (l.foldl (d.entS n) s).1, p e := by
    intro l
    induction l with
    | nil => intro s _ h; exact h
    | cons x t ih =>
      intro s hx hs
      rw [List.foldl_cons]
      refine ih _ (fun y hy => hx y (.tail _ hy)) ?_
      unfold Rd.entS
      split
      · exact hs
      · intro e he
        rcases List.mem_append.1 he with he | he
        · exact hs e he
        · rw [List.mem_singleton.1 he]
          exact hx x (.head _)
  exact g l _ h (by simp)
/-- The cells that were met, as a map's values. -/
def mapB (g : Int → Bool) : Int → Option Value := fun k => if g k = true then some (.bool true) else none
theorem mapB_set (g : Int → Bool) (i : Int) : upd (mapB g) i (.bool true) = mapB (fun k => if k = i then true else g k) := by
  funext k
  unfold upd mapB
  show _ = if (if k = i then true else g k) = true then _ else _
  by_cases h : k = i
  · rw [if_pos h, if_pos h, if_pos rfl]
  · rw [if_neg h, if_neg h]
theorem mapB_get (g : Int → Bool) (i : Int) : (mapB g i).getD (.bool false) = .bool (g i) := by
  unfold mapB
  cases g i <;> rfl
theorem tmod_up {a b r : Int} (h0 : 0 ≤ a) (h : a % b = r) : a.tmod b = r := by rw [Int.tmod_eq_emod_of_nonneg h0]; exact h
theorem Ebox_set {w : World} {b : Nat} {lo va ve re ne : Int} {wb : Bool} (h : EBox w b ⟨lo, va, ve, re, ne, wb⟩) (v : Int) : EBox (w.setCell ⟨b, 1, none⟩ (.int .i64 v)) b ⟨lo, v, ve, re, ne, wb⟩ := setCell_block h _
theorem Ebox_set4 {w : World} {b : Nat} {lo va ve re ne : Int} {wb : Bool} (h : EBox w b ⟨lo, va, ve, re, ne, wb⟩) (v : Int) : EBox (w.setCell ⟨b, 4, none⟩ (.int .i64 v)) b ⟨lo, va, ve, re, v, wb⟩ := setCell_block h _
theorem Ebox_set5 {w : World} {b : Nat} {lo va ve re ne : Int} {wb : Bool} (h : EBox w b ⟨lo, va, ve, re, ne, wb⟩) (v : Bool) : EBox (w.setCell ⟨b, 5, none⟩ (.bool v)) b ⟨lo, va, ve, re, ne, v⟩ := setCell_block h _
theorem EBox.nf {w : World} {b : Nat} {e : Ent} (h : EBox w b e) (i : Nat) : w.frozen? ⟨b, i, none⟩ = false := not_frozen h i
section
variable {a : Act} {w : World} {K : Act → World → Prop} {Q : Exit → Act → World → Prop} {o : Oper} {e e0 : Ent}
theorem wp_alloc_ent (ho : o.op = .alloc 69) (k : ∀ w', EBox w' w.heap.size ⟨0, 0, 0, 0, 0, false⟩ → Below w.heap.size w w' → K (a.put o.dst (.pointer (some ⟨w.heap.size, 0, none⟩))) w') : o.wp Try.prog a w K Q := by
  unfold Oper.wp execOp
  simp only [ho]
  simp [Instr.alloc, Result.andThen]
  exact k _ (heap_alloc_new _ _) ((Below.refl _ _).alloc (Nat.le_refl _) _)
theorem Try.size69_ : (Try.prog.info? 69).map (·.size) = some 6 := by kernel_rfl
theorem wp_put_ent (x y : Operand) (ho : o.op = .store 69 x y) (g : Nat) (hx : a.eval x = .pointer (some ⟨g, 0, none⟩)) (hy : a.eval y = entV e)
    (h0 : EBox w g e0) (k : ∀ w', EBox w' g e → Touch g w w' → K (a.put o.dst undef) w') : o.wp Try.prog a w K Q :=
  wp_store_row 69 x y ho g _ hx hy 69 _ h0 Try.size69_ rfl (by simp [Value.oneCell']) (k _ (setRow_heap _ _ _ _ _ _ h0) ⟨_, rfl⟩)
end

set_option maxRecDepth 100000 in
set_option maxHeartbeats 12800000 in
theorem entries_any {S : Nat → Prop} {d : Rd} {sa sv : Value} (n : Nat) (A : Option Addr) (m c : Nat) (l : List Wr) (w : World) (hS : ∀ b, w.heap.size ≤ b → S b) (hm : d.Mem w S sa sv) (hw : d.Wide n) (hn1 : 1 ≤ n) (hn : n ≤ 6) (hl : Wrs w S A m l) (hlen : l.length ≤ 1000) :
    Calls Try.prog 70 #[d.val sa sv, .slice A m c] w fun e w' => ∃ A' c', e = .returned (.slice A' (d.ents n l).length c') ∧ (d.ents n l).length ≤ c' ∧ Ents w' S A' (d.ents n l).length (d.ents n l) ∧ Below w.heap.size w w' := by
  have hmm := @run_makeMap Try.prog
  obtain ⟨ie, hie0, hie1, hie2, hie3⟩ := info_parts (P := Try.prog) (e := 69) (z := .agg #[.int .i64 0, .int .i64 0, .int .u32 0, .int .u32 0, .int .i64 0, .bool false]) (size := 6) (bytes := 40) (by kernel_rfl)
  have HS := Lib.hid hS
  have HE := Lib.hid hl
  have HN := Lib.hid hl.1.1
  have HU8 := Lib.hid hl.1.2
  have HLE := Lib.hid hlen
  have hmm2 : (m : Int) ≤ 1000 := by have := hl.1.1; omega
  obtain ⟨V, vc, rfl, hv1, hv2, hv3⟩ := Rd.vs_row hm
  have hvn : d.vs.length = n := hw.1
  rw [hvn] at hm hv3 ⊢
  have HM := Lib.hid hm
  have HV := Lib.hid hv3
  have HVN := Lib.hid hvn
  obtain ⟨bs, os, sc, A1, c1, rfl, hbs, hSs, hrow, hc11, hA1, hr1, hr2⟩ := Rd.now_row hm hw
  have HROW := Lib.hid (And.intro hbs hrow)
  have HR1 := Lib.hid hr1
  have HRL := Lib.hid hr2
  have hlen2 : (d.st.length : Int) ≤ 1000 := by have := hw.2.2.1; omega
  have hlen1 : 1 ≤ (d.st.length : Int) := by have := hw.2.1; omega
  obtain ⟨ln, hln⟩ : ∃ ln : Nat, d.st.length = ln + 1 := ⟨d.st.length - 1, by have := hw.2.1; omega⟩
  have hlnI : (d.st.length : Int) - 1 = (ln : Int) := by omega
  have HLNI := Lib.hid hlnI
  rw [hln, Nat.add_sub_cancel] at HROW
  have HLN2 := Lib.hid hln
  have hnn : (n : Int) ≤ 6 := by omega
  have hnp : 1 ≤ (n : Int) := by omega
  have HN6 := Lib.hid (And.intro hn1 hn)
  clear hS hm hw hn hn1 hl hlen hv1 hv2 hv3 hbs hSs hrow hr1 hr2 hln hlnI hc11 hA1 hvn
  go_enter Try.func70, Try.ntmps70
  go_wp2_with (with_reducible refine at_box_ (t := 80) ?_; refine box_rd rfl _ rfl rfl HM.out ?_)
  intro w1 hp _ hb hz
  have P1 := Lib.hid hp
  have HB1 := Lib.hid hb
  have HZ1 := Lib.hid hz
  clear hp hb hz
  go_wp2
  rw [HZ1.out]
  have hb2 : Below w1.heap.size w1 (w1.alloc (.map #[] 0)) := (Below.refl _ _).alloc (Nat.le_refl _) _
  have M2 := Lib.hid (show IntMap (w1.alloc (.map #[] 0)) (w.heap.size + 1) (mapB fun _ => false) from by have := IntMap.made w1; rw [HZ1.out] at this; exact this)
  have P2 := Lib.hid ((hb2.block _ (lt_of_block P1.out)).trans P1.out)
  have HB2 := Lib.hid (HB1.out.trans (hb2.mono HB1.out.size))
  have HZ2 := Lib.hid (show w.heap.size + 2 ≤ (w1.alloc (.map #[] 0)).heap.size by simp [HZ1.out])
  clear hb2 P1 HB1 HZ1 hmm
  generalize w1.alloc (.map #[] 0) = w2 at *
  go_loopw [5, 14] (fun v i wr => ∃ k : Nat, k ≤ l.length ∧ i = .int .i64 k ∧ Hid (wr.ownsRow (w.heap.size + 2) 69 6 v (d.entF n (l.take k)).1.length (flatE (d.entF n (l.take k)).1)) ∧ Hid (IntMap wr (w.heap.size + 1) (mapB (d.entF n (l.take k)).2)) ∧ Hid (wr.heap[w.heap.size]? = some (.cells (rCells (.slice (some ⟨bs, os, none⟩) d.st.length sc) (.slice V n vc) d.R) 80 (0, 0))) ∧ Hid (Below w.heap.size w wr) ∧ Hid (w.heap.size + 2 ≤ wr.heap.size)) (fun _ i _ => l.length - (intOf i).toNat)
  case atStart => exact ⟨0, by omega, rfl, Lib.hid (World.ownsRow_nil _ _ _ _), M2, P2, HB2, HZ2⟩
  case round =>
    clear M2 P2 HB2 HZ2
    obtain ⟨k, hk, rfl, O, HMP, P, HB, HZ⟩ := hrel
    by_cases hlt : k < l.length
    · skip
      have hi : (k : Int) < (m : Int) := by have := HN.out; omega
      obtain ⟨bw, ow, rfl, hbw, hc⟩ := HE.out.cell k hlt
      obtain ⟨c0, c1', c2, c3⟩ := hc wr HB.out
      have v0 := (rd_all P.out).2.1
      have HK := Lib.hid hlt
      have HSTEP := Lib.hid (entF_step d n l k hlt)
      have hpl := HU8.out l[k] (List.getElem_mem hlt)
      clear hc hk
      generalize l[k] = y at *
      clear hlt
      obtain ⟨pl, ne, on, bad⟩ := y
      dsimp only at c0 c1' c2 c3 hpl
      have hpl0 : 0 ≤ pl := hpl.1
      have hpl1 : pl ≤ 255 := hpl.2
      clear hpl
      obtain ⟨j, hj⟩ : ∃ j : Nat, pl % (n : Int) = (j : Int) := ⟨(pl % (n : Int)).toNat, by have := Int.emod_nonneg pl (show (n : Int) ≠ 0 by omega); omega⟩
      have hjn : j < n := by have := Int.emod_lt_of_pos pl (show (0 : Int) < (n : Int) by omega); omega
      have htm : pl.tmod (n : Int) = (j : Int) := tmod_up hpl0 hj
      have HJ := Lib.hid hjn
      have hnz : ((n : Int) == 0) = false := by simp; omega
      have hjI : (j : Int) < (n : Int) := by omega
      have HE1 := Lib.hid (show d.entF n (l.take (k + 1)) = if (d.entF n (l.take k)).2 j = true then d.entF n (l.take k) else ((d.entF n (l.take k)).1 ++ [d.entE j ⟨pl, ne, on, bad⟩], fun i => if i = j then true else (d.entF n (l.take k)).2 i) from by rw [HSTEP.out]; unfold Rd.entS; dsimp only; rw [hj])
      have HEL := Lib.hid (entF_len d n (l.take k))
      clear HSTEP hj hjn
      generalize d.entF n (l.take k) = z at *
      obtain ⟨es, g⟩ := z
      dsimp only at O HMP HE1 HEL
      have hgj := mapB_get g j
      have hwr : ∀ o, Below wr.heap.size wr (wr.alloc o) := fun o => (Below.refl _ _).alloc (Nat.le_refl _) o
      have v1 := ((hwr (.cells #[.int .u8 pl, .int .i64 ne, .bool on, .bool bad] 156)).cell (World.block_lt_of_cell? _ _ v0)).trans v0
      go_wp2_with (at_lookup; refine Hid.out ?_)
      refine Lib.hid ?_
      have O3 := Lib.hid (own_below O.out (hwr (.cells #[.int .u8 pl, .int .i64 ne, .bool on, .bool bad] 156)))
      have HM3 := Lib.hid (HMP.out.below (hwr (.cells #[.int .u8 pl, .int .i64 ne, .bool on, .bool bad] 156)))
      have P3 := Lib.hid (((hwr (.cells #[.int .u8 pl, .int .i64 ne, .bool on, .bool bad] 156)).block _ (lt_of_block P.out)).trans P.out)
      have HB3 := Lib.hid (HB.out.trans ((hwr (.cells #[.int .u8 pl, .int .i64 ne, .bool on, .bool bad] 156)).mono HB.out.size))
      have HZ3 := Lib.hid (Nat.le_trans HZ.out (hwr (.cells #[.int .u8 pl, .int .i64 ne, .bool on, .bool bad] 156)).size)
      have W3 := Lib.hid (show (wr.alloc (.cells #[.int .u8 pl, .int .i64 ne, .bool on, .bool bad] 156)).heap[wr.heap.size]? = some (.cells #[.int .u8 pl, .int .i64 ne, .bool on, .bool bad] 156) from heap_alloc_new _ _)
      have HQ3 := Lib.hid HZ.out
      have HQB := Lib.hid (fun g (hg : u5.ownBlock = some g) => (O.out.lt g hg).2)
      clear hwr O HMP P HB HZ c0 c1' c2 c3 v0 v1
      generalize wr.heap.size = q at *
      generalize wr.alloc (.cells #[.int .u8 pl, .int .i64 ne, .bool on, .bool bad] 156) = w3 at *
      refine wpList_lookup_mine rfl (.tmp 25) (.tmp 26) 154 false rfl 3 4 Try.underlying154 Try.underlying3 (.bool false) bool_zero (fun _ => True) _ (mapB g) (.inr ⟨w.heap.size + 1, rfl, trivial, HM3.out.lt, HM3.out⟩) rfl j rfl ?_
      rw [hgj]
      simp only [if_false, Bool.false_eq_true]
      clear hgj
      cases hg : g (j : Int) with
      | true =>
        have HE2 := Lib.hid (HE1.out.trans (if_pos hg))
        clear HE1 hg HQ3 HQB W3 HEL
        go_wp2
        go_roundw
        case rel => exact ⟨k + 1, HK.out, by go_num, by rw [HE2.out]; exact O3, by rw [HE2.out]; exact HM3, P3, HB3, HZ3⟩
        case measure => exact meas_up _ _ HK.out
      | false =>
        have HE2 := Lib.hid (HE1.out.trans (if_neg (by rw [hg]; simp)))
        clear HE1 hg
        go_wp2_with (at_mapUpdate; refine Hid.out ?_)
        refine Lib.hid ?_
        refine wpList_mapUpdate_mine rfl (.tmp 28) (.tmp 29) (.const (.bool true)) 154 rfl 3 4 Try.underlying154 Try.underlying3 (w.heap.size + 1) (mapB g) HM3.out rfl j rfl (.bool true) rfl (fun w5 hm5 hg5 hs5 => ?_)
        have HM5 := Lib.hid (show IntMap w5 (w.heap.size + 1) (mapB fun i => if i = (j : Int) then true else g i) from by rw [← mapB_set]; exact hm5)
        have P5 := Lib.hid ((hg5.block _ (lt_of_block P3.out) (by simp)).trans P3.out)
        have W5 := Lib.hid ((hg5.block _ (lt_of_block W3.out) (by have := HQ3.out; simp; omega)).trans W3.out)
        have HB5 := Lib.hid (HB3.out.grown hg5 HB3.out.size (by simp))
        have O5 := Lib.hid (own_keep O3.out fun b hb => hg5.block b (O3.out.lt b hb).2 (by simp; have := (O3.out.lt b hb).1; omega))
        have HZ5 := Lib.hid (show w.heap.size + 2 ≤ w5.heap.size by rw [hs5]; exact HZ3.out)
        have HQ5 := Lib.hid (lt_of_block W5.out)
        clear hm5 hg5 hs5 O3 HM3 P3 HB3 HZ3 W3
        obtain ⟨b1, o1, rfl, hb1, _, hc1⟩ := HR1.out.2 (by omega)
        obtain ⟨bv, ov, rfl, hbv, _, hcv⟩ := HV.out.2 (by omega)
        have n0 := (HB5.out.cell (p := ⟨b1, o1 + j, none⟩) hb1).trans (hc1 j _ (getD_map _ j (by have := HRL.out; have := HJ.out; omega) _))
        have x0 := (HB5.out.cell (p := ⟨bv, ov + j, none⟩) hbv).trans (hcv j _ (getD_map _ j (by have := HVN.out; have := HJ.out; omega) _))
        have HNW := Lib.hid (show d.nowAt (j : Int) = (d.st.getLast?.getD []).getD j 0 from by unfold Rd.nowAt; rw [show ((j : Int)).toNat = j from by omega])
        have HXV := Lib.hid (show d.vsAt (j : Int) = d.vs.getD j 0 from by unfold Rd.vsAt; rw [show ((j : Int)).toNat = j from by omega])
        generalize (d.st.getLast?.getD []).getD j 0 = nw at *
        generalize d.vs.getD j 0 = xv at *
        clear hc1 hcv hb1 hbv
        have r0 := (HB5.out.cell (p := ⟨bs, os + ln, none⟩) HROW.out.1).trans HROW.out.2
        have q1 : w5.cell? ⟨q, 1, none⟩ = some (.int .i64 ne) := by rw [cell_of_row _ _ _ _ _ _ W5.out]; rfl
        go_wp2_with fail
        have HLIM := Lib.hid (fun (W : World) (hb : Below w5.heap.size w5 W) => (show W.heap[w.heap.size]? = some (.cells (rCells (.slice (some ⟨bs, os, none⟩) d.st.length sc) (.slice (some ⟨bv, ov, none⟩) n vc) d.R) 80 (0, 0)) ∧ W.cell? ⟨bs, os + ln, none⟩ = some (.slice (some ⟨b1, o1, none⟩) n c1) ∧ W.cell? ⟨b1, o1 + j, none⟩ = some (.int .i64 nw) ∧ W.cell? ⟨bv, ov + j, none⟩ = some (.int .u32 xv) ∧ W.cell? ⟨q, 1, none⟩ = some (.int .i64 ne) from ⟨(hb.block _ (lt_of_block P5.out)).trans P5.out, (hb.cell (World.block_lt_of_cell? _ _ r0)).trans r0, (hb.cell (World.block_lt_of_cell? _ _ n0)).trans n0, (hb.cell (World.block_lt_of_cell? _ _ x0)).trans x0, (hb.cell (World.block_lt_of_cell? _ _ q1)).trans q1⟩))
        refine wp_region_held_drew (S := fun W => W.heap[w.heap.size]? = some (.cells (rCells (.slice (some ⟨bs, os, none⟩) d.st.length sc) (.slice (some ⟨bv, ov, none⟩) n vc) d.R) 80 (0, 0)) ∧ W.cell? ⟨bs, os + ln, none⟩ = some (.slice (some ⟨b1, o1, none⟩) n c1) ∧ W.cell? ⟨b1, o1 + j, none⟩ = some (.int .i64 nw) ∧ W.cell? ⟨bv, ov + j, none⟩ = some (.int .u32 xv) ∧ W.cell? ⟨q, 1, none⟩ = some (.int .i64 ne)) (by kernel_rfl) ⟨P5.out, r0, n0, x0, q1⟩ (fun hHeld => ?_)
        have HHD := Lib.hid hHeld
        have HBD := Lib.hid (show Below w5.heap.size w5 w5.drew from (Below.refl _ _).drew)
        clear hHeld r0 n0 x0 q1
        generalize w5.drew = wd at *
        refine wpAnyH_take (i := 0) (oi := ⟨some 30, _, _, _, _, _⟩) (v := .int .i64 j) rfl (by kernel_rfl) (by kernel_rfl) (by kernel_rfl) (fun _ _ _ h => h) (Or.inl ⟨by rfl, ?_⟩) HHD.out ?_
        · intro W' hW
          go_simp
        try simp only [Act.put, List.setIfInBounds_toArray, List.set_cons_zero, List.set_cons_succ]
        refine wpAnyH_take (i := 1) (oi := ⟨some 31, _, _, _, _, _⟩) (v := .pointer (some ⟨w.heap.size, 0, none⟩)) rfl (by kernel_rfl) (by kernel_rfl) (by kernel_rfl) (fun _ _ _ h => h) (Or.inl ⟨by rfl, ?_⟩) HHD.out ?_
        · intro W' hW
          go_simp
        try simp only [Act.put, List.setIfInBounds_toArray, List.set_cons_zero, List.set_cons_succ]
        refine wpAnyH_take (i := 2) (oi := ⟨some 32, _, _, _, _, _⟩) (v := (.slice (some ⟨bs, os, none⟩) d.st.length sc)) rfl (by kernel_rfl) (by kernel_rfl) (by kernel_rfl) (fun _ _ _ h => h) (Or.inl ⟨by rfl, ?_⟩) HHD.out ?_
        · intro W' hW
          have hf := (rd_all hW.1).1
          go_simp
        try simp only [Act.put, List.setIfInBounds_toArray, List.set_cons_zero, List.set_cons_succ]
        refine wpAnyH_take (i := 3) (oi := ⟨some 33, _, _, _, _, _⟩) (v := d.val (.slice (some ⟨bs, os, none⟩) d.st.length sc) (.slice (some ⟨bv, ov, none⟩) n vc)) rfl (by kernel_rfl) (by kernel_rfl) (by kernel_rfl) (fun _ _ _ h => h) (yields_rd (by rfl) _ rfl w.heap.size rfl 80 (0, 0) (fun _ h => h.1)) HHD.out ?_
        try simp only [Act.put, List.setIfInBounds_toArray, List.set_cons_zero, List.set_cons_succ]
        refine wpAnyH_take (i := 7) (oi := ⟨some 37, _, _, _, _, _⟩) (v := .int .i64 j) rfl (by kernel_rfl) (by kernel_rfl) (by kernel_rfl) (fun _ _ _ h => h) (Or.inl ⟨by rfl, ?_⟩) HHD.out ?_
        · intro W' hW
          go_simp
        try simp only [Act.put, List.setIfInBounds_toArray, List.set_cons_zero, List.set_cons_succ]
        refine wpAnyH_take (i := 10) (oi := ⟨some 40, _, _, _, _, _⟩) (v := .pointer (some ⟨w.heap.size, 1, none⟩)) rfl (by kernel_rfl) (by kernel_rfl) (by kernel_rfl) (fun _ _ _ h => h) (Or.inl ⟨by rfl, ?_⟩) HHD.out ?_
        · intro W' hW
          go_simp
        try simp only [Act.put, List.setIfInBounds_toArray, List.set_cons_zero, List.set_cons_succ]
        refine wpAnyH_take (i := 11) (oi := ⟨some 41, _, _, _, _, _⟩) (v := (.slice (some ⟨bv, ov, none⟩) n vc)) rfl (by kernel_rfl) (by kernel_rfl) (by kernel_rfl) (fun _ _ _ h => h) (Or.inl ⟨by rfl, ?_⟩) HHD.out ?_
        · intro W' hW
          have hf := (rd_all hW.1).2.1
          go_simp
        try simp only [Act.put, List.setIfInBounds_toArray, List.set_cons_zero, List.set_cons_succ]
        refine wpAnyH_take (i := 12) (oi := ⟨some 42, _, _, _, _, _⟩) (v := .int .i64 j) rfl (by kernel_rfl) (by kernel_rfl) (by kernel_rfl) (fun _ _ _ h => h) (Or.inl ⟨by rfl, ?_⟩) HHD.out ?_
        · intro W' hW
          go_simp
        try simp only [Act.put, List.setIfInBounds_toArray, List.set_cons_zero, List.set_cons_succ]
        refine wpAnyH_take (i := 13) (oi := ⟨some 43, _, _, _, _, _⟩) (v := .pointer (some ⟨bv, ov + j, none⟩)) rfl (by kernel_rfl) (by kernel_rfl) (by kernel_rfl) (fun _ _ _ h => h) (Or.inl ⟨by rfl, ?_⟩) HHD.out ?_
        · intro W' hW
          go_simp
        try simp only [Act.put, List.setIfInBounds_toArray, List.set_cons_zero, List.set_cons_succ]
        refine wpAnyH_take (i := 14) (oi := ⟨some 44, _, _, _, _, _⟩) (v := .int .u32 xv) rfl (by kernel_rfl) (by kernel_rfl) (by kernel_rfl) (fun _ _ _ h => h) (Or.inl ⟨by rfl, ?_⟩) HHD.out ?_
        · intro W' hW
          have hf := hW.2.2.2.1
          go_simp
        try simp only [Act.put, List.setIfInBounds_toArray, List.set_cons_zero, List.set_cons_succ]
        refine wpAnyH_take (i := 16) (oi := ⟨some 46, _, _, _, _, _⟩) (v := .pointer (some ⟨q, 1, none⟩)) rfl (by kernel_rfl) (by kernel_rfl) (by kernel_rfl) (fun _ _ _ h => h) (Or.inl ⟨by rfl, ?_⟩) HHD.out ?_
        · intro W' hW
          go_simp
        try simp only [Act.put, List.setIfInBounds_toArray, List.set_cons_zero, List.set_cons_succ]
        refine wpAnyH_take (i := 17) (oi := ⟨some 47, _, _, _, _, _⟩) (v := .int .i64 ne) rfl (by kernel_rfl) (by kernel_rfl) (by kernel_rfl) (fun _ _ _ h => h) (Or.inl ⟨by rfl, ?_⟩) HHD.out ?_
        · intro W' hW
          have hf := hW.2.2.2.2
          go_simp
        try simp only [Act.put, List.setIfInBounds_toArray, List.set_cons_zero, List.set_cons_succ]
        have hi2 : (ln : Int) < (d.st.length : Int) := by have := HLN2.out; omega
        refine wpAnyH_ready (rs := [4, 19]) (by kernel_rfl) (by simp) ?_
        refine AllReadyH.cons (o := ⟨some 34, _, _, _, _, _⟩) rfl (fun K hK => ?_) (AllReadyH.cons (o := ⟨some 10, _, _, _, _, _⟩) rfl (fun K hK => ?_) (AllReadyH.nil))
        · skip
          go_simp
          refine (rnow_any wd ((HM.out.below HB5.out).below HBD.out) (by have := HLN2.out; omega)).mono ?_
          rintro e we ⟨he, hb⟩
          rw [HLNI.out] at he
          subst he
          have hbw := HBD.out.trans (hb.mono HBD.out.size)
          have HHE := Lib.hid (And.intro ((hb.block _ (lt_of_block HHD.out.1)).trans HHD.out.1) (And.intro ((hb.cell (World.block_lt_of_cell? _ _ HHD.out.2.1)).trans HHD.out.2.1) (And.intro ((hb.cell (World.block_lt_of_cell? _ _ HHD.out.2.2.1)).trans HHD.out.2.2.1) (And.intro ((hb.cell (World.block_lt_of_cell? _ _ HHD.out.2.2.2.1)).trans HHD.out.2.2.2.1) ((hb.cell (World.block_lt_of_cell? _ _ HHD.out.2.2.2.2)).trans HHD.out.2.2.2.2)))))
          have HBE := Lib.hid hbw
          clear hb hbw HHD HBD
          refine hK.out _ _ HHE.out (fun hHeldq => ?_)
          clear hK hHeldq
          try simp only [Act.put, List.setIfInBounds_toArray, List.set_cons_zero, List.set_cons_succ]
          refine wpAnyH_take (i := 5) (oi := ⟨some 35, _, _, _, _, _⟩) (v := .pointer (some ⟨bs, os + ln, none⟩)) rfl (by kernel_rfl) (by kernel_rfl) (by kernel_rfl) (fun _ _ _ h => h) (Or.inl ⟨by rfl, ?_⟩) HHE.out ?_
          · intro W' hW
            go_simp
          try simp only [Act.put, List.setIfInBounds_toArray, List.set_cons_zero, List.set_cons_succ]
          refine wpAnyH_take (i := 6) (oi := ⟨some 36, _, _, _, _, _⟩) (v := .slice (some ⟨b1, o1, none⟩) n c1) rfl (by kernel_rfl) (by kernel_rfl) (by kernel_rfl) (fun _ _ _ h => h) (Or.inl ⟨by rfl, ?_⟩) HHE.out ?_
          · intro W' hW
            have hf := hW.2.1
            go_simp
          try simp only [Act.put, List.setIfInBounds_toArray, List.set_cons_zero, List.set_cons_succ]
          refine wpAnyH_take (i := 8) (oi := ⟨some 38, _, _, _, _, _⟩) (v := .pointer (some ⟨b1, o1 + j, none⟩)) rfl (by kernel_rfl) (by kernel_rfl) (by kernel_rfl) (fun _ _ _ h => h) (Or.inl ⟨by rfl, ?_⟩) HHE.out ?_
          · intro W' hW
            go_simp
          try simp only [Act.put, List.setIfInBounds_toArray, List.set_cons_zero, List.set_cons_succ]
          refine wpAnyH_take (i := 9) (oi := ⟨some 39, _, _, _, _, _⟩) (v := .int .i64 nw) rfl (by kernel_rfl) (by kernel_rfl) (by kernel_rfl) (fun _ _ _ h => h) (Or.inl ⟨by rfl, ?_⟩) HHE.out ?_
          · intro W' hW
            have hf := hW.2.2.1
            go_simp
          try simp only [Act.put, List.setIfInBounds_toArray, List.set_cons_zero, List.set_cons_succ]
          refine wpAnyH_take (i := 15) (oi := ⟨some 45, _, _, _, _, _⟩) (v := .agg #[.int .i64 nw, .int .u32 xv, .int .u32 0]) rfl (by kernel_rfl) (by kernel_rfl) (by kernel_rfl) (fun _ _ _ h => h) (Or.inl ⟨by rfl, ?_⟩) HHE.out ?_
          · intro W' hW
            go_simp
          try simp only [Act.put, List.setIfInBounds_toArray, List.set_cons_zero, List.set_cons_succ]
          refine wpAnyH_take (i := 18) (oi := ⟨some 48, _, _, _, _, _⟩) (v := .agg #[.int .i64 j, .int .i64 nw, .int .u32 xv, .int .u32 0, .int .i64 ne, .bool true]) rfl (by kernel_rfl) (by kernel_rfl) (by kernel_rfl) (fun _ _ _ h => h) (Or.inl ⟨by rfl, ?_⟩) HHE.out ?_
          · intro W' hW
            go_simp
          try simp only [Act.put, List.setIfInBounds_toArray, List.set_cons_zero, List.set_cons_succ]
          refine wpAnyH_ready (rs := [19]) (by kernel_rfl) (by simp) ?_
          refine AllReadyH.cons (o := ⟨some 10, _, _, _, _, _⟩) rfl (fun K hK => ?_) (AllReadyH.nil)
          refine Eq.mpr (if_pos (by kernel_rfl)) ?_
          refine wp_alloc_ent rfl ?_
          intro wf he hb
          have HE0 := Lib.hid he
          have HHF := Lib.hid (And.intro ((hb.block _ (lt_of_block HHE.out.1)).trans HHE.out.1) (And.intro ((hb.cell (World.block_lt_of_cell? _ _ HHE.out.2.1)).trans HHE.out.2.1) (And.intro ((hb.cell (World.block_lt_of_cell? _ _ HHE.out.2.2.1)).trans HHE.out.2.2.1) (And.intro ((hb.cell (World.block_lt_of_cell? _ _ HHE.out.2.2.2.1)).trans HHE.out.2.2.2.1) ((hb.cell (World.block_lt_of_cell? _ _ HHE.out.2.2.2.2)).trans HHE.out.2.2.2.2)))))
          have HBF := Lib.hid (HBE.out.trans (hb.mono HBE.out.size))
          have HQE := Lib.hid (show w5.heap.size ≤ we.heap.size from HBE.out.size)
          clear he hb
          generalize we.heap.size = qe at *
          clear HHE HBE
          refine hK.out _ _ HHF.out (fun hHeldq => ?_)
          clear hK hHeldq
          try simp only [Act.put, List.setIfInBounds_toArray, List.set_cons_zero, List.set_cons_succ]
          refine wpAnyH_ready (rs := [20]) (by kernel_rfl) (by simp) ?_
          refine AllReadyH.cons (o := ⟨none, _, _, _, _, _⟩) rfl (fun K hK => ?_) (AllReadyH.nil)
          refine Eq.mpr (if_pos (by kernel_rfl)) ?_
          refine wp_put_ent (e := ⟨j, nw, xv, 0, ne, true⟩) (.tmp 10) (.tmp 48) rfl qe rfl rfl HE0.out ?_
          intro wz he ht
          have E0 := Lib.hid he
          have HBG := Lib.hid (ht.below HBF.out HQE.out)
          have HHZ := Lib.hid (show wz.heap[w.heap.size]? = some (.cells (rCells (.slice (some ⟨bs, os, none⟩) d.st.length sc) (.slice (some ⟨bv, ov, none⟩) n vc) d.R) 80 (0, 0)) ∧ wz.cell? ⟨bs, os + ln, none⟩ = some (.slice (some ⟨b1, o1, none⟩) n c1) ∧ wz.cell? ⟨b1, o1 + j, none⟩ = some (.int .i64 nw) ∧ wz.cell? ⟨bv, ov + j, none⟩ = some (.int .u32 xv) ∧ wz.cell? ⟨q, 1, none⟩ = some (.int .i64 ne) from HLIM.out wz HBG.out)
          clear he ht
          refine hK.out _ _ HHZ.out (fun hHeldq => ?_)
          clear hK hHeldq HHZ
          try simp only [Act.put]
          refine wpAnyH_done (by kernel_rfl) ?_ _
          clear HHF HBF HE0
          clear HLIM
          have g2 : wz.cell? ⟨q, 2, none⟩ = some (.bool on) := by have := (HBG.out.block _ (lt_of_block W5.out)).trans W5.out; rw [cell_of_row _ _ _ _ _ _ this]; rfl
          have g3 : wz.cell? ⟨q, 3, none⟩ = some (.bool bad) := by have := (HBG.out.block _ (lt_of_block W5.out)).trans W5.out; rw [cell_of_row _ _ _ _ _ _ this]; rfl
          cases bad with
          | true =>
            cases on with
            | true =>
              have z1 := E0.out.all.2.1
              have zf := E0.out.nf
              dsimp only at z1
              have E1 := Lib.hid (Ebox_set E0.out (wrap64 (nw + 1)))
              have y2 : (wz.setCell ⟨qe, 1, none⟩ (.int .i64 (wrap64 (nw + 1)))).cell? ⟨q, 2, none⟩ = some (.bool true) := (World.cell?_setCell_other _ _ _ _ (fun e => by injection e with e1 e2; have := HQE.out; have := HQ5.out; omega)).trans g2
              have y1 : (wz.setCell ⟨qe, 1, none⟩ (.int .i64 (wrap64 (nw + 1)))).cell? ⟨qe, 1, none⟩ = some (.int .i64 (wrap64 (nw + 1))) := E1.out.all.2.1
              have y4 : (wz.setCell ⟨qe, 1, none⟩ (.int .i64 (wrap64 (nw + 1)))).cell? ⟨qe, 4, none⟩ = some (.int .i64 ne) := E1.out.all.2.2.2.2.1
              have yf : ∀ i, (wz.setCell ⟨qe, 1, none⟩ (.int .i64 (wrap64 (nw + 1)))).frozen? ⟨qe, i, none⟩ = false := E1.out.nf
              have E2 := Lib.hid (Ebox_set4 E1.out (wrap64 (nw + 1)))
              have x5 : ((wz.setCell ⟨qe, 1, none⟩ (.int .i64 (wrap64 (nw + 1)))).setCell ⟨qe, 4, none⟩ (.int .i64 (wrap64 (nw + 1)))).cell? ⟨qe, 5, none⟩ = some (.bool true) := E2.out.all.2.2.2.2.2
              have xf : ∀ i, ((wz.setCell ⟨qe, 1, none⟩ (.int .i64 (wrap64 (nw + 1)))).setCell ⟨qe, 4, none⟩ (.int .i64 (wrap64 (nw + 1)))).frozen? ⟨qe, i, none⟩ = false := E2.out.nf
              have E3 := Lib.hid (Ebox_set5 E2.out false)
              have HBX := Lib.hid (show Below w5.heap.size w5 (((wz.setCell ⟨qe, 1, none⟩ (.int .i64 (wrap64 (nw + 1)))).setCell ⟨qe, 4, none⟩ (.int .i64 (wrap64 (nw + 1)))).setCell ⟨qe, 5, none⟩ (.bool false)) from (((HBG.out.setCell (p := ⟨qe, 1, none⟩) HQE.out _).setCell (p := ⟨qe, 4, none⟩) HQE.out _).setCell (p := ⟨qe, 5, none⟩) HQE.out _))
              have EX := Lib.hid (show (((wz.setCell ⟨qe, 1, none⟩ (.int .i64 (wrap64 (nw + 1)))).setCell ⟨qe, 4, none⟩ (.int .i64 (wrap64 (nw + 1)))).setCell ⟨qe, 5, none⟩ (.bool false)).heap[qe]? = some (.cells #[.int .i64 j, .int .i64 (wrap64 (nw + 1)), .int .u32 xv, .int .u32 0, .int .i64 (wrap64 (nw + 1)), .bool false] 69 (0, 0)) from E3.out)
              clear E0 E1 E3 E2
              go_wp2_with (with_reducible refine at_load_ (t := 69) ?_; refine Hid.out ?_)
              refine Lib.hid ?_
              clear g2 g3 y2 z1 zf y1 y4 yf x5 xf
              generalize (((wz.setCell ⟨qe, 1, none⟩ (.int .i64 (wrap64 (nw + 1)))).setCell ⟨qe, 4, none⟩ (.int .i64 (wrap64 (nw + 1)))).setCell ⟨qe, 5, none⟩ (.bool false)) = wx at *
              refine wpList_load_row rfl 69 (.tmp 10) rfl qe rfl 69 #[.int .i64 j, .int .i64 (wrap64 (nw + 1)), .int .u32 xv, .int .u32 0, .int .i64 (wrap64 (nw + 1)), .bool false] (0, 0) _ EX.out Try.underlying69 rfl Try.size69_ ?_
              try simp only [Act.put, List.setIfInBounds_toArray, List.set_cons_zero, List.set_cons_succ]
              have OX := Lib.hid (own_below O5.out HBX.out)
              have HNR := Lib.hid (Reads.new (S := fun _ => True) (size := 6) (n := 1) wx #[.int .i64 j, .int .i64 (wrap64 (nw + 1)), .int .u32 xv, .int .u32 0, .int .i64 (wrap64 (nw + 1)), .bool false] 69 rfl trivial)
              go_wp2_with (at_builtin; (refine wpList_append_any rfl (.tmp 64) (.tmp 66) 91 rfl (w.heap.size + 2) 69 ie _ 6 40 Try.underlying91 hie0 hie1 hie2 hie3 rfl (by omega) u5 _ _ rfl (OX.out.alloc _) _ _ 1 1 _ rfl HNR.out ?m1 ?m2 ?m3 ?m4 ?m5))
              case m1 => first | (intro u hu; simp at hu; rcases hu with rfl | rfl | rfl | rfl | rfl | rfl <;> rfl) | (simp [Value.oneCell'])
              case m2 => have := HEL.out; have := HK.out; have := HLE.out; rw [List.length_take] at *; simp only [maxLen]; omega
              case m3 => have := HEL.out; have := HK.out; have := HLE.out; rw [List.length_take] at *; omega
              case m4 => have := HZ5.out; have := HBX.out.size; simp; omega
              case m5 =>
                intro v' wk ho hg _
                have hbx : Below w5.heap.size w5 (wx.alloc (.cells #[.int .i64 j, .int .i64 (wrap64 (nw + 1)), .int .u32 xv, .int .u32 0, .int .i64 (wrap64 (nw + 1)), .bool false] 69)) := HBX.out.alloc HBX.out.size _
                have HEN := Lib.hid (show (d.entF n (l.take (k + 1))).1 = es ++ [⟨j, (wrap64 (nw + 1)), xv, 0, (wrap64 (nw + 1)), false⟩] from by rw [HE2.out]; dsimp only; unfold Rd.entE Rd.oldE; rw [HNW.out, HXV.out]; simp)
                have HEG := Lib.hid (show (d.entF n (l.take (k + 1))).2 = (fun i => if i = (j : Int) then true else g i) from by rw [HE2.out])
                have OK := Lib.hid (show wk.ownsRow (w.heap.size + 2) 69 6 v' (d.entF n (l.take (k + 1))).1.length (flatE (d.entF n (l.take (k + 1))).1) from by rw [HEN.out, List.length_append]; unfold flatE at ho ⊢; rw [List.flatMap_append]; exact ho)
                have hgk : ∀ b, b < w5.heap.size → some b ≠ u5.ownBlock → wk.heap[b]? = w5.heap[b]? := fun b h1 h2 => (hg.block b (Nat.lt_of_lt_of_le h1 hbx.size) h2).trans (hbx.block b h1)
                have hno : ∀ b, b < w.heap.size + 2 → some b ≠ u5.ownBlock := fun b hb e => by have := (O5.out.lt b e.symm).1; omega
                have MK := Lib.hid (HM5.out.keep (hgk _ HM5.out.lt (hno _ (by omega))))
                have PK := Lib.hid ((hgk _ (lt_of_block P5.out) (hno _ (by omega))).trans P5.out)
                have HBK := Lib.hid ((HB5.out.trans (hbx.mono HB5.out.size)).grown hg (by have := HB5.out.size; have := hbx.size; omega) (fun g hg' => by have := (O5.out.lt g hg').1; omega))
                have HZK := Lib.hid (show w.heap.size + 2 ≤ wk.heap.size from Nat.le_trans (Nat.le_trans HZ5.out hbx.size) hg.size)
                clear ho hg hbx hgk hno HNR OX HBX EX O5 HM5 P5 HB5 HZ5 HBG
                go_wp2
                go_roundw
                case rel => exact ⟨k + 1, HK.out, by go_num, OK, by rw [HEG.out]; exact MK, PK, HBK, HZK⟩
                case measure => exact meas_up _ _ HK.out
            | false =>
              have z1 := E0.out.all.2.1
              have zf := E0.out.nf
              dsimp only at z1
              have E1 := Lib.hid (Ebox_set E0.out (wrap64 (nw + 1)))
              have y2 : (wz.setCell ⟨qe, 1, none⟩ (.int .i64 (wrap64 (nw + 1)))).cell? ⟨q, 2, none⟩ = some (.bool false) := (World.cell?_setCell_other _ _ _ _ (fun e => by injection e with e1 e2; have := HQE.out; have := HQ5.out; omega)).trans g2
              have E3 := Lib.hid E1.out
              have HBX := Lib.hid (show Below w5.heap.size w5 (wz.setCell ⟨qe, 1, none⟩ (.int .i64 (wrap64 (nw + 1)))) from (HBG.out.setCell (p := ⟨qe, 1, none⟩) HQE.out _))
              have EX := Lib.hid (show (wz.setCell ⟨qe, 1, none⟩ (.int .i64 (wrap64 (nw + 1)))).heap[qe]? = some (.cells #[.int .i64 j, .int .i64 (wrap64 (nw + 1)), .int .u32 xv, .int .u32 0, .int .i64 ne, .bool true] 69 (0, 0)) from E3.out)
              clear E0 E1 E3
              go_wp2_with (with_reducible refine at_load_ (t := 69) ?_; refine Hid.out ?_)
              refine Lib.hid ?_
              clear g2 g3 y2 z1 zf
              generalize (wz.setCell ⟨qe, 1, none⟩ (.int .i64 (wrap64 (nw + 1)))) = wx at *
              refine wpList_load_row rfl 69 (.tmp 10) rfl qe rfl 69 #[.int .i64 j, .int .i64 (wrap64 (nw + 1)), .int .u32 xv, .int .u32 0, .int .i64 ne, .bool true] (0, 0) _ EX.out Try.underlying69 rfl Try.size69_ ?_
              try simp only [Act.put, List.setIfInBounds_toArray, List.set_cons_zero, List.set_cons_succ]
              have OX := Lib.hid (own_below O5.out HBX.out)
              have HNR := Lib.hid (Reads.new (S := fun _ => True) (size := 6) (n := 1) wx #[.int .i64 j, .int .i64 (wrap64 (nw + 1)), .int .u32 xv, .int .u32 0, .int .i64 ne, .bool true] 69 rfl trivial)
              go_wp2_with (at_builtin; (refine wpList_append_any rfl (.tmp 64) (.tmp 66) 91 rfl (w.heap.size + 2) 69 ie _ 6 40 Try.underlying91 hie0 hie1 hie2 hie3 rfl (by omega) u5 _ _ rfl (OX.out.alloc _) _ _ 1 1 _ rfl HNR.out ?m1 ?m2 ?m3 ?m4 ?m5))
              case m1 => first | (intro u hu; simp at hu; rcases hu with rfl | rfl | rfl | rfl | rfl | rfl <;> rfl) | (simp [Value.oneCell'])
              case m2 => have := HEL.out; have := HK.out; have := HLE.out; rw [List.length_take] at *; simp only [maxLen]; omega
              case m3 => have := HEL.out; have := HK.out; have := HLE.out; rw [List.length_take] at *; omega
              case m4 => have := HZ5.out; have := HBX.out.size; simp; omega
              case m5 =>
                intro v' wk ho hg _
                have hbx : Below w5.heap.size w5 (wx.alloc (.cells #[.int .i64 j, .int .i64 (wrap64 (nw + 1)), .int .u32 xv, .int .u32 0, .int .i64 ne, .bool true] 69)) := HBX.out.alloc HBX.out.size _
                have HEN := Lib.hid (show (d.entF n (l.take (k + 1))).1 = es ++ [⟨j, (wrap64 (nw + 1)), xv, 0, ne, true⟩] from by rw [HE2.out]; dsimp only; unfold Rd.entE Rd.oldE; rw [HNW.out, HXV.out]; simp)
                have HEG := Lib.hid (show (d.entF n (l.take (k + 1))).2 = (fun i => if i = (j : Int) then true else g i) from by rw [HE2.out])
                have OK := Lib.hid (show wk.ownsRow (w.heap.size + 2) 69 6 v' (d.entF n (l.take (k + 1))).1.length (flatE (d.entF n (l.take (k + 1))).1) from by rw [HEN.out, List.length_append]; unfold flatE at ho ⊢; rw [List.flatMap_append]; exact ho)
                have hgk : ∀ b, b < w5.heap.size → some b ≠ u5.ownBlock → wk.heap[b]? = w5.heap[b]? := fun b h1 h2 => (hg.block b (Nat.lt_of_lt_of_le h1 hbx.size) h2).trans (hbx.block b h1)
                have hno : ∀ b, b < w.heap.size + 2 → some b ≠ u5.ownBlock := fun b hb e => by have := (O5.out.lt b e.symm).1; omega
                have MK := Lib.hid (HM5.out.keep (hgk _ HM5.out.lt (hno _ (by omega))))
                have PK := Lib.hid ((hgk _ (lt_of_block P5.out) (hno _ (by omega))).trans P5.out)
                have HBK := Lib.hid ((HB5.out.trans (hbx.mono HB5.out.size)).grown hg (by have := HB5.out.size; have := hbx.size; omega) (fun g hg' => by have := (O5.out.lt g hg').1; omega))
                have HZK := Lib.hid (show w.heap.size + 2 ≤ wk.heap.size from Nat.le_trans (Nat.le_trans HZ5.out hbx.size) hg.size)
                clear ho hg hbx hgk hno HNR OX HBX EX O5 HM5 P5 HB5 HZ5 HBG
                go_wp2
                go_roundw
                case rel => exact ⟨k + 1, HK.out, by go_num, OK, by rw [HEG.out]; exact MK, PK, HBK, HZK⟩
                case measure => exact meas_up _ _ HK.out
          | false =>
            cases on with
            | true =>
              have E1 := Lib.hid E0.out
              have y2 := g2
              have y1 : wz.cell? ⟨qe, 1, none⟩ = some (.int .i64 nw) := E1.out.all.2.1
              have y4 : wz.cell? ⟨qe, 4, none⟩ = some (.int .i64 ne) := E1.out.all.2.2.2.2.1
              have yf : ∀ i, wz.frozen? ⟨qe, i, none⟩ = false := E1.out.nf
              have E2 := Lib.hid (Ebox_set4 E1.out nw)
              have x5 : (wz.setCell ⟨qe, 4, none⟩ (.int .i64 nw)).cell? ⟨qe, 5, none⟩ = some (.bool true) := E2.out.all.2.2.2.2.2
              have xf : ∀ i, (wz.setCell ⟨qe, 4, none⟩ (.int .i64 nw)).frozen? ⟨qe, i, none⟩ = false := E2.out.nf
              have E3 := Lib.hid (Ebox_set5 E2.out false)
              have HBX := Lib.hid (show Below w5.heap.size w5 ((wz.setCell ⟨qe, 4, none⟩ (.int .i64 nw)).setCell ⟨qe, 5, none⟩ (.bool false)) from ((HBG.out.setCell (p := ⟨qe, 4, none⟩) HQE.out _).setCell (p := ⟨qe, 5, none⟩) HQE.out _))
              have EX := Lib.hid (show ((wz.setCell ⟨qe, 4, none⟩ (.int .i64 nw)).setCell ⟨qe, 5, none⟩ (.bool false)).heap[qe]? = some (.cells #[.int .i64 j, .int .i64 nw, .int .u32 xv, .int .u32 0, .int .i64 nw, .bool false] 69 (0, 0)) from E3.out)
              clear E0 E1 E3 E2
              go_wp2_with (with_reducible refine at_load_ (t := 69) ?_; refine Hid.out ?_)
              refine Lib.hid ?_
              clear g2 g3 y2 y1 y4 yf x5 xf
              generalize ((wz.setCell ⟨qe, 4, none⟩ (.int .i64 nw)).setCell ⟨qe, 5, none⟩ (.bool false)) = wx at *
              refine wpList_load_row rfl 69 (.tmp 10) rfl qe rfl 69 #[.int .i64 j, .int .i64 nw, .int .u32 xv, .int .u32 0, .int .i64 nw, .bool false] (0, 0) _ EX.out Try.underlying69 rfl Try.size69_ ?_
              try simp only [Act.put, List.setIfInBounds_toArray, List.set_cons_zero, List.set_cons_succ]
              have OX := Lib.hid (own_below O5.out HBX.out)
              have HNR := Lib.hid (Reads.new (S := fun _ => True) (size := 6) (n := 1) wx #[.int .i64 j, .int .i64 nw, .int .u32 xv, .int .u32 0, .int .i64 nw, .bool false] 69 rfl trivial)
              go_wp2_with (at_builtin; (refine wpList_append_any rfl (.tmp 64) (.tmp 66) 91 rfl (w.heap.size + 2) 69 ie _ 6 40 Try.underlying91 hie0 hie1 hie2 hie3 rfl (by omega) u5 _ _ rfl (OX.out.alloc _) _ _ 1 1 _ rfl HNR.out ?m1 ?m2 ?m3 ?m4 ?m5))
              case m1 => first | (intro u hu; simp at hu; rcases hu with rfl | rfl | rfl | rfl | rfl | rfl <;> rfl) | (simp [Value.oneCell'])
              case m2 => have := HEL.out; have := HK.out; have := HLE.out; rw [List.length_take] at *; simp only [maxLen]; omega
              case m3 => have := HEL.out; have := HK.out; have := HLE.out; rw [List.length_take] at *; omega
              case m4 => have := HZ5.out; have := HBX.out.size; simp; omega
              case m5 =>
                intro v' wk ho hg _
                have hbx : Below w5.heap.size w5 (wx.alloc (.cells #[.int .i64 j, .int .i64 nw, .int .u32 xv, .int .u32 0, .int .i64 nw, .bool false] 69)) := HBX.out.alloc HBX.out.size _
                have HEN := Lib.hid (show (d.entF n (l.take (k + 1))).1 = es ++ [⟨j, nw, xv, 0, nw, false⟩] from by rw [HE2.out]; dsimp only; unfold Rd.entE Rd.oldE; rw [HNW.out, HXV.out]; simp)
                have HEG := Lib.hid (show (d.entF n (l.take (k + 1))).2 = (fun i => if i = (j : Int) then true else g i) from by rw [HE2.out])
                have OK := Lib.hid (show wk.ownsRow (w.heap.size + 2) 69 6 v' (d.entF n (l.take (k + 1))).1.length (flatE (d.entF n (l.take (k + 1))).1) from by rw [HEN.out, List.length_append]; unfold flatE at ho ⊢; rw [List.flatMap_append]; exact ho)
                have hgk : ∀ b, b < w5.heap.size → some b ≠ u5.ownBlock → wk.heap[b]? = w5.heap[b]? := fun b h1 h2 => (hg.block b (Nat.lt_of_lt_of_le h1 hbx.size) h2).trans (hbx.block b h1)
                have hno : ∀ b, b < w.heap.size + 2 → some b ≠ u5.ownBlock := fun b hb e => by have := (O5.out.lt b e.symm).1; omega
                have MK := Lib.hid (HM5.out.keep (hgk _ HM5.out.lt (hno _ (by omega))))
                have PK := Lib.hid ((hgk _ (lt_of_block P5.out) (hno _ (by omega))).trans P5.out)
                have HBK := Lib.hid ((HB5.out.trans (hbx.mono HB5.out.size)).grown hg (by have := HB5.out.size; have := hbx.size; omega) (fun g hg' => by have := (O5.out.lt g hg').1; omega))
                have HZK := Lib.hid (show w.heap.size + 2 ≤ wk.heap.size from Nat.le_trans (Nat.le_trans HZ5.out hbx.size) hg.size)
                clear ho hg hbx hgk hno HNR OX HBX EX O5 HM5 P5 HB5 HZ5 HBG
                go_wp2
                go_roundw
                case rel => exact ⟨k + 1, HK.out, by go_num, OK, by rw [HEG.out]; exact MK, PK, HBK, HZK⟩
                case measure => exact meas_up _ _ HK.out
            | false =>
              have E1 := Lib.hid E0.out
              have y2 := g2
              have E3 := Lib.hid E1.out
              have HBX := Lib.hid (show Below w5.heap.size w5 wz from HBG.out)
              have EX := Lib.hid (show wz.heap[qe]? = some (.cells #[.int .i64 j, .int .i64 nw, .int .u32 xv, .int .u32 0, .int .i64 ne, .bool true] 69 (0, 0)) from E3.out)
              clear E0 E1 E3
              go_wp2_with (with_reducible refine at_load_ (t := 69) ?_; refine Hid.out ?_)
              refine Lib.hid ?_
              clear g2 g3 y2
              generalize wz = wx at *
              refine wpList_load_row rfl 69 (.tmp 10) rfl qe rfl 69 #[.int .i64 j, .int .i64 nw, .int .u32 xv, .int .u32 0, .int .i64 ne, .bool true] (0, 0) _ EX.out Try.underlying69 rfl Try.size69_ ?_
              try simp only [Act.put, List.setIfInBounds_toArray, List.set_cons_zero, List.set_cons_succ]
              have OX := Lib.hid (own_below O5.out HBX.out)
              have HNR := Lib.hid (Reads.new (S := fun _ => True) (size := 6) (n := 1) wx #[.int .i64 j, .int .i64 nw, .int .u32 xv, .int .u32 0, .int .i64 ne, .bool true] 69 rfl trivial)
              go_wp2_with (at_builtin; (refine wpList_append_any rfl (.tmp 64) (.tmp 66) 91 rfl (w.heap.size + 2) 69 ie _ 6 40 Try.underlying91 hie0 hie1 hie2 hie3 rfl (by omega) u5 _ _ rfl (OX.out.alloc _) _ _ 1 1 _ rfl HNR.out ?m1 ?m2 ?m3 ?m4 ?m5))
              case m1 => first | (intro u hu; simp at hu; rcases hu with rfl | rfl | rfl | rfl | rfl | rfl <;> rfl) | (simp [Value.oneCell'])
              case m2 => have := HEL.out; have := HK.out; have := HLE.out; rw [List.length_take] at *; simp only [maxLen]; omega
              case m3 => have := HEL.out; have := HK.out; have := HLE.out; rw [List.length_take] at *; omega
              case m4 => have := HZ5.out; have := HBX.out.size; simp; omega
              case m5 =>
                intro v' wk ho hg _
                have hbx : Below w5.heap.size w5 (wx.alloc (.cells #[.int .i64 j, .int .i64 nw, .int .u32 xv, .int .u32 0, .int .i64 ne, .bool true] 69)) := HBX.out.alloc HBX.out.size _
                have HEN := Lib.hid (show (d.entF n (l.take (k + 1))).1 = es ++ [⟨j, nw, xv, 0, ne, true⟩] from by rw [HE2.out]; dsimp only; unfold Rd.entE Rd.oldE; rw [HNW.out, HXV.out]; simp)
                have HEG := Lib.hid (show (d.entF n (l.take (k + 1))).2 = (fun i => if i = (j : Int) then true else g i) from by rw [HE2.out])
                have OK := Lib.hid (show wk.ownsRow (w.heap.size + 2) 69 6 v' (d.entF n (l.take (k + 1))).1.length (flatE (d.entF n (l.take (k + 1))).1) from by rw [HEN.out, List.length_append]; unfold flatE at ho ⊢; rw [List.flatMap_append]; exact ho)
                have hgk : ∀ b, b < w5.heap.size → some b ≠ u5.ownBlock → wk.heap[b]? = w5.heap[b]? := fun b h1 h2 => (hg.block b (Nat.lt_of_lt_of_le h1 hbx.size) h2).trans (hbx.block b h1)
                have hno : ∀ b, b < w.heap.size + 2 → some b ≠ u5.ownBlock := fun b hb e => by have := (O5.out.lt b e.symm).1; omega
                have MK := Lib.hid (HM5.out.keep (hgk _ HM5.out.lt (hno _ (by omega))))
                have PK := Lib.hid ((hgk _ (lt_of_block P5.out) (hno _ (by omega))).trans P5.out)
                have HBK := Lib.hid ((HB5.out.trans (hbx.mono HB5.out.size)).grown hg (by have := HB5.out.size; have := hbx.size; omega) (fun g hg' => by have := (O5.out.lt g hg').1; omega))
                have HZK := Lib.hid (show w.heap.size + 2 ≤ wk.heap.size from Nat.le_trans (Nat.le_trans HZ5.out hbx.size) hg.size)
                clear ho hg hbx hgk hno HNR OX HBX EX O5 HM5 P5 HB5 HZ5 HBG
                go_wp2
                go_roundw
                case rel => exact ⟨k + 1, HK.out, by go_num, OK, by rw [HEG.out]; exact MK, PK, HBK, HZK⟩
                case measure => exact meas_up _ _ HK.out
        · skip
          refine Eq.mpr (if_pos (by kernel_rfl)) ?_
          refine wp_alloc_ent rfl ?_
          intro we he hb
          have HE0 := Lib.hid he
          have HHE := Lib.hid (And.intro ((hb.block _ (lt_of_block HHD.out.1)).trans HHD.out.1) (And.intro ((hb.cell (World.block_lt_of_cell? _ _ HHD.out.2.1)).trans HHD.out.2.1) (And.intro ((hb.cell (World.block_lt_of_cell? _ _ HHD.out.2.2.1)).trans HHD.out.2.2.1) (And.intro ((hb.cell (World.block_lt_of_cell? _ _ HHD.out.2.2.2.1)).trans HHD.out.2.2.2.1) ((hb.cell (World.block_lt_of_cell? _ _ HHD.out.2.2.2.2)).trans HHD.out.2.2.2.2)))))
          have HBE := Lib.hid (HBD.out.trans (hb.mono HBD.out.size))
          have HQE := Lib.hid (show w5.heap.size ≤ wd.heap.size from HBD.out.size)
          clear he hb
          generalize wd.heap.size = qe at *
          clear HHD HBD
          refine hK.out _ _ HHE.out (fun hHeldq => ?_)
          clear hK hHeldq
          try simp only [Act.put, List.setIfInBounds_toArray, List.set_cons_zero, List.set_cons_succ]
          refine wpAnyH_ready (rs := [4]) (by kernel_rfl) (by simp) ?_
          refine AllReadyH.cons (o := ⟨some 34, _, _, _, _, _⟩) rfl (fun K hK => ?_) (AllReadyH.nil)
          go_simp
          refine (rnow_any we ((HM.out.below HB5.out).below HBE.out) (by have := HLN2.out; omega)).mono ?_
          rintro e wf ⟨he, hb⟩
          rw [HLNI.out] at he
          subst he
          have hbw := HBE.out.trans (hb.mono HBE.out.size)
          have HHF := Lib.hid (And.intro ((hb.block _ (lt_of_block HHE.out.1)).trans HHE.out.1) (And.intro ((hb.cell (World.block_lt_of_cell? _ _ HHE.out.2.1)).trans HHE.out.2.1) (And.intro ((hb.cell (World.block_lt_of_cell? _ _ HHE.out.2.2.1)).trans HHE.out.2.2.1) (And.intro ((hb.cell (World.block_lt_of_cell? _ _ HHE.out.2.2.2.1)).trans HHE.out.2.2.2.1) ((hb.cell (World.block_lt_of_cell? _ _ HHE.out.2.2.2.2)).trans HHE.out.2.2.2.2)))))
          have HBF := Lib.hid hbw
          have HE1' := Lib.hid (HE0.out.below hb)
          clear hb hbw HHE HBE HE0
          have HE0 := HE1'
          clear HE1'
          refine hK.out _ _ HHF.out (fun hHeldq => ?_)
          clear hK hHeldq
          try simp only [Act.put, List.setIfInBounds_toArray, List.set_cons_zero, List.set_cons_succ]
          refine wpAnyH_take (i := 5) (oi := ⟨some 35, _, _, _, _, _⟩) (v := .pointer (some ⟨bs, os + ln, none⟩)) rfl (by kernel_rfl) (by kernel_rfl) (by kernel_rfl) (fun _ _ _ h => h) (Or.inl ⟨by rfl, ?_⟩) HHF.out ?_
          · intro W' hW
            go_simp
          try simp only [Act.put, List.setIfInBounds_toArray, List.set_cons_zero, List.set_cons_succ]
          refine wpAnyH_take (i := 6) (oi := ⟨some 36, _, _, _, _, _⟩) (v := .slice (some ⟨b1, o1, none⟩) n c1) rfl (by kernel_rfl) (by kernel_rfl) (by kernel_rfl) (fun _ _ _ h => h) (Or.inl ⟨by rfl, ?_⟩) HHF.out ?_
          · intro W' hW
            have hf := hW.2.1
            go_simp
          try simp only [Act.put, List.setIfInBounds_toArray, List.set_cons_zero, List.set_cons_succ]
          refine wpAnyH_take (i := 8) (oi := ⟨some 38, _, _, _, _, _⟩) (v := .pointer (some ⟨b1, o1 + j, none⟩)) rfl (by kernel_rfl) (by kernel_rfl) (by kernel_rfl) (fun _ _ _ h => h) (Or.inl ⟨by rfl, ?_⟩) HHF.out ?_
          · intro W' hW
            go_simp
          try simp only [Act.put, List.setIfInBounds_toArray, List.set_cons_zero, List.set_cons_succ]
          refine wpAnyH_take (i := 9) (oi := ⟨some 39, _, _, _, _, _⟩) (v := .int .i64 nw) rfl (by kernel_rfl) (by kernel_rfl) (by kernel_rfl) (fun _ _ _ h => h) (Or.inl ⟨by rfl, ?_⟩) HHF.out ?_
          · intro W' hW
            have hf := hW.2.2.1
            go_simp
          try simp only [Act.put, List.setIfInBounds_toArray, List.set_cons_zero, List.set_cons_succ]
          refine wpAnyH_take (i := 15) (oi := ⟨some 45, _, _, _, _, _⟩) (v := .agg #[.int .i64 nw, .int .u32 xv, .int .u32 0]) rfl (by kernel_rfl) (by kernel_rfl) (by kernel_rfl) (fun _ _ _ h => h) (Or.inl ⟨by rfl, ?_⟩) HHF.out ?_
          · intro W' hW
            go_simp
          try simp only [Act.put, List.setIfInBounds_toArray, List.set_cons_zero, List.set_cons_succ]
          refine wpAnyH_take (i := 18) (oi := ⟨some 48, _, _, _, _, _⟩) (v := .agg #[.int .i64 j, .int .i64 nw, .int .u32 xv, .int .u32 0, .int .i64 ne, .bool true]) rfl (by kernel_rfl) (by kernel_rfl) (by kernel_rfl) (fun _ _ _ h => h) (Or.inl ⟨by rfl, ?_⟩) HHF.out ?_
          · intro W' hW
            go_simp
          try simp only [Act.put, List.setIfInBounds_toArray, List.set_cons_zero, List.set_cons_succ]
          refine wpAnyH_ready (rs := [20]) (by kernel_rfl) (by simp) ?_
          refine AllReadyH.cons (o := ⟨none, _, _, _, _, _⟩) rfl (fun K hK => ?_) (AllReadyH.nil)
          refine Eq.mpr (if_pos (by kernel_rfl)) ?_
          refine wp_put_ent (e := ⟨j, nw, xv, 0, ne, true⟩) (.tmp 10) (.tmp 48) rfl qe rfl rfl HE0.out ?_
          intro wz he ht
          have E0 := Lib.hid he
          have HBG := Lib.hid (ht.below HBF.out HQE.out)
          have HHZ := Lib.hid (show wz.heap[w.heap.size]? = some (.cells (rCells (.slice (some ⟨bs, os, none⟩) d.st.length sc) (.slice (some ⟨bv, ov, none⟩) n vc) d.R) 80 (0, 0)) ∧ wz.cell? ⟨bs, os + ln, none⟩ = some (.slice (some ⟨b1, o1, none⟩) n c1) ∧ wz.cell? ⟨b1, o1 + j, none⟩ = some (.int .i64 nw) ∧ wz.cell? ⟨bv, ov + j, none⟩ = some (.int .u32 xv) ∧ wz.cell? ⟨q, 1, none⟩ = some (.int .i64 ne) from HLIM.out wz HBG.out)
          clear he ht
          refine hK.out _ _ HHZ.out (fun hHeldq => ?_)
          clear hK hHeldq HHZ
          try simp only [Act.put]
          refine wpAnyH_done (by kernel_rfl) ?_ _
          clear HHF HBF HE0
          clear HLIM
          have g2 : wz.cell? ⟨q, 2, none⟩ = some (.bool on) := by have := (HBG.out.block _ (lt_of_block W5.out)).trans W5.out; rw [cell_of_row _ _ _ _ _ _ this]; rfl
          have g3 : wz.cell? ⟨q, 3, none⟩ = some (.bool bad) := by have := (HBG.out.block _ (lt_of_block W5.out)).trans W5.out; rw [cell_of_row _ _ _ _ _ _ this]; rfl
          cases bad with
          | true =>
            cases on with
            | true =>
              have z1 := E0.out.all.2.1
              have zf := E0.out.nf
              dsimp only at z1
              have E1 := Lib.hid (Ebox_set E0.out (wrap64 (nw + 1)))
              have y2 : (wz.setCell ⟨qe, 1, none⟩ (.int .i64 (wrap64 (nw + 1)))).cell? ⟨q, 2, none⟩ = some (.bool true) := (World.cell?_setCell_other _ _ _ _ (fun e => by injection e with e1 e2; have := HQE.out; have := HQ5.out; omega)).trans g2
              have y1 : (wz.setCell ⟨qe, 1, none⟩ (.int .i64 (wrap64 (nw + 1)))).cell? ⟨qe, 1, none⟩ = some (.int .i64 (wrap64 (nw + 1))) := E1.out.all.2.1
              have y4 : (wz.setCell ⟨qe, 1, none⟩ (.int .i64 (wrap64 (nw + 1)))).cell? ⟨qe, 4, none⟩ = some (.int .i64 ne) := E1.out.all.2.2.2.2.1
              have yf : ∀ i, (wz.setCell ⟨qe, 1, none⟩ (.int .i64 (wrap64 (nw + 1)))).frozen? ⟨qe, i, none⟩ = false := E1.out.nf
              have E2 := Lib.hid (Ebox_set4 E1.out (wrap64 (nw + 1)))
              have x5 : ((wz.setCell ⟨qe, 1, none⟩ (.int .i64 (wrap64 (nw + 1)))).setCell ⟨qe, 4, none⟩ (.int .i64 (wrap64 (nw + 1)))).cell? ⟨qe, 5, none⟩ = some (.bool true) := E2.out.all.2.2.2.2.2
              have xf : ∀ i, ((wz.setCell ⟨qe, 1, none⟩ (.int .i64 (wrap64 (nw + 1)))).setCell ⟨qe, 4, none⟩ (.int .i64 (wrap64 (nw + 1)))).frozen? ⟨qe, i, none⟩ = false := E2.out.nf
              have E3 := Lib.hid (Ebox_set5 E2.out false)
              have HBX := Lib.hid (show Below w5.heap.size w5 (((wz.setCell ⟨qe, 1, none⟩ (.int .i64 (wrap64 (nw + 1)))).setCell ⟨qe, 4, none⟩ (.int .i64 (wrap64 (nw + 1)))).setCell ⟨qe, 5, none⟩ (.bool false)) from (((HBG.out.setCell (p := ⟨qe, 1, none⟩) HQE.out _).setCell (p := ⟨qe, 4, none⟩) HQE.out _).setCell (p := ⟨qe, 5, none⟩) HQE.out _))
              have EX := Lib.hid (show (((wz.setCell ⟨qe, 1, none⟩ (.int .i64 (wrap64 (nw + 1)))).setCell ⟨qe, 4, none⟩ (.int .i64 (wrap64 (nw + 1)))).setCell ⟨qe, 5, none⟩ (.bool false)).heap[qe]? = some (.cells #[.int .i64 j, .int .i64 (wrap64 (nw + 1)), .int .u32 xv, .int .u32 0, .int .i64 (wrap64 (nw + 1)), .bool false] 69 (0, 0)) from E3.out)
              clear E0 E1 E3 E2
              go_wp2_with (with_reducible refine at_load_ (t := 69) ?_; refine Hid.out ?_)
              refine Lib.hid ?_
              clear g2 g3 y2 z1 zf y1 y4 yf x5 xf
              generalize (((wz.setCell ⟨qe, 1, none⟩ (.int .i64 (wrap64 (nw + 1)))).setCell ⟨qe, 4, none⟩ (.int .i64 (wrap64 (nw + 1)))).setCell ⟨qe, 5, none⟩ (.bool false)) = wx at *
              refine wpList_load_row rfl 69 (.tmp 10) rfl qe rfl 69 #[.int .i64 j, .int .i64 (wrap64 (nw + 1)), .int .u32 xv, .int .u32 0, .int .i64 (wrap64 (nw + 1)), .bool false] (0, 0) _ EX.out Try.underlying69 rfl Try.size69_ ?_
              try simp only [Act.put, List.setIfInBounds_toArray, List.set_cons_zero, List.set_cons_succ]
              have OX := Lib.hid (own_below O5.out HBX.out)
              have HNR := Lib.hid (Reads.new (S := fun _ => True) (size := 6) (n := 1) wx #[.int .i64 j, .int .i64 (wrap64 (nw + 1)), .int .u32 xv, .int .u32 0, .int .i64 (wrap64 (nw + 1)), .bool false] 69 rfl trivial)
              go_wp2_with (at_builtin; (refine wpList_append_any rfl (.tmp 64) (.tmp 66) 91 rfl (w.heap.size + 2) 69 ie _ 6 40 Try.underlying91 hie0 hie1 hie2 hie3 rfl (by omega) u5 _ _ rfl (OX.out.alloc _) _ _ 1 1 _ rfl HNR.out ?m1 ?m2 ?m3 ?m4 ?m5))
              case m1 => first | (intro u hu; simp at hu; rcases hu with rfl | rfl | rfl | rfl | rfl | rfl <;> rfl) | (simp [Value.oneCell'])
              case m2 => have := HEL.out; have := HK.out; have := HLE.out; rw [List.length_take] at *; simp only [maxLen]; omega
              case m3 => have := HEL.out; have := HK.out; have := HLE.out; rw [List.length_take] at *; omega
              case m4 => have := HZ5.out; have := HBX.out.size; simp; omega
              case m5 =>
                intro v' wk ho hg _
                have hbx : Below w5.heap.size w5 (wx.alloc (.cells #[.int .i64 j, .int .i64 (wrap64 (nw + 1)), .int .u32 xv, .int .u32 0, .int .i64 (wrap64 (nw + 1)), .bool false] 69)) := HBX.out.alloc HBX.out.size _
                have HEN := Lib.hid (show (d.entF n (l.take (k + 1))).1 = es ++ [⟨j, (wrap64 (nw + 1)), xv, 0, (wrap64 (nw + 1)), false⟩] from by rw [HE2.out]; dsimp only; unfold Rd.entE Rd.oldE; rw [HNW.out, HXV.out]; simp)
                have HEG := Lib.hid (show (d.entF n (l.take (k + 1))).2 = (fun i => if i = (j : Int) then true else g i) from by rw [HE2.out])
                have OK := Lib.hid (show wk.ownsRow (w.heap.size + 2) 69 6 v' (d.entF n (l.take (k + 1))).1.length (flatE (d.entF n (l.take (k + 1))).1) from by rw [HEN.out, List.length_append]; unfold flatE at ho ⊢; rw [List.flatMap_append]; exact ho)
                have hgk : ∀ b, b < w5.heap.size → some b ≠ u5.ownBlock → wk.heap[b]? = w5.heap[b]? := fun b h1 h2 => (hg.block b (Nat.lt_of_lt_of_le h1 hbx.size) h2).trans (hbx.block b h1)
                have hno : ∀ b, b < w.heap.size + 2 → some b ≠ u5.ownBlock := fun b hb e => by have := (O5.out.lt b e.symm).1; omega
                have MK := Lib.hid (HM5.out.keep (hgk _ HM5.out.lt (hno _ (by omega))))
                have PK := Lib.hid ((hgk _ (lt_of_block P5.out) (hno _ (by omega))).trans P5.out)
                have HBK := Lib.hid ((HB5.out.trans (hbx.mono HB5.out.size)).grown hg (by have := HB5.out.size; have := hbx.size; omega) (fun g hg' => by have := (O5.out.lt g hg').1; omega))
                have HZK := Lib.hid (show w.heap.size + 2 ≤ wk.heap.size from Nat.le_trans (Nat.le_trans HZ5.out hbx.size) hg.size)
                clear ho hg hbx hgk hno HNR OX HBX EX O5 HM5 P5 HB5 HZ5 HBG
                go_wp2
                go_roundw
                case rel => exact ⟨k + 1, HK.out, by go_num, OK, by rw [HEG.out]; exact MK, PK, HBK, HZK⟩
                case measure => exact meas_up _ _ HK.out
            | false =>
              have z1 := E0.out.all.2.1
              have zf := E0.out.nf
              dsimp only at z1
              have E1 := Lib.hid (Ebox_set E0.out (wrap64 (nw + 1)))
              have y2 : (wz.setCell ⟨qe, 1, none⟩ (.int .i64 (wrap64 (nw + 1)))).cell? ⟨q, 2, none⟩ = some (.bool false) := (World.cell?_setCell_other _ _ _ _ (fun e => by injection e with e1 e2; have := HQE.out; have := HQ5.out; omega)).trans g2
              have E3 := Lib.hid E1.out
              have HBX := Lib.hid (show Below w5.heap.size w5 (wz.setCell ⟨qe, 1, none⟩ (.int .i64 (wrap64 (nw + 1)))) from (HBG.out.setCell (p := ⟨qe, 1, none⟩) HQE.out _))
              have EX := Lib.hid (show (wz.setCell ⟨qe, 1, none⟩ (.int .i64 (wrap64 (nw + 1)))).heap[qe]? = some (.cells #[.int .i64 j, .int .i64 (wrap64 (nw + 1)), .int .u32 xv, .int .u32 0, .int .i64 ne, .bool true] 69 (0, 0)) from E3.out)
              clear E0 E1 E3
              go_wp2_with (with_reducible refine at_load_ (t := 69) ?_; refine Hid.out ?_)
              refine Lib.hid ?_
              clear g2 g3 y2 z1 zf
              generalize (wz.setCell ⟨qe, 1, none⟩ (.int .i64 (wrap64 (nw + 1)))) = wx at *
              refine wpList_load_row rfl 69 (.tmp 10) rfl qe rfl 69 #[.int .i64 j, .int .i64 (wrap64 (nw + 1)), .int .u32 xv, .int .u32 0, .int .i64 ne, .bool true] (0, 0) _ EX.out Try.underlying69 rfl Try.size69_ ?_
              try simp only [Act.put, List.setIfInBounds_toArray, List.set_cons_zero, List.set_cons_succ]
              have OX := Lib.hid (own_below O5.out HBX.out)
              have HNR := Lib.hid (Reads.new (S := fun _ => True) (size := 6) (n := 1) wx #[.int .i64 j, .int .i64 (wrap64 (nw + 1)), .int .u32 xv, .int .u32 0, .int .i64 ne, .bool true] 69 rfl trivial)
              go_wp2_with (at_builtin; (refine wpList_append_any rfl (.tmp 64) (.tmp 66) 91 rfl (w.heap.size + 2) 69 ie _ 6 40 Try.underlying91 hie0 hie1 hie2 hie3 rfl (by omega) u5 _ _ rfl (OX.out.alloc _) _ _ 1 1 _ rfl HNR.out ?m1 ?m2 ?m3 ?m4 ?m5))
              case m1 => first | (intro u hu; simp at hu; rcases hu with rfl | rfl | rfl | rfl | rfl | rfl <;> rfl) | (simp [Value.oneCell'])
              case m2 => have := HEL.out; have := HK.out; have := HLE.out; rw [List.length_take] at *; simp only [maxLen]; omega
              case m3 => have := HEL.out; have := HK.out; have := HLE.out; rw [List.length_take] at *; omega
              case m4 => have := HZ5.out; have := HBX.out.size; simp; omega
              case m5 =>
                intro v' wk ho hg _
                have hbx : Below w5.heap.size w5 (wx.alloc (.cells #[.int .i64 j, .int .i64 (wrap64 (nw + 1)), .int .u32 xv, .int .u32 0, .int .i64 ne, .bool true] 69)) := HBX.out.alloc HBX.out.size _
                have HEN := Lib.hid (show (d.entF n (l.take (k + 1))).1 = es ++ [⟨j, (wrap64 (nw + 1)), xv, 0, ne, true⟩] from by rw [HE2.out]; dsimp only; unfold Rd.entE Rd.oldE; rw [HNW.out, HXV.out]; simp)
                have HEG := Lib.hid (show (d.entF n (l.take (k + 1))).2 = (fun i => if i = (j : Int) then true else g i) from by rw [HE2.out])
                have OK := Lib.hid (show wk.ownsRow (w.heap.size + 2) 69 6 v' (d.entF n (l.take (k + 1))).1.length (flatE (d.entF n (l.take (k + 1))).1) from by rw [HEN.out, List.length_append]; unfold flatE at ho ⊢; rw [List.flatMap_append]; exact ho)
                have hgk : ∀ b, b < w5.heap.size → some b ≠ u5.ownBlock → wk.heap[b]? = w5.heap[b]? := fun b h1 h2 => (hg.block b (Nat.lt_of_lt_of_le h1 hbx.size) h2).trans (hbx.block b h1)
                have hno : ∀ b, b < w.heap.size + 2 → some b ≠ u5.ownBlock := fun b hb e => by have := (O5.out.lt b e.symm).1; omega
                have MK := Lib.hid (HM5.out.keep (hgk _ HM5.out.lt (hno _ (by omega))))
                have PK := Lib.hid ((hgk _ (lt_of_block P5.out) (hno _ (by omega))).trans P5.out)
                have HBK := Lib.hid ((HB5.out.trans (hbx.mono HB5.out.size)).grown hg (by have := HB5.out.size; have := hbx.size; omega) (fun g hg' => by have := (O5.out.lt g hg').1; omega))
                have HZK := Lib.hid (show w.heap.size + 2 ≤ wk.heap.size from Nat.le_trans (Nat.le_trans HZ5.out hbx.size) hg.size)
                clear ho hg hbx hgk hno HNR OX HBX EX O5 HM5 P5 HB5 HZ5 HBG
                go_wp2
                go_roundw
                case rel => exact ⟨k + 1, HK.out, by go_num, OK, by rw [HEG.out]; exact MK, PK, HBK, HZK⟩
                case measure => exact meas_up _ _ HK.out
          | false =>
            cases on with
            | true =>
              have E1 := Lib.hid E0.out
              have y2 := g2
              have y1 : wz.cell? ⟨qe, 1, none⟩ = some (.int .i64 nw) := E1.out.all.2.1
              have y4 : wz.cell? ⟨qe, 4, none⟩ = some (.int .i64 ne) := E1.out.all.2.2.2.2.1
              have yf : ∀ i, wz.frozen? ⟨qe, i, none⟩ = false := E1.out.nf
              have E2 := Lib.hid (Ebox_set4 E1.out nw)
              have x5 : (wz.setCell ⟨qe, 4, none⟩ (.int .i64 nw)).cell? ⟨qe, 5, none⟩ = some (.bool true) := E2.out.all.2.2.2.2.2
              have xf : ∀ i, (wz.setCell ⟨qe, 4, none⟩ (.int .i64 nw)).frozen? ⟨qe, i, none⟩ = false := E2.out.nf
              have E3 := Lib.hid (Ebox_set5 E2.out false)
              have HBX := Lib.hid (show Below w5.heap.size w5 ((wz.setCell ⟨qe, 4, none⟩ (.int .i64 nw)).setCell ⟨qe, 5, none⟩ (.bool false)) from ((HBG.out.setCell (p := ⟨qe, 4, none⟩) HQE.out _).setCell (p := ⟨qe, 5, none⟩) HQE.out _))
              have EX := Lib.hid (show ((wz.setCell ⟨qe, 4, none⟩ (.int .i64 nw)).setCell ⟨qe, 5, none⟩ (.bool false)).heap[qe]? = some (.cells #[.int .i64 j, .int .i64 nw, .int .u32 xv, .int .u32 0, .int .i64 nw, .bool false] 69 (0, 0)) from E3.out)
              clear E0 E1 E3 E2
              go_wp2_with (with_reducible refine at_load_ (t := 69) ?_; refine Hid.out ?_)
              refine Lib.hid ?_
              clear g2 g3 y2 y1 y4 yf x5 xf
              generalize ((wz.setCell ⟨qe, 4, none⟩ (.int .i64 nw)).setCell ⟨qe, 5, none⟩ (.bool false)) = wx at *
              refine wpList_load_row rfl 69 (.tmp 10) rfl qe rfl 69 #[.int .i64 j, .int .i64 nw, .int .u32 xv, .int .u32 0, .int .i64 nw, .bool false] (0, 0) _ EX.out Try.underlying69 rfl Try.size69_ ?_
              try simp only [Act.put, List.setIfInBounds_toArray, List.set_cons_zero, List.set_cons_succ]
              have OX := Lib.hid (own_below O5.out HBX.out)
              have HNR := Lib.hid (Reads.new (S := fun _ => True) (size := 6) (n := 1) wx #[.int .i64 j, .int .i64 nw, .int .u32 xv, .int .u32 0, .int .i64 nw, .bool false] 69 rfl trivial)
              go_wp2_with (at_builtin; (refine wpList_append_any rfl (.tmp 64) (.tmp 66) 91 rfl (w.heap.size + 2) 69 ie _ 6 40 Try.underlying91 hie0 hie1 hie2 hie3 rfl (by omega) u5 _ _ rfl (OX.out.alloc _) _ _ 1 1 _ rfl HNR.out ?m1 ?m2 ?m3 ?m4 ?m5))
              case m1 => first | (intro u hu; simp at hu; rcases hu with rfl | rfl | rfl | rfl | rfl | rfl <;> rfl) | (simp [Value.oneCell'])
              case m2 => have := HEL.out; have := HK.out; have := HLE.out; rw [List.length_take] at *; simp only [maxLen]; omega
              case m3 => have := HEL.out; have := HK.out; have := HLE.out; rw [List.length_take] at *; omega
              case m4 => have := HZ5.out; have := HBX.out.size; simp; omega
              case m5 =>
                intro v' wk ho hg _
                have hbx : Below w5.heap.size w5 (wx.alloc (.cells #[.int .i64 j, .int .i64 nw, .int .u32 xv, .int .u32 0, .int .i64 nw, .bool false] 69)) := HBX.out.alloc HBX.out.size _
                have HEN := Lib.hid (show (d.entF n (l.take (k + 1))).1 = es ++ [⟨j, nw, xv, 0, nw, false⟩] from by rw [HE2.out]; dsimp only; unfold Rd.entE Rd.oldE; rw [HNW.out, HXV.out]; simp)
                have HEG := Lib.hid (show (d.entF n (l.take (k + 1))).2 = (fun i => if i = (j : Int) then true else g i) from by rw [HE2.out])
                have OK := Lib.hid (show wk.ownsRow (w.heap.size + 2) 69 6 v' (d.entF n (l.take (k + 1))).1.length (flatE (d.entF n (l.take (k + 1))).1) from by rw [HEN.out, List.length_append]; unfold flatE at ho ⊢; rw [List.flatMap_append]; exact ho)
                have hgk : ∀ b, b < w5.heap.size → some b ≠ u5.ownBlock → wk.heap[b]? = w5.heap[b]? := fun b h1 h2 => (hg.block b (Nat.lt_of_lt_of_le h1 hbx.size) h2).trans (hbx.block b h1)
                have hno : ∀ b, b < w.heap.size + 2 → some b ≠ u5.ownBlock := fun b hb e => by have := (O5.out.lt b e.symm).1; omega
                have MK := Lib.hid (HM5.out.keep (hgk _ HM5.out.lt (hno _ (by omega))))
                have PK := Lib.hid ((hgk _ (lt_of_block P5.out) (hno _ (by omega))).trans P5.out)
                have HBK := Lib.hid ((HB5.out.trans (hbx.mono HB5.out.size)).grown hg (by have := HB5.out.size; have := hbx.size; omega) (fun g hg' => by have := (O5.out.lt g hg').1; omega))
                have HZK := Lib.hid (show w.heap.size + 2 ≤ wk.heap.size from Nat.le_trans (Nat.le_trans HZ5.out hbx.size) hg.size)
                clear ho hg hbx hgk hno HNR OX HBX EX O5 HM5 P5 HB5 HZ5 HBG
                go_wp2
                go_roundw
                case rel => exact ⟨k + 1, HK.out, by go_num, OK, by rw [HEG.out]; exact MK, PK, HBK, HZK⟩
                case measure => exact meas_up _ _ HK.out
            | false =>
              have E1 := Lib.hid E0.out
              have y2 := g2
              have E3 := Lib.hid E1.out
              have HBX := Lib.hid (show Below w5.heap.size w5 wz from HBG.out)
              have EX := Lib.hid (show wz.heap[qe]? = some (.cells #[.int .i64 j, .int .i64 nw, .int .u32 xv, .int .u32 0, .int .i64 ne, .bool true] 69 (0, 0)) from E3.out)
              clear E0 E1 E3
              go_wp2_with (with_reducible refine at_load_ (t := 69) ?_; refine Hid.out ?_)
              refine Lib.hid ?_
              clear g2 g3 y2
              generalize wz = wx at *
              refine wpList_load_row rfl 69 (.tmp 10) rfl qe rfl 69 #[.int .i64 j, .int .i64 nw, .int .u32 xv, .int .u32 0, .int .i64 ne, .bool true] (0, 0) _ EX.out Try.underlying69 rfl Try.size69_ ?_
              try simp only [Act.put, List.setIfInBounds_toArray, List.set_cons_zero, List.set_cons_succ]
              have OX := Lib.hid (own_below O5.out HBX.out)
              have HNR := Lib.hid (Reads.new (S := fun _ => True) (size := 6) (n := 1) wx #[.int .i64 j, .int .i64 nw, .int .u32 xv, .int .u32 0, .int .i64 ne, .bool true] 69 rfl trivial)
              go_wp2_with (at_builtin; (refine wpList_append_any rfl (.tmp 64) (.tmp 66) 91 rfl (w.heap.size + 2) 69 ie _ 6 40 Try.underlying91 hie0 hie1 hie2 hie3 rfl (by omega) u5 _ _ rfl (OX.out.alloc _) _ _ 1 1 _ rfl HNR.out ?m1 ?m2 ?m3 ?m4 ?m5))
              case m1 => first | (intro u hu; simp at hu; rcases hu with rfl | rfl | rfl | rfl | rfl | rfl <;> rfl) | (simp [Value.oneCell'])
              case m2 => have := HEL.out; have := HK.out; have := HLE.out; rw [List.length_take] at *; simp only [maxLen]; omega
              case m3 => have := HEL.out; have := HK.out; have := HLE.out; rw [List.length_take] at *; omega
              case m4 => have := HZ5.out; have := HBX.out.size; simp; omega
              case m5 =>
                intro v' wk ho hg _
                have hbx : Below w5.heap.size w5 (wx.alloc (.cells #[.int .i64 j, .int .i64 nw, .int .u32 xv, .int .u32 0, .int .i64 ne, .bool true] 69)) := HBX.out.alloc HBX.out.size _
                have HEN := Lib.hid (show (d.entF n (l.take (k + 1))).1 = es ++ [⟨j, nw, xv, 0, ne, true⟩] from by rw [HE2.out]; dsimp only; unfold Rd.entE Rd.oldE; rw [HNW.out, HXV.out]; simp)
                have HEG := Lib.hid (show (d.entF n (l.take (k + 1))).2 = (fun i => if i = (j : Int) then true else g i) from by rw [HE2.out])
                have OK := Lib.hid (show wk.ownsRow (w.heap.size + 2) 69 6 v' (d.entF n (l.take (k + 1))).1.length (flatE (d.entF n (l.take (k + 1))).1) from by rw [HEN.out, List.length_append]; unfold flatE at ho ⊢; rw [List.flatMap_append]; exact ho)
                have hgk : ∀ b, b < w5.heap.size → some b ≠ u5.ownBlock → wk.heap[b]? = w5.heap[b]? := fun b h1 h2 => (hg.block b (Nat.lt_of_lt_of_le h1 hbx.size) h2).trans (hbx.block b h1)
                have hno : ∀ b, b < w.heap.size + 2 → some b ≠ u5.ownBlock := fun b hb e => by have := (O5.out.lt b e.symm).1; omega
                have MK := Lib.hid (HM5.out.keep (hgk _ HM5.out.lt (hno _ (by omega))))
                have PK := Lib.hid ((hgk _ (lt_of_block P5.out) (hno _ (by omega))).trans P5.out)
                have HBK := Lib.hid ((HB5.out.trans (hbx.mono HB5.out.size)).grown hg (by have := HB5.out.size; have := hbx.size; omega) (fun g hg' => by have := (O5.out.lt g hg').1; omega))
                have HZK := Lib.hid (show w.heap.size + 2 ≤ wk.heap.size from Nat.le_trans (Nat.le_trans HZ5.out hbx.size) hg.size)
                clear ho hg hbx hgk hno HNR OX HBX EX O5 HM5 P5 HB5 HZ5 HBG
                go_wp2
                go_roundw
                case rel => exact ⟨k + 1, HK.out, by go_num, OK, by rw [HEG.out]; exact MK, PK, HBK, HZK⟩
                case measure => exact meas_up _ _ HK.out
    · obtain rfl : k = l.length := by omega
      have hi : (m : Int) ≤ (l.length : Int) := by have := HN.out; omega
      rw [List.take_length] at O
      clear hk hlt
      obtain ⟨Ax, cx, rfl, e1, e2, e3⟩ := own_reads (S := S) O.out (fun b hb => HS.out b (by omega))
      have HR := Lib.hid (And.intro e1 e3)
      clear e1 e2 e3 O HMP P HZ
      go_wp2
      go_ret
      exact ⟨Ax, cx, rfl, HR.out.1, ⟨rfl, HR.out.2⟩, HB.out⟩
end Go.Proofs.Ytpejhgkcofilmaa
