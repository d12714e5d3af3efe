/- The walk of the reference's Holds. Conditions: as in the texts below it; the last state has a value for every cell. -/
import Derived.Test.YtpejhgkcofilmaaRc
set_option linter.unusedVariables false
namespace Go.Proofs.Ytpejhgkcofilmaa
open Go.RowKit

theorem yields_rd {ops : Array Oper} {S : World → Prop} {op : Oper} {a : Act} {sa sv : Value} {R : Nat → Int} (hw : Region.wanted op (yielded ops a.tmps) = true) (x : Operand) (ho : op.op = .load 80 x)
    (b : Nat) (hx : a.eval x = .pointer (some ⟨b, 0, none⟩)) (t : TypeId) (fr : Nat × Nat) (hS : ∀ w, S w → w.heap[b]? = some (.cells (rCells sa sv R) t fr)) : YieldsIf Try.prog ops S op (.agg (rCells sa sv R)) a :=
  .inl ⟨hw, fun w hw' => by
    unfold execOp
    simp only [ho, hx, Instr.loadAt, Instr.sureAddr, Sem.run_bind, Sem.run_pure, Result.andThen_ok, load_rd w b _ t fr (hS w hw') rfl]⟩
/-- The current value and the number of writes of a cell. -/
def Rd.nowAt (d : Rd) (k : Int) : Int := (d.st.getLast?.getD []).getD k.toNat 0
def Rd.vsAt (d : Rd) (k : Int) : Int := d.vs.getD k.toNat 0
/-- The store has n cells at every time. -/
def Rd.Wide (d : Rd) (n : Nat) : Prop := d.vs.length = n ∧ 0 < d.st.length ∧ d.st.length ≤ 1000 ∧ ∀ i (h : i < d.st.length), d.st[i].length = n
def Rd.asD (d : Rd) (e : Ent) : Bool := d.nowAt e.loc == e.val && d.vsAt e.loc == e.ver
def Rd.holds (d : Rd) (l : List Ent) : Int := if l.any (fun e => !inC d.vs.length e) = true then 1 else if l.any (fun e => !d.asD e) = true then 14 else 0
theorem any_take {α : Type} (p : α → Bool) (l : List α) (k : Nat) (hk : k < l.length) (h : (l.take k).any p = false) : (l.take (k + 1)).any p = p l[k] := by
  rw [List.take_succ_eq_append_getElem hk, List.any_append, h, List.any_cons, List.any_nil, Bool.or_false, Bool.false_or]
theorem any_hit {α : Type} (p : α → Bool) (l : List α) (k : Nat) (hk : k < l.length) (h : p l[k] = true) : l.any p = true := List.any_eq_true.2 ⟨_, List.getElem_mem hk, h⟩
/-- What the current state's row holds. -/
theorem Rd.now_row {d : Rd} {w : World} {S : Nat → Prop} {sa sv : Value} {n : Nat} (h : d.Mem w S sa sv) (hw : d.Wide n) :
    ∃ b o c A1 c1, sa = .slice (some ⟨b, o, none⟩) d.st.length c ∧ b < w.heap.size ∧ S b ∧ w.cell? ⟨b, o + (d.st.length - 1), none⟩ = some (.slice A1 n c1) ∧ n ≤ c1 ∧ (A1 = none → c1 = 0) ∧ Reads w S 1 A1 n ((d.st.getLast?.getD []).map (.int .i64 ·)) ∧ (d.st.getLast?.getD []).length = n := by
  obtain ⟨⟨A, c, rows, rfl, h1, h2, h3, h4⟩, _⟩ := h
  obtain ⟨e1, e2, e3, e4⟩ := hw
  obtain ⟨b, o, rfl, hb, hS, hc⟩ := h3.2 e2
  obtain ⟨v, hv, A1, c1, rfl, g1, g2, g3⟩ := h4 (d.st.length - 1) (by omega)
  have hl : d.st.getLast?.getD [] = d.st[d.st.length - 1] := by
    rw [List.getLast?_eq_getElem?, List.getElem?_eq_getElem (by omega)]
    rfl
  have hn : d.st[d.st.length - 1].length = n := e4 _ (by omega)
  rw [hn] at g1 g3 hv
  refine ⟨b, o, c, A1, c1, rfl, hb, hS, hc _ _ hv, g1, g2, by rw [hl]; exact g3, by rw [hl]; exact hn⟩
theorem Rd.vs_row {d : Rd} {w : World} {S : Nat → Prop} {sa sv : Value} (h : d.Mem w S sa sv) : ∃ V c, sv = .slice V d.vs.length c ∧ d.vs.length ≤ c ∧ (V = none → c = 0) ∧ Reads w S 1 V d.vs.length (d.vs.map (.int .u32 ·)) := h.2
theorem getD_map (l : List Int) (k : Nat) (hk : k < l.length) (f : Int → Value) : (l.map f)[k]? = some (f (l.getD k 0)) := by
  rw [List.getElem?_map, List.getElem?_eq_getElem hk, List.getD_eq_getElem?_getD, List.getElem?_eq_getElem hk]
  rfl
/-- Below a drawn number. -/
theorem below_drewN {B : Nat} {w W : World} (h : Below B w W) (n : Nat) : Below B w (W.drewN n) := ⟨h.os, h.tape, h.output, h.size, h.block⟩

set_option maxRecDepth 100000 in
set_option maxHeartbeats 12800000 in
theorem rholds_any {S : Nat → Prop} {d : Rd} {sa sv : Value} (n : Nat) (A : Option Addr) (m c : Nat) (l : List Ent) (w : World) (hm : d.Mem w S sa sv) (hw : d.Wide n) (hn : n ≤ 1000) (hl : Ents w S A m l) (hlen : l.length ≤ 1000) :
    Calls Try.prog 72 #[d.val sa sv, .slice A m c] w fun e w' => e = .returned (.int .i64 (d.holds l)) ∧ Below w.heap.size w w' := by
  have HW := Lib.hid hw
  have HE := Lib.hid hl
  have HN := Lib.hid hl.1
  have hmm : (m : Int) ≤ 1000 := by have := hl.1; omega
  obtain ⟨V, vc, rfl, hv1, hv2, hv3⟩ := Rd.vs_row hm
  have hvn : d.vs.length = n := hw.1
  rw [hvn] at hm hv3 ⊢
  have HM := Lib.hid hm
  have HV := Lib.hid hv3
  have HVN := Lib.hid hvn
  obtain ⟨bs, os, sc, A1, c1, rfl, hbs, hSs, hrow, hc11, hA1, hr1, hr2⟩ := Rd.now_row hm hw
  have HROW := Lib.hid (And.intro hbs hrow)
  have HR1 := Lib.hid hr1
  have HRL := Lib.hid hr2
  have HLN := Lib.hid hw.2.1
  have hlen2 : (d.st.length : Int) ≤ 1000 := by have := hw.2.2.1; omega
  have hlen1 : 1 ≤ (d.st.length : Int) := by have := hw.2.1; omega
  obtain ⟨ln, hln⟩ : ∃ ln : Nat, d.st.length = ln + 1 := ⟨d.st.length - 1, by have := hw.2.1; omega⟩
  have hlnI : (d.st.length : Int) - 1 = (ln : Int) := by omega
  have HLNI := Lib.hid hlnI
  rw [hln, Nat.add_sub_cancel] at HROW
  have HLN2 := Lib.hid hln
  have hnn : (n : Int) ≤ 1000 := by omega
  have HDEF := Lib.hid (show d.holds l = if l.any (fun e => !inC n e) = true then 1 else if l.any (fun e => !d.asD e) = true then 14 else 0 by unfold Rd.holds; rw [hvn])
  clear hm hw hn hl hlen hv1 hv2 hv3 hbs hSs hrow hr1 hr2 hln hlnI hc11 hA1 hvn
  go_enter Try.func72, Try.ntmps72
  go_wp2_with (with_reducible refine at_box_ (t := 80) ?_; refine box_rd rfl _ rfl rfl HM.out ?_)
  intro w1 hp _ hb hz
  have P1 := Lib.hid hp
  have HB1 := Lib.hid hb
  clear hp hb hz
  go_wp2
  go_loopw [5] (fun i wr => ∃ k : Nat, k ≤ l.length ∧ i = .int .i64 k ∧ Hid ((l.take k).any (fun e => !inC n e) = false) ∧ Hid (wr.heap[w.heap.size]? = some (.cells (rCells (.slice (some ⟨bs, os, none⟩) d.st.length sc) (.slice V n vc) d.R) 80 (0, 0))) ∧ Hid (Below w.heap.size w wr)) (fun i _ => l.length - (intOf i).toNat)
  case atStart => exact ⟨0, by omega, rfl, Lib.hid rfl, P1, HB1⟩
  case round =>
    clear P1 HB1
    obtain ⟨k, hk, rfl, HA, P, HB⟩ := hrel
    by_cases hlt : k < l.length
    · have hi : (k : Int) < (m : Int) := by have := HN.out; omega
      obtain ⟨b, o, rfl, _, _, hc⟩ := HE.out.cell k hlt
      have c0 := (hc wr HB.out).1
      have v0 := (rd_all P.out).2.1
      have HK := Lib.hid hlt
      have HT := Lib.hid (any_take (fun e => !inC n e) l k hlt HA.out)
      have HH := Lib.hid (any_hit (fun e => !inC n e) l k hlt)
      have P' := Lib.hid fun nn => (show (wr.drewN nn).heap[w.heap.size]? = some (.cells (rCells (.slice (some ⟨bs, os, none⟩) d.st.length sc) (.slice V n vc) d.R) 80 (0, 0)) from P.out)
      have HB' := Lib.hid fun nn => below_drewN HB.out nn
      clear hc hk HA
      generalize l[k] = y at *
      clear hlt
      obtain ⟨lo, va, ve, re, ne, wb⟩ := y
      dsimp only at c0
      by_cases hlo : lo < 0
      · have HIN := Lib.hid (HH.out (by unfold inC; dsimp only; rw [decide_eq_false (show ¬ (0 ≤ lo) by omega)]; simp))
        have HF := Lib.hid (show d.holds l = 1 by rw [HDEF.out, if_pos HIN.out])
        clear HT HH
        go_wp2
        go_quiet (fail)
        go_wp2
        go_ret
        exact ⟨by rw [HF.out]; rfl, HB'.out _⟩
      · have hlo0 : 0 ≤ lo := by omega
        by_cases hhi : lo < (n : Int)
        · have HIN := Lib.hid (HT.out.trans (show (!inC (n : Int) ⟨lo, va, ve, re, ne, wb⟩) = false by unfold inC; dsimp only; rw [decide_eq_true hlo0, decide_eq_true hhi]; rfl))
          clear HT HH hlo
          go_wp2
          go_quiet (fail)
          go_wp2
          go_roundw
          case rel => exact ⟨k + 1, HK.out, by go_num, HIN, Lib.hid (P'.out _), Lib.hid (HB'.out _)⟩
          case measure => exact meas_up _ _ HK.out
        · have hge : (n : Int) ≤ lo := by omega
          have HIN := Lib.hid (HH.out (by unfold inC; dsimp only; rw [decide_eq_false hhi]; simp))
          have HF := Lib.hid (show d.holds l = 1 by rw [HDEF.out, if_pos HIN.out])
          clear HT HH hlo hhi
          go_wp2
          go_quiet (fail)
          go_wp2
          go_ret
          exact ⟨by rw [HF.out]; rfl, HB'.out _⟩
    · obtain rfl : k = l.length := by omega
      have hi : (m : Int) ≤ (l.length : Int) := by have := HN.out; omega
      rw [List.take_length] at HA
      clear hk hlt
      have HA2 := Lib.hid HA.out
      have HROW2 := Lib.hid ((HB.out.cell (p := ⟨bs, os + ln, none⟩) HROW.out.1).trans HROW.out.2)
      clear HA
      go_wp2_with fail
      refine wp_region_held_drew (S := fun W => W.heap[w.heap.size]? = some (.cells (rCells (.slice (some ⟨bs, os, none⟩) d.st.length sc) (.slice V n vc) d.R) 80 (0, 0)) ∧ W.cell? ⟨bs, os + ln, none⟩ = some (.slice A1 n c1)) (by kernel_rfl) ⟨P.out, HROW2.out⟩ (fun hHeld => ?_)
      have HHD := Lib.hid hHeld
      have HBD := Lib.hid HB.out.drew
      clear hHeld P HB HROW2
      generalize wr.drew = wd at *
      refine wpAnyH_take (i := 0) (oi := ⟨some 31, _, _, _, _, _⟩) (v := .pointer (some ⟨w.heap.size, 0, none⟩)) rfl (by kernel_rfl) (by kernel_rfl) (by kernel_rfl) (fun _ _ _ h => h) (Or.inl ⟨by rfl, ?_⟩) HHD.out ?_
      · intro W' hW
        go_simp
      try simp only [Act.put, List.setIfInBounds_toArray, List.set_cons_zero, List.set_cons_succ]
      refine wpAnyH_take (i := 1) (oi := ⟨some 32, _, _, _, _, _⟩) (v := (.slice (some ⟨bs, os, none⟩) d.st.length sc)) rfl (by kernel_rfl) (by kernel_rfl) (by kernel_rfl) (fun _ _ _ h => h) (Or.inl ⟨by rfl, ?_⟩) HHD.out ?_
      · intro W' hW
        have hf := (rd_all hW.1).1
        go_simp
      try simp only [Act.put, List.setIfInBounds_toArray, List.set_cons_zero, List.set_cons_succ]
      refine wpAnyH_take (i := 2) (oi := ⟨some 33, _, _, _, _, _⟩) (v := d.val (.slice (some ⟨bs, os, none⟩) d.st.length sc) (.slice V n vc)) rfl (by kernel_rfl) (by kernel_rfl) (by kernel_rfl) (fun _ _ _ h => h) (yields_rd (by rfl) _ rfl w.heap.size rfl 80 (0, 0) (fun _ h => h.1)) HHD.out ?_
      try simp only [Act.put, List.setIfInBounds_toArray, List.set_cons_zero, List.set_cons_succ]
      refine wpAnyH_ready (rs := [3]) (by kernel_rfl) (by simp) ?_
      refine AllReadyH.cons (o := ⟨some 34, _, _, _, _, _⟩) rfl (fun K hK => ?_) (AllReadyH.nil)
      go_simp
      refine (rnow_any wd (HM.out.below HBD.out) (by have := HLN2.out; omega)).mono ?_
      rintro e we ⟨he, hb⟩
      rw [HLNI.out] at he
      subst he
      have HHE := Lib.hid (And.intro ((hb.block w.heap.size (lt_of_block HHD.out.1)).trans HHD.out.1) ((hb.cell (World.block_lt_of_cell? _ _ HHD.out.2)).trans HHD.out.2))
      have HBE := Lib.hid (HBD.out.trans (hb.mono HBD.out.size))
      clear hb HHD HBD
      have hi2 : (ln : Int) < (d.st.length : Int) := by have := HLN2.out; omega
      refine hK.out _ _ HHE.out (fun hHeldq => ?_)
      clear hK hHeldq
      try simp only [Act.put, List.setIfInBounds_toArray, List.set_cons_zero, List.set_cons_succ]
      refine wpAnyH_take (i := 4) (oi := ⟨some 35, _, _, _, _, _⟩) (v := .pointer (some ⟨bs, os + ln, none⟩)) rfl (by kernel_rfl) (by kernel_rfl) (by kernel_rfl) (fun _ _ _ h => h) (Or.inl ⟨by rfl, ?_⟩) HHE.out ?_
      · intro W' hW
        go_simp
      try simp only [Act.put, List.setIfInBounds_toArray, List.set_cons_zero, List.set_cons_succ]
      refine wpAnyH_take (i := 5) (oi := ⟨some 36, _, _, _, _, _⟩) (v := .slice A1 n c1) rfl (by kernel_rfl) (by kernel_rfl) (by kernel_rfl) (fun _ _ _ h => h) (Or.inl ⟨by rfl, ?_⟩) HHE.out ?_
      · intro W' hW
        have hf := hW.2
        go_simp
      try simp only [Act.put, List.setIfInBounds_toArray, List.set_cons_zero, List.set_cons_succ]
      refine wpAnyH_take (i := 6) (oi := ⟨some 6, _, _, _, _, _⟩) (v := .slice A1 n c1) rfl (by kernel_rfl) (by kernel_rfl) (by kernel_rfl) (fun _ _ _ h => h) (Or.inl ⟨by rfl, ?_⟩) HHE.out ?_
      · intro W' hW
        go_simp
      try simp only [Act.put, List.setIfInBounds_toArray, List.set_cons_zero, List.set_cons_succ]
      refine wpAnyH_done (by kernel_rfl) ?_ _
      have P := Lib.hid HHE.out.1
      clear HHE
      go_wp2
      go_loopw [7] (fun i wr => ∃ k : Nat, k ≤ l.length ∧ i = .int .i64 k ∧ Hid ((l.take k).any (fun e => !d.asD e) = false) ∧ Hid (wr.heap[w.heap.size]? = some (.cells (rCells (.slice (some ⟨bs, os, none⟩) d.st.length sc) (.slice V n vc) d.R) 80 (0, 0))) ∧ Hid (Below w.heap.size w wr)) (fun i _ => l.length - (intOf i).toNat)
      case atStart => exact ⟨0, by omega, rfl, Lib.hid rfl, P, HBE⟩
      case round =>
        clear P HBE
        obtain ⟨k, hk, rfl, HA, P, HB⟩ := hrel
        by_cases hlt : k < l.length
        · skip
          have hi : (k : Int) < (m : Int) := by have := HN.out; omega
          obtain ⟨b, o, rfl, _, _, hc⟩ := HE.out.cell k hlt
          have c0 := (hc wr HB.out).1
          have cv := (hc wr HB.out).2.1
          have cr := (hc wr HB.out).2.2.1
          have v0 := (rd_all P.out).2.1
          have HK := Lib.hid hlt
          have HT := Lib.hid (any_take (fun e => !d.asD e) l k hlt HA.out)
          have HH := Lib.hid (any_hit (fun e => !d.asD e) l k hlt)
          have hin : inC (n : Int) l[k] = true := by
            have := List.any_eq_false.1 HA2.out l[k] (List.getElem_mem hlt)
            simpa using this
          have P' := Lib.hid fun nn => (show (wr.drewN nn).heap[w.heap.size]? = some (.cells (rCells (.slice (some ⟨bs, os, none⟩) d.st.length sc) (.slice V n vc) d.R) 80 (0, 0)) from P.out)
          have HB' := Lib.hid fun nn => below_drewN HB.out nn
          clear hc hk HA
          generalize l[k] = y at *
          clear hlt
          obtain ⟨lo, va, ve, re, ne, wb⟩ := y
          dsimp only at c0 cv cr
          have hin2 : 0 ≤ lo ∧ lo < (n : Int) := by unfold inC at hin; simpa using hin
          obtain ⟨j, hj⟩ : ∃ j : Nat, lo = (j : Int) := ⟨lo.toNat, by omega⟩
          subst hj
          clear hin
          obtain ⟨hj0, hjn⟩ := hin2
          have hjn' : j < n := by omega
          obtain ⟨b1, o1, rfl, hb1, _, hc1⟩ := HR1.out.2 (by omega)
          obtain ⟨bv, ov, rfl, hbv, _, hcv⟩ := HV.out.2 (by omega)
          have n0 := (HB.out.cell (p := ⟨b1, o1 + j, none⟩) hb1).trans (hc1 j _ (getD_map _ j (by have := HRL.out; omega) _))
          have x0 := (HB.out.cell (p := ⟨bv, ov + j, none⟩) hbv).trans (hcv j _ (getD_map _ j (by have := HVN.out; omega) _))
          have HAS := Lib.hid (show d.asD ⟨(j : Int), va, ve, re, ne, wb⟩ = ((d.st.getLast?.getD []).getD j 0 == va && d.vs.getD j 0 == ve) from by unfold Rd.asD Rd.nowAt Rd.vsAt; rw [show ((j : Int)).toNat = j from by omega])
          generalize (d.st.getLast?.getD []).getD j 0 = nw at *
          generalize d.vs.getD j 0 = xv at *
          clear hc1 hcv hb1 hbv hjn'
          by_cases hva : va = nw
          · skip
            by_cases hve : ve = xv
            · have HIN := Lib.hid (HT.out.trans (show (!d.asD ⟨(j : Int), va, ve, re, ne, wb⟩) = false by rw [HAS.out, hva, hve]; simp))
              subst hva hve
              clear HT HH HAS
              go_wp2
              go_quiet (fail)
              go_wp2
              go_roundw
              case rel => exact ⟨k + 1, HK.out, by go_num, HIN, Lib.hid (P'.out _), Lib.hid (HB'.out _)⟩
              case measure => exact meas_up _ _ HK.out
            · have HIN := Lib.hid (HH.out (show (!d.asD ⟨(j : Int), va, ve, re, ne, wb⟩) = true by rw [HAS.out, show (xv == ve) = false from by simpa using (fun h : xv = ve => hve h.symm)]; simp))
              subst hva
              have HF := Lib.hid (show d.holds l = 14 by rw [HDEF.out, if_neg (by rw [HA2.out]; simp), if_pos HIN.out])
              clear HT HH HAS
              go_wp2
              go_quiet (fail)
              go_wp2
              go_ret
              exact ⟨by rw [HF.out]; rfl, HB'.out _⟩
          · have HIN := Lib.hid (HH.out (show (!d.asD ⟨(j : Int), va, ve, re, ne, wb⟩) = true by rw [HAS.out, show (nw == va) = false from by simpa using (fun h : nw = va => hva h.symm)]; simp))
            have HF := Lib.hid (show d.holds l = 14 by rw [HDEF.out, if_neg (by rw [HA2.out]; simp), if_pos HIN.out])
            clear HT HH HAS
            go_wp2
            go_quiet (fail)
            go_wp2
            go_ret
            exact ⟨by rw [HF.out]; rfl, HB'.out _⟩
        · skip
          obtain rfl : k = l.length := by omega
          have hi : (m : Int) ≤ (l.length : Int) := by have := HN.out; omega
          rw [List.take_length] at HA
          clear hk hlt
          have HF := Lib.hid (show d.holds l = 0 by rw [HDEF.out, if_neg (by rw [HA2.out]; simp), if_neg (by rw [HA.out]; simp)])
          clear HA
          go_wp2
          go_ret
          exact ⟨by rw [HF.out]; rfl, HB.out⟩
end Go.Proofs.Ytpejhgkcofilmaa
