/- The walk of the store's wrong: the error of a commit. Conditions: the maps, lists and entries lie in blocks that meet S; the numbers are of their kinds; at most 2^40 versions a list. -/
import Derived.Test.YtpejhgkcofilmaaSnapE
import Derived.Test.YtpejhgkcofilmaaEntC
set_option linter.unusedVariables false
namespace Go.Proofs.Ytpejhgkcofilmaa
open Go.RowKit

/-- Does the cell of an entry exist? -/
def inC (c : Int) (e : Ent) : Bool := decide (0 ≤ e.loc) && decide (e.loc < c)
/-- Does an entry expect the cell's word? -/
def asIs (c : Int) (g : Int → Option (List (Int × Int))) (W : Int → Option Int) (e : Ent) : Bool := (lastP (listOf c g e.loc)).2 == e.val && (W e.loc).getD 0 == e.ver && (0 : Int) == e.ref
/-- The error of a commit. -/
def wrongE (c : Int) (g : Int → Option (List (Int × Int))) (W : Int → Option Int) (l : List Ent) : Int :=
  if chk l ≠ 0 then chk l else if l.any (fun e => !inC c e) = true then 1 else if l.any (fun e => !asIs c g W e) = true then 14 else 0

set_option maxRecDepth 100000 in
set_option maxHeartbeats 12800000 in
theorem wrong_any {S : Nat → Prop} (c n : Int) (b1 b2 : Option Nat) (B : Nat → Bool) (T : Nat → Int) (f : Int → Option Value) (g : Int → Option (List (Int × Int))) (W : Int → Option Int) (A : Option Addr) (m cc : Nat) (l : List Ent) (w : World) (hS : ∀ b, w.heap.size ≤ b → S b)
    (hm : IsMap w S (.map b1) f) (hg : LMap w S f g) (h2 : IsMap w S (.map b2) (wmap W)) (hL : ∀ k, (listOf c g k).length ≤ 1099511627776) (hl : Ents w S A m l) (hok : ∀ e ∈ l, EntOk e) (hn : m ≤ 1099511627776) (hcc : m ≤ cc) :
    Calls Try.prog 62 #[sto c n (.map b1) (.map b2) B T, .slice A m cc] w fun e w' => e = .returned (.int .i64 (wrongE c g W l)) ∧ Below w.heap.size w w' := by
  have HLN := Lib.hid hl.1
  have hb0 : Below w.heap.size w (w.alloc (.cells (stoCells c n (.map b1) (.map b2) B T) 57)) := (Below.refl _ _).alloc (Nat.le_refl _) _
  have C0 := Lib.hid (check_any A m cc l _ (hl.below hb0) hok hn hcc)
  have HL := Lib.hid hl
  have CW := Lib.hid fun (w1 : World) (i : Int) (hb : Below w.heap.size w w1) => sword_any (S := S) c n b1 b2 B T f g W i w1 (fun b hb' => hS b (by have := hb.size; omega)) (hm.below hb) (hg.below hb) (h2.below hb) (hL i)
  have H0 := Lib.hid (heap_alloc_new w (.cells (stoCells c n (.map b1) (.map b2) B T) 57))
  clear hm hg h2 hL hl hok hb0
  obtain ⟨r, hr⟩ : ∃ r, r = wrongE c g W l := ⟨_, rfl⟩
  rw [← hr]
  unfold wrongE at hr
  have HR := Lib.hid hr
  clear hr
  obtain ⟨q, hq⟩ : ∃ q, q = chk l := ⟨_, rfl⟩
  rw [← hq] at C0 HR
  clear hq
  go_enter Try.func62, Try.ntmps62
  go_wp2_with (with_reducible refine at_box_ (t := 57) ?_; refine box_sto rfl _ rfl _ rfl (c := c) (n := n) (ml := .map b1) (mw := .map b2) (B := B) (T := T) rfl ?_)
  refine C0.out.mono ?_
  rintro e w1 ⟨rfl, hb1⟩
  have P1 := Lib.hid ((hb1.block w.heap.size (by simp)).trans H0.out)
  have HB1 := Lib.hid (below_new hb1)
  have HSZ := Lib.hid (show w.heap.size + 1 ≤ w1.heap.size by have := hb1.size; simpa using this)
  clear hb1 C0 H0
  by_cases hq0 : q = 0
  · subst hq0
    have HR2 := Lib.hid (show r = if l.any (fun e => !inC c e) = true then 1 else if l.any (fun e => !asIs c g W e) = true then 14 else 0 by rw [HR.out, if_neg (by simp)])
    clear HR
    go_wp2
    go_loopw [17] (fun i wr => ∃ k : Nat, k ≤ m ∧ i = .int .i64 k ∧ Hid (∀ j y, l[j]? = some y → j < k → inC c y = true) ∧ Hid (wr.heap[w.heap.size]? = some (.cells (stoCells c n (.map b1) (.map b2) B T) 57)) ∧ Hid (Below w.heap.size w wr)) (fun i _ => m - (intOf i).toNat)
    case atStart => exact ⟨0, by omega, rfl, Lib.hid fun j _ _ h => absurd h (by omega), P1, HB1⟩
    case round =>
      clear P1 HB1
      obtain ⟨k, hk, rfl, HNO, P1, HB⟩ := hrel
      by_cases hlt : k < m
      · obtain ⟨y, b, o, hy, rfl, hbb, hSb, hcell⟩ := HL.out.at k hlt
        obtain ⟨f0, f1, f2, f3, f4, f5⟩ := hcell wr HB.out
        have HY := Lib.hid hy
        have hi0 : (0 : Int) ≤ (k : Int) := by omega
        have hi1 : (k : Int) < (m : Int) := by omega
        have hp := Lib.hid ((heap_alloc_old wr (entO y) (r := w.heap.size) (by have := HB.out.size; have := lt_of_block P1.out; omega)).trans P1.out)
        have C1 := Lib.hid (scell_any c n b1 b2 B T y.loc (wr.alloc (entO y)))
        have hic : (decide (0 ≤ y.loc) && decide (y.loc < c)) = inC c y := rfl
        rw [hic] at C1
        unfold entO at C1 hp
        clear hy hcell hic
        cases hI : inC c y with
        | true =>
          rw [hI] at C1
          have HI := Lib.hid hI
          clear hI
          go_wp2_with (with_reducible refine at_load_ (t := 57) ?_; refine get_sto rfl _ rfl w.heap.size rfl hp.out ?_)
          refine C1.out.mono ?_
          rintro e w2 ⟨rfl, hb2⟩
          have P2 := Lib.hid ((hb2.block w.heap.size (by have := lt_of_block hp.out; exact this)).trans hp.out)
          have HB2 := Lib.hid (HB.out.trans ((below_new hb2).mono HB.out.size))
          clear hb2
          go_wp2
          go_roundw
          case rel =>
            refine ⟨k + 1, by omega, by go_num, Lib.hid fun j z hj h => ?_, P2, HB2⟩
            by_cases hjk : j = k
            · subst hjk; rw [HY.out] at hj; cases hj; exact HI.out
            · exact HNO.out j z hj (by omega)
          case measure => simp [intOf]; omega
        | false =>
          rw [hI] at C1
          have HF := Lib.hid (show r = 1 by
            rw [HR2.out, if_pos]
            rw [List.any_eq_true]
            exact ⟨y, List.mem_of_getElem? HY.out, by rw [hI]; rfl⟩)
          clear hI
          go_wp2_with (with_reducible refine at_load_ (t := 57) ?_; refine get_sto rfl _ rfl w.heap.size rfl hp.out ?_)
          refine C1.out.mono ?_
          rintro e w2 ⟨rfl, hb2⟩
          have HB2 := Lib.hid (HB.out.trans ((below_new hb2).mono HB.out.size))
          clear hb2
          go_wp2
          go_ret
          exact ⟨by rw [HF.out]; rfl, HB2.out⟩
      · have hkn : ¬ ((k : Int) < (m : Int)) := by omega
        have HR3 := Lib.hid (show r = if l.any (fun e => !asIs c g W e) = true then 14 else 0 by
          rw [HR2.out, if_neg]
          rw [List.any_eq_true]
          rintro ⟨y, hy, hy2⟩
          obtain ⟨j, hj, hjy⟩ := List.getElem_of_mem hy
          rw [HNO.out j y (by rw [List.getElem?_eq_getElem hj, hjy]) (by have := HLN.out; omega)] at hy2
          exact absurd hy2 (by simp))
        clear HR2 HNO
        go_wp2
        go_loopw [29] (fun i wr => ∃ k : Nat, k ≤ m ∧ i = .int .i64 k ∧ Hid (∀ j y, l[j]? = some y → j < k → asIs c g W y = true) ∧ Hid (wr.heap[w.heap.size]? = some (.cells (stoCells c n (.map b1) (.map b2) B T) 57)) ∧ Hid (Below w.heap.size w wr)) (fun i _ => m - (intOf i).toNat)
        case atStart => exact ⟨0, by omega, rfl, Lib.hid fun j _ _ h => absurd h (by omega), P1, HB⟩
        case round =>
          clear P1 HB
          obtain ⟨k, hk, rfl, HNO, P1, HB⟩ := hrel
          by_cases hlt : k < m
          · obtain ⟨y, b, o, hy, rfl, hbb, hSb, hcell⟩ := HL.out.at k hlt
            obtain ⟨f0, f1, f2, f3, f4, f5⟩ := hcell wr HB.out
            have HY := Lib.hid hy
            have hi0 : (0 : Int) ≤ (k : Int) := by omega
            have hi1 : (k : Int) < (m : Int) := by omega
            have hp := Lib.hid ((heap_alloc_old wr (entO y) (r := w.heap.size) (by have := HB.out.size; have := lt_of_block P1.out; omega)).trans P1.out)
            have hq := Lib.hid (EBox.new (w := wr) (e := y))
            have HBA := Lib.hid (HB.out.alloc HB.out.size (entO y))
            have C1 := Lib.hid (CW.out (wr.alloc (entO y)).drew y.loc HBA.out.drew)
            have HSM0 : Hid (asIs c g W y = true → asIs c g W y = true) := Lib.hid id
            have HF0 := Lib.hid (fun (h : asIs c g W y = false) => (show r = 14 by
              rw [HR3.out, if_pos]
              rw [List.any_eq_true]
              exact ⟨y, List.mem_of_getElem? hy, by rw [h]; rfl⟩))
            obtain ⟨sm, hsm⟩ : ∃ sm, sm = asIs c g W y := ⟨_, rfl⟩
            have HSMQ := Lib.hid hsm
            have HAS : Hid (sm = ((lastP (listOf c g y.loc)).2 == y.val && (W y.loc).getD 0 == y.ver && (0 : Int) == y.ref)) := Lib.hid hsm
            clear hsm HSM0
            generalize (lastP (listOf c g y.loc)).2 = lv at *
            generalize (W y.loc).getD 0 = vv at *
            clear hy hcell hkn
            go_wp2_with fail
            have hw2 : wr.alloc (entO y) = wr.alloc (.cells #[.int .i64 y.loc, .int .i64 y.val, .int .u32 y.ver, .int .u32 y.ref, .int .i64 y.new, .bool y.wr] 69) := rfl
            rw [← hw2]
            clear hw2
            refine wp_region_held_drew (S := fun W' => W'.heap[w.heap.size]? = some (.cells (stoCells c n (.map b1) (.map b2) B T) 57 (0, 0)) ∧ EBox W' wr.heap.size y) (by kernel_rfl) ⟨hp.out, hq.out⟩ (fun hHeld => ?_)
            refine wpAnyH_take (i := 0) (v := sto c n (.map b1) (.map b2) B T) rfl (by kernel_rfl) (by kernel_rfl) (by kernel_rfl) (fun _ _ _ h => h) (yields_sto (by rfl) _ rfl w.heap.size rfl 57 (0, 0) (fun _ h => h.1)) hHeld ?_
            try simp only [Act.put, List.setIfInBounds_toArray, List.set_cons_zero, List.set_cons_succ]
            refine wpAnyH_take (i := 1) (v := .pointer (some ⟨wr.heap.size, 0, none⟩)) rfl (by kernel_rfl) (by kernel_rfl) (by kernel_rfl) (fun _ _ _ h => h) (Or.inl ⟨by rfl, ?_⟩) hHeld ?_
            · intro W' hW
              go_simp
            try simp only [Act.put, List.setIfInBounds_toArray, List.set_cons_zero, List.set_cons_succ]
            refine wpAnyH_take (i := 2) (v := .int .i64 y.loc) rfl (by kernel_rfl) (by kernel_rfl) (by kernel_rfl) (fun _ _ _ h => h) (Or.inl ⟨by rfl, ?_⟩) hHeld ?_
            · intro W' hW
              obtain ⟨z0, z1, z2, z3, z4, z5⟩ := EBox.all hW.2
              clear hW
              go_simp
            try simp only [Act.put, List.setIfInBounds_toArray, List.set_cons_zero, List.set_cons_succ]
            refine wpAnyH_take (i := 4) (v := .pointer (some ⟨wr.heap.size, 1, none⟩)) rfl (by kernel_rfl) (by kernel_rfl) (by kernel_rfl) (fun _ _ _ h => h) (Or.inl ⟨by rfl, ?_⟩) hHeld ?_
            · intro W' hW
              go_simp
            try simp only [Act.put, List.setIfInBounds_toArray, List.set_cons_zero, List.set_cons_succ]
            refine wpAnyH_take (i := 5) (v := .agg #[.int .i64 y.val, .int .u32 y.ver, .int .u32 y.ref]) rfl (by kernel_rfl) (by kernel_rfl) (by kernel_rfl) (fun _ _ _ h => h) (Or.inl ⟨by rfl, ?_⟩) hHeld ?_
            · intro W' hW
              obtain ⟨z0, z1, z2, z3, z4, z5⟩ := EBox.all hW.2
              clear hW
              go_simp
            try simp only [Act.put, List.setIfInBounds_toArray, List.set_cons_zero, List.set_cons_succ]
            refine wpAnyH_ready (rs := [3]) (by kernel_rfl) (by simp) ?_
            refine AllReadyH.cons rfl (fun K hK => ?_) AllReadyH.nil
            go_simp
            refine C1.out.mono ?_
            rintro e w2 ⟨rfl, hb2⟩
            have P2 := Lib.hid ((hb2.block w.heap.size (by have := lt_of_block hp.out; exact this)).trans hp.out)
            have HB2 := Lib.hid (HBA.out.trans ((show Below (wr.alloc (entO y)).heap.size (wr.alloc (entO y)) w2 from (Below.refl _ _).drew.trans hb2).mono HBA.out.size))
            refine hK.out _ _ ⟨P2.out, EBox.below (w := (wr.alloc (entO y)).drew) hq.out hb2⟩ (fun hHeld2 => ?_)
            clear hK hb2 hHeld
            try simp only [Act.put, List.setIfInBounds_toArray, List.set_cons_zero, List.set_cons_succ]
            refine wpAnyH_take (i := 6) (v := .bool (!(lv == y.val && vv == y.ver && (0 : Int) == y.ref))) rfl (by kernel_rfl) (by kernel_rfl) (by kernel_rfl) (fun _ _ _ h => h) (Or.inl ⟨by rfl, ?_⟩) hHeld2 ?_
            · intro W' hW
              go_simp
              by_cases h1 : lv = y.val <;> by_cases h2 : vv = y.ver <;> by_cases h3 : 0 = y.ref <;> simp [h1, h2, h3]
            try simp only [Act.put, List.setIfInBounds_toArray, List.set_cons_zero, List.set_cons_succ]
            refine wpAnyH_done (by kernel_rfl) ?_ _
            rw [← HAS.out]
            cases hI : sm with
            | true =>
              have HSM := Lib.hid (HSMQ.out.symm.trans hI)
              clear hI
              go_wp2
              go_roundw
              case rel =>
                refine ⟨k + 1, by omega, by go_num, Lib.hid fun j z hj h => ?_, P2, HB2⟩
                by_cases hjk : j = k
                · subst hjk; rw [HY.out] at hj; cases hj; exact HSM.out
                · exact HNO.out j z hj (by omega)
              case measure => simp [intOf]; omega
            | false =>
              have HF := Lib.hid (HF0.out (HSMQ.out.symm.trans hI))
              clear hI
              go_wp2
              go_ret
              exact ⟨by rw [HF.out]; rfl, HB2.out⟩
          · have hkn2 : ¬ ((k : Int) < (m : Int)) := by omega
            have HF := Lib.hid (show r = 0 by
              rw [HR3.out, if_neg]
              rw [List.any_eq_true]
              rintro ⟨y, hy, hy2⟩
              obtain ⟨j, hj, hjy⟩ := List.getElem_of_mem hy
              rw [HNO.out j y (by rw [List.getElem?_eq_getElem hj, hjy]) (by have := HLN.out; omega)] at hy2
              exact absurd hy2 (by simp))
            go_wp2
            go_ret
            exact ⟨by rw [HF.out]; rfl, HB.out⟩
  · have HF := Lib.hid (show r = q by rw [HR.out, if_pos hq0])
    have hqb : (q == 0) = false := beq_eq_false_iff_ne.2 hq0
    have hqc : (q != 0) = true := by rw [bne, hqb]; rfl
    clear HR hq0
    go_wp2
    go_ret
    exact ⟨by rw [HF.out]; rfl, HB1.out⟩
end Go.Proofs.Ytpejhgkcofilmaa
