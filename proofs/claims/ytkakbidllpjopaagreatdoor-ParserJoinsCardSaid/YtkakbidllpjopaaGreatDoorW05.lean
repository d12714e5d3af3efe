/- The walk of the parser's left, once for whatever its operand answers (printed by wip/genprg.py). No condition beyond the state. The walks of the parser's levels, each once for whatever the next level answers (printed by wip/genprh.py). No condition beyond the state. The walk of syntax.Expr.wrong. Conditions: the table of keywords is laid (SxW). -/
import Derived.Test.YtkakbidllpjopaaGreatDoorW04
import Derived.Test.YtkakbidllpjopaaGreatDoorW02
import Derived.Deep.CutRange
import Derived.Deep.CutBlock
import Derived.Laws.CopyOwn
set_option linter.unusedVariables false
set_option linter.unusedSimpArgs false
namespace Go.Proofs.YtkakbidllpjopaaGreatDoor
open Go.RowKit

theorem opAt_false {lv : Nat} {R : List Tk} (h : ∀ s ∈ sgnsAt lv, isT s R = false) : opAt lv R = false := by
  cases R with
  | nil => rfl
  | cons t r =>
    show ((t.1 == 3 || t.1 == 4) && (sgnsAt lv).contains t.2) = false
    cases hk : (t.1 == 3 || t.1 == 4) with
    | false => rfl
    | true =>
      cases hc : (sgnsAt lv).contains t.2 with
      | false => rfl
      | true =>
        have : ((t.1 == 3 || t.1 == 4) && t.2 == t.2) = false := h t.2 (by simpa using hc)
        rw [hk] at this
        simp at this
theorem opAt_true {lv : Nat} {R : List Tk} {s : Str} (hs : s ∈ sgnsAt lv) (h : isT s R = true) : opAt lv R = true ∧ textT R = s := by
  cases R with
  | nil => cases h
  | cons t r =>
    have h : ((t.1 == 3 || t.1 == 4) && t.2 == s) = true := h
    rw [Bool.and_eq_true] at h
    have h2 : t.2 = s := by simpa using h.2
    refine ⟨?_, h2⟩
    show ((t.1 == 3 || t.1 == 4) && (sgnsAt lv).contains t.2) = true
    rw [h.1, h2]
    simpa using hs
theorem sgns_len (lv : Nat) : (sgnsAt lv).length ≤ 6 := by
  match lv with
  | 0 => decide
  | 1 => decide
  | 2 => decide
  | 3 => decide
  | 4 => decide
  | n + 5 => exact Nat.zero_le _
theorem XL.two {w : World} {S : Nat → Prop} {e1 e2 : Ex} {c1 c2 : List Value} {b : Nat} {t : TypeId} {fr : Nat × Nat} (h1 : XV w S e1 c1) (h2 : XV w S e2 c2) (hb : w.heap[b]? = some (.cells (c1 ++ c2).toArray t fr)) (hS : S b) : XL w S (some ⟨b, 0, none⟩) 2 2 [e1, e2] := by
  have hl := h1.len
  refine ⟨⟨rfl, Nat.le_refl _, fun h => by cases h⟩, fun _ => ⟨b, 0, rfl, lt_of_block hb, hS, ?_⟩⟩
  rw [XLf]
  refine ⟨⟨c1, h1, fun j v hv => ?_⟩, ?_⟩
  · rw [Nat.zero_mul, Nat.zero_add]
    try rw [Nat.zero_add]
    rw [cell_of_row _ _ _ _ _ _ hb, ← hv, List.getElem?_toArray, List.getElem?_append_left]
    exact (List.getElem?_eq_some_iff.1 hv).1
  · rw [XLf]
    refine ⟨⟨c2, h2, fun j v hv => ?_⟩, by rw [XLf]; trivial⟩
    rw [cell_of_row _ _ _ _ _ _ hb, ← hv, List.getElem?_toArray, List.getElem?_append_right (by omega)]
    congr 1
    omega
theorem Res.is_ex {α : Type} {P : Res α} {x : α} {Q : Bool → List Tk → Prop} (h : P.is x Q) : ∃ b r, Q b r ∧ r = P.rest ∧ (b = true → P = .bad r) ∧ (b = false → P = .ok x r) := by
  cases P with
  | ok a r => exact ⟨false, r, h.2, rfl, (by intro e; cases e), fun _ => by rw [h.1]⟩
  | bad r => exact ⟨true, r, h, rfl, (fun _ => rfl), (by intro e; cases e)⟩
/-- Where the parser stands. -/
def idxOf (g : Nat) (w : World) : Nat := match w.cell? ⟨g, 1, none⟩ with
  | some (.int _ i) => i.toNat
  | _ => 0
theorem PSx.idx {L : List Lx.Tok} {A : Option Addr} {n c g : Nat} {w : World} {bad : Bool} {R : List Tk} (h : PSx L A n c g w bad R) : L.length - idxOf g w = R.length := by
  obtain ⟨i, hi⟩ := h
  unfold idxOf
  rw [hi.cells.2.1, ← hi.at_, List.length_drop, List.length_map]
  rfl
/-- The state of left's loops: the expression a so far in the box eb. -/
structure LS (L : List Lx.Tok) (A : Option Addr) (n c g : Nat) (w : World) (eb : Nat) (wr : World) (u : List Value) (a : Ex) (b : Bool) (R : List Tk) : Prop where
  ps : PSx L A n c g wr b R
  e : XB wr eb u.toArray
  v : XV wr (fun k => w.heap.size < k ∧ k ≠ eb) a u
  res : XB wr w.heap.size #[.int .i64 0, .int .i64 0, .string { data := #[] }, .string { data := #[] }, .slice none 0 0, .slice none 0 0]
  gr : w.grownBy wr (some g)
  lt : w.heap.size < eb
  lg : g < w.heap.size
theorem LS.go {L : List Lx.Tok} {A : Option Addr} {n c g : Nat} {w : World} {eb : Nat} {wr wx : World} {u : List Value} {a : Ex} {b b' : Bool} {R R' : List Tk} (h : LS L A n c g w eb wr u a b R) (hg : wr.grownBy wx (some g)) (hp : PSx L A n c g wx b' R') : LS L A n c g w eb wx u a b' R' :=
  ⟨hp, h.e.gr hg (by have := h.lt; have := h.lg; omega), h.v.gr hg (fun k _ hk => ⟨by have := h.lg; omega, hk⟩), h.res.gr hg (by have := h.lg; omega), World.grownBy.trans h.gr hg, h.lt, h.lg⟩
theorem LS.below {L : List Lx.Tok} {A : Option Addr} {n c g : Nat} {w : World} {eb : Nat} {wr wx : World} {u : List Value} {a : Ex} {b : Bool} {R : List Tk} (h : LS L A n c g w eb wr u a b R) (hb : Below wr.heap.size wr wx) : LS L A n c g w eb wx u a b R := h.go (Below.grown_ hb _) (h.ps.next hb)
theorem LS.sgn {L : List Lx.Tok} {A : Option Addr} {n c g : Nat} {w : World} {eb : Nat} {wr : World} {u : List Value} {a : Ex} {b : Bool} {R : List Tk} (h : LS L A n c g w eb wr u a b R) {q : Nat} {l : List Str} (hqg : q ≠ g) (hq : w.heap[q]? = some (.cells (l.map fun s => Value.string (bs s)).toArray 9 (0, 0))) {j : Nat} {s : Str} (hs : l[j]? = some s) : wr.cell? ⟨q, j, none⟩ = some (.string (bs s)) := by
  have e := (h.gr.block q (lt_of_block hq) (fun e => hqg (Option.some.inj e))).trans hq
  rw [cell_of_row _ _ _ _ _ _ e]
  simp [hs]
set_option maxRecDepth 100000 in
set_option maxHeartbeats 12800000 in
theorem left_gen (L : List Lx.Tok) (A : Option Addr) (n c g : Nat) (w : World) (bad : Bool) (R : List Tk) (h : PSx L A n c g w bad R) (lv f fo q : Nat) (hlv : lv < 5) (hqg : q ≠ g) (hq : w.heap[q]? = some (.cells ((sgnsAt lv).map fun s => Value.string (bs s)).toArray 9 (0, 0)))
    (hB : ∀ W R', PSx L A n c g W true R' → Calls Tryz.prog fo #[.pointer (some ⟨g, 0, none⟩)] W (XP L A n c g W (.bad R')))
    (hO : ∀ f', f' < f → ∀ W R', 8 * R'.length + 2 + (4 - lv) ≤ f' → PSx L A n c g W false R' → Calls Tryz.prog fo #[.pointer (some ⟨g, 0, none⟩)] W (XP L A n c g W (pB f' (lv + 1) R')))
    (hm : bad = false → 8 * R.length + 2 + (5 - lv) ≤ f) (hcf : ∀ args w, (callFunc fo args).run Tryz.prog w = .ok (.enter fo args) w) :
    Calls Tryz.prog 46 #[.pointer (some ⟨g, 0, none⟩), .func (.func fo) #[.pointer (some ⟨g, 0, none⟩)] #[], .slice (some ⟨q, 0, none⟩) (sgnsAt lv).length (sgnsAt lv).length] w (XP L A n c g w (if bad = true then .bad R else pB f lv R)) := by
  obtain ⟨PZ, hPZ⟩ : ∃ z, z = (if bad = true then .bad R else pB f lv R) := ⟨_, rfl⟩
  rw [← hPZ]
  have HZ := Lib.hid hPZ
  have HB := Lib.hid hB
  have HO := Lib.hid hO
  have HM := Lib.hid hm
  have HLV := Lib.hid hlv
  clear hPZ hB hO hm hlv
  go_enter Tryz.func46, Tryz.ntmps46
  obtain ⟨w0, hw0⟩ : ∃ w0, w0 = w.alloc (.cells #[.int .i64 0, .int .i64 0, .string { data := #[] }, .string { data := #[] }, .slice none 0 0, .slice none 0 0] 27) := ⟨_, rfl⟩
  have hb0 : Below w.heap.size w w0 := by rw [hw0]; exact (Below.refl _ _).alloc (Nat.le_refl _) _
  have X0 := Lib.hid (show XB w0 w.heap.size #[.int .i64 0, .int .i64 0, .string { data := #[] }, .string { data := #[] }, .slice none 0 0, .slice none 0 0] from by rw [hw0]; exact heap_alloc_new w _)
  have TBs := Lib.hid h.base
  have HGL := Lib.hid h.lt
  have HS0 := Lib.hid (show w0.heap.size = w.heap.size + 1 from by rw [hw0]; exact World.size_alloc ..)
  have K1 : Calls Tryz.prog fo #[.pointer (some ⟨g, 0, none⟩)] w0 (XP L A n c g w0 (if bad = true then .bad R else pB (f - 1) (lv + 1) R)) := by
    cases bad with
    | true => exact HB.out w0 R (h.next hb0)
    | false => exact HO.out (f - 1) (by have := HM.out rfl; omega) w0 R (by have := HM.out rfl; have := HLV.out; omega) (h.next hb0)
  have HK1 := Lib.hid K1
  have HQ := Lib.hid hq
  have HQG := Lib.hid hqg
  have G0 := Lib.hid (Below.grown_ hb0 (some g))
  clear h hb0 K1 hq hqg
  generalize hsl : (sgnsAt lv).length = sl at *
  have HSL := Lib.hid hsl
  have HS6 := Lib.hid (show sl ≤ 6 from by rw [← hsl]; exact sgns_len lv)
  clear hsl
  go_upto_region 1 with fail
  rw [← hw0]
  clear hw0
  go_wp2_with fail
  refine HK1.out.mono ?_
  rintro e w1 ⟨x, cs, rfl, hx, hg, hP⟩
  obtain ⟨wb, hwb⟩ : ∃ wb, wb = w1.alloc (.cells #[.int .i64 0, .int .i64 0, .string { data := #[] }, .string { data := #[] }, .slice none 0 0, .slice none 0 0] 27) := ⟨_, rfl⟩
  have hb8 : Below w1.heap.size w1 wb := by rw [hwb]; exact (Below.refl _ _).alloc (Nat.le_refl _) _
  have E8 := Lib.hid (show XB wb w1.heap.size #[.int .i64 0, .int .i64 0, .string { data := #[] }, .string { data := #[] }, .slice none 0 0, .slice none 0 0] from by rw [hwb]; exact heap_alloc_new w1 _)
  have X8 := Lib.hid ((X0.out.gr hg (by have := HGL.out; omega)).below hb8)
  have G8 := Lib.hid (gr_below (World.grownBy.trans G0.out hg) hb8)
  have HX8 := Lib.hid ((hx.more (S' := fun b => w.heap.size < b ∧ b ≠ w1.heap.size) fun b hlt (hb : w0.heap.size ≤ b) => ⟨by have := HS0.out; omega, by omega⟩).below hb8)
  have HP8 := Lib.hid (Res.is_imp hP fun b r h => h.next hb8)
  have HEB := Lib.hid (show w.heap.size < w1.heap.size from by have := hg.size; have := HS0.out; omega)
  have H6S := Lib.hid hx.six
  clear hx hg hP HK1 X0 G0 hb8
  go_wp2_with (with_reducible refine at_store_ (t := 27) ?_; refine Hid.out ?_)
  refine Lib.hid ?_
  rw [← hwb]
  clear hwb
  generalize w1.heap.size = eb at *
  refine xb_put rfl _ _ rfl rfl eb rfl rfl H6S.out E8.out rfl ?_
  intro wc hxc hgc hsc
  clear hsc
  have HPC := Res.is_imp HP8.out fun b r h => h.other TBs.out hgc (Nat.le_of_lt HEB.out)
  obtain ⟨b1, r1, f1, hps, hf1, hz1, hln⟩ : ∃ b1 r1 f1, PSx L A n c g wc b1 r1 ∧ (b1 = false → 8 * r1.length + 1 ≤ f1 ∧ f1 < f) ∧ PZ = (if b1 = true then .bad r1 else pC f1 lv x r1) ∧ True := by
    have hz := HZ.out
    cases bad with
    | true => exact ⟨true, R, 0, HPC, (by intro e; cases e), hz, trivial⟩
    | false =>
      have hm := HM.out rfl
      have hlv := HLV.out
      obtain ⟨f0, rfl⟩ : ∃ f0, f = f0 + 1 := ⟨f - 1, by omega⟩
      rw [if_neg (by simp), pB, if_neg (by omega)] at hz
      rw [if_neg (by simp), Nat.add_sub_cancel] at HPC
      cases hp : pB f0 (lv + 1) R with
      | bad r => rw [hp] at hz HPC; exact ⟨true, r, 0, HPC, (by intro e; cases e), hz, trivial⟩
      | ok y r =>
        rw [hp] at hz HPC
        obtain ⟨rfl, hps⟩ := HPC
        have hsf := suf_len ((suf_of ((suf_parts f0).1 (lv + 1) R)).1 _ _ hp)
        exact ⟨false, r, f0, hps, fun _ => ⟨by omega, by omega⟩, hz, trivial⟩
  have S0 := Lib.hid (LS.mk (w := w) (eb := eb) hps hxc (HX8.out.gr (S' := fun b => w.heap.size < b ∧ b ≠ eb) hgc (fun b _ hb => ⟨hb.2, hb⟩)) (X8.out.gr hgc (by have := HEB.out; omega)) (gr_step (B := 0) G8.out hgc (Nat.le_of_lt HEB.out)) HEB.out HGL.out)
  have Z0 := Lib.hid hz1
  have F0 := Lib.hid hf1
  clear hxc hgc HPC hps hz1 hln X8 G8 HX8 HP8 E8 HM HZ hf1 H6S HS0
  go_wp2_with fail
  go_loopw [8] (fun _ wr => ∃ (u : List Value) (a : Ex) (b : Bool) (R' : List Tk) (f1 : Nat), LS L A n c g w eb wr u a b R' ∧ (b = false → 8 * R'.length + 1 ≤ f1 ∧ f1 < f) ∧ PZ = (if b = true then .bad R' else pC f1 lv a R')) (fun _ wr => L.length - idxOf g wr)
  case atStart => exact ⟨_, _, _, _, _, S0.out, F0.out, Z0.out⟩
  case round =>
    clear S0 F0 Z0
    obtain ⟨u, a, b, R', f1, hS, hF, hZ⟩ := hrel
    have S1 := Lib.hid hS
    have HM1 := Lib.hid hS.ps.idx
    obtain ⟨i1, hps⟩ := hS.ps
    obtain ⟨c0, c1, c2⟩ := hps.cells
    cases b with
    | true =>
      rw [if_pos rfl] at hZ
      have HZI := Lib.hid (show ∀ Q : Bool → List Tk → Prop, Q true R' → PZ.is a Q from fun Q hq => by rw [hZ]; exact hq)
      clear hS hF hZ hps
      go_wp2_with (with_reducible refine at_load_ (t := 27) ?_; refine Hid.out ?_)
      refine Lib.hid ?_
      refine xb_load rfl _ rfl eb rfl S1.out.e S1.out.v.six.1 ?_
      refine xb_put rfl _ _ rfl rfl w.heap.size rfl rfl S1.out.v.six S1.out.res rfl ?_
      intro wz hxz hgz hsz
      clear hsz
      have XZ := Lib.hid hxz
      have GZ := Lib.hid (gr_step (B := 0) S1.out.gr hgz (Nat.le_refl _))
      have VZ := Lib.hid (S1.out.v.gr (S' := fun b => w.heap.size ≤ b) hgz (fun b _ hb => ⟨by have := hb.1; omega, by have := hb.1; omega⟩))
      have PZZ := Lib.hid (HZI.out _ (S1.out.ps.other TBs.out hgz (Nat.le_refl _)))
      clear hxz hgz
      go_wp2_with fail
      refine bodyPost_ret (xb_ret rfl _ _ w.heap.size _ rfl XZ.out VZ.out.six.1) rfl ?_
      exact ⟨_, _, rfl, VZ.out, GZ.out, PZZ.out⟩
    | false =>
      rw [if_neg (by simp)] at hZ
      obtain ⟨hfa, hfb⟩ := hF rfl
      have HFA := Lib.hid hfa
      have HFB := Lib.hid hfb
      have HZ1 := Lib.hid hZ
      have HC0 := Lib.hid c0
      clear hS hF hZ hps hfa hfb
      go_wp2_with fail
      clear c0 c1 c2
      go_loopw [8, 20] (fun v8 v20 wx => ∃ j : Nat, v8 = .bool false ∧ v20 = .int .i64 (j : Int) ∧ j ≤ sl ∧ LS L A n c g w eb wx u a false R' ∧ ∀ s ∈ (sgnsAt lv).take j, isT s R' = false) (fun _ v20 _ => sl - (intOf v20).toNat)
      case atStart => exact ⟨0, rfl, rfl, Nat.zero_le _, S1.out, by simp⟩
      case round =>
        obtain ⟨j, rfl, rfl, hj, hS, hno⟩ := hrel
        have S2 := Lib.hid hS
        have HNO := Lib.hid hno
        have HJ := Lib.hid hj
        clear S1 hS hno
        rcases Nat.lt_or_ge j sl with hlt | hge
        · have HLT := Lib.hid hlt
          have h2 : (j : Int) < (sl : Int) := by omega
          have h3 : ¬ (j : Int) < 0 := by omega
          have hsj : (sgnsAt lv)[j]? = some ((sgnsAt lv)[j]'(by rw [HSL.out]; exact hlt)) := List.getElem?_eq_getElem _
          generalize (sgnsAt lv)[j]'(by rw [HSL.out]; exact hlt) = s at *
          have HSJ := Lib.hid hsj
          have cq := S2.out.sgn HQG.out HQ.out hsj
          clear hsj hj hlt
          go_wp2_with fail
          refine (take_any L A n c g wr false R' S2.out.ps s).mono ?_
          rintro e wy ⟨rfl, hpy, hgy⟩
          have S3 := Lib.hid (S2.out.go hgy hpy)
          have HS6b := Lib.hid (show sl ≤ 6 from HS6.out)
          clear hpy hgy S2 cq
          by_cases ht : isT s R' = true
          · have e1 : tk false s R' = true := by unfold tk; rw [ht]; rfl
            have e2 : tkR false s R' = R'.tail := if_pos e1
            rw [e2] at S3
            rw [e1]
            clear e1 e2
            have hop := opAt_true (List.mem_of_getElem? HSJ.out) ht
            have HTS := Lib.hid hop.2
            obtain ⟨f2, hf2⟩ : ∃ f2, f1 = f2 + 1 := ⟨f1 - 1, by have := HFA.out; omega⟩
            have hz := HZ1.out
            rw [hf2, pC, if_pos hop.1, hop.2] at hz
            have HZ2 := Lib.hid hz
            have hne : R' ≠ [] := by rintro rfl; cases ht
            have hln : R'.tail.length + 1 = R'.length := by cases R' with | nil => exact absurd rfl hne | cons t r => rfl
            have HLN := Lib.hid hln
            have HF2 := Lib.hid (show 8 * R'.tail.length + 8 ≤ f2 ∧ f2 < f from by have := HFA.out; have := HFB.out; omega)
            have HOK := Lib.hid (show ∀ W, PSx L A n c g W false R'.tail → _ from fun W => HO.out f2 HF2.out.2 W R'.tail (by have := HF2.out.1; omega))
            clear hop hz hne hln HNO HZ1 hf2 HFA HFB
            obtain ⟨k0, n0, s0, m0, a0, o0⟩ := a
            obtain ⟨A0, na0, ca0, O0, no0, co0, hu, -, -⟩ := S3.out.v.open_
            subst hu
            go_upto_region 8 with fail
            go_cut [36] from 27 (fun v36 wz => v36 = undef ∧ ∃ (u : List Value) (a : Ex) (b : Bool) (Rn : List Tk) (fn : Nat), LS L A n c g w eb wz u a b Rn ∧ (b = false → 8 * Rn.length + 1 ≤ fn ∧ fn < f) ∧ PZ = (if b = true then .bad Rn else pC fn lv a Rn) ∧ Rn.length < R'.length)
            case first =>
              rename_i J0 K0 hR0 hK0
              refine wp_region_held_drew (S := fun W => True) (by kernel_rfl) trivial (fun hHeld => ?_)
              have S4 := Lib.hid (S3.out.below (Below.refl _ _).drew)
              generalize hwq : World.drew _ = wq at S4 ⊢
              clear hwq S3 hHeld
              refine wpAnyH_take (i := 0) (oi := ⟨some 27, _, _, _, _, _⟩) (v := .string (bs s)) rfl (by kernel_rfl) (by kernel_rfl) (by kernel_rfl) (fun _ _ _ h => h) (Or.inl ⟨by rfl, ?_⟩) trivial ?_
              · intro W' hW
                go_simp
              try simp only [Act.put, List.setIfInBounds_toArray, List.set_cons_zero, List.set_cons_succ]
              refine wpAnyH_take (i := 2) (oi := ⟨some 29, _, _, _, _, _⟩) (v := .func (.func fo) #[.pointer (some ⟨g, 0, none⟩)] #[]) rfl (by kernel_rfl) (by kernel_rfl) (by kernel_rfl) (fun _ _ _ h => h) (Or.inl ⟨by rfl, ?_⟩) trivial ?_
              · intro W' hW
                go_simp
              try simp only [Act.put, List.setIfInBounds_toArray, List.set_cons_zero, List.set_cons_succ]
              refine wpAnyH_ready (rs := [1, 3]) (by kernel_rfl) (by simp) ?_
              refine AllReadyH.cons (o := ⟨some 28, _, _, _, _, _⟩) rfl (fun K hK => ?_) (AllReadyH.cons (o := ⟨some 30, _, _, _, _, _⟩) rfl (fun K hK => ?_) AllReadyH.nil)
              · refine Eq.mpr (if_pos (by kernel_rfl)) ?_
                refine wp_load_row 27 _ rfl eb rfl _ _ _ _ S4.out.e Tryz.underlying27 rfl ex_size ?_
                refine hK.out _ _ trivial (fun hHeld2 => ?_)
                clear hK
                try simp only [Act.put, List.setIfInBounds_toArray, List.set_cons_zero, List.set_cons_succ]
                refine wpAnyH_ready (rs := [3]) (by kernel_rfl) (by simp) ?_
                refine AllReadyH.cons (o := ⟨some 30, _, _, _, _, _⟩) rfl (fun K hK => ?_) AllReadyH.nil
                go_simp
                refine (HOK.out _ S4.out.ps).mono ?_
                rintro e wk ⟨x2, cs2, rfl, hx2, hg2, hP2⟩
                refine hK.out _ _ trivial (fun hHeld2 => ?_)
                clear hK
                obtain ⟨b2, r2, hps2, hr2, hb2, ho2⟩ := Res.is_ex (x := x2) (P := pB f2 (lv + 1) R'.tail) (Q := fun b r => PSx L A n c g wk b r) hP2
                have hl2 := suf_len ((suf_parts f2).1 (lv + 1) R'.tail)
                rw [← hr2] at hl2
                have S5 := Lib.hid (S4.out.go hg2 hps2)
                have HX2 := Lib.hid (hx2.more (S' := fun k => w.heap.size < k ∧ k ≠ eb) fun k _ (hk : wq.heap.size ≤ k) => by have := S4.out.e.lt; have := S4.out.lt; exact ⟨by omega, by omega⟩)
                have HWQ := Lib.hid (show eb < wk.heap.size from S5.out.e.lt)
                obtain ⟨aa, haa⟩ : ∃ z, z = x2 := ⟨_, rfl⟩
                have HAA := Lib.hid haa
                obtain ⟨k2, n2, s2, m2, a2, o2⟩ := x2
                obtain ⟨A2, na2, ca2, O2, no2, co2, hu2, -, -⟩ := HX2.out.open_
                subst hu2
                unfold exC
                clear haa
                try simp only [Act.put, List.setIfInBounds_toArray, List.set_cons_zero, List.set_cons_succ]
                refine wpAnyH_ready (rs := [4]) (by kernel_rfl) (by simp) ?_
                refine AllReadyH.cons (o := ⟨some 31, _, _, _, _, _⟩) rfl (fun K hK => ?_) AllReadyH.nil
                try unfold exC
                go_simp
                obtain ⟨w9, hw9⟩ : ∃ z, z = wk.alloc (.cells #[.int .i64 k0, .int .i64 n0, .string (bs s0), .string (bs m0), .slice A0 na0 ca0, .slice O0 no0 co0, .int .i64 k2, .int .i64 n2, .string (bs s2), .string (bs m2), .slice A2 na2 ca2, .slice O2 no2 co2] 27) := ⟨_, rfl⟩
                have hb9 : Below wk.heap.size wk w9 := by rw [hw9]; exact (Below.refl _ _).alloc (Nat.le_refl _) _
                have hr9 : w9.heap[wk.heap.size]? = some (.cells #[.int .i64 k0, .int .i64 n0, .string (bs s0), .string (bs m0), .slice A0 na0 ca0, .slice O0 no0 co0, .int .i64 k2, .int .i64 n2, .string (bs s2), .string (bs m2), .slice A2 na2 ca2, .slice O2 no2 co2] 27 (0, 0)) := by rw [hw9]; exact heap_alloc_new wk _
                rw [← hw9]
                have S6 := Lib.hid (S5.out.below hb9)
                have HL9 := Lib.hid (XL.two (S := fun k => w.heap.size < k ∧ k ≠ eb) S6.out.v (HX2.out.below hb9) hr9 ⟨by have := HWQ.out; have := S6.out.lt; omega, by have := HWQ.out; omega⟩)
                clear hw9 hb9 hr9 HX2
                refine hK.out _ _ trivial (fun hHeld9 => ?_)
                clear hK
                try simp only [Act.put, List.setIfInBounds_toArray, List.set_cons_zero, List.set_cons_succ]
                refine wpAnyH_take (i := 5) (oi := ⟨some 32, _, _, _, _, _⟩) (v := .agg #[.int .i64 5, .int .i64 0, .string { data := #[] }, .string (bs s), .slice (some ⟨wk.heap.size, 0, none⟩) 2 2, .slice none 0 0]) rfl (by kernel_rfl) (by kernel_rfl) (by kernel_rfl) (fun _ _ _ h => h) (Or.inl ⟨by rfl, ?_⟩) trivial ?_
                · intro W' hW
                  go_simp
                try simp only [Act.put, List.setIfInBounds_toArray, List.set_cons_zero, List.set_cons_succ]
                refine wpAnyH_ready (rs := [6]) (by kernel_rfl) (by simp) ?_
                refine AllReadyH.cons (o := ⟨none, _, _, _, _, _⟩) rfl (fun K hK => ?_) AllReadyH.nil
                refine Eq.mpr (if_pos (by kernel_rfl)) ?_
                refine wp_store_row 27 (.tmp 7) (.tmp 32) rfl eb #[.int .i64 5, .int .i64 0, .string { data := #[] }, .string (bs s), .slice (some ⟨wk.heap.size, 0, none⟩) 2 2, .slice none 0 0] rfl rfl 27 _ S6.out.e ex_size rfl (by simp [Value.oneCell']) ?_
                have gz : w9.grownBy (w9.setRow eb #[.int .i64 5, .int .i64 0, .string { data := #[] }, .string (bs s), .slice (some ⟨wk.heap.size, 0, none⟩) 2 2, .slice none 0 0]) (some eb) := ⟨rfl, rfl, rfl, Nat.le_of_eq (by simp [World.setRow]), fun k _ hk => setRow_other _ _ _ _ (fun e => hk (by rw [e]))⟩
                have hxz : XB (w9.setRow eb #[.int .i64 5, .int .i64 0, .string { data := #[] }, .string (bs s), .slice (some ⟨wk.heap.size, 0, none⟩) 2 2, .slice none 0 0]) eb #[.int .i64 5, .int .i64 0, .string { data := #[] }, .string (bs s), .slice (some ⟨wk.heap.size, 0, none⟩) 2 2, .slice none 0 0] := setRow_heap _ _ _ _ _ _ S6.out.e
                generalize w9.setRow eb #[.int .i64 5, .int .i64 0, .string { data := #[] }, .string (bs s), .slice (some ⟨wk.heap.size, 0, none⟩) 2 2, .slice none 0 0] = wz at *
                refine hK.out _ _ trivial (fun hHeld10 => ?_)
                clear hK
                try simp only [Act.put, List.setIfInBounds_toArray, List.set_cons_zero, List.set_cons_succ]
                refine wpAnyH_done (by kernel_rfl) ?_ _
                refine hK0 _ _ (Met.intro (hR0 _ _ ?_))
                (repeat apply Exists.intro)
                refine ⟨?rel, rfl⟩
                case rel =>
                  have hlz := HL9.out.gr (S' := fun k => w.heap.size < k ∧ k ≠ eb) gz (fun k _ hk => ⟨hk.2, hk⟩)
                  have hll := HLN.out
                  have hff := HF2.out
                  refine ⟨rfl, exC 5 0 [] s (some ⟨wk.heap.size, 0, none⟩) 2 2 none 0 0, .mk 5 0 [] s [.mk k0 n0 s0 m0 a0 o0, .mk k2 n2 s2 m2 a2 o2] [], b2, r2, f2, ⟨S6.out.ps.other TBs.out gz (Nat.le_of_lt S6.out.lt), hxz, XV.shut (by unfold InR; omega) hlz (XL.nil_ _ _), S6.out.res.gr gz (by have := S6.out.lt; omega), gr_step (B := 0) S6.out.gr gz (Nat.le_of_lt S6.out.lt), S6.out.lt, S6.out.lg⟩, fun _ => ⟨by omega, by omega⟩, ?_, by omega⟩
                  rw [HZ2.out]
                  cases b2 with
                  | true => rw [hb2 rfl]; rfl
                  | false => rw [ho2 rfl, ← HAA.out]; rfl
              · go_simp
                refine (HOK.out _ S4.out.ps).mono ?_
                rintro e wk ⟨x2, cs2, rfl, hx2, hg2, hP2⟩
                refine hK.out _ _ trivial (fun hHeld2 => ?_)
                clear hK
                obtain ⟨b2, r2, hps2, hr2, hb2, ho2⟩ := Res.is_ex (x := x2) (P := pB f2 (lv + 1) R'.tail) (Q := fun b r => PSx L A n c g wk b r) hP2
                have hl2 := suf_len ((suf_parts f2).1 (lv + 1) R'.tail)
                rw [← hr2] at hl2
                have S5 := Lib.hid (S4.out.go hg2 hps2)
                have HX2 := Lib.hid (hx2.more (S' := fun k => w.heap.size < k ∧ k ≠ eb) fun k _ (hk : wq.heap.size ≤ k) => by have := S4.out.e.lt; have := S4.out.lt; exact ⟨by omega, by omega⟩)
                have HWQ := Lib.hid (show eb < wk.heap.size from S5.out.e.lt)
                obtain ⟨aa, haa⟩ : ∃ z, z = x2 := ⟨_, rfl⟩
                have HAA := Lib.hid haa
                obtain ⟨k2, n2, s2, m2, a2, o2⟩ := x2
                obtain ⟨A2, na2, ca2, O2, no2, co2, hu2, -, -⟩ := HX2.out.open_
                subst hu2
                unfold exC
                clear haa
                try simp only [Act.put, List.setIfInBounds_toArray, List.set_cons_zero, List.set_cons_succ]
                refine wpAnyH_ready (rs := [1]) (by kernel_rfl) (by simp) ?_
                refine AllReadyH.cons (o := ⟨some 28, _, _, _, _, _⟩) rfl (fun K hK => ?_) AllReadyH.nil
                refine Eq.mpr (if_pos (by kernel_rfl)) ?_
                refine wp_load_row 27 _ rfl eb rfl _ _ _ _ S5.out.e Tryz.underlying27 rfl ex_size ?_
                refine hK.out _ _ trivial (fun hHeld2 => ?_)
                clear hK
                try simp only [Act.put, List.setIfInBounds_toArray, List.set_cons_zero, List.set_cons_succ]
                refine wpAnyH_ready (rs := [4]) (by kernel_rfl) (by simp) ?_
                refine AllReadyH.cons (o := ⟨some 31, _, _, _, _, _⟩) rfl (fun K hK => ?_) AllReadyH.nil
                try unfold exC
                go_simp
                obtain ⟨w9, hw9⟩ : ∃ z, z = wk.alloc (.cells #[.int .i64 k0, .int .i64 n0, .string (bs s0), .string (bs m0), .slice A0 na0 ca0, .slice O0 no0 co0, .int .i64 k2, .int .i64 n2, .string (bs s2), .string (bs m2), .slice A2 na2 ca2, .slice O2 no2 co2] 27) := ⟨_, rfl⟩
                have hb9 : Below wk.heap.size wk w9 := by rw [hw9]; exact (Below.refl _ _).alloc (Nat.le_refl _) _
                have hr9 : w9.heap[wk.heap.size]? = some (.cells #[.int .i64 k0, .int .i64 n0, .string (bs s0), .string (bs m0), .slice A0 na0 ca0, .slice O0 no0 co0, .int .i64 k2, .int .i64 n2, .string (bs s2), .string (bs m2), .slice A2 na2 ca2, .slice O2 no2 co2] 27 (0, 0)) := by rw [hw9]; exact heap_alloc_new wk _
                rw [← hw9]
                have S6 := Lib.hid (S5.out.below hb9)
                have HL9 := Lib.hid (XL.two (S := fun k => w.heap.size < k ∧ k ≠ eb) S6.out.v (HX2.out.below hb9) hr9 ⟨by have := HWQ.out; have := S6.out.lt; omega, by have := HWQ.out; omega⟩)
                clear hw9 hb9 hr9 HX2
                refine hK.out _ _ trivial (fun hHeld9 => ?_)
                clear hK
                try simp only [Act.put, List.setIfInBounds_toArray, List.set_cons_zero, List.set_cons_succ]
                refine wpAnyH_take (i := 5) (oi := ⟨some 32, _, _, _, _, _⟩) (v := .agg #[.int .i64 5, .int .i64 0, .string { data := #[] }, .string (bs s), .slice (some ⟨wk.heap.size, 0, none⟩) 2 2, .slice none 0 0]) rfl (by kernel_rfl) (by kernel_rfl) (by kernel_rfl) (fun _ _ _ h => h) (Or.inl ⟨by rfl, ?_⟩) trivial ?_
                · intro W' hW
                  go_simp
                try simp only [Act.put, List.setIfInBounds_toArray, List.set_cons_zero, List.set_cons_succ]
                refine wpAnyH_ready (rs := [6]) (by kernel_rfl) (by simp) ?_
                refine AllReadyH.cons (o := ⟨none, _, _, _, _, _⟩) rfl (fun K hK => ?_) AllReadyH.nil
                refine Eq.mpr (if_pos (by kernel_rfl)) ?_
                refine wp_store_row 27 (.tmp 7) (.tmp 32) rfl eb #[.int .i64 5, .int .i64 0, .string { data := #[] }, .string (bs s), .slice (some ⟨wk.heap.size, 0, none⟩) 2 2, .slice none 0 0] rfl rfl 27 _ S6.out.e ex_size rfl (by simp [Value.oneCell']) ?_
                have gz : w9.grownBy (w9.setRow eb #[.int .i64 5, .int .i64 0, .string { data := #[] }, .string (bs s), .slice (some ⟨wk.heap.size, 0, none⟩) 2 2, .slice none 0 0]) (some eb) := ⟨rfl, rfl, rfl, Nat.le_of_eq (by simp [World.setRow]), fun k _ hk => setRow_other _ _ _ _ (fun e => hk (by rw [e]))⟩
                have hxz : XB (w9.setRow eb #[.int .i64 5, .int .i64 0, .string { data := #[] }, .string (bs s), .slice (some ⟨wk.heap.size, 0, none⟩) 2 2, .slice none 0 0]) eb #[.int .i64 5, .int .i64 0, .string { data := #[] }, .string (bs s), .slice (some ⟨wk.heap.size, 0, none⟩) 2 2, .slice none 0 0] := setRow_heap _ _ _ _ _ _ S6.out.e
                generalize w9.setRow eb #[.int .i64 5, .int .i64 0, .string { data := #[] }, .string (bs s), .slice (some ⟨wk.heap.size, 0, none⟩) 2 2, .slice none 0 0] = wz at *
                refine hK.out _ _ trivial (fun hHeld10 => ?_)
                clear hK
                try simp only [Act.put, List.setIfInBounds_toArray, List.set_cons_zero, List.set_cons_succ]
                refine wpAnyH_done (by kernel_rfl) ?_ _
                refine hK0 _ _ (Met.intro (hR0 _ _ ?_))
                (repeat apply Exists.intro)
                refine ⟨?rel, rfl⟩
                case rel =>
                  have hlz := HL9.out.gr (S' := fun k => w.heap.size < k ∧ k ≠ eb) gz (fun k _ hk => ⟨hk.2, hk⟩)
                  have hll := HLN.out
                  have hff := HF2.out
                  refine ⟨rfl, exC 5 0 [] s (some ⟨wk.heap.size, 0, none⟩) 2 2 none 0 0, .mk 5 0 [] s [.mk k0 n0 s0 m0 a0 o0, .mk k2 n2 s2 m2 a2 o2] [], b2, r2, f2, ⟨S6.out.ps.other TBs.out gz (Nat.le_of_lt S6.out.lt), hxz, XV.shut (by unfold InR; omega) hlz (XL.nil_ _ _), S6.out.res.gr gz (by have := S6.out.lt; omega), gr_step (B := 0) S6.out.gr gz (Nat.le_of_lt S6.out.lt), S6.out.lt, S6.out.lg⟩, fun _ => ⟨by omega, by omega⟩, ?_, by omega⟩
                  rw [HZ2.out]
                  cases b2 with
                  | true => rw [hb2 rfl]; rfl
                  | false => rw [ho2 rfl, ← HAA.out]; rfl
            case rest =>
              obtain ⟨rfl, un, an, bn, Rn, fn, hSn, hFn, hZn, hLn⟩ := hcut
              have SN := Lib.hid hSn
              have FN := Lib.hid hFn
              have ZN := Lib.hid hZn
              have LN := Lib.hid hLn
              clear hSn hFn hZn hLn S3 HZ2 HOK
              go_wp2
              go_roundw
              case rel => exact ⟨un, an, bn, Rn, fn, SN.out, FN.out, ZN.out⟩
              case measure =>
                have e1 := SN.out.ps.idx
                have e2 := HM1.out
                have e3 := LN.out
                omega
          · have e0 : isT s R' = false := by simpa using ht
            have e1 : tk false s R' = false := by unfold tk; rw [e0]; rfl
            have e2 : tkR false s R' = R' := if_neg (by rw [e1]; simp)
            rw [e2] at S3
            rw [e1]
            have HE0 := Lib.hid e0
            clear e0 e1 e2 ht
            have hj6 := HS6.out
            have hjl := HLT.out
            have hwr : IntKind.i64.wrap ((j : Int) + 1) = ((j + 1 : Nat) : Int) := by simp [IntKind.wrap, IntKind.bits, IntKind.signed]; omega
            clear hj6 hjl
            go_wp2
            go_roundw
            case rel =>
              refine ⟨j + 1, by first | rfl | trivial, by first | rfl | trivial, HLT.out, S3.out, ?_⟩
              intro t ht
              rw [List.take_add_one, HSJ.out] at ht
              rcases List.mem_append.1 ht with h1 | h1
              · exact HNO.out t h1
              · simp at h1
                rw [h1]
                exact HE0.out
            case measure =>
              have := HLT.out
              simp [intOf]
              omega
        · obtain rfl : j = sl := by omega
          have h2 : ¬ (j : Int) < (j : Int) := by omega
          have HZI := Lib.hid (show ∀ Q : Bool → List Tk → Prop, Q false R' → PZ.is a Q from fun Q hq => by
            rw [HZ1.out]
            obtain ⟨f2, rfl⟩ : ∃ f2, f1 = f2 + 1 := ⟨f1 - 1, by have := HFA.out; omega⟩
            rw [pC, if_neg (by rw [opAt_false (fun s hs => HNO.out s (by rw [← HSL.out, List.take_length]; exact hs))]; simp)]
            exact ⟨rfl, hq⟩)
          clear hj hge
          go_wp2_with (with_reducible refine at_load_ (t := 27) ?_; refine Hid.out ?_)
          refine Lib.hid ?_
          refine xb_load rfl _ rfl eb rfl S2.out.e S2.out.v.six.1 ?_
          refine xb_put rfl _ _ rfl rfl w.heap.size rfl rfl S2.out.v.six S2.out.res rfl ?_
          intro wz hxz hgz hsz
          clear hsz
          have XZ := Lib.hid hxz
          have GZ := Lib.hid (gr_step (B := 0) S2.out.gr hgz (Nat.le_refl _))
          have VZ := Lib.hid (S2.out.v.gr (S' := fun b => w.heap.size ≤ b) hgz (fun b _ hb => ⟨by have := hb.1; omega, by have := hb.1; omega⟩))
          have PZZ := Lib.hid (HZI.out _ (S2.out.ps.other TBs.out hgz (Nat.le_refl _)))
          clear hxz hgz
          go_wp2_with fail
          refine bodyPost_ret (xb_ret rfl _ _ w.heap.size _ rfl XZ.out VZ.out.six.1) rfl ?_
          exact ⟨_, _, rfl, VZ.out, GZ.out, PZZ.out⟩

end Go.Proofs.YtkakbidllpjopaaGreatDoor
namespace Go.Proofs.YtkakbidllpjopaaGreatDoor
open Go.RowKit

theorem enter_and (args : Array Value) (w : World) : (callFunc 47 args).run Tryz.prog w = .ok (.enter 47 args) w := by
  kernel_rfl
set_option maxRecDepth 100000 in
set_option maxHeartbeats 12800000 in
theorem lvl_expr (L : List Lx.Tok) (A : Option Addr) (n c g : Nat) (w : World) (bad : Bool) (R : List Tk) (h : PSx L A n c g w bad R) (f : Nat)
    (hB : ∀ W R', PSx L A n c g W true R' → Calls Tryz.prog 47 #[.pointer (some ⟨g, 0, none⟩)] W (XP L A n c g W (.bad R')))
    (hO : ∀ f', f' < f → ∀ W R', 8 * R'.length + 2 + (4 - 0) ≤ f' → PSx L A n c g W false R' → Calls Tryz.prog 47 #[.pointer (some ⟨g, 0, none⟩)] W (XP L A n c g W (pB f' (0 + 1) R')))
    (hm : bad = false → 8 * R.length + 2 + (5 - 0) ≤ f) :
    Calls Tryz.prog 23 #[.pointer (some ⟨g, 0, none⟩)] w (XP L A n c g w (if bad = true then .bad R else pB f 0 R)) := by
  obtain ⟨w0, hw0⟩ : ∃ w0, w0 = w.alloc (.cells #[.int .i64 0, .int .i64 0, .string { data := #[] }, .string { data := #[] }, .slice none 0 0, .slice none 0 0] 27) := ⟨_, rfl⟩
  have hb0 : Below w.heap.size w w0 := by rw [hw0]; exact (Below.refl _ _).alloc (Nat.le_refl _) _
  have X0 := Lib.hid (show XB w0 w.heap.size #[.int .i64 0, .int .i64 0, .string { data := #[] }, .string { data := #[] }, .slice none 0 0, .slice none 0 0] from by rw [hw0]; exact heap_alloc_new w _)
  obtain ⟨w1, hw1⟩ : ∃ w1, w1 = w0.alloc (.cells #[.string { data := #[111, 114] }] 9) := ⟨_, rfl⟩
  have hb1 : Below w0.heap.size w0 w1 := by rw [hw1]; exact (Below.refl _ _).alloc (Nat.le_refl _) _
  have hq : w1.heap[w0.heap.size]? = some (.cells ((sgnsAt 0).map fun s => Value.string (bs s)).toArray 9 (0, 0)) := by rw [hw1]; exact heap_alloc_new w0 _
  have hs0 : w0.heap.size = w.heap.size + 1 := by rw [hw0]; exact World.size_alloc ..
  have K := Lib.hid (left_gen L A n c g w1 bad R ((h.next hb0).next hb1) 0 f 47 w0.heap.size (by decide) (by have := h.lt; omega) hq hB hO hm (enter_and))
  have X1 := Lib.hid (X0.out.below hb1)
  have G1 := Lib.hid (gr_below (Below.grown_ hb0 (some g)) hb1)
  have TBs := Lib.hid h.base
  have HGL := Lib.hid h.lt
  have HS1 := Lib.hid (show w.heap.size < w1.heap.size from X1.out.lt)
  generalize hPZ : (if bad = true then Res.bad R else pB f 0 R) = PZ at *
  clear h hB hO hm hb0 hb1 hq hs0 X0 hPZ
  go_enter Tryz.func23, Tryz.ntmps23
  go_upto_region 1 with fail
  rw [← hw0]
  clear hw0
  go_wp2_with (with_reducible refine at_store_ (t := 27) ?_; refine Hid.out ?_)
  rw [← hw1]
  clear hw1
  refine K.out.mono ?_
  rintro e w2 ⟨x, cs, rfl, hx, hg, hP⟩
  have XA := Lib.hid (X1.out.gr hg (by have := HGL.out; omega))
  have GA := Lib.hid (World.grownBy.trans G1.out hg)
  have HX := Lib.hid (hx.more (S' := fun b => w.heap.size < b) fun b _ (hb : w1.heap.size ≤ b) => by have := HS1.out; omega)
  have HP := Lib.hid hP
  clear hx hg hP K X1 G1
  go_wp2_with (with_reducible refine at_store_ (t := 27) ?_; refine Hid.out ?_)
  refine Lib.hid ?_
  refine xb_put rfl _ _ rfl rfl w.heap.size rfl rfl HX.out.six XA.out rfl ?_
  intro wz hxz hgz hsz
  clear hsz
  have XZ := Lib.hid hxz
  have GZ := Lib.hid (gr_step (B := 0) GA.out hgz (Nat.le_refl _))
  have HXZ := Lib.hid (HX.out.gr (S' := fun b => w.heap.size ≤ b) hgz (fun b _ (hb : w.heap.size < b) => ⟨by omega, by omega⟩))
  have HPZ := Lib.hid (Res.is_imp (x := x) (P := PZ) (Q := fun b r => PSx L A n c g w2 b r) HP.out fun b r h => h.other TBs.out hgz (Nat.le_refl _))
  clear hxz hgz XA GA HX HP
  go_wp2_with fail
  refine bodyPost_ret (xb_ret rfl _ _ w.heap.size _ rfl XZ.out HXZ.out.six.1) rfl ?_
  exact ⟨_, _, rfl, HXZ.out, GZ.out, HPZ.out⟩
theorem enter_comparison (args : Array Value) (w : World) : (callFunc 81 args).run Tryz.prog w = .ok (.enter 81 args) w := by
  kernel_rfl
set_option maxRecDepth 100000 in
set_option maxHeartbeats 12800000 in
theorem lvl_and (L : List Lx.Tok) (A : Option Addr) (n c g : Nat) (w : World) (bad : Bool) (R : List Tk) (h : PSx L A n c g w bad R) (f : Nat)
    (hB : ∀ W R', PSx L A n c g W true R' → Calls Tryz.prog 81 #[.pointer (some ⟨g, 0, none⟩)] W (XP L A n c g W (.bad R')))
    (hO : ∀ f', f' < f → ∀ W R', 8 * R'.length + 2 + (4 - 1) ≤ f' → PSx L A n c g W false R' → Calls Tryz.prog 81 #[.pointer (some ⟨g, 0, none⟩)] W (XP L A n c g W (pB f' (1 + 1) R')))
    (hm : bad = false → 8 * R.length + 2 + (5 - 1) ≤ f) :
    Calls Tryz.prog 47 #[.pointer (some ⟨g, 0, none⟩)] w (XP L A n c g w (if bad = true then .bad R else pB f 1 R)) := by
  obtain ⟨w0, hw0⟩ : ∃ w0, w0 = w.alloc (.cells #[.int .i64 0, .int .i64 0, .string { data := #[] }, .string { data := #[] }, .slice none 0 0, .slice none 0 0] 27) := ⟨_, rfl⟩
  have hb0 : Below w.heap.size w w0 := by rw [hw0]; exact (Below.refl _ _).alloc (Nat.le_refl _) _
  have X0 := Lib.hid (show XB w0 w.heap.size #[.int .i64 0, .int .i64 0, .string { data := #[] }, .string { data := #[] }, .slice none 0 0, .slice none 0 0] from by rw [hw0]; exact heap_alloc_new w _)
  obtain ⟨w1, hw1⟩ : ∃ w1, w1 = w0.alloc (.cells #[.string { data := #[97, 110, 100] }] 9) := ⟨_, rfl⟩
  have hb1 : Below w0.heap.size w0 w1 := by rw [hw1]; exact (Below.refl _ _).alloc (Nat.le_refl _) _
  have hq : w1.heap[w0.heap.size]? = some (.cells ((sgnsAt 1).map fun s => Value.string (bs s)).toArray 9 (0, 0)) := by rw [hw1]; exact heap_alloc_new w0 _
  have hs0 : w0.heap.size = w.heap.size + 1 := by rw [hw0]; exact World.size_alloc ..
  have K := Lib.hid (left_gen L A n c g w1 bad R ((h.next hb0).next hb1) 1 f 81 w0.heap.size (by decide) (by have := h.lt; omega) hq hB hO hm (enter_comparison))
  have X1 := Lib.hid (X0.out.below hb1)
  have G1 := Lib.hid (gr_below (Below.grown_ hb0 (some g)) hb1)
  have TBs := Lib.hid h.base
  have HGL := Lib.hid h.lt
  have HS1 := Lib.hid (show w.heap.size < w1.heap.size from X1.out.lt)
  generalize hPZ : (if bad = true then Res.bad R else pB f 1 R) = PZ at *
  clear h hB hO hm hb0 hb1 hq hs0 X0 hPZ
  go_enter Tryz.func47, Tryz.ntmps47
  go_upto_region 1 with fail
  rw [← hw0]
  clear hw0
  go_wp2_with (with_reducible refine at_store_ (t := 27) ?_; refine Hid.out ?_)
  rw [← hw1]
  clear hw1
  refine K.out.mono ?_
  rintro e w2 ⟨x, cs, rfl, hx, hg, hP⟩
  have XA := Lib.hid (X1.out.gr hg (by have := HGL.out; omega))
  have GA := Lib.hid (World.grownBy.trans G1.out hg)
  have HX := Lib.hid (hx.more (S' := fun b => w.heap.size < b) fun b _ (hb : w1.heap.size ≤ b) => by have := HS1.out; omega)
  have HP := Lib.hid hP
  clear hx hg hP K X1 G1
  go_wp2_with (with_reducible refine at_store_ (t := 27) ?_; refine Hid.out ?_)
  refine Lib.hid ?_
  refine xb_put rfl _ _ rfl rfl w.heap.size rfl rfl HX.out.six XA.out rfl ?_
  intro wz hxz hgz hsz
  clear hsz
  have XZ := Lib.hid hxz
  have GZ := Lib.hid (gr_step (B := 0) GA.out hgz (Nat.le_refl _))
  have HXZ := Lib.hid (HX.out.gr (S' := fun b => w.heap.size ≤ b) hgz (fun b _ (hb : w.heap.size < b) => ⟨by omega, by omega⟩))
  have HPZ := Lib.hid (Res.is_imp (x := x) (P := PZ) (Q := fun b r => PSx L A n c g w2 b r) HP.out fun b r h => h.other TBs.out hgz (Nat.le_refl _))
  clear hxz hgz XA GA HX HP
  go_wp2_with fail
  refine bodyPost_ret (xb_ret rfl _ _ w.heap.size _ rfl XZ.out HXZ.out.six.1) rfl ?_
  exact ⟨_, _, rfl, HXZ.out, GZ.out, HPZ.out⟩
theorem enter_sum (args : Array Value) (w : World) : (callFunc 105 args).run Tryz.prog w = .ok (.enter 105 args) w := by
  kernel_rfl
set_option maxRecDepth 100000 in
set_option maxHeartbeats 12800000 in
theorem lvl_comparison (L : List Lx.Tok) (A : Option Addr) (n c g : Nat) (w : World) (bad : Bool) (R : List Tk) (h : PSx L A n c g w bad R) (f : Nat)
    (hB : ∀ W R', PSx L A n c g W true R' → Calls Tryz.prog 105 #[.pointer (some ⟨g, 0, none⟩)] W (XP L A n c g W (.bad R')))
    (hO : ∀ f', f' < f → ∀ W R', 8 * R'.length + 2 + (4 - 2) ≤ f' → PSx L A n c g W false R' → Calls Tryz.prog 105 #[.pointer (some ⟨g, 0, none⟩)] W (XP L A n c g W (pB f' (2 + 1) R')))
    (hm : bad = false → 8 * R.length + 2 + (5 - 2) ≤ f) :
    Calls Tryz.prog 81 #[.pointer (some ⟨g, 0, none⟩)] w (XP L A n c g w (if bad = true then .bad R else pB f 2 R)) := by
  obtain ⟨w0, hw0⟩ : ∃ w0, w0 = w.alloc (.cells #[.int .i64 0, .int .i64 0, .string { data := #[] }, .string { data := #[] }, .slice none 0 0, .slice none 0 0] 27) := ⟨_, rfl⟩
  have hb0 : Below w.heap.size w w0 := by rw [hw0]; exact (Below.refl _ _).alloc (Nat.le_refl _) _
  have X0 := Lib.hid (show XB w0 w.heap.size #[.int .i64 0, .int .i64 0, .string { data := #[] }, .string { data := #[] }, .slice none 0 0, .slice none 0 0] from by rw [hw0]; exact heap_alloc_new w _)
  obtain ⟨w1, hw1⟩ : ∃ w1, w1 = w0.alloc (.cells #[.string { data := #[61, 61] }, .string { data := #[33, 61] }, .string { data := #[60] }, .string { data := #[60, 61] }, .string { data := #[62] }, .string { data := #[62, 61] }] 9) := ⟨_, rfl⟩
  have hb1 : Below w0.heap.size w0 w1 := by rw [hw1]; exact (Below.refl _ _).alloc (Nat.le_refl _) _
  have hq : w1.heap[w0.heap.size]? = some (.cells ((sgnsAt 2).map fun s => Value.string (bs s)).toArray 9 (0, 0)) := by rw [hw1]; exact heap_alloc_new w0 _
  have hs0 : w0.heap.size = w.heap.size + 1 := by rw [hw0]; exact World.size_alloc ..
  have K := Lib.hid (left_gen L A n c g w1 bad R ((h.next hb0).next hb1) 2 f 105 w0.heap.size (by decide) (by have := h.lt; omega) hq hB hO hm (enter_sum))
  have X1 := Lib.hid (X0.out.below hb1)
  have G1 := Lib.hid (gr_below (Below.grown_ hb0 (some g)) hb1)
  have TBs := Lib.hid h.base
  have HGL := Lib.hid h.lt
  have HS1 := Lib.hid (show w.heap.size < w1.heap.size from X1.out.lt)
  generalize hPZ : (if bad = true then Res.bad R else pB f 2 R) = PZ at *
  clear h hB hO hm hb0 hb1 hq hs0 X0 hPZ
  go_enter Tryz.func81, Tryz.ntmps81
  go_upto_region 1 with fail
  rw [← hw0]
  clear hw0
  go_wp2_with (with_reducible refine at_store_ (t := 27) ?_; refine Hid.out ?_)
  rw [← hw1]
  clear hw1
  refine K.out.mono ?_
  rintro e w2 ⟨x, cs, rfl, hx, hg, hP⟩
  have XA := Lib.hid (X1.out.gr hg (by have := HGL.out; omega))
  have GA := Lib.hid (World.grownBy.trans G1.out hg)
  have HX := Lib.hid (hx.more (S' := fun b => w.heap.size < b) fun b _ (hb : w1.heap.size ≤ b) => by have := HS1.out; omega)
  have HP := Lib.hid hP
  clear hx hg hP K X1 G1
  go_wp2_with (with_reducible refine at_store_ (t := 27) ?_; refine Hid.out ?_)
  refine Lib.hid ?_
  refine xb_put rfl _ _ rfl rfl w.heap.size rfl rfl HX.out.six XA.out rfl ?_
  intro wz hxz hgz hsz
  clear hsz
  have XZ := Lib.hid hxz
  have GZ := Lib.hid (gr_step (B := 0) GA.out hgz (Nat.le_refl _))
  have HXZ := Lib.hid (HX.out.gr (S' := fun b => w.heap.size ≤ b) hgz (fun b _ (hb : w.heap.size < b) => ⟨by omega, by omega⟩))
  have HPZ := Lib.hid (Res.is_imp (x := x) (P := PZ) (Q := fun b r => PSx L A n c g w2 b r) HP.out fun b r h => h.other TBs.out hgz (Nat.le_refl _))
  clear hxz hgz XA GA HX HP
  go_wp2_with fail
  refine bodyPost_ret (xb_ret rfl _ _ w.heap.size _ rfl XZ.out HXZ.out.six.1) rfl ?_
  exact ⟨_, _, rfl, HXZ.out, GZ.out, HPZ.out⟩
theorem enter_product (args : Array Value) (w : World) : (callFunc 128 args).run Tryz.prog w = .ok (.enter 128 args) w := by
  kernel_rfl
set_option maxRecDepth 100000 in
set_option maxHeartbeats 12800000 in
theorem lvl_sum (L : List Lx.Tok) (A : Option Addr) (n c g : Nat) (w : World) (bad : Bool) (R : List Tk) (h : PSx L A n c g w bad R) (f : Nat)
    (hB : ∀ W R', PSx L A n c g W true R' → Calls Tryz.prog 128 #[.pointer (some ⟨g, 0, none⟩)] W (XP L A n c g W (.bad R')))
    (hO : ∀ f', f' < f → ∀ W R', 8 * R'.length + 2 + (4 - 3) ≤ f' → PSx L A n c g W false R' → Calls Tryz.prog 128 #[.pointer (some ⟨g, 0, none⟩)] W (XP L A n c g W (pB f' (3 + 1) R')))
    (hm : bad = false → 8 * R.length + 2 + (5 - 3) ≤ f) :
    Calls Tryz.prog 105 #[.pointer (some ⟨g, 0, none⟩)] w (XP L A n c g w (if bad = true then .bad R else pB f 3 R)) := by
  obtain ⟨w0, hw0⟩ : ∃ w0, w0 = w.alloc (.cells #[.int .i64 0, .int .i64 0, .string { data := #[] }, .string { data := #[] }, .slice none 0 0, .slice none 0 0] 27) := ⟨_, rfl⟩
  have hb0 : Below w.heap.size w w0 := by rw [hw0]; exact (Below.refl _ _).alloc (Nat.le_refl _) _
  have X0 := Lib.hid (show XB w0 w.heap.size #[.int .i64 0, .int .i64 0, .string { data := #[] }, .string { data := #[] }, .slice none 0 0, .slice none 0 0] from by rw [hw0]; exact heap_alloc_new w _)
  obtain ⟨w1, hw1⟩ : ∃ w1, w1 = w0.alloc (.cells #[.string { data := #[43] }, .string { data := #[45] }] 9) := ⟨_, rfl⟩
  have hb1 : Below w0.heap.size w0 w1 := by rw [hw1]; exact (Below.refl _ _).alloc (Nat.le_refl _) _
  have hq : w1.heap[w0.heap.size]? = some (.cells ((sgnsAt 3).map fun s => Value.string (bs s)).toArray 9 (0, 0)) := by rw [hw1]; exact heap_alloc_new w0 _
  have hs0 : w0.heap.size = w.heap.size + 1 := by rw [hw0]; exact World.size_alloc ..
  have K := Lib.hid (left_gen L A n c g w1 bad R ((h.next hb0).next hb1) 3 f 128 w0.heap.size (by decide) (by have := h.lt; omega) hq hB hO hm (enter_product))
  have X1 := Lib.hid (X0.out.below hb1)
  have G1 := Lib.hid (gr_below (Below.grown_ hb0 (some g)) hb1)
  have TBs := Lib.hid h.base
  have HGL := Lib.hid h.lt
  have HS1 := Lib.hid (show w.heap.size < w1.heap.size from X1.out.lt)
  generalize hPZ : (if bad = true then Res.bad R else pB f 3 R) = PZ at *
  clear h hB hO hm hb0 hb1 hq hs0 X0 hPZ
  go_enter Tryz.func105, Tryz.ntmps105
  go_upto_region 1 with fail
  rw [← hw0]
  clear hw0
  go_wp2_with (with_reducible refine at_store_ (t := 27) ?_; refine Hid.out ?_)
  rw [← hw1]
  clear hw1
  refine K.out.mono ?_
  rintro e w2 ⟨x, cs, rfl, hx, hg, hP⟩
  have XA := Lib.hid (X1.out.gr hg (by have := HGL.out; omega))
  have GA := Lib.hid (World.grownBy.trans G1.out hg)
  have HX := Lib.hid (hx.more (S' := fun b => w.heap.size < b) fun b _ (hb : w1.heap.size ≤ b) => by have := HS1.out; omega)
  have HP := Lib.hid hP
  clear hx hg hP K X1 G1
  go_wp2_with (with_reducible refine at_store_ (t := 27) ?_; refine Hid.out ?_)
  refine Lib.hid ?_
  refine xb_put rfl _ _ rfl rfl w.heap.size rfl rfl HX.out.six XA.out rfl ?_
  intro wz hxz hgz hsz
  clear hsz
  have XZ := Lib.hid hxz
  have GZ := Lib.hid (gr_step (B := 0) GA.out hgz (Nat.le_refl _))
  have HXZ := Lib.hid (HX.out.gr (S' := fun b => w.heap.size ≤ b) hgz (fun b _ (hb : w.heap.size < b) => ⟨by omega, by omega⟩))
  have HPZ := Lib.hid (Res.is_imp (x := x) (P := PZ) (Q := fun b r => PSx L A n c g w2 b r) HP.out fun b r h => h.other TBs.out hgz (Nat.le_refl _))
  clear hxz hgz XA GA HX HP
  go_wp2_with fail
  refine bodyPost_ret (xb_ret rfl _ _ w.heap.size _ rfl XZ.out HXZ.out.six.1) rfl ?_
  exact ⟨_, _, rfl, HXZ.out, GZ.out, HPZ.out⟩
theorem enter_unary (args : Array Value) (w : World) : (callFunc 135 args).run Tryz.prog w = .ok (.enter 135 args) w := by
  kernel_rfl
set_option maxRecDepth 100000 in
set_option maxHeartbeats 12800000 in
theorem lvl_product (L : List Lx.Tok) (A : Option Addr) (n c g : Nat) (w : World) (bad : Bool) (R : List Tk) (h : PSx L A n c g w bad R) (f : Nat)
    (hB : ∀ W R', PSx L A n c g W true R' → Calls Tryz.prog 135 #[.pointer (some ⟨g, 0, none⟩)] W (XP L A n c g W (.bad R')))
    (hO : ∀ f', f' < f → ∀ W R', 8 * R'.length + 2 + (4 - 4) ≤ f' → PSx L A n c g W false R' → Calls Tryz.prog 135 #[.pointer (some ⟨g, 0, none⟩)] W (XP L A n c g W (pB f' (4 + 1) R')))
    (hm : bad = false → 8 * R.length + 2 + (5 - 4) ≤ f) :
    Calls Tryz.prog 128 #[.pointer (some ⟨g, 0, none⟩)] w (XP L A n c g w (if bad = true then .bad R else pB f 4 R)) := by
  obtain ⟨w0, hw0⟩ : ∃ w0, w0 = w.alloc (.cells #[.int .i64 0, .int .i64 0, .string { data := #[] }, .string { data := #[] }, .slice none 0 0, .slice none 0 0] 27) := ⟨_, rfl⟩
  have hb0 : Below w.heap.size w w0 := by rw [hw0]; exact (Below.refl _ _).alloc (Nat.le_refl _) _
  have X0 := Lib.hid (show XB w0 w.heap.size #[.int .i64 0, .int .i64 0, .string { data := #[] }, .string { data := #[] }, .slice none 0 0, .slice none 0 0] from by rw [hw0]; exact heap_alloc_new w _)
  obtain ⟨w1, hw1⟩ : ∃ w1, w1 = w0.alloc (.cells #[.string { data := #[42] }, .string { data := #[47] }, .string { data := #[37] }] 9) := ⟨_, rfl⟩
  have hb1 : Below w0.heap.size w0 w1 := by rw [hw1]; exact (Below.refl _ _).alloc (Nat.le_refl _) _
  have hq : w1.heap[w0.heap.size]? = some (.cells ((sgnsAt 4).map fun s => Value.string (bs s)).toArray 9 (0, 0)) := by rw [hw1]; exact heap_alloc_new w0 _
  have hs0 : w0.heap.size = w.heap.size + 1 := by rw [hw0]; exact World.size_alloc ..
  have K := Lib.hid (left_gen L A n c g w1 bad R ((h.next hb0).next hb1) 4 f 135 w0.heap.size (by decide) (by have := h.lt; omega) hq hB hO hm (enter_unary))
  have X1 := Lib.hid (X0.out.below hb1)
  have G1 := Lib.hid (gr_below (Below.grown_ hb0 (some g)) hb1)
  have TBs := Lib.hid h.base
  have HGL := Lib.hid h.lt
  have HS1 := Lib.hid (show w.heap.size < w1.heap.size from X1.out.lt)
  generalize hPZ : (if bad = true then Res.bad R else pB f 4 R) = PZ at *
  clear h hB hO hm hb0 hb1 hq hs0 X0 hPZ
  go_enter Tryz.func128, Tryz.ntmps128
  go_upto_region 1 with fail
  rw [← hw0]
  clear hw0
  go_wp2_with (with_reducible refine at_store_ (t := 27) ?_; refine Hid.out ?_)
  rw [← hw1]
  clear hw1
  refine K.out.mono ?_
  rintro e w2 ⟨x, cs, rfl, hx, hg, hP⟩
  have XA := Lib.hid (X1.out.gr hg (by have := HGL.out; omega))
  have GA := Lib.hid (World.grownBy.trans G1.out hg)
  have HX := Lib.hid (hx.more (S' := fun b => w.heap.size < b) fun b _ (hb : w1.heap.size ≤ b) => by have := HS1.out; omega)
  have HP := Lib.hid hP
  clear hx hg hP K X1 G1
  go_wp2_with (with_reducible refine at_store_ (t := 27) ?_; refine Hid.out ?_)
  refine Lib.hid ?_
  refine xb_put rfl _ _ rfl rfl w.heap.size rfl rfl HX.out.six XA.out rfl ?_
  intro wz hxz hgz hsz
  clear hsz
  have XZ := Lib.hid hxz
  have GZ := Lib.hid (gr_step (B := 0) GA.out hgz (Nat.le_refl _))
  have HXZ := Lib.hid (HX.out.gr (S' := fun b => w.heap.size ≤ b) hgz (fun b _ (hb : w.heap.size < b) => ⟨by omega, by omega⟩))
  have HPZ := Lib.hid (Res.is_imp (x := x) (P := PZ) (Q := fun b r => PSx L A n c g w2 b r) HP.out fun b r h => h.other TBs.out hgz (Nat.le_refl _))
  clear hxz hgz XA GA HX HP
  go_wp2_with fail
  refine bodyPost_ret (xb_ret rfl _ _ w.heap.size _ rfl XZ.out HXZ.out.six.1) rfl ?_
  exact ⟨_, _, rfl, HXZ.out, GZ.out, HPZ.out⟩
end Go.Proofs.YtkakbidllpjopaaGreatDoor
namespace Go.Proofs.YtkakbidllpjopaaGreatDoor
open Go.RowKit

theorem cells8 {w : World} {g : Nat} {t : TypeId} {fr : Nat × Nat} {a0 a1 a2 a3 a4 a5 a6 a7 : Value} (h : w.heap[g]? = some (.cells #[a0, a1, a2, a3, a4, a5, a6, a7] t fr)) :
    w.cell? ⟨g, 0, none⟩ = some a0 ∧ w.cell? ⟨g, 1, none⟩ = some a1 ∧ w.cell? ⟨g, 2, none⟩ = some a2 ∧ w.cell? ⟨g, 3, none⟩ = some a3 ∧ w.cell? ⟨g, 4, none⟩ = some a4 ∧ w.cell? ⟨g, 5, none⟩ = some a5 ∧ w.cell? ⟨g, 6, none⟩ = some a6 ∧ w.cell? ⟨g, 7, none⟩ = some a7 := by
  refine ⟨?_, ?_, ?_, ?_, ?_, ?_, ?_, ?_⟩ <;> (rw [cell_of_row _ _ _ _ _ _ h]; rfl)
theorem lt_alloc (w : World) (X : Obj) : w.heap.size < (w.alloc X).heap.size := by show _ < (w.heap.push X).size; rw [Array.size_push]; exact Nat.lt_succ_self _
theorem Bz.alloc {w0 w : World} (h : Bz w0 w) (X : Obj) : Bz w0 (w.alloc X) := ⟨h.b.alloc h.b.size X⟩
def ruleZ : Array Value := #[.bool false, .bool false, .bool false, .bool false, .bool false, .int .i64 0, .int .i64 0, .int .i64 0]
section
variable {a : Act} {w : World} {K : Act → World → Prop} {Q : Exit → Act → World → Prop} {o : Oper}
theorem wp_alloc_rule (ho : o.op = .alloc 193) (k : K (a.put o.dst (.pointer (some ⟨w.heap.size, 0, none⟩))) (w.alloc (.cells ruleZ 193))) : o.wp Tryz.prog a w K Q := by
  unfold Oper.wp execOp
  simp only [ho]
  simp [Instr.alloc, Result.andThen]
  exact k
theorem rule_size : (Tryz.prog.info? 193).map (·.size) = some 8 := by kernel_rfl
theorem wp_put_rule {p0 p1 p2 b3 b4 : Bool} {g lo hi : Int} (x y : Operand) (ho : o.op = .store 193 x y) (b : Nat) (hx : a.eval x = .pointer (some ⟨b, 0, none⟩)) (hy : a.eval y = .agg #[.bool p0, .bool p1, .bool p2, .bool b3, .bool b4, .int .i64 g, .int .i64 lo, .int .i64 hi])
    (h0 : w.heap[b]? = some (.cells ruleZ 193 (0, 0))) (k : ∀ w', w'.heap[b]? = some (.cells #[.bool p0, .bool p1, .bool p2, .bool b3, .bool b4, .int .i64 g, .int .i64 lo, .int .i64 hi] 193 (0, 0)) → (∀ w0, w0.heap.size ≤ b → Bz w0 w → Bz w0 w') → K (a.put o.dst undef) w') : o.wp Tryz.prog a w K Q :=
  wp_store_row 193 x y ho b _ hx hy 193 _ h0 rule_size rfl (by simp [Value.oneCell']) (k _ (setRow_heap _ _ _ _ _ _ h0) (fun w0 h1 h2 => ⟨below_setRow h2.b h1 _⟩))
end
/-- One expression's error, as a call: what Expr.wrong's walk shows. -/
def WrongAt (e : Ex) : Prop := ∀ (d : Int) (w : World) (S : Nat → Prop) (cs : List Value), 0 ≤ d → d ≤ 4611686018427387904 → SxW w → XV w S e cs →
  Calls Tryz.prog 124 #[.agg cs.toArray, .int .i64 d] w fun e' w' => e' = .returned (.int .i64 (chkE d e)) ∧ Below w.heap.size w w'
set_option maxRecDepth 100000 in
theorem exprWrong_head (e : Ex) (d : Int) (w : World) (S : Nat → Prop) (cs : List Value) (hd : 12 < d) (hx : XV w S e cs) :
    Calls Tryz.prog 124 #[.agg cs.toArray, .int .i64 d] w fun e' w' => e' = .returned (.int .i64 18) ∧ Below w.heap.size w w' := by
  obtain ⟨k, n, s, m, a, o⟩ := e
  obtain ⟨A, na, ca, O, no, co, rfl, hA, hO⟩ := hx.open_
  clear hx hA hO
  unfold exC
  go_enter Tryz.func124, Tryz.ntmps124
  go_wp2
  go_ret
  exact ⟨rfl, (Below.refl _ _).alloc (Nat.le_refl _) _⟩
set_option maxRecDepth 100000 in
theorem exprWrong_kind (k n : Int) (s m : Str) (a o : List Ex) (d : Int) (w : World) (S : Nat → Prop) (cs : List Value) (hd : ¬ 12 < d) (hk : k < 0 ∨ 7 < k) (hx : XV w S (.mk k n s m a o) cs) :
    Calls Tryz.prog 124 #[.agg cs.toArray, .int .i64 d] w fun e' w' => e' = .returned (.int .i64 2) ∧ Below w.heap.size w w' := by
  obtain ⟨A, na, ca, O, no, co, rfl, hA, hO⟩ := hx.open_
  clear hx hA hO
  unfold exC
  rcases Classical.em (k < 0) with h0 | h0
  · clear hk
    go_enter Tryz.func124, Tryz.ntmps124
    go_wp2
    go_ret
    exact ⟨rfl, (Below.refl _ _).alloc (Nat.le_refl _) _⟩
  · have h7 : 7 < k := by omega
    clear hk
    go_enter Tryz.func124, Tryz.ntmps124
    go_wp2
    go_ret
    exact ⟨rfl, (Below.refl _ _).alloc (Nat.le_refl _) _⟩
theorem meas_up (q n : Nat) (h : q < n) : n - (intOf (.int .i64 ((q + 1 : Nat) : Int))).toNat < n - (intOf (.int .i64 (q : Int))).toNat := by simp [intOf]; omega
theorem chkEs_take_ok {d : Int} : ∀ {l : List Ex} {q : Nat} {x : Ex}, l[q]? = some x → chkEs d (l.take q) = 0 → chkE d x = 0 → chkEs d (l.take (q + 1)) = 0
  | [], q, x, h, _, _ => by simp at h
  | e :: t, 0, x, h, _, h2 => by
    obtain rfl : e = x := by simpa using h
    simp [chkEs, h2]
  | e :: t, q + 1, x, h, h1, h2 => by
    rw [List.take_succ_cons, chkEs] at h1 ⊢
    split at h1
    · exact absurd h1 (by assumption)
    · rename_i h3
      rw [if_neg h3]
      exact chkEs_take_ok (by simpa using h) h1 h2
theorem chkEs_take_bad {d : Int} : ∀ {l : List Ex} {q : Nat} {x : Ex}, l[q]? = some x → chkEs d (l.take q) = 0 → chkE d x ≠ 0 → chkEs d l = chkE d x
  | [], q, x, h, _, _ => by simp at h
  | e :: t, 0, x, h, _, h2 => by
    obtain rfl : e = x := by simpa using h
    simp [chkEs, h2]
  | e :: t, q + 1, x, h, h1, h2 => by
    rw [List.take_succ_cons, chkEs] at h1
    rw [chkEs]
    split at h1
    · exact absurd h1 (by assumption)
    · rename_i h3
      rw [if_neg h3]
      exact chkEs_take_bad (by simpa using h) h1 h2
theorem chkE_head {d : Int} {e : Ex} (h : headE d e ≠ 0) : chkE d e = headE d e := by
  obtain ⟨k, n, s, m, a, o⟩ := e
  rw [chkE, if_pos h]
theorem chkE_parts {d : Int} {k n : Int} {s m : Str} {a o : List Ex} (h : headE d (.mk k n s m a o) = 0) : chkE d (.mk k n s m a o) = if chkEs (d + 1) a ≠ 0 then chkEs (d + 1) a else chkEs (d + 1) o := by
  rw [chkE, if_neg (by simp [h])]
theorem formE_mk (k n : Int) (s m : Str) (a o : List Ex) : formE (.mk k n s m a o) = (if k = 0 ∨ k = 1 then s == [] && m == [] && decide (a.length = 0) && decide (o.length = 0)
  else if k = 2 then decide (n = 0) && m == [] && decide (a.length = 0) && decide (o.length = 0)
  else if k = 3 ∨ k = 4 then decide (n = 0) && s == [] && m == [] && decide (a.length = 1) && decide (o.length = 0)
  else if k = 5 then decide (n = 0) && s == [] && sgns.contains m && decide (a.length = 2) && decide (o.length = 0)
  else if k = 6 then decide (n = 0) && decide (a.length ≤ 4) && decide (o.length ≤ 1)
  else decide (n = 0) && m == [] && decide (a.length ≤ 4) && decide (o.length = 0)) := rfl
theorem formE_len {k n : Int} {s m : Str} {a o : List Ex} (h : formE (.mk k n s m a o) = true) : a.length ≤ 4 ∧ o.length ≤ 4 := by
  rw [formE_mk] at h
  by_cases h0 : k = 0 ∨ k = 1
  · rw [if_pos h0] at h; simp only [Bool.and_eq_true, decide_eq_true_eq] at h; omega
  rw [if_neg h0] at h
  by_cases h2 : k = 2
  · rw [if_pos h2] at h; simp only [Bool.and_eq_true, decide_eq_true_eq] at h; omega
  rw [if_neg h2] at h
  by_cases h3 : k = 3 ∨ k = 4
  · rw [if_pos h3] at h; simp only [Bool.and_eq_true, decide_eq_true_eq] at h; omega
  rw [if_neg h3] at h
  by_cases h5 : k = 5
  · rw [if_pos h5] at h; simp only [Bool.and_eq_true, decide_eq_true_eq] at h; omega
  rw [if_neg h5] at h
  by_cases h6 : k = 6
  · rw [if_pos h6] at h; simp only [Bool.and_eq_true, decide_eq_true_eq] at h; omega
  rw [if_neg h6] at h; simp only [Bool.and_eq_true, decide_eq_true_eq] at h; omega
theorem headE_len {d k n : Int} {s m : Str} {a o : List Ex} (h : headE d (.mk k n s m a o) = 0) : a.length ≤ 4 ∧ o.length ≤ 4 := by
  unfold headE at h
  by_cases h1 : 12 < d
  · rw [if_pos h1] at h; cases h
  rw [if_neg h1] at h
  by_cases h2 : (Ex.mk k n s m a o).kind < 0 ∨ 7 < (Ex.mk k n s m a o).kind
  · rw [if_pos h2] at h; cases h
  rw [if_neg h2] at h
  cases hf : formE (.mk k n s m a o) with
  | false => rw [if_pos hf] at h; cases h
  | true => exact formE_len hf
theorem headE_cases (j : Nat) (hj : j < 8) (n : Int) (s m : Str) (a o : List Ex) (d g : Int) (hd : ¬ 12 < d) (hn : InR n) (hg0 : j = 0 → g = 9223372036854775807) (hg1 : j = 1 → g = 1) {f : Bool} (hf : f = formE (.mk (j : Int) n s m a o)) :
    (f = false → headE d (.mk (j : Int) n s m a o) = 5) ∧ (f = true → decide (j = 2 ∨ 6 ≤ j) = true → nameOk s = false → headE d (.mk (j : Int) n s m a o) = 16) ∧ (f = true → decide (j = 6) = true → nameOk m = false → headE d (.mk (j : Int) n s m a o) = 16) ∧
    (f = true → (decide (j = 2 ∨ 6 ≤ j) = true → nameOk s = true) → (decide (j = 6) = true → nameOk m = true) → decide (j ≤ 1) = true → (n < 0 ∨ g < n) → headE d (.mk (j : Int) n s m a o) = 3) ∧
    (f = true → (decide (j = 2 ∨ 6 ≤ j) = true → nameOk s = true) → (decide (j = 6) = true → nameOk m = true) → (decide (j ≤ 1) = true → ¬ n < 0 ∧ ¬ g < n) → headE d (.mk (j : Int) n s m a o) = 0) := by
  unfold InR at hn
  have h0 : ¬ ((j : Int) < 0 ∨ 7 < (j : Int)) := by omega
  simp only [decide_eq_true_eq]
  have hh : headE d (.mk (j : Int) n s m a o) = if 12 < d then 18 else if (j : Int) < 0 ∨ 7 < (j : Int) then 2 else if f = false then 5 else if (((j : Int) = 2 ∨ 6 ≤ (j : Int)) ∧ nameOk s = false) ∨ ((j : Int) = 6 ∧ nameOk m = false) then 16 else if (j : Int) ≤ 1 ∧ (n < 0 ∨ ((j : Int) = 1 ∧ 1 < n)) then 3 else 0 := by
    rw [hf]; rfl
  rw [hh, if_neg hd, if_neg h0]
  clear hh hf
  refine ⟨fun h => by rw [if_pos h], fun h h1 h2 => ?_, fun h h1 h2 => ?_, fun h h1 h2 h3 h4 => ?_, fun h h1 h2 h3 => ?_⟩
  · rw [if_neg (by simp [h]), if_pos (.inl ⟨by omega, h2⟩)]
  · rw [if_neg (by simp [h]), if_pos (.inr ⟨by omega, h2⟩)]
  · rw [if_neg (by simp [h]), if_neg, if_pos]
    · refine ⟨by omega, ?_⟩
      rcases h4 with h4 | h4
      · exact .inl h4
      · right
        have hj1 : j = 0 ∨ j = 1 := by omega
        rcases hj1 with rfl | rfl
        · rw [hg0 rfl] at h4; omega
        · rw [hg1 rfl] at h4; exact ⟨by omega, h4⟩
    · rintro (⟨h5, h6⟩ | ⟨h5, h6⟩)
      · rw [h1 (by omega)] at h6; cases h6
      · rw [h2 (by omega)] at h6; cases h6
  · rw [if_neg (by simp [h]), if_neg, if_neg]
    · rintro ⟨h5, h6⟩
      obtain ⟨h7, h8⟩ := h3 (by omega)
      rcases h6 with h6 | ⟨h6, h9⟩
      · exact h7 h6
      · rw [hg1 (by omega)] at h8; exact h8 h9
    · rintro (⟨h5, h6⟩ | ⟨h5, h6⟩)
      · rw [h1 (by omega)] at h6; cases h6
      · rw [h2 (by omega)] at h6; cases h6
set_option maxRecDepth 100000 in
set_option maxHeartbeats 12800000 in
/-- One step: the parts' errors are known. -/
theorem exprWrong_mid (j : Nat) (hj : j < 8) (n : Int) (s m : Str) (a o : List Ex) (ih : ∀ e ∈ a ++ o, WrongAt e) (d : Int) (w : World) (S : Nat → Prop) (cs : List Value) (hd0 : 0 ≤ d) (hd : ¬ 12 < d) (hw : SxW w) (hx : XV w S (.mk (j : Int) n s m a o) cs) :
    Calls Tryz.prog 124 #[.agg cs.toArray, .int .i64 d] w fun e' w' => e' = .returned (.int .i64 (chkE d (.mk (j : Int) n s m a o))) ∧ Below w.heap.size w w' := by
  obtain ⟨A, na, ca, O, no, co, rfl, hA, hO⟩ := hx.open_
  have KF := Lib.hid (fun W => form_any j hj n s m A na ca O no co a o W hA.1.1 hO.1.1)
  have hn := hx.num
  have KR := Lib.hid rules_any
  obtain ⟨b3, b4, g, lo, hi, hr, hg0, hg1⟩ := rule_fields j hj
  have kx : ∀ W, (Instr.index 194 (.agg rulesC) (.int .i64 (j : Int))).run Tryz.prog W = .ok (.agg (ruleC j)) W := fun W => rule_at j hj W
  rw [hr] at kx KF
  clear hr
  obtain ⟨F, hf⟩ : ∃ F, F = formE (.mk (j : Int) n s m a o) := ⟨_, rfl⟩
  rw [← hf] at KF
  obtain ⟨E, hE⟩ : ∃ E, E = chkE d (.mk (j : Int) n s m a o) := ⟨_, rfl⟩
  rw [← hE]
  have HE := Lib.hid hE
  have HG := Lib.hid (And.intro hg0 hg1)
  have HJ := Lib.hid hj
  have HA := Lib.hid hA
  have HO := Lib.hid hO
  have HI := Lib.hid ih
  have HWS := Lib.hid hw
  have HH := headE_cases j hj n s m a o d g hd hn hg0 hg1 hf
  have HP1 : (decide (j = 2 ∨ 6 ≤ j) = true → decide (j ≤ 1) = false) ∧ (decide (j = 2 ∨ 6 ≤ j) = false → decide (j = 6) = false) := by
    simp
    omega
  have KS := Lib.hid (fun W h => isName_any s W h)
  have KM := Lib.hid (fun W h => isName_any m W h)
  clear hf
  generalize decide (j ≤ 1) = P0 at *
  generalize decide (j = 2 ∨ 6 ≤ j) = P1 at *
  generalize decide (j = 6) = P2 at *
  generalize nameOk s = QS at *
  generalize nameOk m = QM at *
  obtain ⟨p0, e0⟩ : ∃ p, P0 = p := ⟨_, rfl⟩
  obtain ⟨p1, e1⟩ : ∃ p, P1 = p := ⟨_, rfl⟩
  obtain ⟨p2, e2⟩ : ∃ p, P2 = p := ⟨_, rfl⟩
  obtain ⟨f, ef⟩ : ∃ p, F = p := ⟨_, rfl⟩
  obtain ⟨qs, es⟩ : ∃ p, QS = p := ⟨_, rfl⟩
  obtain ⟨qm, em⟩ : ∃ p, QM = p := ⟨_, rfl⟩
  rw [e0, e1, e2] at kx
  rw [e0, e1, e2, ef] at KF
  rw [es] at KS
  rw [em] at KM
  have HH2 := Lib.hid HH
  have HP2 := Lib.hid HP1
  clear HH HP1
  have E0 := Lib.hid e0
  have E1 := Lib.hid e1
  have E2 := Lib.hid e2
  have EF := Lib.hid ef
  have ES := Lib.hid es
  have EM := Lib.hid em
  clear e0 e1 e2 ef es em
  have HW := Lib.hid (fun X (W : World) (h : Bz (w.alloc (.cells X 27)) W) => (show (∀ j v, X[j]? = some v → W.cell? ⟨w.heap.size, j, none⟩ = some v) from by
    exact fun j v hv => cell_of_Bz h (by rw [cell_of_row _ _ _ _ _ _ (heap_alloc_new w _)]; exact hv) (lt_of_block (heap_alloc_new w _))))
  have hk0 : ¬ (j : Int) < 0 := by omega
  have hk7 : ¬ 7 < (j : Int) := by omega
  have HX := Lib.hid (show ∀ v, v ≠ 0 → headE d (.mk (j : Int) n s m a o) = v → E = v from fun v h1 h2 => by rw [hE, chkE_head (by rw [h2]; exact h1), h2])
  clear hn hx hA hO hj hE hg0 hg1 hw ih
  unfold exC at KF ⊢
  go_enter Tryz.func124, Tryz.ntmps124
  go_upto_region 5 with fail
  obtain ⟨W0, hW0⟩ : ∃ W0 : World, W0 = w.alloc (.cells #[.int .i64 (j : Int), .int .i64 n, .string (bs s), .string (bs m), .slice A na ca, .slice O no co] 27) := ⟨_, rfl⟩
  have HF := Lib.hid (show ∀ W, Bz W0 W → (W.cell? ⟨w.heap.size, 0, none⟩ = some (.int .i64 (j : Int)) ∧ W.cell? ⟨w.heap.size, 1, none⟩ = some (.int .i64 n) ∧ W.cell? ⟨w.heap.size, 2, none⟩ = some (.string (bs s)) ∧ W.cell? ⟨w.heap.size, 3, none⟩ = some (.string (bs m)) ∧ W.cell? ⟨w.heap.size, 4, none⟩ = some (.slice A na ca) ∧ W.cell? ⟨w.heap.size, 5, none⟩ = some (.slice O no co)) from fun W h => by
    subst hW0
    have h2 := HW.out _ W h
    exact ⟨h2 0 _ rfl, h2 1 _ rfl, h2 2 _ rfl, h2 3 _ rfl, h2 4 _ rfl, h2 5 _ rfl⟩)
  have HG0 := Lib.hid (show ∀ W, Bz W0 W → Below w.heap.size w W from fun W h => by
    subst hW0
    have hb := (Below.refl w.heap.size w).alloc (Nat.le_refl _) (.cells #[.int .i64 (j : Int), .int .i64 n, .string (bs s), .string (bs m), .slice A na ca, .slice O no co] 27)
    exact hb.trans (h.b.mono hb.size))
  rw [← hW0]
  clear hW0 HW
  have z0 : Bz W0 W0 := ⟨Below.refl _ _⟩
  have z1 := z0.drew
  go_cut [5] from 23 (fun v5 wx => ∃ rb, v5 = .pointer (some ⟨rb, 0, none⟩) ∧ W0.heap.size ≤ rb ∧ Bz W0 wx ∧ wx.heap[rb]? = some (.cells #[.bool p0, .bool p1, .bool p2, .bool b3, .bool b4, .int .i64 g, .int .i64 lo, .int .i64 hi] 193 (0, 0)))
  case first =>
    rename_i J0 K0 hR0 hK0
    refine wp_region_held_drew (S := fun W => W.cell? ⟨w.heap.size, 0, none⟩ = some (.int .i64 (j : Int))) (by kernel_rfl) ((HF.out _ z1).1) (fun hHeld => ?_)
    refine wpAnyH_take (i := 1) (oi := ⟨some 24, _, _, _, _, _⟩) (v := .pointer (some ⟨w.heap.size, 0, none⟩)) rfl (by kernel_rfl) (by kernel_rfl) (by kernel_rfl) (fun _ _ _ h => h) (Or.inl ⟨by rfl, ?_⟩) hHeld ?_
    · intro W hW
      go_simp
    try simp only [Act.put, List.setIfInBounds_toArray, List.set_cons_zero, List.set_cons_succ]
    refine wpAnyH_take (i := 2) (oi := ⟨some 25, _, _, _, _, _⟩) (v := .int .i64 (j : Int)) rfl (by kernel_rfl) (by kernel_rfl) (by kernel_rfl) (fun _ _ _ h => h) (Or.inl ⟨by rfl, ?_⟩) hHeld ?_
    · intro W hW
      go_simp
    try simp only [Act.put, List.setIfInBounds_toArray, List.set_cons_zero, List.set_cons_succ]
    refine wpAnyH_ready (rs := [0, 4]) (by kernel_rfl) (by simp) ?_
    refine AllReadyH.cons rfl (fun K hK => ?_) (AllReadyH.cons rfl (fun K hK => ?_) AllReadyH.nil)
    · -- the call first
      go_simp
      refine (KR.out _).mono ?_
      rintro e w1 ⟨rfl, hb⟩
      have z2 := Bz.next z1 hb
      refine hK.out _ _ ((HF.out _ z2).1) (fun hHeld2 => ?_)
      clear hK
      try simp only [Act.put, List.setIfInBounds_toArray, List.set_cons_zero, List.set_cons_succ]
      refine wpAnyH_take (i := 3) (oi := ⟨some 26, _, _, _, _, _⟩) (v := .agg #[.bool p0, .bool p1, .bool p2, .bool b3, .bool b4, .int .i64 g, .int .i64 lo, .int .i64 hi]) rfl (by kernel_rfl) (by kernel_rfl) (by kernel_rfl) (fun _ _ _ h => h) (Or.inl ⟨by rfl, ?_⟩) hHeld2 ?_
      · intro W hW
        go_simp
      try simp only [Act.put, List.setIfInBounds_toArray, List.set_cons_zero, List.set_cons_succ]
      refine wpAnyH_ready (rs := [4]) (by kernel_rfl) (by simp) ?_
      refine AllReadyH.cons (o := ⟨some 5, _, _, _, _, _⟩) rfl (fun K hK => ?_) AllReadyH.nil
      refine Eq.mpr (if_pos (by kernel_rfl)) ?_
      refine wp_alloc_rule rfl ?_
      have z3 := Bz.alloc z2 (.cells ruleZ 193)
      have HQ := Lib.hid (heap_alloc_new w1 (.cells ruleZ 193))
      refine hK.out _ _ ((HF.out _ z3).1) (fun hHeld3 => ?_)
      clear hK
      try simp only [Act.put, List.setIfInBounds_toArray, List.set_cons_zero, List.set_cons_succ]
      refine wpAnyH_ready (rs := [5]) (by kernel_rfl) (by simp) ?_
      refine AllReadyH.cons (o := ⟨none, _, _, _, _, _⟩) rfl (fun K hK => ?_) AllReadyH.nil
      refine Eq.mpr (if_pos (by kernel_rfl)) ?_
      refine wp_put_rule (.tmp 5) (.tmp 26) rfl w1.heap.size rfl rfl HQ.out ?_
      intro w9 hq9 hb9
      have z9 := hb9 W0 z2.b.size z3
      refine hK.out _ _ ((HF.out _ z9).1) (fun hHeld9 => ?_)
      clear hK
      try simp only [Act.put, List.setIfInBounds_toArray, List.set_cons_zero, List.set_cons_succ]
      refine wpAnyH_done (by kernel_rfl) ?_ _
      refine hK0 _ _ (Met.intro (hR0 _ _ ?_))
      (repeat apply Exists.intro)
      refine ⟨?rel, rfl⟩
      case rel => exact ⟨w1.heap.size, rfl, z2.b.size, z9, hq9⟩
    · -- the variable first
      refine Eq.mpr (if_pos (by kernel_rfl)) ?_
      refine wp_alloc_rule rfl ?_
      have z2 := Bz.alloc z1 (.cells ruleZ 193)
      refine hK.out _ _ ((HF.out _ z2).1) (fun hHeld2 => ?_)
      clear hK
      try simp only [Act.put, List.setIfInBounds_toArray, List.set_cons_zero, List.set_cons_succ]
      refine wpAnyH_ready (rs := [0]) (by kernel_rfl) (by simp) ?_
      refine AllReadyH.cons (o := ⟨some 23, _, _, _, _, _⟩) rfl (fun K hK => ?_) AllReadyH.nil
      go_simp
      refine (KR.out _).mono ?_
      rintro e w1 ⟨rfl, hb⟩
      have z3 := Bz.next z2 hb
      have HQ := Lib.hid ((hb.block W0.heap.size (lt_alloc W0.drew _)).trans (heap_alloc_new W0.drew (.cells ruleZ 193)))
      refine hK.out _ _ ((HF.out _ z3).1) (fun hHeld3 => ?_)
      clear hK
      try simp only [Act.put, List.setIfInBounds_toArray, List.set_cons_zero, List.set_cons_succ]
      refine wpAnyH_take (i := 3) (oi := ⟨some 26, _, _, _, _, _⟩) (v := .agg #[.bool p0, .bool p1, .bool p2, .bool b3, .bool b4, .int .i64 g, .int .i64 lo, .int .i64 hi]) rfl (by kernel_rfl) (by kernel_rfl) (by kernel_rfl) (fun _ _ _ h => h) (Or.inl ⟨by rfl, ?_⟩) hHeld3 ?_
      · intro W hW
        go_simp
      try simp only [Act.put, List.setIfInBounds_toArray, List.set_cons_zero, List.set_cons_succ]
      refine wpAnyH_ready (rs := [5]) (by kernel_rfl) (by simp) ?_
      refine AllReadyH.cons (o := ⟨none, _, _, _, _, _⟩) rfl (fun K hK => ?_) AllReadyH.nil
      refine Eq.mpr (if_pos (by kernel_rfl)) ?_
      refine wp_put_rule (.tmp 5) (.tmp 26) rfl W0.heap.size rfl rfl HQ.out ?_
      intro w9 hq9 hb9
      have z9 := hb9 W0 (Nat.le_refl _) z3
      refine hK.out _ _ ((HF.out _ z9).1) (fun hHeld9 => ?_)
      clear hK
      try simp only [Act.put, List.setIfInBounds_toArray, List.set_cons_zero, List.set_cons_succ]
      refine wpAnyH_done (by kernel_rfl) ?_ _
      refine hK0 _ _ (Met.intro (hR0 _ _ ?_))
      (repeat apply Exists.intro)
      refine ⟨?rel, rfl⟩
      case rel => exact ⟨W0.heap.size, rfl, (Nat.le_refl _), z9, hq9⟩
  case rest =>
    obtain ⟨rb, rfl, hrb, zc, hcc⟩ := hcut
    have HK := Lib.hid (show ∀ W, Bz wc W → _ from fun W h => cells8 ((h.b.block rb (lt_of_block hcc)).trans hcc))
    have HB := Lib.hid (show ∀ W, Bz wc W → Bz W0 W from fun W h => zc.next h.b)
    clear hcc hrb kx KR z0 z1 zc
    have y0 : Bz wc wc := ⟨Below.refl _ _⟩
    go_upto_block 1 with fail
    go_cut [] from 23 (fun wx => Bz wc wx ∧ headE d (.mk (j : Int) n s m a o) = 0)
    case first =>
      obtain ⟨q0, q1, q2, q3, q4, q5, q6, q7⟩ := HK.out _ y0
      obtain ⟨c0, c1, c2, c3, c4, c5⟩ := HF.out _ (HB.out _ y0)
      go_wp2_with fail
      refine (KF.out _).mono ?_
      rintro e w1 ⟨rfl, hb1⟩
      have y1 := Bz.next y0 hb1
      clear q0 q1 q2 q3 q4 q5 q6 q7 c0 c1 c2 c3 c4 c5 hb1 KF
      cases f with
      | false =>
        go_wp2
        go_ret
        exact ⟨congrArg (fun v => Ending.returned (.int .i64 v)) (HX.out 5 (by decide) (HH2.out.1 EF.out)).symm, HG0.out _ (HB.out _ y1)⟩
      | true =>
        obtain ⟨q0, q1, q2, q3, q4, q5, q6, q7⟩ := HK.out _ y1
        obtain ⟨c0, c1, c2, c3, c4, c5⟩ := HF.out _ (HB.out _ y1)
        cases p1 with
        | false =>
          obtain rfl : p2 = false := E2.out.symm.trans (HP2.out.2 E1.out)
          cases p0 with
          | false =>
            go_wp2
            go_meet
            case rel => exact ⟨y1, HH2.out.2.2.2.2 EF.out (fun h => by rw [E1.out] at h; cases h) (fun h => by rw [E2.out] at h; cases h) (fun h => by rw [E0.out] at h; cases h)⟩
          | true =>
            by_cases hn0 : n < 0
            · have HN0 := Lib.hid hn0
              go_wp2
              go_ret
              exact ⟨congrArg (fun v => Ending.returned (.int .i64 v)) (HX.out 3 (by decide) (HH2.out.2.2.2.1 EF.out (fun h => by rw [E1.out] at h; cases h) (fun h => by rw [E2.out] at h; cases h) E0.out (.inl HN0.out))).symm, HG0.out _ (HB.out _ y1)⟩
            · have HN0 := Lib.hid hn0
              by_cases hg : g < n
              · have HGN := Lib.hid hg
                go_wp2
                go_ret
                exact ⟨congrArg (fun v => Ending.returned (.int .i64 v)) (HX.out 3 (by decide) (HH2.out.2.2.2.1 EF.out (fun h => by rw [E1.out] at h; cases h) (fun h => by rw [E2.out] at h; cases h) E0.out (.inr HGN.out))).symm, HG0.out _ (HB.out _ y1)⟩
              · have HGN := Lib.hid hg
                go_wp2
                go_meet
                case rel => exact ⟨y1, HH2.out.2.2.2.2 EF.out (fun h => by rw [E1.out] at h; cases h) (fun h => by rw [E2.out] at h; cases h) (fun _ => ⟨HN0.out, HGN.out⟩)⟩
        | true =>
          obtain rfl : p0 = false := E0.out.symm.trans (HP2.out.1 E1.out)
          go_wp2_with fail
          refine (KS.out _ (HWS.out.below (HG0.out _ (HB.out _ y1)))).mono ?_
          rintro e w2 ⟨rfl, hb2⟩
          have y2 := Bz.next y1 hb2
          clear q0 q1 q2 q3 q4 q5 q6 q7 c0 c1 c2 c3 c4 c5 hb2
          obtain ⟨q0, q1, q2, q3, q4, q5, q6, q7⟩ := HK.out _ y2
          obtain ⟨c0, c1, c2, c3, c4, c5⟩ := HF.out _ (HB.out _ y2)
          cases qs with
          | false =>
            go_wp2
            go_ret
            exact ⟨congrArg (fun v => Ending.returned (.int .i64 v)) (HX.out 16 (by decide) (HH2.out.2.1 EF.out E1.out ES.out)).symm, HG0.out _ (HB.out _ y2)⟩
          | true =>
            cases p2 with
            | false =>
              go_wp2
              go_meet
              case rel => exact ⟨y2, HH2.out.2.2.2.2 EF.out (fun _ => ES.out) (fun h => by rw [E2.out] at h; cases h) (fun h => by rw [E0.out] at h; cases h)⟩
            | true =>
              go_wp2_with fail
              refine (KM.out _ (HWS.out.below (HG0.out _ (HB.out _ y2)))).mono ?_
              rintro e w3 ⟨rfl, hb2⟩
              have y3 := Bz.next y2 hb2
              clear q0 q1 q2 q3 q4 q5 q6 q7 c0 c1 c2 c3 c4 c5 hb2
              obtain ⟨q0, q1, q2, q3, q4, q5, q6, q7⟩ := HK.out _ y3
              obtain ⟨c0, c1, c2, c3, c4, c5⟩ := HF.out _ (HB.out _ y3)
              cases qm with
              | false =>
                go_wp2
                go_ret
                exact ⟨congrArg (fun v => Ending.returned (.int .i64 v)) (HX.out 16 (by decide) (HH2.out.2.2.1 EF.out E2.out EM.out)).symm, HG0.out _ (HB.out _ y3)⟩
              | true =>
                go_wp2
                go_meet
                case rel => exact ⟨y3, HH2.out.2.2.2.2 EF.out (fun _ => ES.out) (fun _ => EM.out) (fun h => by rw [E0.out] at h; cases h)⟩
    case rest =>
      obtain ⟨zx, hh0⟩ := hcut
      have zW := HB.out _ zx
      have HEP := Lib.hid (show E = if chkEs (d + 1) a ≠ 0 then chkEs (d + 1) a else chkEs (d + 1) o from HE.out.trans (chkE_parts hh0))
      have HLL := Lib.hid (headE_len hh0)
      clear HK HB zx hh0 HX KF HE HH2 HP2 E0 E1 E2 EF ES EM KS KM
      obtain ⟨-, -, -, -, c4, c5⟩ := HF.out _ zW
      have HG1 := Lib.hid (HG0.out _ zW)
      clear HF HG0 zW
      go_wp2_with fail
      obtain ⟨W1, hW1⟩ : ∃ W1 : World, W1 = wc.alloc (.cells #[.slice A na ca, .slice O no co] 25) := ⟨_, rfl⟩
      have HC := Lib.hid (show ∀ W, Bz W1 W → W.cell? ⟨wc.heap.size, 0, none⟩ = some (.slice A na ca) ∧ W.cell? ⟨wc.heap.size, 1, none⟩ = some (.slice O no co) from fun W h => by
        subst hW1
        exact ⟨cell_of_Bz h (by rw [cell_of_row _ _ _ _ _ _ (heap_alloc_new wc _)]; rfl) (lt_of_block (heap_alloc_new wc _)), cell_of_Bz h (by rw [cell_of_row _ _ _ _ _ _ (heap_alloc_new wc _)]; rfl) (lt_of_block (heap_alloc_new wc _))⟩)
      have HB1 := Lib.hid (show ∀ W, Bz W1 W → Below w.heap.size w W from fun W h => by
        subst hW1
        have hb := HG1.out.alloc HG1.out.size (.cells #[.slice A na ca, .slice O no co] 25)
        exact hb.trans (h.b.mono hb.size))
      rw [← hW1]
      clear hW1 HG1 c4 c5
      have v0 : Bz W1 W1 := ⟨Below.refl _ _⟩
      go_loopw [70] (fun i wr => ∃ k : Nat, k ≤ 2 ∧ i = .int .i64 k ∧ Hid (1 ≤ k → chkEs (d + 1) a = 0) ∧ Hid (2 ≤ k → chkEs (d + 1) o = 0) ∧ Bz W1 wr) (fun i _ => 2 - (intOf i).toNat)
      case atStart => exact ⟨0, by omega, rfl, Lib.hid (fun h => absurd h (by omega)), Lib.hid (fun h => absurd h (by omega)), v0⟩
      case round =>
        clear v0
        obtain ⟨k, hk, rfl, n1, n2, zr⟩ := hrel
        by_cases hlt : k < 2
        · obtain ⟨A', n', c', l', hc, hX, hin, hl4, hbad, hnext⟩ : ∃ (A' : Option Addr) (n' c' : Nat) (l' : List Ex), (∀ W, Bz W1 W → W.cell? ⟨wc.heap.size, k, none⟩ = some (.slice A' n' c')) ∧ XL w S A' n' c' l' ∧ (∀ e ∈ l', WrongAt e) ∧ l'.length ≤ 4 ∧ (∀ v, v ≠ 0 → chkEs (d + 1) l' = v → E = v) ∧ (chkEs (d + 1) l' = 0 → (1 ≤ k + 1 → chkEs (d + 1) a = 0) ∧ (2 ≤ k + 1 → chkEs (d + 1) o = 0)) := by
            rcases (by omega : k = 0 ∨ k = 1) with rfl | rfl
            · refine ⟨A, na, ca, a, fun W h => (HC.out W h).1, HA.out, fun e he => HI.out e (List.mem_append_left _ he), HLL.out.1, fun v h1 h2 => ?_, fun h => ⟨fun _ => h, fun h => absurd h (by omega)⟩⟩
              rw [HEP.out, h2, if_pos h1]
            · refine ⟨O, no, co, o, fun W h => (HC.out W h).2, HO.out, fun e he => HI.out e (List.mem_append_right _ he), HLL.out.2, fun v h1 h2 => ?_, fun h => ⟨fun _ => n1.out (by omega), fun _ => h⟩⟩
              rw [HEP.out, if_neg (by simp [n1.out (by omega)]), h2]
          have HL := Lib.hid hX
          have HIN := Lib.hid hin
          have HBAD := Lib.hid hbad
          have HNEXT := Lib.hid hnext
          have HLEN := Lib.hid hX.1.1
          have HLT := Lib.hid hlt
          have hn4 : (n' : Int) ≤ 4 := by have := hX.1.1; omega
          have hi : (k : Int) < 2 := by omega
          have hcell := hc _ zr
          clear hc hX hin hbad hnext hlt hk n1 n2 hl4
          go_wp2_with fail
          go_loopw [76] (fun i wx => ∃ q : Nat, q ≤ l'.length ∧ i = .int .i64 q ∧ Hid (chkEs (d + 1) (l'.take q) = 0) ∧ Bz W1 wx) (fun i _ => l'.length - (intOf i).toNat)
          case atStart => exact ⟨0, Nat.zero_le _, rfl, Lib.hid (by rw [List.take_zero, chkEs]), zr⟩
          case round =>
            clear zr
            obtain ⟨q, hq, rfl, n3, zq⟩ := hrel
            by_cases hl : q < l'.length
            · have hi2 : (q : Int) < (n' : Int) := by have := HLEN.out; omega
              obtain ⟨x, b, off, cs, hx, rfl, hb, hS, hxv, hrow⟩ := HL.out.at q (by have := HLEN.out; omega)
              have HXV := Lib.hid hxv
              have HQL := Lib.hid hl
              have HXQ := Lib.hid hx
              have HIH := Lib.hid (HIN.out x (List.mem_of_getElem? hx))
              obtain ⟨v, hv⟩ : ∃ v, v = chkE (d + 1) x := ⟨_, rfl⟩
              have HV := Lib.hid hv
              have hrow2 := rangeAt_keep hrow ((HB1.out _ zq).block b hb)
              obtain ⟨xk, xn, xs, xm, xa, xo⟩ := x
              obtain ⟨A2, na2, ca2, O2, no2, co2, rfl, -, -⟩ := hxv.open_
              obtain ⟨e0, e1, e2, e3, e4, e5⟩ := exC_at hrow2
              clear hx hb hS hxv hrow hrow2 hl hq hv
              unfold exC at HXV
              go_wp2_with fail
              have zq1 := Bz.alloc zq (.cells #[.int .i64 xk, .int .i64 xn, .string (bs xs), .string (bs xm), .slice A2 na2 ca2, .slice O2 no2 co2] 27)
              have HC2 := HIH.out (d + 1) _ S _ (by omega) (by omega) (HWS.out.below (HB1.out _ zq1)) (HXV.out.below (HB1.out _ zq1))
              rw [← HV.out] at HC2
              refine HC2.mono ?_
              rintro e' w2 ⟨rfl, hb2⟩
              have zq2 := zq1.next hb2
              clear HC2 hb2 e0 e1 e2 e3 e4 e5 zq zq1 HIH HXV
              by_cases hv0 : v = 0
              · subst hv0
                go_wp2
                go_roundw
                case rel => exact ⟨q + 1, HQL.out, by go_num, Lib.hid (chkEs_take_ok HXQ.out n3.out HV.out.symm), zq2⟩
                case measure => exact meas_up _ _ HQL.out
              · have HV0 := Lib.hid hv0
                have hv1 : (v != 0) = true := by simp [hv0]
                go_wp2
                go_ret
                exact ⟨congrArg (fun v => Ending.returned (.int .i64 v)) (HBAD.out v HV0.out ((chkEs_take_bad HXQ.out n3.out (by rw [← HV.out]; exact HV0.out)).trans HV.out.symm)).symm, HB1.out _ zq2⟩
            · have hi2 : ¬ (q : Int) < (n' : Int) := by have := HLEN.out; omega
              have HQ2 := Lib.hid (show chkEs (d + 1) l' = 0 by rw [← n3.out, List.take_of_length_le (by omega)])
              clear hl hq n3
              go_wp2
              go_roundw
              case rel => exact ⟨k + 1, HLT.out, by go_num, Lib.hid (HNEXT.out HQ2.out).1, Lib.hid (HNEXT.out HQ2.out).2, zq⟩
              case measure => exact meas_up _ _ HLT.out
        · have hi : ¬ (k : Int) < 2 := by omega
          have HK2 := Lib.hid (show 1 ≤ k ∧ 2 ≤ k by omega)
          go_wp2
          go_ret
          refine ⟨congrArg (fun v => Ending.returned (.int .i64 v)) ?_, HB1.out _ zr⟩
          rw [HEP.out, if_neg (by simp [n1.out HK2.out.1]), n2.out HK2.out.2]
theorem exprWrong_any (e : Ex) : WrongAt e := by
  obtain ⟨N, hN⟩ : ∃ N, N = e.size := ⟨_, rfl⟩
  induction N using Nat.strongRecOn generalizing e with
  | _ N ih =>
    intro d w S cs hd0 hdb hw hx
    by_cases hd : 12 < d
    · have h1 : headE d e = 18 := by unfold headE; rw [if_pos hd]
      rw [chkE_head (by rw [h1]; decide), h1]
      exact exprWrong_head e d w S cs hd hx
    · obtain ⟨k, n, s, m, a, o⟩ := e
      by_cases hk : k < 0 ∨ 7 < k
      · have h1 : headE d (.mk k n s m a o) = 2 := by
          unfold headE
          rw [if_neg hd]
          exact if_pos hk
        rw [chkE_head (by rw [h1]; decide), h1]
        exact exprWrong_kind k n s m a o d w S cs hd hk hx
      · obtain ⟨j, rfl⟩ : ∃ j : Nat, k = j := ⟨k.toNat, by omega⟩
        refine exprWrong_mid j (by omega) n s m a o (fun x hx => ih x.size ?_ x rfl) d w S cs hd0 hd hw hx
        rw [hN, Ex.size]
        rcases List.mem_append.1 hx with h | h
        · have := Ex.sizes_mem h; omega
        · have := Ex.sizes_mem h; omega
end Go.Proofs.YtkakbidllpjopaaGreatDoor
