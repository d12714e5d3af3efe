/- The walks of syntax.wrong and Stmt.wrong. Conditions: the table of keywords is laid (SxW); at most 1000000 parts. -/
import Derived.Test.YthfjkdgaiaokdaaDoorSxI
set_option linter.unusedVariables false
set_option linter.unusedSimpArgs false
namespace Go.Proofs.YthfjkdgaiaokdaaDoor
open Go.RowKit

/-- One statement's error, as a call. -/
def WrongS (e : St) : Prop := ∀ (d : Int) (w : World) (S : Nat → Prop) (cs : List Value), 0 ≤ d → d ≤ 4611686018427387904 → SxW w → e.size ≤ 1000000 → SV w S e cs →
  Calls Tryd.prog 57 #[.agg cs.toArray, .int .i64 d] w fun e' w' => e' = .returned (.int .i64 (chkS d e)) ∧ Below w.heap.size w w'
/-- A list's error, as a call. -/
def WrongL (l : List St) : Prop := ∀ (d : Int) (w : World) (S : Nat → Prop) (A : Option Addr) (n c : Nat), 0 ≤ d → d ≤ 4611686018427387904 → SxW w → St.sizes l ≤ 1000000 → SL w S A n c l →
  Calls Tryd.prog 38 #[.slice A n c, .int .i64 d] w fun e' w' => e' = .returned (.int .i64 (chkSs d l)) ∧ Below w.heap.size w w'
theorem St.len_sizes : ∀ (l : List St), l.length ≤ St.sizes l
  | [] => Nat.zero_le _
  | e :: t => by
    have := St.len_sizes t
    obtain ⟨k, s, n, x, b, l⟩ := e
    rw [St.sizes, St.size, List.length_cons]
    omega
theorem chkSs_take_ok {d : Int} : ∀ {l : List St} {q : Nat} {x : St}, l[q]? = some x → chkSs d (l.take q) = 0 → chkS d x = 0 → chkSs d (l.take (q + 1)) = 0
  | [], q, x, h, _, _ => by simp at h
  | e :: t, 0, x, h, _, h2 => by
    obtain rfl : e = x := by simpa using h
    simp [chkSs, h2]
  | e :: t, q + 1, x, h, h1, h2 => by
    rw [List.take_succ_cons, chkSs] at h1 ⊢
    split at h1
    · exact absurd h1 (by assumption)
    · rename_i h3
      rw [if_neg h3]
      exact chkSs_take_ok (by simpa using h) h1 h2
theorem chkSs_take_bad {d : Int} : ∀ {l : List St} {q : Nat} {x : St}, l[q]? = some x → chkSs d (l.take q) = 0 → chkS d x ≠ 0 → chkSs d l = chkS d x
  | [], q, x, h, _, _ => by simp at h
  | e :: t, 0, x, h, _, h2 => by
    obtain rfl : e = x := by simpa using h
    simp [chkSs, h2]
  | e :: t, q + 1, x, h, h1, h2 => by
    rw [List.take_succ_cons, chkSs] at h1
    rw [chkSs]
    split at h1
    · exact absurd h1 (by assumption)
    · rename_i h3
      rw [if_neg h3]
      exact chkSs_take_bad (by simpa using h) h1 h2
theorem stC_at {w : World} {b o : Nat} {k n ek en : Int} {s es em : Str} {A O B L : Option Addr} {na ca no co nb cb nl cl : Nat} (h : w.rangeAt b o (stC k s n (exC ek en es em A na ca O no co) B nb cb L nl cl)) :
    w.cell? ⟨b, o, none⟩ = some (.int .i64 k) ∧ w.cell? ⟨b, o + 1, none⟩ = some (.string (bs s)) ∧ w.cell? ⟨b, o + 2, none⟩ = some (.int .i64 n) ∧ w.cell? ⟨b, o + 3, none⟩ = some (.int .i64 ek) ∧ w.cell? ⟨b, o + 4, none⟩ = some (.int .i64 en) ∧ w.cell? ⟨b, o + 5, none⟩ = some (.string (bs es)) ∧ w.cell? ⟨b, o + 6, none⟩ = some (.string (bs em)) ∧ w.cell? ⟨b, o + 7, none⟩ = some (.slice A na ca) ∧ w.cell? ⟨b, o + 8, none⟩ = some (.slice O no co) ∧ w.cell? ⟨b, o + 9, none⟩ = some (.slice B nb cb) ∧ w.cell? ⟨b, o + 10, none⟩ = some (.slice L nl cl) :=
  ⟨h 0 _ rfl, h 1 _ rfl, h 2 _ rfl, h 3 _ rfl, h 4 _ rfl, h 5 _ rfl, h 6 _ rfl, h 7 _ rfl, h 8 _ rfl, h 9 _ rfl, h 10 _ rfl⟩
set_option maxRecDepth 100000 in
set_option maxHeartbeats 12800000 in
theorem wrongL_of (l : List St) (h : ∀ e ∈ l, WrongS e) : WrongL l := by
  intro d w S A n c hd0 hd hw hsz hl
  have HIN := Lib.hid h
  have HL := Lib.hid hl
  have HLEN := Lib.hid hl.1.1
  have HWS := Lib.hid hw
  have HSZ := Lib.hid hsz
  have hn6 : (n : Int) ≤ 1000000 := by have := hl.1.1; have := St.len_sizes l; omega
  obtain ⟨E, hE⟩ : ∃ E, E = chkSs d l := ⟨_, rfl⟩
  rw [← hE]
  have HE := Lib.hid hE
  have hb0 : Below w.heap.size w w := Below.refl _ _
  clear h hl hw hsz hE
  go_enter Tryd.func38, Tryd.ntmps38
  go_wp2_with fail
  go_loopw [10] (fun i wx => ∃ q : Nat, q ≤ l.length ∧ i = .int .i64 q ∧ Hid (chkSs d (l.take q) = 0) ∧ Below w.heap.size w wx) (fun i _ => l.length - (intOf i).toNat)
  case atStart => exact ⟨0, Nat.zero_le _, rfl, Lib.hid (by rw [List.take_zero, chkSs]), hb0⟩
  case round =>
    clear hb0
    obtain ⟨q, hq, rfl, n3, zq⟩ := hrel
    by_cases hlq : q < l.length
    · have hi2 : (q : Int) < (n : Int) := by have := HLEN.out; omega
      obtain ⟨x, b, off, cs, hx, rfl, hb, hS, hxv, hrow⟩ := HL.out.at q (by have := HLEN.out; omega)
      have HXV := Lib.hid hxv
      have HQL := Lib.hid hlq
      have HXQ := Lib.hid hx
      have HXS := Lib.hid (show x.size ≤ 1000000 from by have := St.sizes_mem (List.mem_of_getElem? hx); have := HSZ.out; omega)
      have HIH := Lib.hid (HIN.out x (List.mem_of_getElem? hx))
      obtain ⟨v, hv⟩ : ∃ v, v = chkS d x := ⟨_, rfl⟩
      have HV := Lib.hid hv
      have hrow2 := rangeAt_keep hrow (zq.block b hb)
      obtain ⟨xk, xs, xn, xe, xb, xl⟩ := x
      obtain ⟨ex, B2, nb2, cb2, L2, nl2, cl2, rfl, hex, -, -⟩ := hxv.open_
      obtain ⟨ek, en, es, em, ea, eo⟩ := xe
      obtain ⟨A2, na2, ca2, O2, no2, co2, rfl, -, -⟩ := hex.open_
      obtain ⟨e0, e1, e2, e3, e4, e5, e6, e7, e8, e9, e10⟩ := stC_at hrow2
      clear hx hb hS hxv hrow hrow2 hlq hq hv hex
      unfold stC exC at HXV
      simp only [List.cons_append, List.nil_append] at HXV
      go_wp2_with fail
      have zq1 := zq.alloc zq.size (.cells #[.int .i64 xk, .string (bs xs), .int .i64 xn, .int .i64 ek, .int .i64 en, .string (bs es), .string (bs em), .slice A2 na2 ca2, .slice O2 no2 co2, .slice B2 nb2 cb2, .slice L2 nl2 cl2] 46)
      have HC2 := HIH.out d _ S _ hd0 hd (HWS.out.below zq1) HXS.out (HXV.out.below zq1)
      rw [← HV.out] at HC2
      refine HC2.mono ?_
      rintro e' w2 ⟨rfl, hb2⟩
      have zq2 := zq1.trans (hb2.mono zq1.size)
      clear HC2 hb2 e0 e1 e2 e3 e4 e5 e6 e7 e8 e9 e10 zq zq1 HIH HXV
      by_cases hv0 : v = 0
      · subst hv0
        go_wp2
        go_roundw
        case rel => exact ⟨q + 1, HQL.out, by go_num, Lib.hid (chkSs_take_ok HXQ.out n3.out HV.out.symm), zq2⟩
        case measure => exact meas_up _ _ HQL.out
      · have HV0 := Lib.hid hv0
        have hv1 : (v != 0) = true := by simp [hv0]
        have HR := Lib.hid (show E = v from HE.out.trans ((chkSs_take_bad HXQ.out n3.out (by rw [← HV.out]; exact hv0)).trans HV.out.symm))
        go_wp2
        go_ret
        exact ⟨congrArg (fun v => Ending.returned (.int .i64 v)) HR.out.symm, zq2⟩
    · have hi2 : ¬ (q : Int) < (n : Int) := by have := HLEN.out; omega
      have HR := Lib.hid (show E = 0 from HE.out.trans (by rw [← n3.out, List.take_of_length_le (by omega)]))
      clear hlq hq n3
      go_wp2
      go_ret
      exact ⟨congrArg (fun v => Ending.returned (.int .i64 v)) HR.out.symm, zq⟩
end Go.Proofs.YthfjkdgaiaokdaaDoor
