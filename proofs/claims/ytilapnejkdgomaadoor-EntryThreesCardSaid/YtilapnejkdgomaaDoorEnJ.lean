/- The walks of the laws EntryChecks, EntryTexts, EntryMerges and EntrySorts: true. Conditions: the entries' numbers are of their kinds; the table of powers of ten is laid. -/
import Derived.Test.YtilapnejkdgomaaDoorEnI
set_option linter.unusedVariables false
set_option linter.unusedSimpArgs false
namespace Go.Proofs.YtilapnejkdgomaaDoor
open Go.RowKit

theorem eqE_self (l : List Ent) : eqE l l = true := decide_eq_true rfl
set_option maxRecDepth 100000 in
set_option maxHeartbeats 12800000 in
theorem checks_any {S : Nat → Prop} (A : Option Addr) (n c : Nat) (l : List Ent) (w : World) (hl : Ents w S A n l) (hok : ∀ e ∈ l, EntWf e) (hc : n ≤ c) (hA : A = none → n = 0 ∧ c = 0) (hp : Pow w) :
    Calls Tryd.prog 3 #[.slice A n c] w fun e w' => e = .returned (.bool true) ∧ Below w.heap.size w w' := by
  have HP := Lib.hid hp
  have HB0 := Lib.hid (Below.refl w.heap.size w)
  have AW := Lib.hid (fun W (h : Below w.heap.size w W) => awake_any W (hp.below h))
  clear hp
  by_cases hn : 60 < n
  · have hni : (60 : Int) < (n : Int) := by omega
    clear hl hok hc hA hn
    go_enter Tryd.func3, Tryd.ntmps3
    go_wp2_with fail
    refine (AW.out _ HB0.out).mono ?_
    rintro e w1 ⟨rfl, hb⟩
    go_wp2
    go_ret
    exact ⟨rfl, hb⟩
  have hni : ¬ (60 : Int) < (n : Int) := by omega
  have hmax : n ≤ 1099511627776 := by omega
  have C1 := Lib.hid (fun W (h : Below w.heap.size w W) => check_any A n c l W (hl.below h) (fun e he => (hok e he).1) hmax hc)
  have C2 := Lib.hid (fun W (h : Below w.heap.size w W) => rcheck_any A n c l W (hl.below h) hmax hc)
  generalize chk l = r at *
  clear hl hok hmax hc hA hn
  go_enter Tryd.func3, Tryd.ntmps3
  go_wp2_with fail
  refine (C1.out _ HB0.out).mono ?_
  rintro e w1 ⟨rfl, hb⟩
  have HB1 := Lib.hid (HB0.out.trans (hb.mono HB0.out.size))
  clear hb
  go_wp2_with fail
  refine (C2.out _ HB1.out).mono ?_
  rintro e w2 ⟨rfl, hb⟩
  have HB2 := Lib.hid (HB1.out.trans (hb.mono HB1.out.size))
  clear hb
  go_wp2_with fail
  refine (AW.out _ HB2.out).mono ?_
  rintro e w3 ⟨rfl, hb⟩
  have HB3 := Lib.hid (HB2.out.trans (hb.mono HB2.out.size))
  clear hb
  go_wp2
  go_ret
  exact ⟨by first | rfl | simp, HB3.out⟩
set_option maxRecDepth 100000 in
set_option maxHeartbeats 12800000 in
theorem texts_law {S : Nat → Prop} (A : Option Addr) (n c : Nat) (l : List Ent) (w : World) (hl : Ents w S A n l) (hok : ∀ e ∈ l, EntWf e) (hc : n ≤ c) (hA : A = none → n = 0 ∧ c = 0) (hp : Pow w) :
    Calls Tryd.prog 4 #[.slice A n c] w fun e w' => e = .returned (.bool true) ∧ Below w.heap.size w w' := by
  have HP := Lib.hid hp
  have HB0 := Lib.hid (Below.refl w.heap.size w)
  have AW := Lib.hid (fun W (h : Below w.heap.size w W) => awake_any W (hp.below h))
  clear hp
  by_cases hn : 60 < n
  · have hni : (60 : Int) < (n : Int) := by omega
    clear hl hok hc hA hn
    go_enter Tryd.func4, Tryd.ntmps4
    go_wp2_with fail
    refine (AW.out _ HB0.out).mono ?_
    rintro e w1 ⟨rfl, hb⟩
    go_wp2
    go_ret
    exact ⟨rfl, hb⟩
  have hni : ¬ (60 : Int) < (n : Int) := by omega
  have hmax : n ≤ 1099511627776 := by omega
  have C1 := Lib.hid (fun W (h : Below w.heap.size w W) => texts_any A n c l W (hl.below h) hok (by omega) hc (HP.out.below h))
  have C2 := Lib.hid (fun W (h : Below w.heap.size w W) => rtexts_any A n c l W (hl.below h) hok (by omega) hc)
  have hbt : ((bs (entsT l)).toList == (bs (entsT l)).toList) = true := beq_self_eq_true _
  generalize entsT l = r at *
  clear hl hok hmax hc hA hn
  go_enter Tryd.func4, Tryd.ntmps4
  go_wp2_with fail
  refine (C1.out _ HB0.out).mono ?_
  rintro e w1 ⟨rfl, hb⟩
  have HB1 := Lib.hid (HB0.out.trans (hb.mono HB0.out.size))
  clear hb
  go_wp2_with fail
  refine (C2.out _ HB1.out).mono ?_
  rintro e w2 ⟨rfl, hb⟩
  have HB2 := Lib.hid (HB1.out.trans (hb.mono HB1.out.size))
  clear hb
  go_wp2_with fail
  refine (AW.out _ HB2.out).mono ?_
  rintro e w3 ⟨rfl, hb⟩
  have HB3 := Lib.hid (HB2.out.trans (hb.mono HB2.out.size))
  clear hb
  go_wp2
  go_ret
  exact ⟨by first | rfl | simp, HB3.out⟩
set_option maxRecDepth 100000 in
set_option maxHeartbeats 12800000 in
theorem sorts_any {S : Nat → Prop} (A : Option Addr) (n c : Nat) (l : List Ent) (w : World) (hl : Ents w S A n l) (hok : ∀ e ∈ l, EntWf e) (hc : n ≤ c) (hA : A = none → n = 0 ∧ c = 0) (hp : Pow w) :
    Calls Tryd.prog 9 #[.slice A n c] w fun e w' => e = .returned (.bool true) ∧ Below w.heap.size w w' := by
  have HP := Lib.hid hp
  have HB0 := Lib.hid (Below.refl w.heap.size w)
  have AW := Lib.hid (fun W (h : Below w.heap.size w W) => awake_any W (hp.below h))
  clear hp
  by_cases hn : 60 < n
  · have hni : (60 : Int) < (n : Int) := by omega
    clear hl hok hc hA hn
    go_enter Tryd.func9, Tryd.ntmps9
    go_wp2_with fail
    refine (AW.out _ HB0.out).mono ?_
    rintro e w1 ⟨rfl, hb⟩
    go_wp2
    go_ret
    exact ⟨rfl, hb⟩
  have hni : ¬ (60 : Int) < (n : Int) := by omega
  have hmax : n ≤ 1099511627776 := by omega
  have HL := Lib.hid hl
  have HNN := Lib.hid (show n ≤ 60 by omega)
  have HCC := Lib.hid hc
  have HAA := Lib.hid hA
  have HO0 := Lib.hid (own_empty w)
  have hx1 : Below w.heap.size w (w.alloc (.cells #[] 46)) := (Below.refl _ _).alloc (Nat.le_refl _) _
  have HX1 := Lib.hid hx1
  have HL0 := Lib.hid (hl.below hx1)
  have HSZ := Lib.hid (show w.heap.size ≤ (w.alloc (.cells #[] 46)).heap.size by simp)
  have HLN := Lib.hid hl.1
  clear hl hok hmax hc hA hn hx1
  go_enter Tryd.func9, Tryd.ntmps9
  go_wp2_with (at_builtin; refine ap_any rfl (.tmp 9) (.tmp 10) rfl w.heap.size _ [] rfl HO0.out _ _ _ _ _ rfl HL0.out (by have := HNN.out; simp only [List.length_nil]; omega) HSZ.out ?_)
  intro v1 w1 ho1 hg1 hv1
  have HO1 := Lib.hid (show OwnE w1 w.heap.size v1 l from by simpa using ho1)
  have HB1 := Lib.hid (HX1.out.grown hg1 HSZ.out (fun k h => (HO0.out.lt k h).1))
  clear ho1 hg1 hv1 HO0 HL0
  obtain ⟨A1, c1, rfl, he, hcc, hAA⟩ := own_slice HO1.out
  have HE1 := Lib.hid he
  have HC1 := Lib.hid hcc
  have HN1 := Lib.hid hAA
  clear he hcc hAA HO1
  have D1 := Lib.hid (fun W (h : Below w.heap.size w W) => sort_any A n c l W (HL.out.below h) HNN.out HAA.out)
  go_wp2_with fail
  refine (D1.out _ HB1.out).mono ?_
  rintro e w2 ⟨v2, rfl, ho, hb⟩
  have HB2 := Lib.hid (HB1.out.trans (hb.mono HB1.out.size))
  have HS2 := Lib.hid (HE1.out.below hb)
  obtain ⟨A2, c2, rfl, he, hcc, hAA⟩ := own_slice ho
  rw [srt_len] at he hcc hAA
  have HE2 := Lib.hid he
  have HC2 := Lib.hid hcc
  have HN2 := Lib.hid hAA
  clear ho he hcc hAA hb D1 HE1
  rw [srt_len]
  have D2 := Lib.hid (rsort_any A1 l.length c1 l w2 HS2.out (by have := HNN.out; have := HLN.out; omega) HC1.out)
  go_wp2_with fail
  refine D2.out.mono ?_
  rintro e w3 ⟨v3, rfl, ho, hb⟩
  have HB3 := Lib.hid (HB2.out.trans (hb.mono HB2.out.size))
  have HS3 := Lib.hid (HS2.out.below hb)
  have HT3 := Lib.hid (HE2.out.below hb)
  obtain ⟨A3, c3, rfl, he, hcc, hAA⟩ := own_slice ho
  rw [srt_len] at he hcc hAA
  have HE3 := Lib.hid he
  have HC3 := Lib.hid hcc
  clear ho he hcc hAA hb D2 HS2 HE2
  rw [srt_len]
  have hll : l.length ≤ 60 := by have := HNN.out; have := HLN.out; omega
  have HLL := Lib.hid hll
  clear hll
  have E1 := Lib.hid (alike_any A2 A3 l.length c2 l.length c3 (srt Ent.loc l) (srt Ent.loc l) w3 HT3.out HE3.out (by have := HLL.out; omega) (by have := HLL.out; omega) HC2.out HC3.out)
  rw [eqE_self] at E1
  go_wp2_with fail
  refine E1.out.mono ?_
  rintro e w4 ⟨rfl, hb⟩
  have HB4 := Lib.hid (HB3.out.trans (hb.mono HB3.out.size))
  have HS4 := Lib.hid (HS3.out.below hb)
  have HT4 := Lib.hid (HT3.out.below hb)
  clear hb E1 HS3 HT3 HE3
  have E2 := Lib.hid (alike_any A A1 n c l.length c1 l l w4 (HL.out.below HB4.out) HS4.out (by have := HNN.out; omega) (by have := HLL.out; omega) HCC.out HC1.out)
  rw [eqE_self] at E2
  go_wp2_with fail
  refine E2.out.mono ?_
  rintro e w5 ⟨rfl, hb⟩
  have HB5 := Lib.hid (HB4.out.trans (hb.mono HB4.out.size))
  have HT5 := Lib.hid (HT4.out.below hb)
  clear hb E2 HS4 HT4
  have D3 := Lib.hid (sort_any A2 l.length c2 (srt Ent.loc l) w5 HT5.out HLL.out HN2.out)
  rw [srt_asc Ent.loc (srt_sts Ent.loc l).1] at D3
  go_wp2_with fail
  refine D3.out.mono ?_
  rintro e w6 ⟨v6, rfl, ho, hb⟩
  have HB6 := Lib.hid (HB5.out.trans (hb.mono HB5.out.size))
  have HT6 := Lib.hid (HT5.out.below hb)
  obtain ⟨A6, c6, rfl, he, hcc, hAA⟩ := own_slice ho
  rw [srt_len] at he hcc hAA
  have HE6 := Lib.hid he
  have HC6 := Lib.hid hcc
  clear ho he hcc hAA hb D3 HT5
  rw [srt_len]
  have E3 := Lib.hid (alike_any A6 A2 l.length c6 l.length c2 (srt Ent.loc l) (srt Ent.loc l) w6 HE6.out HT6.out (by have := HLL.out; omega) (by have := HLL.out; omega) HC6.out HC2.out)
  rw [eqE_self] at E3
  go_wp2_with fail
  refine E3.out.mono ?_
  rintro e w7 ⟨rfl, hb⟩
  have HB7 := Lib.hid (HB6.out.trans (hb.mono HB6.out.size))
  have HT7 := Lib.hid (HT6.out.below hb)
  clear hb E3 HT6 HE6
  have E4 := Lib.hid (same_all A2 A2 l.length c2 l.length c2 (srt Ent.loc l) (srt Ent.loc l) w7 HT7.out HT7.out (by have := HLL.out; omega) (by have := HLL.out; omega) HC2.out HC2.out)
  rw [eqE_self] at E4
  go_wp2_with fail
  refine E4.out.mono ?_
  rintro e w8 ⟨rfl, hb⟩
  have HB8 := Lib.hid (HB7.out.trans (hb.mono HB7.out.size))
  have HT8 := Lib.hid (HT7.out.below hb)
  clear hb E4 HT7
  have E5 := Lib.hid (same_all A A2 n c l.length c2 l (srt Ent.loc l) w8 (HL.out.below HB8.out) HT8.out (by have := HNN.out; omega) (by have := HLL.out; omega) HCC.out HC2.out)
  have E6 := Lib.hid (fun W (h : Below w8.heap.size w8 W) => alike_any A A2 n c l.length c2 l (srt Ent.loc l) W (HL.out.below (HB8.out.trans (h.mono HB8.out.size))) (HT8.out.below h) (by have := HNN.out; omega) (by have := HLL.out; omega) HCC.out HC2.out)
  generalize eqE l (srt Ent.loc l) = q at *
  go_wp2_with fail
  refine E5.out.mono ?_
  rintro e w9 ⟨rfl, hb⟩
  have HB9 := Lib.hid (HB8.out.trans (hb.mono HB8.out.size))
  have HK9 := Lib.hid hb
  clear hb E5
  go_wp2_with fail
  refine (E6.out _ HK9.out).mono ?_
  rintro e w10 ⟨rfl, hb⟩
  have HB10 := Lib.hid (HB9.out.trans (hb.mono HB9.out.size))
  clear hb E6
  have hqq : (q == q) = true := beq_self_eq_true q
  go_wp2_with fail
  refine (AW.out _ HB10.out).mono ?_
  rintro e w11 ⟨rfl, hb⟩
  have HB11 := Lib.hid (HB10.out.trans (hb.mono HB10.out.size))
  clear hb
  go_wp2
  go_ret
  exact ⟨by first | rfl | simp, HB11.out⟩
end Go.Proofs.YtilapnejkdgomaaDoor
