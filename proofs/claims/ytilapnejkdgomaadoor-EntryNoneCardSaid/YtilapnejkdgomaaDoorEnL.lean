/- The walk of the law EntryNone: true. Conditions: the entries' numbers are of their kinds; the table of powers of ten is laid. -/
import Derived.Test.YtilapnejkdgomaaDoorEnK
set_option linter.unusedVariables false
set_option linter.unusedSimpArgs false
namespace Go.Proofs.YtilapnejkdgomaaDoor
open Go.RowKit

set_option maxRecDepth 100000 in
set_option maxHeartbeats 12800000 in
theorem none_any {S : Nat → Prop} (A : Option Addr) (n c : Nat) (l : List Ent) (w : World) (hl : Ents w S A n l) (hok : ∀ e ∈ l, EntWf e) (hc : n ≤ c) (hA : A = none → n = 0 ∧ c = 0) (hp : Pow w) :
    Calls Tryd.prog 8 #[.slice A n c] w fun e w' => e = .returned (.bool true) ∧ Below w.heap.size w w' := by
  have HP := Lib.hid hp
  have HB0 := Lib.hid (Below.refl w.heap.size w)
  have AW := Lib.hid (fun W (h : Below w.heap.size w W) => awake_any W (hp.below h))
  clear hp
  by_cases hn : 60 < n
  · have hni : (60 : Int) < (n : Int) := by omega
    clear hl hok hc hA hn
    go_enter Tryd.func8, Tryd.ntmps8
    go_wp2_with fail
    refine (AW.out _ HB0.out).mono ?_
    rintro e w1 ⟨rfl, hb⟩
    go_wp2
    go_ret
    exact ⟨rfl, hb⟩
  have hni : ¬ (60 : Int) < (n : Int) := by omega
  have hmax : n ≤ 1099511627776 := by omega
  have hn60 : n ≤ 60 := by omega
  have C1 := Lib.hid (fun W (h : Below w.heap.size w W) => merge_any A none n c 0 0 l [] W (hl.below h) (ents_nil W S) (fun e he => (hok e he).1) (fun e he => by cases he) hn60 hc (by omega) (by omega) hA (fun _ => ⟨rfl, rfl⟩))
  have C2 := Lib.hid (fun W (h : Below w.heap.size w W) => merge_any none A 0 0 n c [] l W (ents_nil W S) (hl.below h) (fun e he => by cases he) (fun e he => (hok e he).1) (by omega) (by omega) hn60 hc (fun _ => ⟨rfl, rfl⟩) hA)
  rw [mrg_nil_right] at C1
  rw [mrg_nil_left] at C2
  have C3 := Lib.hid (fun W (h : Below w.heap.size w W) => check_any A n c l W (hl.below h) (fun e he => (hok e he).1) hmax hc)
  by_cases hk : chk0 l = 0
  · skip
    have e1 : oneM l = (srt Ent.loc l, 0) := by unfold oneM; rw [if_neg (fun h => h hk)]
    rw [e1] at C1 C2
    dsimp only at C1 C2
    have C4 := Lib.hid (fun W (h : Below w.heap.size w W) => sort_any A n c l W (hl.below h) hn60 hA)
    have C5 := Lib.hid (fun W (h : Below w.heap.size w W) => merge_any A A n c n c l l W (hl.below h) (hl.below h) (fun e he => (hok e he).1) (fun e he => (hok e he).1) hn60 hc hn60 hc hA hA)
    have C6 := Lib.hid (fun W (h : Below w.heap.size w W) => writes_any A n c l W (hl.below h) hmax)
    have HS := Lib.hid (mrg_self (fun e he => (hok e he).1) hk)
    obtain ⟨R, hR⟩ : ∃ R, R = mrg l l := ⟨_, rfl⟩
    rw [← hR] at C5 HS
    obtain ⟨R1, R2⟩ := R
    dsimp only at C5 HS
    have HLN := Lib.hid hl.1
    have HN60 := Lib.hid hn60
    have HCK := Lib.hid (show n ≠ 0 → chk l = 0 from fun h => by unfold chk0 at hk; rwa [if_neg (by have := hl.1; omega)] at hk)
    have HWQ := Lib.hid (show (wrs l : Int) ≤ 60 by have := wrs_le l; have := hl.1; omega)
    clear hl hok hmax hc hA hn hR e1 hk hn60
    by_cases hz : n = 0
    · subst hz
      clear C3 HCK
      go_enter Tryd.func8, Tryd.ntmps8
      go_wp2_with fail
      refine (C1.out _ HB0.out).mono ?_
      rintro e w1 ⟨v1, rfl, ho, hb⟩
      have HB1 := Lib.hid (HB0.out.trans (hb.mono HB0.out.size))
      clear hb
      obtain ⟨A1, c1, rfl, he, hcc, hAA⟩ := own_slice ho
      have HE1 := Lib.hid he
      have HC1 := Lib.hid hcc
      clear ho he hcc hAA
      go_wp2_with fail
      refine (C2.out _ HB1.out).mono ?_
      rintro e w2 ⟨v2, rfl, ho, hb⟩
      have HB2 := Lib.hid (HB1.out.trans (hb.mono HB1.out.size))
      have HE1b := Lib.hid (HE1.out.below hb)
      clear hb
      obtain ⟨A2, c2, rfl, he, hcc, hAA⟩ := own_slice ho
      have HE2 := Lib.hid he
      have HC2 := Lib.hid hcc
      clear ho he hcc hAA
      rw [srt_len] at HE1 HE1b HE2 HC1 HC2
      try rw [srt_len]
      try simp only [srt_len]
      go_wp2_with fail
      refine (C4.out _ HB2.out).mono ?_
      rintro e w3 ⟨v3, rfl, ho, hb⟩
      have HB3 := Lib.hid (HB2.out.trans (hb.mono HB2.out.size))
      have HE1d := Lib.hid (HE1b.out.below hb)
      have HE2d := Lib.hid (HE2.out.below hb)
      clear hb
      obtain ⟨A3, c3, rfl, he, hcc, hAA⟩ := own_slice ho
      have HE3 := Lib.hid he
      have HC3 := Lib.hid hcc
      clear ho he hcc hAA
      rw [srt_len] at HE3 HC3
      try rw [srt_len]
      go_wp2_with fail
      refine (C5.out _ HB3.out).mono ?_
      rintro e w4 ⟨v4, rfl, ho, hb⟩
      have HB4 := Lib.hid (HB3.out.trans (hb.mono HB3.out.size))
      have HE1e := Lib.hid (HE1d.out.below hb)
      have HE2e := Lib.hid (HE2d.out.below hb)
      have HEe := Lib.hid (HE3.out.below hb)
      clear ho
      clear hb
      have D1 := Lib.hid (fun W (h : Below w4.heap.size w4 W) => alike_any A1 A3 l.length c1 l.length c3 (srt Ent.loc l) (srt Ent.loc l) W (HE1e.out.below h) (HEe.out.below h) (by have := HLN.out; have := HN60.out; omega) (by have := HLN.out; have := HN60.out; omega) HC1.out HC3.out)
      have D2 := Lib.hid (fun W (h : Below w4.heap.size w4 W) => alike_any A2 A3 l.length c2 l.length c3 (srt Ent.loc l) (srt Ent.loc l) W (HE2e.out.below h) (HEe.out.below h) (by have := HLN.out; have := HN60.out; omega) (by have := HLN.out; have := HN60.out; omega) HC2.out HC3.out)
      rw [eqE_self] at D1 D2
      by_cases hw : 0 < wrs l
      · skip
        have hg := HS.out
        rw [decide_eq_true hw] at hg
        have hwi : (0 : Int) < (wrs l : Int) := by omega
        clear hw
        generalize wrs l = q at *
        go_wp2_with fail
        refine (D1.out _ (Below.refl _ _)).mono ?_
        rintro e w5 ⟨rfl, hb⟩
        have HB5 := Lib.hid (HB4.out.trans (hb.mono HB4.out.size))
        have HKK := Lib.hid hb
        clear hb
        go_wp2_with fail
        refine (D2.out _ HKK.out).mono ?_
        rintro e w6 ⟨rfl, hb⟩
        have HB6 := Lib.hid (HB5.out.trans (hb.mono HB5.out.size))
        clear hb
        go_wp2_with fail
        refine (C6.out _ HB6.out).mono ?_
        rintro e w7 ⟨rfl, hb⟩
        have HB7 := Lib.hid (HB6.out.trans (hb.mono HB6.out.size))
        clear hb
        go_wp2_with fail
        refine (AW.out _ HB7.out).mono ?_
        rintro e w8 ⟨rfl, hb⟩
        have HB8 := Lib.hid (HB7.out.trans (hb.mono HB7.out.size))
        clear hb
        go_wp2
        go_ret
        exact ⟨by first | rfl | simp, HB8.out⟩
      · skip
        have hg := HS.out
        rw [decide_eq_false hw] at hg
        have hwi : ¬ (0 : Int) < (wrs l : Int) := by omega
        clear hw
        generalize wrs l = q at *
        go_wp2_with fail
        refine (D1.out _ (Below.refl _ _)).mono ?_
        rintro e w5 ⟨rfl, hb⟩
        have HB5 := Lib.hid (HB4.out.trans (hb.mono HB4.out.size))
        have HKK := Lib.hid hb
        clear hb
        go_wp2_with fail
        refine (D2.out _ HKK.out).mono ?_
        rintro e w6 ⟨rfl, hb⟩
        have HB6 := Lib.hid (HB5.out.trans (hb.mono HB5.out.size))
        clear hb
        go_wp2_with fail
        refine (C6.out _ HB6.out).mono ?_
        rintro e w7 ⟨rfl, hb⟩
        have HB7 := Lib.hid (HB6.out.trans (hb.mono HB6.out.size))
        clear hb
        go_wp2_with fail
        refine (AW.out _ HB7.out).mono ?_
        rintro e w8 ⟨rfl, hb⟩
        have HB8 := Lib.hid (HB7.out.trans (hb.mono HB7.out.size))
        clear hb
        go_wp2
        go_ret
        exact ⟨by first | rfl | simp, HB8.out⟩
    · have hzi : (0 : Int) < (n : Int) := by omega
      have hck := HCK.out hz
      rw [hck] at C3
      clear hz hck HCK
      go_enter Tryd.func8, Tryd.ntmps8
      go_wp2_with fail
      refine (C1.out _ HB0.out).mono ?_
      rintro e w1 ⟨v1, rfl, ho, hb⟩
      have HB1 := Lib.hid (HB0.out.trans (hb.mono HB0.out.size))
      clear hb
      obtain ⟨A1, c1, rfl, he, hcc, hAA⟩ := own_slice ho
      have HE1 := Lib.hid he
      have HC1 := Lib.hid hcc
      clear ho he hcc hAA
      go_wp2_with fail
      refine (C2.out _ HB1.out).mono ?_
      rintro e w2 ⟨v2, rfl, ho, hb⟩
      have HB2 := Lib.hid (HB1.out.trans (hb.mono HB1.out.size))
      have HE1b := Lib.hid (HE1.out.below hb)
      clear hb
      obtain ⟨A2, c2, rfl, he, hcc, hAA⟩ := own_slice ho
      have HE2 := Lib.hid he
      have HC2 := Lib.hid hcc
      clear ho he hcc hAA
      go_wp2_with fail
      refine (C3.out _ HB2.out).mono ?_
      rintro e w3 ⟨rfl, hb⟩
      have HB3 := Lib.hid (HB2.out.trans (hb.mono HB2.out.size))
      have HE1c := Lib.hid (HE1b.out.below hb)
      have HE2c := Lib.hid (HE2.out.below hb)
      clear hb
      rw [srt_len] at HE1 HE1b HE2 HC1 HC2 HE1c HE2c
      try rw [srt_len]
      try simp only [srt_len]
      go_wp2_with fail
      refine (C4.out _ HB3.out).mono ?_
      rintro e w4 ⟨v4, rfl, ho, hb⟩
      have HB4 := Lib.hid (HB3.out.trans (hb.mono HB3.out.size))
      have HE1d := Lib.hid (HE1c.out.below hb)
      have HE2d := Lib.hid (HE2c.out.below hb)
      clear hb
      obtain ⟨A4, c4, rfl, he, hcc, hAA⟩ := own_slice ho
      have HE4 := Lib.hid he
      have HC4 := Lib.hid hcc
      clear ho he hcc hAA
      rw [srt_len] at HE4 HC4
      try rw [srt_len]
      go_wp2_with fail
      refine (C5.out _ HB4.out).mono ?_
      rintro e w5 ⟨v5, rfl, ho, hb⟩
      have HB5 := Lib.hid (HB4.out.trans (hb.mono HB4.out.size))
      have HE1e := Lib.hid (HE1d.out.below hb)
      have HE2e := Lib.hid (HE2d.out.below hb)
      have HEe := Lib.hid (HE4.out.below hb)
      clear ho
      clear hb
      have D1 := Lib.hid (fun W (h : Below w5.heap.size w5 W) => alike_any A1 A4 l.length c1 l.length c4 (srt Ent.loc l) (srt Ent.loc l) W (HE1e.out.below h) (HEe.out.below h) (by have := HLN.out; have := HN60.out; omega) (by have := HLN.out; have := HN60.out; omega) HC1.out HC4.out)
      have D2 := Lib.hid (fun W (h : Below w5.heap.size w5 W) => alike_any A2 A4 l.length c2 l.length c4 (srt Ent.loc l) (srt Ent.loc l) W (HE2e.out.below h) (HEe.out.below h) (by have := HLN.out; have := HN60.out; omega) (by have := HLN.out; have := HN60.out; omega) HC2.out HC4.out)
      rw [eqE_self] at D1 D2
      by_cases hw : 0 < wrs l
      · skip
        have hg := HS.out
        rw [decide_eq_true hw] at hg
        have hwi : (0 : Int) < (wrs l : Int) := by omega
        clear hw
        generalize wrs l = q at *
        go_wp2_with fail
        refine (D1.out _ (Below.refl _ _)).mono ?_
        rintro e w6 ⟨rfl, hb⟩
        have HB6 := Lib.hid (HB5.out.trans (hb.mono HB5.out.size))
        have HKK := Lib.hid hb
        clear hb
        go_wp2_with fail
        refine (D2.out _ HKK.out).mono ?_
        rintro e w7 ⟨rfl, hb⟩
        have HB7 := Lib.hid (HB6.out.trans (hb.mono HB6.out.size))
        clear hb
        go_wp2_with fail
        refine (C6.out _ HB7.out).mono ?_
        rintro e w8 ⟨rfl, hb⟩
        have HB8 := Lib.hid (HB7.out.trans (hb.mono HB7.out.size))
        clear hb
        go_wp2_with fail
        refine (AW.out _ HB8.out).mono ?_
        rintro e w9 ⟨rfl, hb⟩
        have HB9 := Lib.hid (HB8.out.trans (hb.mono HB8.out.size))
        clear hb
        go_wp2
        go_ret
        exact ⟨by first | rfl | simp, HB9.out⟩
      · skip
        have hg := HS.out
        rw [decide_eq_false hw] at hg
        have hwi : ¬ (0 : Int) < (wrs l : Int) := by omega
        clear hw
        generalize wrs l = q at *
        go_wp2_with fail
        refine (D1.out _ (Below.refl _ _)).mono ?_
        rintro e w6 ⟨rfl, hb⟩
        have HB6 := Lib.hid (HB5.out.trans (hb.mono HB5.out.size))
        have HKK := Lib.hid hb
        clear hb
        go_wp2_with fail
        refine (D2.out _ HKK.out).mono ?_
        rintro e w7 ⟨rfl, hb⟩
        have HB7 := Lib.hid (HB6.out.trans (hb.mono HB6.out.size))
        clear hb
        go_wp2_with fail
        refine (C6.out _ HB7.out).mono ?_
        rintro e w8 ⟨rfl, hb⟩
        have HB8 := Lib.hid (HB7.out.trans (hb.mono HB7.out.size))
        clear hb
        go_wp2_with fail
        refine (AW.out _ HB8.out).mono ?_
        rintro e w9 ⟨rfl, hb⟩
        have HB9 := Lib.hid (HB8.out.trans (hb.mono HB8.out.size))
        clear hb
        go_wp2
        go_ret
        exact ⟨by first | rfl | simp, HB9.out⟩
  · skip
    obtain ⟨hz, he⟩ := chk0_pos hl.1 hk
    have e1 : oneM l = ([], chk0 l) := by unfold oneM; rw [if_pos hk]
    rw [e1] at C1 C2
    rw [he] at C3
    dsimp only at C1 C2
    obtain ⟨r, hr⟩ : ∃ r, r = chk0 l := ⟨_, rfl⟩
    rw [← hr] at C1 C2 C3 hk
    have k1 : (r == 0) = false := beq_eq_false_iff_ne.2 hk
    have k2 : (r != 0) = true := by rw [bne, k1]; rfl
    have k3 : (r == r) = true := beq_self_eq_true r
    have hzi : (0 : Int) < (n : Int) := by omega
    clear hl hok hmax hc hA hn hk he e1 hr hz hn60
    go_enter Tryd.func8, Tryd.ntmps8
    go_wp2_with fail
    refine (C1.out _ HB0.out).mono ?_
    rintro e w1 ⟨v1, rfl, ho, hb⟩
    have HB1 := Lib.hid (HB0.out.trans (hb.mono HB0.out.size))
    clear hb
    obtain ⟨A1, c1, rfl, _, _, _⟩ := own_slice ho
    clear ho
    simp only [List.length_nil]
    go_wp2_with fail
    refine (C2.out _ HB1.out).mono ?_
    rintro e w2 ⟨v2, rfl, ho, hb⟩
    have HB2 := Lib.hid (HB1.out.trans (hb.mono HB1.out.size))
    clear hb
    obtain ⟨A2, c2, rfl, _, _, _⟩ := own_slice ho
    clear ho
    simp only [List.length_nil]
    go_wp2_with fail
    refine (C3.out _ HB2.out).mono ?_
    rintro e w3 ⟨rfl, hb⟩
    have HB3 := Lib.hid (HB2.out.trans (hb.mono HB2.out.size))
    clear hb
    go_wp2_with fail
    refine (C3.out _ HB3.out).mono ?_
    rintro e w4 ⟨rfl, hb⟩
    have HB4 := Lib.hid (HB3.out.trans (hb.mono HB3.out.size))
    clear hb
    go_wp2_with fail
    refine (AW.out _ HB4.out).mono ?_
    rintro e w5 ⟨rfl, hb⟩
    have HB5 := Lib.hid (HB4.out.trans (hb.mono HB4.out.size))
    clear hb
    go_wp2
    go_ret
    exact ⟨by first | rfl | simp, HB5.out⟩
end Go.Proofs.YtilapnejkdgomaaDoor
