/- The walk of the law SnapCuts: true. No condition. -/
import Derived.Test.YtpejhgkcofilmaaRk
import Derived.Test.YtpejhgkcofilmaaPure
set_option linter.unusedVariables false
namespace Go.Proofs.Ytpejhgkcofilmaa
open Go.RowKit

theorem cut_see {s : Sn} (h : ∀ k, Asc (s.L k)) (r t t' c' : Int) (hno : ¬ (c' = r ∧ t' < t ∧ t ≤ s.n)) : (s.cut r t).atV t' c' = s.atV t' c' ∧ (s.cut r t).atB t' c' = s.atB t' c' := by
  have e : seeV ((s.cut r t).L c') t' = seeV (s.L c') t' ∧ seeB ((s.cut r t).L c') t' = seeB (s.L c') t' := by
    show seeV (if c' = r ∧ (decide (0 ≤ r) && decide (r < s.c)) = true ∧ t ≤ s.n then (s.L c').drop (aft (s.L c') t - 1) else s.L c') t' = _ ∧ seeB (if c' = r ∧ (decide (0 ≤ r) && decide (r < s.c)) = true ∧ t ≤ s.n then (s.L c').drop (aft (s.L c') t - 1) else s.L c') t' = _
    split
    · next hh => exact see_cut (s.L c') (h c') t t' (Int.not_lt.1 fun x => hno ⟨hh.1, x, hh.2.2⟩)
    · exact ⟨rfl, rfl⟩
  unfold Sn.atV Sn.atB
  rw [e.1, e.2]
  exact ⟨rfl, rfl⟩
theorem cut_len (s : Sn) (r t k : Int) : ((s.cut r t).L k).length ≤ (s.L k).length := by
  show (if k = r ∧ (decide (0 ≤ r) && decide (r < s.c)) = true ∧ t ≤ s.n then (s.L k).drop (aft (s.L k) t - 1) else s.L k).length ≤ _
  split
  · rw [List.length_drop]; omega
  · exact Nat.le_refl _
theorem meas_one (a j : Int) (h : j < a) : (a - (j + 1)).toNat < (a - j).toNat := by omega

set_option maxRecDepth 100000 in
set_option maxHeartbeats 6400000 in
theorem cuts_great (A : Option Addr) (n c : Nat) (l : List SA) (t a : Int) (w : World) (hl : SAs w (fun _ => True) A n l) (hlen : l.length ≤ 9223372036854775807) (hf : fewB l = false) :
    Calls Try.prog 13 #[.slice A n c, .int .i64 t, .int .u8 a] w fun e w' => e = .returned (.bool true) ∧ Below w.heap.size w w' := by
  have FW := Lib.hid (few28_any A n c l w hl hlen)
  rw [hf] at FW
  clear hl hlen hf
  go_enter Try.func13, Try.ntmps13
  go_wp2_with fail
  refine FW.out.mono ?_
  rintro e w1 ⟨rfl, hb⟩
  have HB1 := Lib.hid hb
  clear hb FW
  go_wp2_with fail
  refine (awake_snap w1).mono ?_
  rintro e w2 ⟨rfl, hb⟩
  have HB := Lib.hid (HB1.out.trans (hb.mono HB1.out.size))
  clear hb HB1
  go_wp2
  go_ret
  exact ⟨rfl, HB.out⟩

set_option maxRecDepth 100000 in
set_option maxHeartbeats 51200000 in
theorem cuts_ok (A : Option Addr) (n c : Nat) (l : List SA) (t a r : Int) (w : World) (hl : SAs w (fun _ => True) A n l) (hlen : l.length ≤ 9223372036854775807) (hf : fewB l = true) (h0 : 0 ≤ a) (h1 : a ≤ 255) (hr : r = a % 4) :
    Calls Try.prog 13 #[.slice A n c, .int .i64 t, .int .u8 a] w fun e w' => e = .returned (.bool true) ∧ Below w.heap.size w w' := by
  have hmod : a.tmod 4 = r := tmod_u8 h0 hr.symm
  have hr0 : 0 ≤ r := by omega
  have hr3 : r ≤ 3 := by omega
  have FW := Lib.hid (few28_any A n c l w hl hlen)
  rw [hf] at FW
  obtain ⟨h60, h8⟩ := few_yes hl hf
  have hrel0 := play_rel 4 l (by omega) l.length (Nat.le_refl _)
  rw [List.take_length] at hrel0
  have PL := Lib.hid fun (w1 : World) (hb : Below w.heap.size w w1) => played_any (S := fun _ => True) 4 A n c l w1 (fun _ _ => trivial) (by omega) (by omega) (hl.below hb) h60 h8
  have HL9 := Lib.hid (show (l.length : Int) ≤ 900 by omega)
  generalize playF 4 l = z at *
  obtain ⟨s, d⟩ := z
  dsimp only at hrel0 PL
  have HREL := Lib.hid hrel0
  have hn0 := hrel0.hn0
  have hnm : s.n ≤ 900 := by have := hrel0.hnm; omega
  have HLB := Lib.hid (show ∀ k : Int, ((s.L k).length : Int) ≤ 901 from fun k => by have := hrel0.hlen k; omega)
  clear hl hlen hf h60 h8 hrel0 hr
  go_enter Try.func13, Try.ntmps13
  go_wp2_with fail
  refine FW.out.mono ?_
  rintro e w1 ⟨rfl, hb⟩
  have HB1 := Lib.hid hb
  clear hb FW
  go_wp2_with fail
  refine (PL.out w1 HB1.out).mono ?_
  rintro e w2 ⟨b1, b2, sa, sv, rfl, hm, hd, hb⟩
  have HB2 := Lib.hid (HB1.out.trans (hb.mono HB1.out.size))
  have HM2 := Lib.hid (hm.more (S' := fun b => b ≠ w2.heap.size ∧ b ≠ w2.heap.size + 1) fun b hb _ => ⟨by omega, by omega⟩)
  have HD2 := Lib.hid (hd.more (S' := fun b => b ≠ w2.heap.size ∧ b ≠ w2.heap.size + 1) fun b hb _ => ⟨by omega, by omega⟩)
  clear hb hm hd HB1 PL
  go_wp2_with (with_reducible refine at_alloc_ (t := 57) ?_; refine alloc_at (S := fun _ => False) rfl rfl ?_)
  intro w3 hp hb hz
  have X7 := Lib.hid hp
  have HB3 := Lib.hid (HB2.out.trans (hb.mono HB2.out.size))
  have HM3 := Lib.hid (HM2.out.below hb)
  have HD3 := Lib.hid (HD2.out.below hb)
  have HZ := Lib.hid hz
  have HQ := Lib.hid HB2.out.size
  clear hp hb hz HB2 HM2 HD2
  go_wp2_with (with_reducible refine at_alloc_ (t := 80) ?_; refine alloc_rd (S := fun _ => False) rfl rfl ?_)
  intro w4 hp hb hz
  rw [HZ.out] at hp
  rw [HZ.out]
  have X8 := Lib.hid hp
  have X7b := Lib.hid (X7.out.below hb)
  have HB4 := Lib.hid (HB3.out.trans (hb.mono HB3.out.size))
  have HM4 := Lib.hid (HM3.out.below hb)
  have HD4 := Lib.hid (HD3.out.below hb)
  clear hp hb hz HZ X7 HB3 HM3 HD3
  generalize w2.heap.size = q at *
  go_wp2_with (with_reducible refine at_store_ (t := 57) ?_; refine Hid.out ?_)
  refine Lib.hid ?_
  refine put_at rfl (.tmp 7) (.tmp 25) rfl rfl q rfl rfl X7b.out HM4.out (fun h => h.1 rfl) ?_
  intro w5 hp ht
  have Y7 := Lib.hid hp
  have X8b := Lib.hid (ht.rat X8.out (by omega) (fun h => h))
  have HD5 := Lib.hid (ht.mem HD4.out (fun h => h.1 rfl))
  have HB5 := Lib.hid (ht.below HB4.out HQ.out)
  clear hp ht X7b HM4 X8 HD4 HB4
  go_wp2_with (with_reducible refine at_store_ (t := 80) ?_; refine Hid.out ?_)
  refine Lib.hid ?_
  refine put_rd rfl (.tmp 8) (.tmp 26) rfl rfl (q + 1) rfl rfl X8b.out HD5.out (fun h => h.2 rfl) ?_
  intro w6 hp ht
  have Y8 := Lib.hid hp
  have Y7b := Lib.hid (ht.at Y7.out (by omega) (fun h => h.2 rfl))
  have HB6 := Lib.hid (ht.below HB5.out (by have := HQ.out; omega))
  clear hp ht X8b HD5 HB5 Y7
  clear Y8
  go_wp2_with (with_reducible refine at_load_ (t := 57) ?_; refine get_at rfl _ rfl q rfl Y7b.out ?_)
  intro b1 b2 hm
  have HM := Lib.hid hm
  clear hm
  try simp only [Act.put, List.setIfInBounds_toArray, List.set_cons_zero, List.set_cons_succ]
  go_wp2_with fail
  refine (st_cut (S := fun _ => True) (s := s) (b1 := b1) (b2 := b2) (w := w6) r t (fun _ _ => trivial) (HM.out.more fun _ _ _ => trivial) (HREL.out.hA _) (HREL.out.few HL9.out _)).mono ?_
  rintro e w7 ⟨b5, b6, rfl, hm, hb⟩
  have P5 := Lib.hid (Y7b.out.below hb)
  have HB5 := Lib.hid (HB6.out.trans (hb.mono HB6.out.size))
  clear Y7b HB6
  clear hb HM
  have HMn := Lib.hid (hm.more (S' := fun b => b ≠ w7.heap.size) fun b hb _ => by omega)
  clear hm
  have HZo := Lib.hid (show w.heap.size ≤ w7.heap.size from HB5.out.size)
  go_wp2_with (with_reducible refine at_alloc_ (t := 57) ?_; refine alloc_at (S := fun _ => False) rfl rfl ?_)
  intro w8 hp hb hz
  have RN := Lib.hid hp
  have HMm := Lib.hid (HMn.out.below hb)
  have HBB := Lib.hid hb
  clear hp hb hz HMn
  go_wp2_with (with_reducible refine at_store_ (t := 57) ?_; refine Hid.out ?_)
  refine Lib.hid ?_
  refine put_at rfl (.tmp 11) (.tmp 36) rfl rfl w7.heap.size rfl rfl RN.out HMm.out (fun h => h rfl) ?_
  intro w9 hp ht
  have hbb := ht.below HBB.out (Nat.le_refl _)
  have P7 := Lib.hid (P5.out.below hbb)
  have HB7 := Lib.hid (HB5.out.trans (hbb.mono HB5.out.size))
  clear P5 HB5
  have X := Lib.hid hp
  clear hp ht hbb RN HMm HBB
  generalize w7.heap.size = o at *
  have HAX := Lib.hid (fun t' c' => cut_see (s := s) HREL.out.hA r t t' c')
  have HLX := Lib.hid (cut_len s r t)
  have HRX := Lib.hid (HREL.out.cut r t)
  have EN := Lib.hid (show (s.cut r t).n = s.n from rfl)
  have EB := Lib.hid (show (s.cut r t).B = s.B from rfl)
  have ET := Lib.hid (show (s.cut r t).T = s.T from rfl)
  generalize s.cut r t = x at *
  go_wp2
  go_loopw [37] (fun i wr => ∃ k : Nat, k ≤ 4 ∧ i = .int .i64 k ∧ Hid (s.At wr (fun b => b ≠ q ∧ b ≠ q + 1) q) ∧ Hid (x.At wr (fun b => b ≠ o) o) ∧ Hid (Below w.heap.size w wr)) (fun i _ => 4 - (intOf i).toNat)
  case atStart => exact ⟨0, by omega, rfl, P7, X, HB7⟩
  case round =>
    clear P7 X HB7
    obtain ⟨k, hk, rfl, P, X, HB⟩ := hrel
    by_cases hlt : k < 4
    · skip
      have hki : (k : Int) < 4 := by omega
      have HK := Lib.hid hlt
      clear hk hlt
      go_wp2_with (with_reducible refine at_load_ (t := 57) ?_; refine get_at rfl _ rfl q rfl P.out ?_)
      intro b1 b2 hm
      have HM := Lib.hid hm
      clear hm
      try simp only [Act.put, List.setIfInBounds_toArray, List.set_cons_zero, List.set_cons_succ]
      go_wp2_with fail
      refine (st_now (s := s) (b1 := b1) (b2 := b2) wr).mono ?_
      rintro e wa ⟨rfl, hb⟩
      have Pa := Lib.hid (P.out.below hb)
      have Xa := Lib.hid (X.out.below hb)
      have HBa := Lib.hid (HB.out.trans (hb.mono HB.out.size))
      clear P X HB
      clear hb HM
      go_wp2
      go_loopw [43] (fun i wr => ∃ j : Nat, (j : Int) ≤ s.n + 1 ∧ i = .int .i64 j ∧ Hid (s.At wr (fun b => b ≠ q ∧ b ≠ q + 1) q) ∧ Hid (x.At wr (fun b => b ≠ o) o) ∧ Hid (Below w.heap.size w wr)) (fun i _ => (s.n + 1 - intOf i).toNat)
      case atStart => exact ⟨0, by omega, rfl, Pa, Xa, HBa⟩
      case round =>
        clear Pa Xa HBa
        obtain ⟨j, hj, rfl, P, X, HB⟩ := hrel
        by_cases hjn : (j : Int) < s.n + 1
        · skip
          have HJ := Lib.hid hjn
          clear hj
          by_cases hkr : (k : Int) = r
          · skip
            subst hkr
            by_cases hjt : (j : Int) < t
            · skip
              have hd1 : decide ((j : Int) < t) = true := decide_eq_true hjt
              by_cases htn : t ≤ s.n
              · skip
                have hd2 : decide (t ≤ s.n) = true := decide_eq_true htn
                go_wp2_with (with_reducible refine at_load_ (t := 57) ?_; refine Hid.out ?_)
                refine Lib.hid ?_
                refine get_at_g (by kernel_rfl) (.tmp 7) rfl q rfl P.out ?_
                intro b1 b2 hm
                have HM := Lib.hid hm
                clear hm
                try simp only [Act.put, List.setIfInBounds_toArray, List.set_cons_zero, List.set_cons_succ]
                go_wp2_with fail
                refine (st_now (s := s) (b1 := b1) (b2 := b2) wr).mono ?_
                rintro e wn ⟨rfl, hb⟩
                have Pn := Lib.hid (P.out.below hb)
                have Xn := Lib.hid (X.out.below hb)
                have HBn := Lib.hid (HB.out.trans (hb.mono HB.out.size))
                clear P X HB
                clear hb HM
                go_wp2
                go_roundw
                case rel => exact ⟨j + 1, by have := HJ.out; omega, by go_num, Pn, Xn, HBn⟩
                case measure => exact meas_one _ _ HJ.out
              · skip
                have hd2 : decide (t ≤ s.n) = false := decide_eq_false htn
                have HTN := Lib.hid htn
                go_wp2_with (with_reducible refine at_load_ (t := 57) ?_; refine Hid.out ?_)
                refine Lib.hid ?_
                refine get_at_g (by kernel_rfl) (.tmp 7) rfl q rfl P.out ?_
                intro b1 b2 hm
                have HM := Lib.hid hm
                clear hm
                try simp only [Act.put, List.setIfInBounds_toArray, List.set_cons_zero, List.set_cons_succ]
                go_wp2_with fail
                refine (st_now (s := s) (b1 := b1) (b2 := b2) wr).mono ?_
                rintro e wn ⟨rfl, hb⟩
                have Pn := Lib.hid (P.out.below hb)
                have Xn := Lib.hid (X.out.below hb)
                have HBn := Lib.hid (HB.out.trans (hb.mono HB.out.size))
                clear P X HB
                clear hb HM
                have HNO := Lib.hid (HAX.out (j : Int) (k : Int) (fun y => by have := HTN.out; omega))
                go_wp2_with (with_reducible refine at_load_ (t := 57) ?_; refine get_at rfl _ rfl q rfl Pn.out ?_)
                intro b1 b2 hm
                have HM := Lib.hid hm
                clear hm
                try simp only [Act.put, List.setIfInBounds_toArray, List.set_cons_zero, List.set_cons_succ]
                go_wp2_with fail
                refine (st_at (S := fun _ => True) (s := s) (j : Int) (k : Int) (fun _ _ => trivial) (HM.out.more fun _ _ _ => trivial) (HREL.out.hA _) (HREL.out.few HL9.out _)).mono ?_
                rintro e wx ⟨rfl, hb⟩
                have Px := Lib.hid (Pn.out.below hb)
                have Xx := Lib.hid (Xn.out.below hb)
                have HBx := Lib.hid (HBn.out.trans (hb.mono HBn.out.size))
                clear Pn Xn HBn
                clear hb HM
                go_wp2_with (with_reducible refine at_load_ (t := 57) ?_; refine get_at rfl _ rfl o rfl Xx.out ?_)
                intro b1 b2 hm
                have HM := Lib.hid hm
                clear hm
                try simp only [Act.put, List.setIfInBounds_toArray, List.set_cons_zero, List.set_cons_succ]
                go_wp2_with fail
                refine (st_at (S := fun _ => True) (s := x) (j : Int) (k : Int) (fun _ _ => trivial) (HM.out.more fun _ _ _ => trivial) (HRX.out.hA _) (HRX.out.few HL9.out _)).mono ?_
                rintro e wy ⟨rfl, hb⟩
                have Py := Lib.hid (Px.out.below hb)
                have Xy := Lib.hid (Xx.out.below hb)
                have HBy := Lib.hid (HBx.out.trans (hb.mono HBx.out.size))
                clear Px Xx HBx
                clear hb HM
                rw [HNO.out.1, HNO.out.2]
                clear HNO
                generalize s.atV (j : Int) (k : Int) = av at *
                generalize s.atB (j : Int) (k : Int) = ab at *
                go_wp2
                go_roundw
                case rel => exact ⟨j + 1, by have := HJ.out; omega, by go_num, Py, Xy, HBy⟩
                case measure => exact meas_one _ _ HJ.out
            · skip
              have hd1 : decide ((j : Int) < t) = false := decide_eq_false hjt
              have HJT := Lib.hid hjt
              have HNO := Lib.hid (HAX.out (j : Int) (k : Int) (fun y => by have := HJT.out; omega))
              go_wp2_with (with_reducible refine at_load_ (t := 57) ?_; refine get_at rfl _ rfl q rfl P.out ?_)
              intro b1 b2 hm
              have HM := Lib.hid hm
              clear hm
              try simp only [Act.put, List.setIfInBounds_toArray, List.set_cons_zero, List.set_cons_succ]
              go_wp2_with fail
              refine (st_at (S := fun _ => True) (s := s) (j : Int) (k : Int) (fun _ _ => trivial) (HM.out.more fun _ _ _ => trivial) (HREL.out.hA _) (HREL.out.few HL9.out _)).mono ?_
              rintro e wx ⟨rfl, hb⟩
              have Px := Lib.hid (P.out.below hb)
              have Xx := Lib.hid (X.out.below hb)
              have HBx := Lib.hid (HB.out.trans (hb.mono HB.out.size))
              clear P X HB
              clear hb HM
              go_wp2_with (with_reducible refine at_load_ (t := 57) ?_; refine get_at rfl _ rfl o rfl Xx.out ?_)
              intro b1 b2 hm
              have HM := Lib.hid hm
              clear hm
              try simp only [Act.put, List.setIfInBounds_toArray, List.set_cons_zero, List.set_cons_succ]
              go_wp2_with fail
              refine (st_at (S := fun _ => True) (s := x) (j : Int) (k : Int) (fun _ _ => trivial) (HM.out.more fun _ _ _ => trivial) (HRX.out.hA _) (HRX.out.few HL9.out _)).mono ?_
              rintro e wy ⟨rfl, hb⟩
              have Py := Lib.hid (Px.out.below hb)
              have Xy := Lib.hid (Xx.out.below hb)
              have HBy := Lib.hid (HBx.out.trans (hb.mono HBx.out.size))
              clear Px Xx HBx
              clear hb HM
              rw [HNO.out.1, HNO.out.2]
              clear HNO
              generalize s.atV (j : Int) (k : Int) = av at *
              generalize s.atB (j : Int) (k : Int) = ab at *
              go_wp2
              go_roundw
              case rel => exact ⟨j + 1, by have := HJ.out; omega, by go_num, Py, Xy, HBy⟩
              case measure => exact meas_one _ _ HJ.out
          · skip
            have hd0 : decide ((k : Int) = r) = false := decide_eq_false hkr
            have HNO := Lib.hid (HAX.out (j : Int) (k : Int) (fun y => hkr y.1))
            go_wp2_with (with_reducible refine at_load_ (t := 57) ?_; refine get_at rfl _ rfl q rfl P.out ?_)
            intro b1 b2 hm
            have HM := Lib.hid hm
            clear hm
            try simp only [Act.put, List.setIfInBounds_toArray, List.set_cons_zero, List.set_cons_succ]
            go_wp2_with fail
            refine (st_at (S := fun _ => True) (s := s) (j : Int) (k : Int) (fun _ _ => trivial) (HM.out.more fun _ _ _ => trivial) (HREL.out.hA _) (HREL.out.few HL9.out _)).mono ?_
            rintro e wx ⟨rfl, hb⟩
            have Px := Lib.hid (P.out.below hb)
            have Xx := Lib.hid (X.out.below hb)
            have HBx := Lib.hid (HB.out.trans (hb.mono HB.out.size))
            clear P X HB
            clear hb HM
            go_wp2_with (with_reducible refine at_load_ (t := 57) ?_; refine get_at rfl _ rfl o rfl Xx.out ?_)
            intro b1 b2 hm
            have HM := Lib.hid hm
            clear hm
            try simp only [Act.put, List.setIfInBounds_toArray, List.set_cons_zero, List.set_cons_succ]
            go_wp2_with fail
            refine (st_at (S := fun _ => True) (s := x) (j : Int) (k : Int) (fun _ _ => trivial) (HM.out.more fun _ _ _ => trivial) (HRX.out.hA _) (HRX.out.few HL9.out _)).mono ?_
            rintro e wy ⟨rfl, hb⟩
            have Py := Lib.hid (Px.out.below hb)
            have Xy := Lib.hid (Xx.out.below hb)
            have HBy := Lib.hid (HBx.out.trans (hb.mono HBx.out.size))
            clear Px Xx HBx
            clear hb HM
            rw [HNO.out.1, HNO.out.2]
            clear HNO
            generalize s.atV (j : Int) (k : Int) = av at *
            generalize s.atB (j : Int) (k : Int) = ab at *
            go_wp2
            go_roundw
            case rel => exact ⟨j + 1, by have := HJ.out; omega, by go_num, Py, Xy, HBy⟩
            case measure => exact meas_one _ _ HJ.out
        · skip
          have hji : s.n + 1 ≤ (j : Int) := by omega
          clear hj hjn
          go_wp2
          go_roundw
          case rel => exact ⟨k + 1, HK.out, by go_num, P, X, HB⟩
          case measure => exact meas_up _ _ HK.out
    · skip
      have hki : (4 : Int) ≤ (k : Int) := by omega
      clear hk hlt
      go_wp2_with fail
      obtain ⟨c1, c2, p0, hm0⟩ := P.out
      obtain ⟨d1, d2, p1, hm1⟩ := X.out
      have HM0 := Lib.hid (hm0.more (S' := fun _ => True) fun _ _ _ => trivial)
      have HM1 := Lib.hid (hm1.more (S' := fun _ => True) fun _ _ _ => trivial)
      refine wp_region_held_drew (S := fun W => W.heap[q]? = some (.cells (stoCells s.c s.n (.map c1) (.map c2) s.B s.T) 57 (0, 0)) ∧ W.heap[o]? = some (.cells (stoCells x.c x.n (.map d1) (.map d2) x.B x.T) 57 (0, 0))) (by kernel_rfl) ⟨p0, p1⟩ (fun hHeld => ?_)
      have HHD := Lib.hid hHeld
      have hbd : Below wr.heap.size wr wr.drew := (Below.refl _ _).drew
      have HBd := Lib.hid (HB.out.trans (hbd.mono HB.out.size))
      have M0d := Lib.hid (HM0.out.below hbd)
      have M1d := Lib.hid (HM1.out.below hbd)
      clear HB HM0 HM1
      clear hHeld hbd p0 p1 hm0 hm1 P X
      generalize wr.drew = wd at *
      refine wpAnyH_ready (rs := [0]) (by kernel_rfl) (by simp) ?_
      refine AllReadyH.cons (o := ⟨some 84, _, _, _, _, _⟩) rfl (fun K hK => ?_) (AllReadyH.nil)
      go_simp
      refine (awake_snap wd).mono ?_
      rintro e we ⟨rfl, hb⟩
      have HHE := Lib.hid (And.intro ((hb.block q (lt_of_block HHD.out.1)).trans HHD.out.1) ((hb.block o (lt_of_block HHD.out.2)).trans HHD.out.2))
      have HBe := Lib.hid (HBd.out.trans (hb.mono HBd.out.size))
      have M0e := Lib.hid (M0d.out.below hb)
      have M1e := Lib.hid (M1d.out.below hb)
      clear HBd M0d M1d HHD
      clear hb
      refine hK.out _ _ HHE.out (fun hHeldq => ?_)
      clear hK hHeldq
      try simp only [Act.put, List.setIfInBounds_toArray, List.set_cons_zero, List.set_cons_succ]
      refine wpAnyH_take (i := 1) (oi := ⟨some 85, _, _, _, _, _⟩) (v := .bool true) rfl (by kernel_rfl) (by kernel_rfl) (by kernel_rfl) (fun _ _ _ h => h) (Or.inl ⟨by rfl, ?_⟩) HHE.out ?_
      · intro W' hW
        go_simp
      try simp only [Act.put, List.setIfInBounds_toArray, List.set_cons_zero, List.set_cons_succ]
      refine wpAnyH_take (i := 2) (oi := ⟨some 86, _, _, _, _, _⟩) (v := x.val d1 d2) rfl (by kernel_rfl) (by kernel_rfl) (by kernel_rfl) (fun _ _ _ h => h) (yields_sto (by kernel_rfl) _ rfl o rfl 57 (0, 0) (fun _ h => h.2)) HHE.out ?_
      try simp only [Act.put, List.setIfInBounds_toArray, List.set_cons_zero, List.set_cons_succ]
      refine wpAnyH_take (i := 4) (oi := ⟨some 88, _, _, _, _, _⟩) (v := s.val c1 c2) rfl (by kernel_rfl) (by kernel_rfl) (by kernel_rfl) (fun _ _ _ h => h) (yields_sto (by kernel_rfl) _ rfl q rfl 57 (0, 0) (fun _ h => h.1)) HHE.out ?_
      try simp only [Act.put, List.setIfInBounds_toArray, List.set_cons_zero, List.set_cons_succ]
      refine wpAnyH_ready (rs := [3]) (by kernel_rfl) (by simp) ?_
      refine AllReadyH.cons (o := ⟨some 87, _, _, _, _, _⟩) rfl (fun K hK => ?_) (AllReadyH.nil)
      go_simp
      refine (st_now (s := x) (b1 := d1) (b2 := d2) we).mono ?_
      rintro e wf ⟨he, hb⟩
      rw [EN.out] at he
      subst he
      have HHF := Lib.hid (And.intro ((hb.block q (lt_of_block HHE.out.1)).trans HHE.out.1) ((hb.block o (lt_of_block HHE.out.2)).trans HHE.out.2))
      have HBf := Lib.hid (HBe.out.trans (hb.mono HBe.out.size))
      have M0f := Lib.hid (M0e.out.below hb)
      have M1f := Lib.hid (M1e.out.below hb)
      clear HBe M0e M1e HHE
      clear hb
      refine hK.out _ _ HHF.out (fun hHeldq => ?_)
      clear hK hHeldq
      try simp only [Act.put, List.setIfInBounds_toArray, List.set_cons_zero, List.set_cons_succ]
      refine wpAnyH_ready (rs := [5]) (by kernel_rfl) (by simp) ?_
      refine AllReadyH.cons (o := ⟨some 89, _, _, _, _, _⟩) rfl (fun K hK => ?_) (AllReadyH.nil)
      go_simp
      refine (st_now (s := s) (b1 := c1) (b2 := c2) wf).mono ?_
      rintro e wg ⟨rfl, hb⟩
      have HHG := Lib.hid (And.intro ((hb.block q (lt_of_block HHF.out.1)).trans HHF.out.1) ((hb.block o (lt_of_block HHF.out.2)).trans HHF.out.2))
      have HBg := Lib.hid (HBf.out.trans (hb.mono HBf.out.size))
      have M0g := Lib.hid (M0f.out.below hb)
      have M1g := Lib.hid (M1f.out.below hb)
      clear HBf M0f M1f HHF
      clear hb
      refine hK.out _ _ HHG.out (fun hHeldq => ?_)
      clear hK hHeldq
      try simp only [Act.put, List.setIfInBounds_toArray, List.set_cons_zero, List.set_cons_succ]
      refine wpAnyH_take (i := 6) (oi := ⟨some 90, _, _, _, _, _⟩) (v := .bool true) rfl (by kernel_rfl) (by kernel_rfl) (by kernel_rfl) (fun _ _ _ h => h) (Or.inl ⟨by rfl, ?_⟩) HHG.out ?_
      · intro W' hW
        go_simp
      try simp only [Act.put, List.setIfInBounds_toArray, List.set_cons_zero, List.set_cons_succ]
      refine wpAnyH_take (i := 7) (oi := ⟨some 91, _, _, _, _, _⟩) (v := .bool true) rfl (by kernel_rfl) (by kernel_rfl) (by kernel_rfl) (fun _ _ _ h => h) (Or.inl ⟨by rfl, ?_⟩) HHG.out ?_
      · intro W' hW
        go_simp
      try simp only [Act.put, List.setIfInBounds_toArray, List.set_cons_zero, List.set_cons_succ]
      refine wpAnyH_take (i := 8) (oi := ⟨some 92, _, _, _, _, _⟩) (v := .bool true) rfl (by kernel_rfl) (by kernel_rfl) (by kernel_rfl) (fun _ _ _ h => h) (Or.inl ⟨by rfl, ?_⟩) HHG.out ?_
      · intro W' hW
        go_simp
      try simp only [Act.put, List.setIfInBounds_toArray, List.set_cons_zero, List.set_cons_succ]
      refine wpAnyH_take (i := 9) (oi := ⟨some 93, _, _, _, _, _⟩) (v := x.val d1 d2) rfl (by kernel_rfl) (by kernel_rfl) (by kernel_rfl) (fun _ _ _ h => h) (yields_sto (by kernel_rfl) _ rfl o rfl 57 (0, 0) (fun _ h => h.2)) HHG.out ?_
      try simp only [Act.put, List.setIfInBounds_toArray, List.set_cons_zero, List.set_cons_succ]
      refine wpAnyH_take (i := 12) (oi := ⟨some 96, _, _, _, _, _⟩) (v := s.val c1 c2) rfl (by kernel_rfl) (by kernel_rfl) (by kernel_rfl) (fun _ _ _ h => h) (yields_sto (by kernel_rfl) _ rfl q rfl 57 (0, 0) (fun _ h => h.1)) HHG.out ?_
      try simp only [Act.put, List.setIfInBounds_toArray, List.set_cons_zero, List.set_cons_succ]
      refine wpAnyH_ready (rs := [10]) (by kernel_rfl) (by simp) ?_
      refine AllReadyH.cons (o := ⟨some 94, _, _, _, _, _⟩) rfl (fun K hK => ?_) (AllReadyH.nil)
      go_simp
      refine (st_readers (s := x) (b1 := d1) (b2 := d2) wg).mono ?_
      rintro e wh ⟨v, rfl, ho, hb⟩
      obtain ⟨xA, xc, rfl, g1, g2, g3⟩ := own_reads ho (S := fun _ => True) (fun b hb => trivial)
      have xL := rdL_le x.B x.T 8
      generalize hx : (rdL x.B x.T 8).length = xm at *
      rw [EB.out, ET.out] at hx
      have xE := Lib.hid hx
      have xb : (xm : Int) ≤ 8 := by omega
      have HHH := Lib.hid (And.intro ((hb.block q (lt_of_block HHG.out.1)).trans HHG.out.1) ((hb.block o (lt_of_block HHG.out.2)).trans HHG.out.2))
      have HBh := Lib.hid (HBg.out.trans (hb.mono HBg.out.size))
      have M0h := Lib.hid (M0g.out.below hb)
      have M1h := Lib.hid (M1g.out.below hb)
      clear HBg M0g M1g HHG
      clear hb ho g1 g2 g3 xL hx
      refine hK.out _ _ HHH.out (fun hHeldq => ?_)
      clear hK hHeldq
      try simp only [Act.put, List.setIfInBounds_toArray, List.set_cons_zero, List.set_cons_succ]
      refine wpAnyH_take (i := 11) (oi := ⟨some 95, _, _, _, _, _⟩) (v := .int .i64 xm) rfl (by kernel_rfl) (by kernel_rfl) (by kernel_rfl) (fun _ _ _ h => h) (Or.inl ⟨by rfl, ?_⟩) HHH.out ?_
      · intro W' hW
        go_simp
      try simp only [Act.put, List.setIfInBounds_toArray, List.set_cons_zero, List.set_cons_succ]
      refine wpAnyH_ready (rs := [13]) (by kernel_rfl) (by simp) ?_
      refine AllReadyH.cons (o := ⟨some 97, _, _, _, _, _⟩) rfl (fun K hK => ?_) (AllReadyH.nil)
      go_simp
      refine (st_readers (s := s) (b1 := c1) (b2 := c2) wh).mono ?_
      rintro e wi ⟨v, rfl, ho, hb⟩
      obtain ⟨yA, yc, rfl, g1, g2, g3⟩ := own_reads ho (S := fun _ => True) (fun b hb => trivial)
      have yL := rdL_le s.B s.T 8
      generalize hy : (rdL s.B s.T 8).length = ym at *
      have yE := Lib.hid hy
      have yb : (ym : Int) ≤ 8 := by omega
      have HHI := Lib.hid (And.intro ((hb.block q (lt_of_block HHH.out.1)).trans HHH.out.1) ((hb.block o (lt_of_block HHH.out.2)).trans HHH.out.2))
      have HBi := Lib.hid (HBh.out.trans (hb.mono HBh.out.size))
      have M0i := Lib.hid (M0h.out.below hb)
      have M1i := Lib.hid (M1h.out.below hb)
      clear HBh M0h M1h HHH
      clear hb ho g1 g2 g3 yL hy
      refine hK.out _ _ HHI.out (fun hHeldq => ?_)
      clear hK hHeldq
      try simp only [Act.put, List.setIfInBounds_toArray, List.set_cons_zero, List.set_cons_succ]
      obtain rfl : xm = ym := by have := xE.out; have := yE.out; omega
      refine wpAnyH_take (i := 14) (oi := ⟨some 98, _, _, _, _, _⟩) (v := .int .i64 xm) rfl (by kernel_rfl) (by kernel_rfl) (by kernel_rfl) (fun _ _ _ h => h) (Or.inl ⟨by rfl, ?_⟩) HHI.out ?_
      · intro W' hW
        go_simp
      try simp only [Act.put, List.setIfInBounds_toArray, List.set_cons_zero, List.set_cons_succ]
      refine wpAnyH_take (i := 15) (oi := ⟨some 99, _, _, _, _, _⟩) (v := .bool true) rfl (by kernel_rfl) (by kernel_rfl) (by kernel_rfl) (fun _ _ _ h => h) (Or.inl ⟨by rfl, ?_⟩) HHI.out ?_
      · intro W' hW
        go_simp
      try simp only [Act.put, List.setIfInBounds_toArray, List.set_cons_zero, List.set_cons_succ]
      refine wpAnyH_take (i := 16) (oi := ⟨some 100, _, _, _, _, _⟩) (v := .bool true) rfl (by kernel_rfl) (by kernel_rfl) (by kernel_rfl) (fun _ _ _ h => h) (Or.inl ⟨by rfl, ?_⟩) HHI.out ?_
      · intro W' hW
        go_simp
      try simp only [Act.put, List.setIfInBounds_toArray, List.set_cons_zero, List.set_cons_succ]
      refine wpAnyH_take (i := 17) (oi := ⟨some 101, _, _, _, _, _⟩) (v := .bool true) rfl (by kernel_rfl) (by kernel_rfl) (by kernel_rfl) (fun _ _ _ h => h) (Or.inl ⟨by rfl, ?_⟩) HHI.out ?_
      · intro W' hW
        go_simp
      try simp only [Act.put, List.setIfInBounds_toArray, List.set_cons_zero, List.set_cons_succ]
      refine wpAnyH_take (i := 18) (oi := ⟨some 102, _, _, _, _, _⟩) (v := x.val d1 d2) rfl (by kernel_rfl) (by kernel_rfl) (by kernel_rfl) (fun _ _ _ h => h) (yields_sto (by kernel_rfl) _ rfl o rfl 57 (0, 0) (fun _ h => h.2)) HHI.out ?_
      try simp only [Act.put, List.setIfInBounds_toArray, List.set_cons_zero, List.set_cons_succ]
      refine wpAnyH_take (i := 19) (oi := ⟨some 103, _, _, _, _, _⟩) (v := .int .i64 r) rfl (by kernel_rfl) (by kernel_rfl) (by kernel_rfl) (fun _ _ _ h => h) (Or.inl ⟨by rfl, ?_⟩) HHI.out ?_
      · intro W' hW
        go_simp
      try simp only [Act.put, List.setIfInBounds_toArray, List.set_cons_zero, List.set_cons_succ]
      refine wpAnyH_take (i := 22) (oi := ⟨some 106, _, _, _, _, _⟩) (v := s.val c1 c2) rfl (by kernel_rfl) (by kernel_rfl) (by kernel_rfl) (fun _ _ _ h => h) (yields_sto (by kernel_rfl) _ rfl q rfl 57 (0, 0) (fun _ h => h.1)) HHI.out ?_
      try simp only [Act.put, List.setIfInBounds_toArray, List.set_cons_zero, List.set_cons_succ]
      refine wpAnyH_take (i := 23) (oi := ⟨some 107, _, _, _, _, _⟩) (v := .int .i64 r) rfl (by kernel_rfl) (by kernel_rfl) (by kernel_rfl) (fun _ _ _ h => h) (Or.inl ⟨by rfl, ?_⟩) HHI.out ?_
      · intro W' hW
        go_simp
      try simp only [Act.put, List.setIfInBounds_toArray, List.set_cons_zero, List.set_cons_succ]
      refine wpAnyH_ready (rs := [20]) (by kernel_rfl) (by simp) ?_
      refine AllReadyH.cons (o := ⟨some 104, _, _, _, _, _⟩) rfl (fun K hK => ?_) (AllReadyH.nil)
      go_simp
      refine (st_list (S := fun _ => True) (s := x) (b1 := d1) (b2 := d2) (w := wi) r (fun _ _ => trivial) M1i.out).mono ?_
      rintro e wj ⟨u, rfl, ⟨uA, un, uc, rfl, _, _, hv⟩, hb⟩
      have uN := Lib.hid hv.1
      have HHJ := Lib.hid (And.intro ((hb.block q (lt_of_block HHI.out.1)).trans HHI.out.1) ((hb.block o (lt_of_block HHI.out.2)).trans HHI.out.2))
      have HBj := Lib.hid (HBi.out.trans (hb.mono HBi.out.size))
      have M0j := Lib.hid (M0i.out.below hb)
      have M1j := Lib.hid (M1i.out.below hb)
      clear HBi M0i M1i HHI
      clear hb hv
      refine hK.out _ _ HHJ.out (fun hHeldq => ?_)
      clear hK hHeldq
      try simp only [Act.put, List.setIfInBounds_toArray, List.set_cons_zero, List.set_cons_succ]
      refine wpAnyH_ready (rs := [21]) (by kernel_rfl) (by simp) ?_
      refine AllReadyH.cons (o := ⟨some 105, _, _, _, _, _⟩) rfl (fun K hK => ?_) (AllReadyH.nil)
      go_simp
      refine (len_any uA un uc wj).mono ?_
      rintro e wk ⟨rfl, hb⟩
      have HHK := Lib.hid (And.intro ((hb.block q (lt_of_block HHJ.out.1)).trans HHJ.out.1) ((hb.block o (lt_of_block HHJ.out.2)).trans HHJ.out.2))
      have HBj2 := Lib.hid (HBj.out.trans (hb.mono HBj.out.size))
      have M0j2 := Lib.hid (M0j.out.below hb)
      have M1j2 := Lib.hid (M1j.out.below hb)
      clear HBj M0j M1j HHJ
      clear hb
      refine hK.out _ _ HHK.out (fun hHeldq => ?_)
      clear hK hHeldq
      try simp only [Act.put, List.setIfInBounds_toArray, List.set_cons_zero, List.set_cons_succ]
      refine wpAnyH_ready (rs := [24]) (by kernel_rfl) (by simp) ?_
      refine AllReadyH.cons (o := ⟨some 108, _, _, _, _, _⟩) rfl (fun K hK => ?_) (AllReadyH.nil)
      go_simp
      refine (st_list (S := fun _ => True) (s := s) (b1 := c1) (b2 := c2) (w := wk) r (fun _ _ => trivial) M0j2.out).mono ?_
      rintro e wl ⟨u, rfl, ⟨vA, vn, vc, rfl, _, _, hv⟩, hb⟩
      have vN := Lib.hid hv.1
      have HHL := Lib.hid (And.intro ((hb.block q (lt_of_block HHK.out.1)).trans HHK.out.1) ((hb.block o (lt_of_block HHK.out.2)).trans HHK.out.2))
      have HBl := Lib.hid (HBj2.out.trans (hb.mono HBj2.out.size))
      have M0l := Lib.hid (M0j2.out.below hb)
      have M1l := Lib.hid (M1j2.out.below hb)
      clear HBj2 M0j2 M1j2 HHK
      clear hb hv
      refine hK.out _ _ HHL.out (fun hHeldq => ?_)
      clear hK hHeldq
      try simp only [Act.put, List.setIfInBounds_toArray, List.set_cons_zero, List.set_cons_succ]
      refine wpAnyH_ready (rs := [25]) (by kernel_rfl) (by simp) ?_
      refine AllReadyH.cons (o := ⟨some 109, _, _, _, _, _⟩) rfl (fun K hK => ?_) (AllReadyH.nil)
      go_simp
      refine (len_any vA vn vc wl).mono ?_
      rintro e wm ⟨rfl, hb⟩
      have HHM := Lib.hid (And.intro ((hb.block q (lt_of_block HHL.out.1)).trans HHL.out.1) ((hb.block o (lt_of_block HHL.out.2)).trans HHL.out.2))
      have HBl2 := Lib.hid (HBl.out.trans (hb.mono HBl.out.size))
      have M0l2 := Lib.hid (M0l.out.below hb)
      have M1l2 := Lib.hid (M1l.out.below hb)
      clear HBl M0l M1l HHL
      clear hb
      refine hK.out _ _ HHM.out (fun hHeldq => ?_)
      clear hK hHeldq
      try simp only [Act.put, List.setIfInBounds_toArray, List.set_cons_zero, List.set_cons_succ]
      have hle : un ≤ vn := by have := HLX.out r; have := uN.out; have := vN.out; omega
      have hlei : (un : Int) ≤ (vn : Int) := by omega
      clear hle
      refine wpAnyH_take (i := 26) (oi := ⟨some 110, _, _, _, _, _⟩) (v := .bool true) rfl (by kernel_rfl) (by kernel_rfl) (by kernel_rfl) (fun _ _ _ h => h) (Or.inl ⟨by rfl, ?_⟩) HHM.out ?_
      · intro W' hW
        go_simp
      try simp only [Act.put, List.setIfInBounds_toArray, List.set_cons_zero, List.set_cons_succ]
      refine wpAnyH_take (i := 27) (oi := ⟨some 111, _, _, _, _, _⟩) (v := .bool true) rfl (by kernel_rfl) (by kernel_rfl) (by kernel_rfl) (fun _ _ _ h => h) (Or.inl ⟨by rfl, ?_⟩) HHM.out ?_
      · intro W' hW
        go_simp
      try simp only [Act.put, List.setIfInBounds_toArray, List.set_cons_zero, List.set_cons_succ]
      refine wpAnyH_take (i := 28) (oi := ⟨some 6, _, _, _, _, _⟩) (v := .bool true) rfl (by kernel_rfl) (by kernel_rfl) (by kernel_rfl) (fun _ _ _ h => h) (Or.inl ⟨by rfl, ?_⟩) HHM.out ?_
      · intro W' hW
        go_simp
      try simp only [Act.put, List.setIfInBounds_toArray, List.set_cons_zero, List.set_cons_succ]
      refine wpAnyH_done (by kernel_rfl) ?_ _
      clear HHM M0l2 M1l2
      go_wp2
      go_ret
      exact ⟨by first | rfl | simp, HBl2.out⟩
theorem cuts_any (A : Option Addr) (n c : Nat) (l : List SA) (t a : Int) (w : World) (hl : SAs w (fun _ => True) A n l) (hlen : l.length ≤ 9223372036854775807) (h0 : 0 ≤ a) (h1 : a ≤ 255) :
    Calls Try.prog 13 #[.slice A n c, .int .i64 t, .int .u8 a] w fun e w' => e = .returned (.bool true) ∧ Below w.heap.size w w' := by
  cases hf : fewB l with
  | false => exact cuts_great A n c l t a w hl hlen hf
  | true => exact cuts_ok A n c l t a (a % 4) w hl hlen hf h0 h1 rfl
end Go.Proofs.Ytpejhgkcofilmaa
