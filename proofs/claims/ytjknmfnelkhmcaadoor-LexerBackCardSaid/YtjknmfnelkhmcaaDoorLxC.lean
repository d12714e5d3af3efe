/- The walk of the lexer's blank. Condition: at most 65536 bytes. -/
import Derived.Test.YtjknmfnelkhmcaaDoorLxB
import Derived.WalkMore
set_option linter.unusedVariables false
set_option linter.unusedSimpArgs false
namespace Go.Proofs.YtjknmfnelkhmcaaDoor
open Go.RowKit

theorem meas_up (n k : Nat) (h : k < n) : n - ((k : Int) + 1).toNat < n - ((k : Int)).toNat := by omega
theorem blank_step {l : List UInt8} {k : Nat} (hk : k < l.length) (h : blankA false l = k + blankA false (l.drop k)) (hw : wsB l[k] = true) : blankA false l = (k + 1) + blankA false (l.drop (k + 1)) := by
  rw [List.drop_eq_getElem_cons hk] at h
  simp only [blankA, hw, if_true] at h
  omega
theorem blank_stop {l : List UInt8} {k : Nat} (hk : k < l.length) (h : blankA false l = k + blankA false (l.drop k)) (hw : wsB l[k] = false) (h35 : l[k] ≠ 35) : blankA false l = k := by
  rw [List.drop_eq_getElem_cons hk] at h
  simp only [blankA, hw, h35, if_false] at h
  simpa using h
theorem blank_idx (t : List UInt8) : (Lib.indexByte t 10 = -1 → blankA true t = t.length) ∧ ∀ o : Nat, Lib.indexByte t 10 = o → blankA true t = o + blankA false (t.drop o) := by
  induction t with
  | nil => exact ⟨fun _ => rfl, fun o h => by simp [Lib.indexByte] at h⟩
  | cons b t ih =>
    obtain ⟨h1, h2⟩ := ih
    unfold Lib.indexByte
    by_cases hb : b = 10
    · subst hb
      refine ⟨fun h => by simp at h, fun o h => ?_⟩
      have : o = 0 := by simp at h; omega
      subst this
      simp [blankA, wsB]
    · have hb' : (b == 10) = false := by simpa using hb
      rw [hb']
      simp only [Bool.false_eq_true, if_false]
      have hge := Lib.indexByte_ge t 10
      by_cases hm : Lib.indexByte t 10 = -1
      · rw [hm]
        refine ⟨fun _ => ?_, fun o h => by simp at h⟩
        simp only [blankA, hb, if_false, List.length_cons, h1 hm]
      · have hm' : (Lib.indexByte t 10 == -1) = false := by simpa using hm
        rw [hm']
        simp only [Bool.false_eq_true, if_false]
        refine ⟨fun h => by omega, fun o h => ?_⟩
        obtain ⟨o', rfl⟩ : ∃ o', o = o' + 1 := ⟨o - 1, by omega⟩
        simp only [blankA, hb, if_false, List.drop_succ_cons]
        have h3 := h2 o' (by omega)
        omega
theorem blank_hash {l : List UInt8} {k : Nat} (hk : k < l.length) (h : blankA false l = k + blankA false (l.drop k)) (h35 : l[k] = 35) :
    (Lib.indexByte (l.drop k) 10 = -1 → blankA false l = l.length) ∧ ∀ o : Nat, Lib.indexByte (l.drop k) 10 = o → 0 < o ∧ k + o ≤ l.length ∧ blankA false l = (k + o) + blankA false (l.drop (k + o)) := by
  obtain ⟨h1, h2⟩ := blank_idx (l.drop (k + 1))
  have hge := Lib.indexByte_ge (l.drop (k + 1)) 10
  have hle := blank_le l false
  have e : l.drop k = 35 :: l.drop (k + 1) := by rw [List.drop_eq_getElem_cons hk, h35]
  have e2 : blankA false (l.drop k) = blankA true (l.drop (k + 1)) + 1 := by rw [e]; simp [blankA, wsB]
  rw [e2] at h
  have e3 : Lib.indexByte (l.drop k) 10 = if Lib.indexByte (l.drop (k + 1)) 10 == -1 then -1 else Lib.indexByte (l.drop (k + 1)) 10 + 1 := by rw [e]; rfl
  rw [e3]
  by_cases hm : Lib.indexByte (l.drop (k + 1)) 10 = -1
  · rw [hm]
    have := h1 hm
    rw [List.length_drop] at this
    refine ⟨fun _ => by omega, fun o ho => by simp at ho⟩
  · have hm' : (Lib.indexByte (l.drop (k + 1)) 10 == -1) = false := by simpa using hm
    rw [hm']
    simp only [Bool.false_eq_true, if_false]
    refine ⟨fun h => by omega, fun o ho => ?_⟩
    obtain ⟨o', rfl⟩ : ∃ o', o = o' + 1 := ⟨o - 1, by omega⟩
    have h3 := h2 o' (by omega)
    have h4 : blankA false ((l.drop k).drop (o' + 1)) = blankA false ((l.drop (k + 1)).drop o') := by rw [e, List.drop_succ_cons]
    have h5 : o' < (l.drop (k + 1)).length := by
      have := (Lib.indexByte_some (l := l.drop (k + 1)) (c := 10) (o := o') (by omega)).1
      exact (List.getElem?_eq_some_iff.1 this).1
    rw [List.length_drop] at h5
    rw [show l.drop (k + (o' + 1)) = (l.drop k).drop (o' + 1) from List.drop_drop.symm, h4]
    exact ⟨by omega, by omega, by omega⟩

theorem ws_nat (b : UInt8) : wsB b = (decide (b.toNat = 32) || decide (b.toNat = 9) || decide (b.toNat = 10) || decide (b.toNat = 13)) := by
  have e : ∀ c : UInt8, (b == c) = decide (b.toNat = c.toNat) := fun c => by
    by_cases h : b = c
    · subst h; simp
    · have : ¬ b.toNat = c.toNat := fun e => h (UInt8.toNat_inj.1 e)
      rw [decide_eq_false this]
      simpa using h
  unfold wsB
  rw [e, e, e, e]
  rfl
theorem meas_more (n k o : Nat) (h : 0 < o) (h2 : k + o ≤ n) : n - ((k : Int) + (o : Int)).toNat < n - ((k : Int)).toNat := by omega

set_option maxRecDepth 100000 in
set_option maxHeartbeats 3200000 in
theorem blank_any (l : List UInt8) (w : World) (hl : l.length ≤ 65536) :
    Calls Tryd.prog 17 #[.string (bs l)] w fun e w' => e = .returned (.int .i64 (blankA false l)) ∧ w' = w := by
  have hsz := bs_size l
  have hli : (l.length : Int) ≤ 65536 := by omega
  clear hl
  go_enter Tryd.func17, Tryd.ntmps17
  go_wp2
  go_step3
  go_wp2
  go_step3
  go_wp2
  go_loopw [3] (fun i wr => ∃ k : Nat, k ≤ l.length ∧ i = .int .i64 k ∧ blankA false l = k + blankA false (l.drop k) ∧ wr = w) (fun i _ => l.length - (intOf i).toNat)
  case atStart => exact ⟨0, by omega, rfl, by rw [List.drop_zero, Nat.zero_add], rfl⟩
  case round =>
    obtain ⟨k, hk, rfl, hb, rfl⟩ := hrel
    by_cases hlt : k < l.length
    · skip
      have hi : (k : Int) < (l.length : Int) := by omega
      have hki : (k : Int) < ((bs l).size : Int) := by omega
      have hps : k < (bs l).size := hlt
      have HK := Lib.hid hlt
      have hws := ws_nat l[k]
      have h35 : l[k] = 35 ↔ (l[k]).toNat = 35 := by rw [← UInt8.toNat_inj]; rfl
      have hge : ((bs l)[k]'hps).toNat = (l[k]).toNat := rfl
      by_cases hc : (l[k]).toNat = 32 ∨ (l[k]).toNat = 9 ∨ (l[k]).toNat = 10 ∨ (l[k]).toNat = 13
      · have hwt : wsB l[k] = true := by rw [hws]; simpa [or_assoc] using hc
        have HST := Lib.hid (blank_step hlt hb hwt)
        clear hwt
        rcases hc with hc | hc | hc | hc
        all_goals (
          rw [hc] at hge
          clear hws h35 hc hb hlt
          go_wp2
          go_roundw
          case rel => exact ⟨k + 1, HK.out, by go_num, HST.out, by first | rfl | trivial⟩
          case measure => exact meas_up _ _ HK.out)
      · have hwf : wsB l[k] = false := by
          rw [hws]
          simp only [not_or] at hc
          simp [hc.1, hc.2.1, hc.2.2.1, hc.2.2.2]
        simp only [not_or] at hc
        obtain ⟨n1, n2, n3, n4⟩ := hc
        by_cases h5 : (l[k]).toNat = 35
        · obtain ⟨i1, i2⟩ := blank_hash hlt hb (h35.2 h5)
          rw [h5] at hge
          have I1 := Lib.hid i1
          have I2 := Lib.hid i2
          have HB := Lib.hid hb
          clear hws h35 h5 hb hlt n1 n2 n3 n4 hwf i1 i2
          go_wp2_with fail
          refine (Tryd.strings_IndexByte _ _ _).mono ?_
          rintro e w1 ⟨rfl, rfl⟩
          rw [show (bs l).extract k l.length = bs (l.drop k) from bs_tail l k, bs_list, show (10 : Int).toNat.toUInt8 = 10 from rfl]
          by_cases hm : Lib.indexByte (l.drop k) 10 = -1
          · have HF := Lib.hid (I1.out hm)
            rw [hm]
            clear I1 I2 hm
            go_wp2
            rw [Exit.noGoto_ret]
            go_ret
            exact ⟨by rw [HF.out]; rfl, rfl⟩
          · have hq := Lib.indexByte_ge (l.drop k) 10
            obtain ⟨o, ho⟩ : ∃ o : Nat, Lib.indexByte (l.drop k) 10 = o := ⟨(Lib.indexByte (l.drop k) 10).toNat, by omega⟩
            obtain ⟨o1, o2, o3⟩ := I2.out o ho
            rw [ho]
            have HF := Lib.hid o3
            have HO := Lib.hid (And.intro o1 o2)
            have o0 : (0 : Int) ≤ (o : Int) := by omega
            have o5 : (k : Int) + (o : Int) ≤ 65536 := by omega
            clear I1 I2 hm hq ho o1 o2 o3
            go_wp2
            go_roundw
            case rel => exact ⟨k + o, HO.out.2, by go_num, HF.out, by first | rfl | trivial⟩
            case measure => exact meas_more _ _ _ HO.out.1 HO.out.2
        · have HF := Lib.hid (blank_stop hlt hb hwf fun e => h5 (h35.1 e))
          have hne : ∀ v : Int, (v = 32 ∨ v = 9 ∨ v = 10 ∨ v = 13 ∨ v = 35) → ¬ ((l[k]).toNat : Int) = v := fun v hv => by omega
          have m1 := hne 32 (by decide)
          have m2 := hne 9 (by decide)
          have m3 := hne 10 (by decide)
          have m4 := hne 13 (by decide)
          have m5 := hne 35 (by decide)
          clear hws h35 hb n1 n2 n3 n4 hwf h5 hne
          generalize (l[k]).toNat = c at *
          clear hlt
          go_wp2
          rw [Exit.noGoto_ret]
          go_ret
          exact ⟨by rw [HF.out]; rfl, rfl⟩
    · skip
      have hi : (l.length : Int) ≤ (k : Int) := by omega
      obtain rfl : k = l.length := by omega
      have HF := Lib.hid (show blankA false l = l.length by rw [hb, List.drop_length]; rfl)
      clear hb hk hlt
      go_wp2
      rw [Exit.noGoto_ret]
      go_ret
      exact ⟨by rw [HF.out]; rfl, rfl⟩
end Go.Proofs.YtjknmfnelkhmcaaDoor
