/- The walks of the reference's digit, part, has, number and sign. Conditions: at most 65536 bytes. -/
import Derived.Test.YtjknmfnelkhmcaaDoorLxJ
set_option linter.unusedVariables false
set_option linter.unusedSimpArgs false
namespace Go.Proofs.YtjknmfnelkhmcaaDoor
open Go.RowKit

set_option maxRecDepth 100000 in
theorem rdigit_any (c : Nat) (w : World) : Calls Tryd.prog 20 #[.int .u8 c] w fun e w' => e = .returned (.bool (digN c)) ∧ w' = w := by
  rw [← digZ_nat]
  generalize (c : Int) = r
  unfold digZ
  by_cases h1 : 48 ≤ r
  · by_cases h2 : r ≤ 57
    all_goals (
      go_enter Tryd.func20, Tryd.ntmps20
      go_wp2
      go_ret
      exact ⟨by first | (simp [h1, h2]; done) | (simp [h1, h2]; omega), rfl⟩)
  · go_enter Tryd.func20, Tryd.ntmps20
    go_wp2
    go_ret
    exact ⟨by first | (simp [h1]; done) | (simp [h1]; omega), rfl⟩
set_option maxRecDepth 100000 in
set_option maxHeartbeats 3200000 in
theorem rpart_any (c : Nat) (w : World) : Calls Tryd.prog 19 #[.int .u8 c] w fun e w' => e = .returned (.bool (partN c)) ∧ w' = w := by
  have HD := Lib.hid (rdigit_any c w)
  cases hd : digN c with
  | true =>
    rw [hd] at HD
    have hp : partN c = true := by unfold partN; rw [hd, Bool.or_true]
    rw [hp]
    go_enter Tryd.func19, Tryd.ntmps19
    go_wp2_with fail
    refine HD.out.mono ?_
    rintro e w1 ⟨rfl, rfl⟩
    go_wp2
    go_ret
    exact ⟨by first | rfl | simp, rfl⟩
  | false =>
    rw [hd] at HD
    have hp : partN c = letZ c := by unfold partN; rw [hd, Bool.or_false, letZ_nat]
    rw [hp]
    clear hp hd
    generalize (c : Int) = r at *
    unfold letZ
    by_cases h0 : r = 95
    · subst h0
      go_enter Tryd.func19, Tryd.ntmps19
      go_wp2_with fail
      refine HD.out.mono ?_
      rintro e w1 ⟨rfl, rfl⟩
      go_wp2
      go_ret
      exact ⟨by first | rfl | simp, rfl⟩
    · by_cases h1 : 97 ≤ r <;> by_cases h2 : r ≤ 122 <;> by_cases h3 : 65 ≤ r <;> by_cases h4 : r ≤ 90
      all_goals first
        | (exfalso; omega)
        | (go_enter Tryd.func19, Tryd.ntmps19
           go_wp2_with fail
           refine HD.out.mono ?_
           rintro e w1 ⟨rfl, rfl⟩
           go_wp2
           go_ret
           exact ⟨by first | (simp [h0, h1, h2, h3, h4]; done) | (simp [h0, h1, h2, h3, h4]; rw [decide_eq_false (by omega), decide_eq_false (by omega)]; simp [beq_eq_false_iff_ne.2 h0]) | (simp [h0, h1, h2, h3, h4]; rw [beq_eq_false_iff_ne.2 h0, decide_eq_false (by omega), decide_eq_false (by omega)]; rfl), rfl⟩)
theorem take_has (xs : List (List UInt8)) (s : List UInt8) (k : Nat) (hk : k < xs.length) (h : (xs.take k).contains s = false) : (xs.take (k + 1)).contains s = (xs.getD k [] == s) := by
  rw [List.take_succ_eq_append_getElem hk, List.contains_eq_any_beq, List.any_append, ← List.contains_eq_any_beq, h, Bool.false_or, List.any_cons, List.any_nil, Bool.or_false, List.getD_eq_getElem?_getD, List.getElem?_eq_getElem hk]
  have h2 : ∀ a b : List UInt8, (a == b) = (b == a) := fun a b => by
    by_cases h : a = b
    · subst h; rfl
    · rw [beq_eq_false_iff_ne.2 h, beq_eq_false_iff_ne.2 (Ne.symm h)]
  exact h2 _ _
theorem take_hit (xs : List (List UInt8)) (s : List UInt8) (k : Nat) (h : (xs.take k).contains s = true) : xs.contains s = true := by
  rw [List.contains_iff_mem] at *
  exact List.mem_of_mem_take h

set_option maxRecDepth 100000 in
set_option maxHeartbeats 3200000 in
theorem rhas_any (xs : List (List UInt8)) (s : List UInt8) (g n : Nat) (t : TypeId) (fr : Nat × Nat) (w : World) (hn : n = xs.length) (hn9 : xs.length ≤ 100) (hr : w.heap[g]? = some (.cells (strRow xs) t fr)) :
    Calls Tryd.prog 22 #[.slice (some ⟨g, 0, none⟩) n n, .string (bs s)] w fun e w' => e = .returned (.bool (xs.contains s)) ∧ w' = w := by
  subst hn
  have HR := Lib.hid hr
  have hni : (xs.length : Int) ≤ 100 := by omega
  have hsl : (bs s).toList = s := bs_toList s
  clear hr hn9
  go_enter Tryd.func22, Tryd.ntmps22
  go_wp2
  go_loopw [5] (fun i wr => ∃ k : Nat, k ≤ xs.length ∧ i = .int .i64 k ∧ Hid ((xs.take k).contains s = false) ∧ wr = w) (fun i _ => xs.length - (intOf i).toNat)
  case atStart => exact ⟨0, by omega, rfl, Lib.hid (by simp), rfl⟩
  case round =>
    obtain ⟨k, hk, rfl, HH, rfl⟩ := hrel
    by_cases hlt : k < xs.length
    · skip
      have hki : (k : Int) < (xs.length : Int) := by omega
      have HK := Lib.hid hlt
      have c0 := row_strs HR.out k hlt
      have HT := Lib.hid (take_has xs s k hlt HH.out)
      have HM := Lib.hid (take_hit xs s (k + 1))
      generalize xs.getD k [] = x at *
      have hxl : (bs x).toList = x := bs_toList x
      clear hk hlt HH
      by_cases hx : x = s
      · subst hx
        have HF := Lib.hid (HM.out (by rw [HT.out]; simp))
        clear HT HM
        go_wp2
        go_ret
        exact ⟨by rw [HF.out]; first | rfl | simp, rfl⟩
      · have hxb : (x == s) = false := by simpa using hx
        have HT2 := Lib.hid (HT.out.trans hxb)
        clear HT HM
        go_wp2
        go_roundw
        case rel => exact ⟨k + 1, HK.out, by go_num, HT2, by first | rfl | trivial⟩
        case measure => exact meas_up _ _ HK.out
    · skip
      obtain rfl : k = xs.length := by omega
      have HF := HH.out
      rw [List.take_length] at HF
      have HF2 := Lib.hid HF
      clear hk hlt HF HH
      go_wp2
      go_ret
      exact ⟨by rw [HF2.out]; rfl, rfl⟩

/-- What the reference's number keeps: n is the number so far, unless it was too big before. -/
def NumI (l : List UInt8) (k : Nat) (n : Int) (big : Bool) : Prop := (big = false ∧ n = (numV (l.take k) : Int) ∧ numV (l.take k) ≤ 9223372036854775809) ∨ (big = true ∧ 9223372036854775807 < numV (l.take k))
theorem numV_step (l : List UInt8) (k : Nat) (hk : k < l.length) : numV (l.take (k + 1)) = 10 * numV (l.take k) + (l[k].toNat - 48) := by
  unfold numV
  rw [List.take_succ_eq_append_getElem hk, List.foldl_append]
  rfl
theorem num_end {l : List UInt8} {n : Int} {big : Bool} (h : NumI l l.length n big) (hd : l.all digB = true) (hz : ¬ (1 < l.length ∧ l.head? = some 48)) : numE l = if big = true ∨ 9223372036854775807 < n then 3 else 0 := by
  unfold numE
  rw [if_pos hd, if_neg hz]
  rw [NumI, List.take_length] at h
  rcases h with ⟨rfl, rfl, h3⟩ | ⟨rfl, h2⟩
  · by_cases hv : numV l ≤ 9223372036854775807
    · rw [if_pos hv, if_neg (by simp; omega)]
    · rw [if_neg hv, if_pos (.inr (by omega))]
  · rw [if_neg (by omega), if_pos (.inl rfl)]

set_option maxRecDepth 100000 in
set_option maxHeartbeats 6400000 in
theorem rnumber_any (l : List UInt8) (w : World) (hl : l.length ≤ 65536) (hne : l ≠ []) : Calls Tryd.prog 21 #[.string (bs l)] w fun e w' => e = .returned (.int .i64 (numE l)) ∧ w' = w := by
  have hsz := bs_size l
  have hli : (l.length : Int) ≤ 65536 := by omega
  have HNE := Lib.hid hne
  clear hl hne
  go_enter Tryd.func21, Tryd.ntmps21
  go_wp2
  go_loopw [3, 4, 5] (fun nn bb i wr => ∃ (k : Nat) (n : Int) (big : Bool), k ≤ l.length ∧ i = .int .i64 k ∧ nn = .int .u64 n ∧ bb = .bool big ∧ 0 ≤ n ∧ n ≤ 18446744073709551615 ∧ Hid ((l.take k).all digB = true) ∧ Hid (NumI l k n big) ∧ wr = w) (fun _ _ i _ => l.length - (intOf i).toNat)
  case atStart => exact ⟨0, 0, false, by omega, rfl, rfl, rfl, by omega, by omega, Lib.hid (by simp), Lib.hid (.inl ⟨rfl, by simp [numV], by simp [numV]⟩), rfl⟩
  case round =>
    obtain ⟨k, n, big, hk, rfl, rfl, rfl, hn0, hn1, HA, HI, rfl⟩ := hrel
    by_cases hlt : k < l.length
    · skip
      have hki : (k : Int) < (l.length : Int) := by omega
      have hps : k < (bs l).size := hlt
      have HK := Lib.hid hlt
      obtain ⟨s1, s2⟩ := take_all l k hlt HA.out
      have hge : ((bs l)[k]'hps).toNat = (l[k]).toNat := rfl
      have HVS := Lib.hid (numV_step l k hlt)
      have hc256 := (l[k]).toNat_lt
      have HD := Lib.hid (rdigit_any (l[k]).toNat wr)
      by_cases h2 : digN (l[k]).toNat = true
      · have S1 := Lib.hid (s1 h2)
        have hdg : 48 ≤ (l[k]).toNat ∧ (l[k]).toNat ≤ 57 := by unfold digN at h2; simpa using h2
        rw [h2] at HD
        clear s1 s2 h2 HA hc256
        generalize (l[k]).toNat = c at *
        obtain ⟨g1, g2⟩ := hdg
        have w1 : IntKind.u8.wrap ((c : Int) - 48) = (c : Int) - 48 := by simp [IntKind.wrap, IntKind.bits, IntKind.signed]; omega
        have w2 : IntKind.u64.wrap ((c : Int) - 48) = (c : Int) - 48 := by simp [IntKind.wrap, IntKind.bits, IntKind.signed]; omega
        have HG := Lib.hid (And.intro g1 g2)
        clear hlt hk g1 g2
        by_cases hc : 922337203685477580 < n
        · have HNI := Lib.hid (show NumI l (k + 1) (IntKind.u64.wrap (IntKind.u64.wrap (10 * n) + ((c : Int) - 48))) true from .inr ⟨rfl, by
            have h1 := HVS.out
            have h2 := HG.out
            rcases HI.out with ⟨_, h3, h4⟩ | ⟨_, h3⟩ <;> omega⟩)
          have hw64 : ∀ z, 0 ≤ IntKind.u64.wrap z ∧ IntKind.u64.wrap z ≤ 18446744073709551615 := fun z => by simp only [IntKind.wrap, IntKind.bits, IntKind.signed]; simp; omega
          have HW4 := Lib.hid (hw64 (IntKind.u64.wrap (10 * n) + ((c : Int) - 48)))
          clear hw64
          go_wp2_with fail
          refine HD.out.mono ?_
          rintro e w1 ⟨rfl, rfl⟩
          go_wp2
          go_roundw
          case rel => exact ⟨k + 1, _, true, HK.out, by go_num, rfl, rfl, HW4.out.1, HW4.out.2, S1, HNI, by first | rfl | trivial⟩
          case measure => exact meas_up _ _ HK.out
        · have w3 : IntKind.u64.wrap (10 * n) = 10 * n := by simp [IntKind.wrap, IntKind.bits, IntKind.signed]; omega
          have w4 : IntKind.u64.wrap (10 * n + ((c : Int) - 48)) = 10 * n + ((c : Int) - 48) := by have := HG.out; simp [IntKind.wrap, IntKind.bits, IntKind.signed]; omega
          have HNI := Lib.hid (show NumI l (k + 1) (10 * n + ((c : Int) - 48)) big by
            have h1 := HVS.out
            have h2 := HG.out
            rcases HI.out with ⟨h5, h3, h4⟩ | ⟨h5, h3⟩
            · exact .inl ⟨h5, by omega, by omega⟩
            · exact .inr ⟨h5, by omega⟩)
          have HW4 := Lib.hid (show 0 ≤ 10 * n + ((c : Int) - 48) ∧ 10 * n + ((c : Int) - 48) ≤ 18446744073709551615 by have := HG.out; omega)
          go_wp2_with fail
          refine HD.out.mono ?_
          rintro e w1 ⟨rfl, rfl⟩
          go_wp2
          go_roundw
          case rel => exact ⟨k + 1, _, big, HK.out, by go_num, rfl, rfl, HW4.out.1, HW4.out.2, S1, HNI, by first | rfl | trivial⟩
          case measure => exact meas_up _ _ HK.out
      · have h2f : digN (l[k]).toNat = false := by simpa using h2
        have S2 := Lib.hid (s2 h2f)
        rw [h2f] at HD
        clear s1 s2 h2 h2f HA HI hc256 HVS
        generalize (l[k]).toNat = c at *
        clear hlt hk
        go_wp2_with fail
        refine HD.out.mono ?_
        rintro e w1 ⟨rfl, rfl⟩
        go_wp2
        go_ret
        exact ⟨by unfold numE; rw [S2.out, if_neg (by decide)]; rfl, rfl⟩
    · skip
      obtain rfl : k = l.length := by omega
      have ht := HA.out
      rw [List.take_length] at ht
      have HEN := Lib.hid (num_end HI.out ht)
      have HN5 := Lib.hid (show (1 < l.length ∧ l.head? = some 48) → numE l = 5 from fun h => by unfold numE; rw [if_pos ht, if_pos h])
      have hlen : 0 < l.length := List.length_pos_iff.2 HNE.out
      have h0s : 0 < (bs l).size := hlen
      have hhead : l.head? = some l[0] := head_get hlen
      have hc48 : l[0] = 48 ↔ (l[0]).toNat = 48 := by rw [← UInt8.toNat_inj]; rfl
      have hge : ((bs l)[0]'h0s).toNat = (l[0]).toNat := rfl
      have hli1 : (1 : Int) ≤ (l.length : Int) := by omega
      clear hk hlt ht HA HI
      rw [hhead] at HN5 HEN
      by_cases h1 : 1 < l.length
      · have h1i : (1 : Int) < (l.length : Int) := by omega
        by_cases hz : (l[0]).toNat = 48
        · have HF := Lib.hid (HN5.out ⟨h1, by rw [hc48.2 hz]⟩)
          have hzi : ((l[0]).toNat : Int) = 48 := by omega
          clear HN5 HEN hc48 hhead
          generalize (l[0]).toNat = c at *
          subst hz
          clear h1
          go_wp2
          go_ret
          exact ⟨by rw [HF.out]; rfl, rfl⟩
        · have HF := Lib.hid (HEN.out (fun h => hz (hc48.1 (by injection h.2))))
          clear HN5 HEN hc48 hhead
          generalize (l[0]).toNat = c at *
          clear h1
          have hzi : ¬ (c : Int) = 48 := by omega
          cases big
          · by_cases hv : 9223372036854775807 < n
            · have HF2 := Lib.hid (HF.out.trans (if_pos (.inr hv)))
              clear HF
              go_wp2
              go_ret
              exact ⟨by rw [HF2.out]; rfl, rfl⟩
            · have HF2 := Lib.hid (HF.out.trans (if_neg (by simp; omega)))
              clear HF
              go_wp2
              go_ret
              exact ⟨by rw [HF2.out]; rfl, rfl⟩
          · have HF2 := Lib.hid (HF.out.trans (if_pos (.inl rfl)))
            clear HF
            go_wp2
            go_ret
            exact ⟨by rw [HF2.out]; rfl, rfl⟩
      · have HF := Lib.hid (HEN.out (fun h => h1 h.1))
        have h1i : (l.length : Int) = 1 := by omega
        clear HN5 HEN hc48 hhead h1 hge
        cases big
        · by_cases hv : 9223372036854775807 < n
          · have HF2 := Lib.hid (HF.out.trans (if_pos (.inr hv)))
            clear HF
            go_wp2
            go_ret
            exact ⟨by rw [HF2.out]; rfl, rfl⟩
          · have HF2 := Lib.hid (HF.out.trans (if_neg (by simp; omega)))
            clear HF
            go_wp2
            go_ret
            exact ⟨by rw [HF2.out]; rfl, rfl⟩
        · have HF2 := Lib.hid (HF.out.trans (if_pos (.inl rfl)))
          clear HF
          go_wp2
          go_ret
          exact ⟨by rw [HF2.out]; rfl, rfl⟩

end Go.Proofs.YtjknmfnelkhmcaaDoor
