/- The walks of slices' rotate and insertion sort over entries, by entry.byPlace. Conditions: at most 1000 entries. -/
import Derived.Test.YtilapnejkdgomaaDoorSrtS
import Derived.Deep.RegionHeld3
set_option linter.unusedVariables false
set_option linter.unusedSimpArgs false
namespace Go.Proofs.YtilapnejkdgomaaDoor
open Go.RowKit


set_option maxRecDepth 100000 in
set_option maxHeartbeats 12800000 in
theorem rot_any (g n c a m b : Nat) (P U V Q : List Ent) (f : Value) (w : World) (hE : ER w g (P ++ (U ++ (V ++ Q)))) (hP : P.length = a) (hU : a + U.length = m) (hV : m + V.length = b) (hn : b + Q.length = n) (h1 : n ≤ 1000) (hU0 : 0 < U.length) (hV0 : 0 < V.length) :
    Calls Tryd.prog 81 #[.slice (some ⟨g, 0, none⟩) n c, .int .i64 a, .int .i64 m, .int .i64 b, f] w fun e w' => e = .returned (.tuple #[]) ∧ ER w' g (P ++ (V ++ (U ++ Q))) ∧ Keep (fun k => k = g) w w' := by
  have HE0 := Lib.hid hE
  have HLN := Lib.hid (show P.length + U.length + V.length + Q.length = n by omega)
  have HUm := Lib.hid hU
  have HPa := Lib.hid hP
  have HVb := Lib.hid hV
  have HU0 := Lib.hid hU0
  have HV0 := Lib.hid hV0
  have hmn : (m : Int) ≤ 1000 := by omega
  have hma : (a : Int) ≤ (m : Int) := by omega
  have hmb : (m : Int) ≤ (b : Int) := by omega
  have hbn : (b : Int) ≤ 1000 := by omega
  have d1 : (m : Int) - (a : Int) = (U.length : Int) := by omega
  have d2 : (b : Int) - (m : Int) = (V.length : Int) := by omega
  have D1 := Lib.hid d1
  have D2 := Lib.hid d2
  have HN1 := Lib.hid h1
  clear hE hP hU hV hn h1 hU0 hV0 d1 d2
  go_enter Tryd.func81, Tryd.ntmps81
  go_wp2
  go_loopw [10, 11] (fun ii jj wr => ∃ (i j : Nat) (P' U' V' Q' : List Ent), ii = .int .i64 i ∧ jj = .int .i64 j ∧ Hid (P'.length + i = m) ∧ Hid (U'.length = i) ∧ Hid (V'.length = j) ∧ Hid (m + j + Q'.length = n) ∧ 0 < i ∧ 0 < j ∧ i ≤ 1000 ∧ j ≤ 1000 ∧ Hid (ER wr g (P' ++ (U' ++ (V' ++ Q')))) ∧ Hid (P ++ (V ++ (U ++ Q)) = P' ++ (V' ++ (U' ++ Q'))) ∧ Hid (Keep (fun k => k = g) w wr)) (fun ii jj _ => (intOf ii).toNat + (intOf jj).toNat)
  case atStart =>
    refine ⟨U.length, V.length, P, U, V, Q, by rw [D1.out], by rw [D2.out], Lib.hid (by have := HUm.out; have := HPa.out; omega), Lib.hid rfl, Lib.hid rfl, Lib.hid (by have := HLN.out; have := HUm.out; have := HPa.out; omega), HU0.out, HV0.out, ?_, ?_, HE0, Lib.hid rfl, Lib.hid Keep.refl⟩
    · have := HLN.out; have := HN1.out; omega
    · have := HLN.out; have := HN1.out; omega
  case round =>
    clear HE0 HU0 HV0 D1 D2
    obtain ⟨i, j, P', U', V', Q', rfl, rfl, HP, HU, HV, HQ, hi0, hj0, hi1, hj1, HE, HR, HK⟩ := hrel
    have hmi : (i : Int) ≤ (m : Int) := by have := HP.out; omega
    have e1 : (m : Int) - (i : Int) = ((m - i : Nat) : Int) := by have := HP.out; omega
    have HI := Lib.hid (And.intro hi0 hj0)
    have HI1 := Lib.hid (And.intro hi1 hj1)
    have hi0i : (0 : Int) < (i : Int) := by omega
    have hj0i : (0 : Int) < (j : Int) := by omega
    have hi1i : (i : Int) ≤ 1000 := by omega
    have hj1i : (j : Int) ≤ 1000 := by omega
    clear hi0 hj0 hi1 hj1
    have hlp : P'.length = m - i := by have := HP.out; omega
    have HLP := Lib.hid hlp
    clear hlp
    by_cases hij : i = j
    · skip
      have HS := Lib.hid fun W (hW : ER W g (P' ++ (U' ++ ([] ++ (V' ++ Q'))))) => swr_any g n c (m - i) m i P' U' [] V' Q' f W hW HLP.out HU.out (by have := HP.out; simp; omega) (by rw [HV.out, hij]) (by have := HQ.out; omega) HN1.out
      have hijl : ¬ (i : Int) ≠ (j : Int) := by omega
      have hijb : ((i : Int) == (j : Int)) = true := beq_iff_eq.2 (by omega)
      have hijc : ((i : Int) != (j : Int)) = false := by rw [bne, hijb]; rfl
      rw [← e1] at HS
      clear hij e1
      go_wp2_with fail
      refine (HS.out wr HE.out).mono ?_
      rintro e w1 ⟨rfl, he, hk⟩
      have EF := Lib.hid (show ER w1 g (P ++ (V ++ (U ++ Q))) from HR.out ▸ he)
      have KF := Lib.hid (HK.out.trans hk)
      clear he hk HS HE
      go_wp2
      go_end0
      exact ⟨rfl, EF.out, KF.out⟩
    · skip
      have hijb : ((i : Int) == (j : Int)) = false := beq_eq_false_iff_ne.2 (by omega)
      have hijc : ((i : Int) != (j : Int)) = true := by rw [bne, hijb]; rfl
      by_cases hgt : j < i
      · skip
        have hgi : (j : Int) < (i : Int) := by omega
        have HS := Lib.hid fun W (hW : ER W g (P' ++ (U'.take j ++ (U'.drop j ++ (V' ++ Q'))))) => swr_any g n c (m - i) m j P' (U'.take j) (U'.drop j) V' Q' f W hW HLP.out (by rw [List.length_take, HU.out]; omega) (by rw [List.length_drop, HU.out]; have := HP.out; omega) HV.out (by have := HQ.out; omega) HN1.out
        rw [← e1] at HS
        have HE2 := Lib.hid (show ER wr g (P' ++ (U'.take j ++ (U'.drop j ++ (V' ++ Q')))) from by have h := HE.out; rwa [← List.take_append_drop j U', List.append_assoc] at h)
        have HR2 := Lib.hid (show P ++ (V ++ (U ++ Q)) = (P' ++ V') ++ (U'.take j ++ (U'.drop j ++ Q')) from by rw [HR.out, List.append_assoc]; congr 2; rw [← List.append_assoc, List.take_append_drop])
        have L1 := Lib.hid (show (U'.drop j).length = i - j by rw [List.length_drop, HU.out])
        have L2 := Lib.hid (show (U'.take j).length = j by rw [List.length_take, HU.out]; omega)
        have L3 := Lib.hid (show (P' ++ V').length + (i - j) = m by rw [List.length_append, HV.out]; have := HP.out; omega)
        have e2 : (i : Int) - (j : Int) = ((i - j : Nat) : Int) := by omega
        have E2 := Lib.hid e2
        have HIJ := Lib.hid hgt
        clear hij e1 e2 hgt HE HR
        go_wp2_with fail
        refine (HS.out wr HE2.out).mono ?_
        rintro e w1 ⟨rfl, he, hk⟩
        have EF := Lib.hid (show ER w1 g ((P' ++ V') ++ (U'.drop j ++ (U'.take j ++ Q'))) from by rw [List.append_assoc]; exact he)
        have KF := Lib.hid (HK.out.trans hk)
        clear he hk HS HE2
        go_wp2
        go_roundw
        case rel => exact ⟨i - j, j, P' ++ V', U'.drop j, U'.take j, Q', by rw [← E2.out], rfl, L3, L1, L2, HQ, by have := HIJ.out; omega, HI.out.2, by have := HI1.out; omega, HI1.out.2, EF, HR2, KF⟩
        case measure => have := HI.out; have := HIJ.out; show ((i : Int) - (j : Int)).toNat + ((j : Int)).toNat < ((i : Int)).toNat + ((j : Int)).toNat; omega
      · skip
        have hlt : i < j := by omega
        have hgi : ¬ (j : Int) < (i : Int) := by omega
        have e3 : (m : Int) + (j : Int) - (i : Int) = ((m + (j - i) : Nat) : Int) := by omega
        have HS := Lib.hid fun W (hW : ER W g (P' ++ (U' ++ (V'.take (j - i) ++ (V'.drop (j - i) ++ Q'))))) => swr_any g n c (m - i) (m + (j - i)) i P' U' (V'.take (j - i)) (V'.drop (j - i)) Q' f W hW HLP.out HU.out (by rw [List.length_take, HV.out]; have := HP.out; omega) (by rw [List.length_drop, HV.out]; omega) (by have := HQ.out; omega) HN1.out
        rw [← e1, ← e3] at HS
        have HE2 := Lib.hid (show ER wr g (P' ++ (U' ++ (V'.take (j - i) ++ (V'.drop (j - i) ++ Q')))) from by have h := HE.out; rwa [← List.take_append_drop (j - i) V', List.append_assoc] at h)
        have HR2 := Lib.hid (show P ++ (V ++ (U ++ Q)) = P' ++ (V'.take (j - i) ++ (V'.drop (j - i) ++ (U' ++ Q'))) from by rw [HR.out]; congr 1; rw [← List.append_assoc (V'.take _), List.take_append_drop])
        have L1 := Lib.hid (show (V'.drop (j - i)).length = i by rw [List.length_drop, HV.out]; omega)
        have L2 := Lib.hid (show (V'.take (j - i)).length = j - i by rw [List.length_take, HV.out]; omega)
        have L3 := Lib.hid (show m + (j - i) + (U' ++ Q').length = n by rw [List.length_append, HU.out]; have := HQ.out; omega)
        have e2 : (j : Int) - (i : Int) = ((j - i : Nat) : Int) := by omega
        have E2 := Lib.hid e2
        have HIJ := Lib.hid hlt
        have hmj : (m : Int) + (j : Int) ≤ 2000 := by omega
        clear hij e1 e2 e3 hgt hlt HE HR
        go_wp2_with fail
        refine (HS.out wr HE2.out).mono ?_
        rintro e w1 ⟨rfl, he, hk⟩
        have EF := Lib.hid (show ER w1 g (P' ++ (V'.drop (j - i) ++ (V'.take (j - i) ++ (U' ++ Q')))) from he)
        have KF := Lib.hid (HK.out.trans hk)
        clear he hk HS HE2
        go_wp2
        go_roundw
        case rel => exact ⟨i, j - i, P', V'.drop (j - i), V'.take (j - i), U' ++ Q', rfl, by rw [← E2.out], HP, L1, L2, L3, HI.out.1, by have := HIJ.out; omega, HI1.out.1, by have := HI1.out; omega, EF, HR2, KF⟩
        case measure => have := HI.out; have := HIJ.out; show ((i : Int)).toNat + ((j : Int) - (i : Int)).toNat < ((i : Int)).toNat + ((j : Int)).toNat; omega

end Go.Proofs.YtilapnejkdgomaaDoor
