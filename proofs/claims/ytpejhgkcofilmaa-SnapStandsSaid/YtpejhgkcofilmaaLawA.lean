/- The walks of the laws VersionSees and VersionRebuild. -/
import Derived.Test.YtpejhgkcofilmaaVerJ
set_option linter.unusedVariables false
namespace Go.Proofs.Ytpejhgkcofilmaa
open Go.RowKit

/-- The way on which a law's input is greater than the limit: the example alone. -/
theorem see_none (l : List (Int × Int)) (s : Int) (h : aft l s = 0) : seeV l s = 0 ∧ seeB l s = false := by simp [seeV, seeB, h]
theorem see_some (l : List (Int × Int)) (s : Int) (k : Nat) (h : aft l s = k + 1) (hk : k < l.length) : seeV l s = l[k].2 ∧ seeB l s = true := by simp [seeV, seeB, h, hk]

set_option maxRecDepth 100000 in
set_option maxHeartbeats 3200000 in
theorem sees_any (A : Option Addr) (n c : Nat) (acts : List (Int × Int × Bool)) (s : Int) (w : World) (hl : Acts w (fun _ => True) A n acts) :
    Calls Try.prog 4 #[.slice A n c, .int .i64 s] w fun e w' => e = .returned (.bool true) ∧ Below w.heap.size w w' := by
  by_cases h : (80 : Int) < (n : Int)
  · clear hl
    go_enter Try.func4, Try.ntmps4
    go_wp2_with fail
    refine (great_any A n c w).mono ?_
    rintro e w' ⟨rfl, rfl⟩
    go_wp2_with fail
    refine (awake_any w).mono ?_
    rintro e w' ⟨rfl, hb⟩
    go_wp2
    go_ret
    exact ⟨rfl, hb⟩
  · have h' : (n : Int) ≤ 80 := by omega
    have C1 := Lib.hid (made_any A n c acts w (fun _ _ => trivial) hl (by have := hl.1; omega))
    have hLen := play_len acts acts.length (Nat.le_refl _)
    have hAsc := play_asc acts acts.length
    rw [List.take_length] at hLen hAsc
    have hn2 : acts.length ≤ 80 := by have := hl.1; omega
    generalize play acts = L at *
    have hL : L.length ≤ 1099511627776 := by omega
    clear hl h hLen hn2
    have hle := aft_le L s
    rcases Nat.eq_zero_or_pos (aft L s) with h0 | h0
    · have hse := see_none L s h0
      have HS := Lib.hid hse
      have H0 := Lib.hid h0
      clear hse h0 hle
      go_enter Try.func4, Try.ntmps4
      go_wp2_with fail
      refine (great_any A n c w).mono ?_
      rintro e w' ⟨rfl, rfl⟩
      go_wp2_with fail
      refine C1.out.mono ?_
      rintro e w1 ⟨A1, n1, c1, M, cm, rfl, h1, h2, h3, h4, h5, h6, hb1⟩
      have C2 := Lib.hid fun W (hb : Below w1.heap.size w1 W) => at_any A1 n1 c1 L s W (h1.below hb) hAsc hL
      have C3 := Lib.hid fun W (hb : Below w1.heap.size w1 W) => rat_any M n1 cm L s W (h2.below hb) hAsc hL
      have B1 := Lib.hid fun o => ((Below.refl w1.heap.size w1).alloc (Nat.le_refl _) o)
      have HB := Lib.hid hb1
      clear h1 h2 h3 h4 h5 h6 hb1
      go_wp2_with fail
      refine (C2.out _ (B1.out _)).mono ?_
      rintro e w2 ⟨rfl, hb2⟩
      have b2 : Below w1.heap.size w1 w2 := below_new hb2
      rw [HS.out.1, HS.out.2]
      clear hb2
      go_wp2_with fail
      refine (C3.out _ b2).mono ?_
      rintro e w3 ⟨rfl, rfl⟩
      rw [H0.out]
      have HB2 := Lib.hid b2
      clear b2
      go_wp2_with fail
      refine (awake_any _).mono ?_
      rintro e w4 ⟨rfl, hb4⟩
      have hb := HB.out.trans (HB2.out.mono HB.out.size |>.trans (hb4.mono (Nat.le_trans HB.out.size HB2.out.size)))
      go_wp2
      go_ret
      exact ⟨rfl, hb⟩
    · obtain ⟨k, hk⟩ : ∃ k, aft L s = k + 1 := ⟨aft L s - 1, by omega⟩
      have hkl : k < L.length := by omega
      have HS := Lib.hid (see_some L s k hk hkl)
      have H0 := Lib.hid hk
      clear h0 hle hk
      go_enter Try.func4, Try.ntmps4
      go_wp2_with fail
      refine (great_any A n c w).mono ?_
      rintro e w' ⟨rfl, rfl⟩
      go_wp2_with fail
      refine C1.out.mono ?_
      rintro e w1 ⟨A1, n1, c1, M, cm, rfl, h1, h2, h3, h4, h5, h6, hb1⟩
      have C2 := Lib.hid fun W (hb : Below w1.heap.size w1 W) => at_any A1 n1 c1 L s W (h1.below hb) hAsc hL
      have C3 := Lib.hid fun W (hb : Below w1.heap.size w1 W) => rat_any M n1 cm L s W (h2.below hb) hAsc hL
      obtain ⟨b, o, rfl, hbb, hcell⟩ := h2.later k hkl
      have hn1 : n1 = L.length := h1.1
      have HC := Lib.hid hcell
      have B1 := Lib.hid fun o => ((Below.refl w1.heap.size w1).alloc (Nat.le_refl _) o)
      have HB := Lib.hid hb1
      clear h1 h2 h3 h4 h5 h6 hb1 hcell
      subst hn1
      have g1 : (k : Int) < (L.length : Int) := by omega
      have g0 : (0 : Int) ≤ (k : Int) := by omega
      go_wp2_with fail
      refine (C2.out _ (B1.out _)).mono ?_
      rintro e w2 ⟨rfl, hb2⟩
      have b2 : Below w1.heap.size w1 w2 := below_new hb2
      rw [HS.out.1, HS.out.2]
      clear hb2
      have q1 := (HC.out w2 b2).2
      have tx : (L[k].2 == L[k].2) = true := by simp
      generalize L[k].2 = y at *
      have HB2 := Lib.hid b2
      go_wp2_with fail
      refine (C3.out _ b2).mono ?_
      rintro e w3 ⟨rfl, rfl⟩
      rw [H0.out]
      clear b2
      go_wp2_with fail
      refine (awake_any _).mono ?_
      rintro e w4 ⟨rfl, hb4⟩
      have hb := HB.out.trans (HB2.out.mono HB.out.size |>.trans (hb4.mono (Nat.le_trans HB.out.size HB2.out.size)))
      go_wp2
      go_ret
      exact ⟨rfl, hb⟩
end Go.Proofs.Ytpejhgkcofilmaa
