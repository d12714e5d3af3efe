/- The walks of the reference's tens and Tens: a number's decimal form. Conditions: the number is of its kind. -/
import Derived.Test.YtilapnejkdgomaaDoorTxB
set_option linter.unusedVariables false
set_option linter.unusedSimpArgs false
namespace Go.Proofs.YtilapnejkdgomaaDoor
open Go.RowKit

set_option maxRecDepth 100000 in
set_option maxHeartbeats 12800000 in
theorem tens_small (n : Nat) (h : n < 10) (w : World) :
    Calls Tryd.prog 54 #[.int .u64 n] w fun e w' => e = .returned (.string (bs (Lib.decDigits n))) ∧ Below w.heap.size w w' := by
  rw [dd_small h]
  have hcv := conv_new w (UInt8.ofNat (48 + n)) (48 + (n : Int)) (by rw [ofN n h]; omega)
  have w2 : IntKind.u8.wrap (48 + (n : Int)) = 48 + (n : Int) := by simp [IntKind.wrap, IntKind.bits, IntKind.signed]; omega
  have w3 : IntKind.u64.wrap (48 + (n : Int)) = 48 + (n : Int) := by simp [IntKind.wrap, IntKind.bits, IntKind.signed]; omega
  have hn2 : (n : Int) < 10 := by omega
  clear h
  generalize UInt8.ofNat (48 + n) = b at *
  go_enter Tryd.func54, Tryd.ntmps54
  go_wp2
  go_ret
  exact ⟨rfl, (Below.refl _ _).alloc (Nat.le_refl _) _⟩

set_option maxRecDepth 100000 in
set_option maxHeartbeats 12800000 in
theorem tens_any (n : Nat) : ∀ (hn : n < 18446744073709551616) (w : World),
    Calls Tryd.prog 54 #[.int .u64 n] w fun e w' => e = .returned (.string (bs (Lib.decDigits n))) ∧ Below w.heap.size w w' := by
  induction n using Nat.strongRecOn with
  | _ n ih =>
    intro hn w
    by_cases h : n < 10
    · exact tens_small n h w
    · have IH := Lib.hid (ih (n / 10) (by omega) (by omega))
      have IH2 := Lib.hid (fun W => tens_small (n % 10) (by omega) W)
      have hl : (Lib.decDigits (n / 10)).length ≤ 20 := by rw [Lib.decDigits_length]; exact Lib.nDigits_le20 _ (by omega)
      have hd : (n : Int).tdiv 10 = ((n / 10 : Nat) : Int) := by rw [Int.tdiv_eq_ediv_of_nonneg (by omega)]; omega
      have hm : (n : Int).tmod 10 = ((n % 10 : Nat) : Int) := by rw [Int.tmod_eq_emod_of_nonneg (by omega)]; omega
      have hd1 : IntKind.u64.wrap (((n / 10 : Nat) : Int)) = ((n / 10 : Nat) : Int) := by simp [IntKind.wrap, IntKind.bits, IntKind.signed]; omega
      have hn1 : ¬ (n : Int) < 10 := by omega
      have e := dd_big h
      have hs : Lib.decDigits (n % 10) = [UInt8.ofNat (48 + n % 10)] := dd_small (by omega)
      rw [hs] at IH2
      rw [e]
      have j := add_bs (Lib.decDigits (n / 10)) [UInt8.ofNat (48 + n % 10)] (by simp; omega)
      clear hl e hs ih h
      generalize Lib.decDigits (n / 10) = T at *
      generalize [UInt8.ofNat (48 + n % 10)] = U at *
      generalize bs (T ++ U) = TU at *
      generalize bs T = T1 at *
      generalize bs U = U1 at *
      obtain ⟨q, hq⟩ : ∃ q, q = n / 10 := ⟨_, rfl⟩
      obtain ⟨r, hr⟩ : ∃ r, r = n % 10 := ⟨_, rfl⟩
      rw [← hq] at IH hd hd1
      rw [← hr] at IH2 hm
      have hn3 : (n : Int) < 18446744073709551616 := by omega
      have hq2 : (q : Int) < 18446744073709551616 := by omega
      have hr2 : (r : Int) < 10 := by omega
      clear hq hr hn
      go_enter Tryd.func54, Tryd.ntmps54
      go_wp2_with fail
      refine (IH.out w).mono ?_
      rintro e w1 ⟨rfl, hb⟩
      have HB1 := Lib.hid hb
      clear hb
      go_wp2_with fail
      refine (IH2.out w1).mono ?_
      rintro e w2 ⟨rfl, hb⟩
      have HB2 := Lib.hid (HB1.out.trans (hb.mono HB1.out.size))
      clear hb
      go_wp2
      go_ret
      exact ⟨rfl, HB2.out⟩

set_option maxRecDepth 100000 in
set_option maxHeartbeats 12800000 in
theorem Tens_any (n : Int) (h0 : -9223372036854775808 ≤ n) (h1 : n ≤ 9223372036854775807) (w : World) :
    Calls Tryd.prog 33 #[.int .i64 n] w fun e w' => e = .returned (.string (bs (Lib.itoa n))) ∧ Below w.heap.size w w' := by
  by_cases hneg : n < 0
  · have HN := Lib.hid (fun W => tens_any n.natAbs (by omega) W)
    have hi : Lib.itoa n = [45] ++ Lib.decDigits n.natAbs := by unfold Lib.itoa; rw [if_pos hneg]; rfl
    have hl : (Lib.decDigits n.natAbs).length ≤ 20 := by rw [Lib.decDigits_length]; exact Lib.nDigits_le20 _ (by omega)
    have hw : IntKind.u64.wrap n = n + 18446744073709551616 := by simp [IntKind.wrap, IntKind.bits, IntKind.signed]; omega
    have hw2 : IntKind.u64.wrap (0 - (n + 18446744073709551616)) = ((n.natAbs : Nat) : Int) := by simp [IntKind.wrap, IntKind.bits, IntKind.signed]; omega
    have hw3 : IntKind.u64.wrap (-(n + 18446744073709551616)) = ((n.natAbs : Nat) : Int) := by simp [IntKind.wrap, IntKind.bits, IntKind.signed]; omega
    have j : ∀ w, (Op.stringOp .add (⟨#[45]⟩ : ByteArray) (bs (Lib.decDigits n.natAbs))).run Tryd.prog w = .ok (.string (bs (Lib.itoa n))) w := fun w => by rw [hi]; exact add_bs [45] _ (by simp; omega) w
    clear hl hi h0 h1
    generalize Lib.decDigits n.natAbs = T at *
    generalize bs (Lib.itoa n) = R at *
    generalize bs T = T1 at *
    obtain ⟨k, hk⟩ : ∃ k, k = n.natAbs := ⟨_, rfl⟩
    rw [← hk] at HN hw2 hw3
    clear hk
    go_enter Tryd.func33, Tryd.ntmps33
    go_wp2_with fail
    refine (HN.out w).mono ?_
    rintro e w1 ⟨rfl, hb⟩
    have HB := Lib.hid hb
    clear hb HN
    go_wp2
    go_ret
    exact ⟨rfl, HB.out⟩
  · have HN := Lib.hid (tens_any n.toNat (by omega) w)
    have hi : Lib.itoa n = Lib.decDigits n.toNat := by unfold Lib.itoa; rw [if_neg hneg]
    have hw : IntKind.u64.wrap n = n := by simp [IntKind.wrap, IntKind.bits, IntKind.signed]; omega
    rw [show ((n.toNat : Nat) : Int) = n by omega] at HN
    rw [hi]
    clear hi h0 h1
    generalize Lib.decDigits n.toNat = T at *
    go_enter Tryd.func33, Tryd.ntmps33
    go_wp2_with fail
    refine HN.out.mono ?_
    rintro e w1 ⟨rfl, hb⟩
    have HB := Lib.hid hb
    clear hb HN
    go_wp2
    go_ret
    exact ⟨rfl, HB.out⟩
end Go.Proofs.YtilapnejkdgomaaDoor
