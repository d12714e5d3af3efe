/- The walks of the reference's digits, number and Text. No condition beyond the bounds. -/
import Derived.Test.YtkccaadhjodhlaaDoorWordN
import Derived.Test.YtkccaadhjodhlaaDoorWordM
import Derived.Deep.RegionWith
set_option linter.unusedVariables false
set_option linter.unusedSimpArgs false
namespace Go.Proofs.YtkccaadhjodhlaaDoor
open Go.RowKit

def dgN : Option (Nat × Nat) → Int
  | some (n, _) => n
  | none => 0
def dgI : Option (Nat × Nat) → Int
  | some (_, j) => j
  | none => -1
theorem meas_up (n k : Nat) (h : k < n) : n - (intOf (.int .i64 ((k : Int) + 1))).toNat < n - (intOf (.int .i64 (k : Int))).toNat := by
  show n - ((k : Int) + 1).toNat < n - ((k : Int)).toNat
  omega
theorem drop_at (l : List UInt8) (i : Nat) (h : i < l.length) : l.drop i = l[i] :: l.drop (i + 1) := List.drop_eq_getElem_cons h
theorem dgL_cons (M n k : Nat) (b : UInt8) (t : List UInt8) : dgL M n k (b :: t) = if dgB b = true then (if (M - (b.toNat - 48)) / 10 < n then none else dgL M (10 * n + (b.toNat - 48)) (k + 1) t) else some (n, k) := rfl

set_option maxRecDepth 100000 in
set_option maxHeartbeats 12800000 in
theorem dig_any (M : Nat) (h9 : 9 ≤ M) (hM : M ≤ 9223372036854775808) (l : List UInt8) (a : Nat) (ha : a ≤ l.length) (hl : l.length ≤ 1000) (w : World) :
    Calls Tryd.prog 29 #[.string (bs l), .int .i64 a, .int .u64 M] w fun e w' => e = .returned (.tuple #[.int .u64 (dgN (dgA M l a)), .int .i64 (dgI (dgA M l a))]) ∧ w' = w := by
  have hsz := bs_size l
  have hli : (l.length : Int) ≤ 1000 := by omega
  have HL := Lib.hid hl
  have HA := Lib.hid ha
  have H9 := Lib.hid h9
  have HM := Lib.hid hM
  have hMi : (M : Int) ≤ 9223372036854775808 := by omega
  have hai : (a : Int) ≤ (l.length : Int) := by omega
  have HG := Lib.hid (show dgA M l a = match dgL M 0 0 (l.drop a) with | some (n, k) => if k = 0 then none else some (n, a + k) | none => none from rfl)
  clear hl ha h9 hM
  go_enter Tryd.func29, Tryd.ntmps29
  go_wp2
  go_loopw [8, 9] (fun nn ii wr => ∃ (n k : Nat), a + k ≤ l.length ∧ nn = .int .u64 n ∧ ii = .int .i64 ((a : Int) + (k : Int)) ∧ Hid (n ≤ M) ∧ Hid (dgL M 0 0 (l.drop a) = dgL M n k (l.drop (a + k))) ∧ wr = w) (fun _ ii _ => l.length - (intOf ii).toNat)
  case atStart => exact ⟨0, 0, HA.out, rfl, by simp, Lib.hid (Nat.zero_le _), Lib.hid rfl, rfl⟩
  case round =>
    obtain ⟨n, k, hk, rfl, rfl, HN, HD, rfl⟩ := hrel
    have hnM : (n : Int) ≤ (M : Int) := by have := HN.out; omega
    by_cases hlt : a + k < l.length
    · skip
      have hki : (a : Int) + (k : Int) < (l.length : Int) := by omega
      have hps : a + k < (bs l).size := hlt
      have HK := Lib.hid hlt
      have htn : ((a : Int) + (k : Int)).toNat = a + k := by omega
      have hge : ((bs l)[a + k]'hps).toNat = (l[a + k]).toNat := rfl
      have HD2 := Lib.hid (show dgL M 0 0 (l.drop a) = if (decide (48 ≤ (l[a + k]).toNat) && decide ((l[a + k]).toNat ≤ 57)) = true then (if (M - ((l[a + k]).toNat - 48)) / 10 < n then none else dgL M (10 * n + ((l[a + k]).toNat - 48)) (k + 1) (l.drop (a + k + 1))) else some (n, k) from HD.out.trans (by rw [drop_at l (a + k) hlt]; rfl))
      have hc256 := (l[a + k]).toNat_lt
      clear HD hk hlt
      generalize (l[a + k]).toNat = c at *
      by_cases h1 : 48 ≤ c
      · by_cases h2 : c ≤ 57
        · rw [decide_eq_true h1, decide_eq_true h2] at HD2
          have HD3 := Lib.hid (HD2.out.trans (if_pos rfl))
          clear HD2
          have e1 : decide (48 ≤ (c : Int)) = true := decide_eq_true (by omega)
          have e2 : decide ((c : Int) ≤ 57) = true := decide_eq_true (by omega)
          have e0 : decide ((a : Int) + (k : Int) < (l.length : Int)) = true := decide_eq_true hki
          have w1 : IntKind.u8.wrap ((c : Int) - 48) = (c : Int) - 48 := by simp [IntKind.wrap, IntKind.bits, IntKind.signed]; omega
          have w2 : IntKind.u64.wrap ((c : Int) - 48) = (c : Int) - 48 := by simp [IntKind.wrap, IntKind.bits, IntKind.signed]; omega
          have H9o := H9.out
          have w3 : IntKind.u64.wrap ((M : Int) - ((c : Int) - 48)) = (M : Int) - ((c : Int) - 48) := by simp [IntKind.wrap, IntKind.bits, IntKind.signed]; omega
          have w4 : ((M : Int) - ((c : Int) - 48)).tdiv 10 = (((M - (c - 48)) / 10 : Nat) : Int) := by rw [Int.tdiv_eq_ediv_of_nonneg (by omega)]; omega
          have w7 : IntKind.u64.wrap (((M - (c - 48)) / 10 : Nat) : Int) = (((M - (c - 48)) / 10 : Nat) : Int) := by simp [IntKind.wrap, IntKind.bits, IntKind.signed]; omega
          clear H9o
          by_cases hgt : (M - (c - 48)) / 10 < n
          · have HF := Lib.hid (HD3.out.trans (if_pos hgt))
            have hgi : (((M - (c - 48)) / 10 : Nat) : Int) < (n : Int) := by omega
            clear hgt
            generalize (M - (c - 48)) / 10 = q at *
            go_wp2
            go_ret2
            exact ⟨by rw [HG.out, HF.out]; rfl, rfl⟩
          · have HF := Lib.hid (HD3.out.trans (if_neg hgt))
            have hgi : ¬ (((M - (c - 48)) / 10 : Nat) : Int) < (n : Int) := by omega
            have HB2 := Lib.hid (show 10 * n + (c - 48) ≤ M by have := H9.out; omega)
            have w5 : IntKind.u64.wrap (10 * (n : Int)) = 10 * (n : Int) := by have := HB2.out; simp [IntKind.wrap, IntKind.bits, IntKind.signed]; omega
            have w6 : IntKind.u64.wrap (10 * (n : Int) + ((c : Int) - 48)) = 10 * (n : Int) + ((c : Int) - 48) := by have := HB2.out; simp [IntKind.wrap, IntKind.bits, IntKind.signed]; omega
            have HC := Lib.hid (show 10 * (n : Int) + ((c : Int) - 48) = ((10 * n + (c - 48) : Nat) : Int) by omega)
            have hkk : (a : Int) + (k : Int) + 1 ≤ 1000 := by omega
            clear hgt
            generalize (M - (c - 48)) / 10 = q at *
            go_wp2
            go_roundw
            case rel => exact ⟨10 * n + (c - 48), k + 1, HK.out, by first | rw [← HC.out] | (rw [← HC.out]; rfl), by first | rfl | (show Value.int .i64 _ = _; congr 1; omega), HB2, Lib.hid (by rw [HF.out, Nat.add_assoc]), by first | rfl | trivial⟩
            case measure => have := HK.out; show l.length - ((a : Int) + (k : Int) + 1).toNat < l.length - ((a : Int) + (k : Int)).toNat; omega
        · rw [decide_eq_true h1, decide_eq_false h2] at HD2
          have HF := Lib.hid (HD2.out.trans (if_neg Bool.false_ne_true))
          have e1 : decide (48 ≤ (c : Int)) = true := decide_eq_true (by omega)
          have e2 : decide ((c : Int) ≤ 57) = false := decide_eq_false (by omega)
          have e0 : decide ((a : Int) + (k : Int) < (l.length : Int)) = true := decide_eq_true hki
          have hci : ¬ (c : Int) ≤ 57 := by omega
          clear HD2
          by_cases hk0 : k = 0
          · have hkz : (k : Int) ≤ 0 := by omega
            have HK0 := Lib.hid hk0
            clear hk0
            go_wp2
            go_ret2
            exact ⟨by rw [HG.out, HF.out]; dsimp only; rw [if_pos HK0.out]; rfl, rfl⟩
          · have hkn : ¬ ((a : Int) + (k : Int)) = (a : Int) := by omega
            go_wp2
            go_ret2
            exact ⟨by rw [HG.out, HF.out]; dsimp only; rw [if_neg hk0]; rfl, rfl⟩
      · rw [decide_eq_false h1] at HD2
        have HF := Lib.hid (HD2.out.trans (if_neg (by simp)))
        have e1 : decide (48 ≤ (c : Int)) = false := decide_eq_false (by omega)
        have e0 : decide ((a : Int) + (k : Int) < (l.length : Int)) = true := decide_eq_true hki
        have hci : ¬ (48 : Int) ≤ (c : Int) := by omega
        clear HD2
        by_cases hk0 : k = 0
        · have hkz : (k : Int) ≤ 0 := by omega
          have HK0 := Lib.hid hk0
          clear hk0
          go_wp2
          go_ret2
          exact ⟨by rw [HG.out, HF.out]; dsimp only; rw [if_pos HK0.out]; rfl, rfl⟩
        · have hkn : ¬ ((a : Int) + (k : Int)) = (a : Int) := by omega
          go_wp2
          go_ret2
          exact ⟨by rw [HG.out, HF.out]; dsimp only; rw [if_neg hk0]; rfl, rfl⟩
    · skip
      have HF := Lib.hid (show dgL M 0 0 (l.drop a) = some (n, k) from HD.out.trans (by rw [List.drop_eq_nil_of_le (by omega)]; rfl))
      have hki : ¬ (a : Int) + (k : Int) < (l.length : Int) := by omega
      have e0 : decide ((a : Int) + (k : Int) < (l.length : Int)) = false := decide_eq_false hki
      clear HD hk hlt
      by_cases hk0 : k = 0
      · have hkz : (k : Int) ≤ 0 := by omega
        have HK0 := Lib.hid hk0
        clear hk0
        go_wp2
        go_ret2
        exact ⟨by rw [HG.out, HF.out]; dsimp only; rw [if_pos HK0.out]; rfl, rfl⟩
      · have hkn : ¬ ((a : Int) + (k : Int)) = (a : Int) := by omega
        go_wp2
        go_ret2
        exact ⟨by rw [HG.out, HF.out]; dsimp only; rw [if_neg hk0]; rfl, rfl⟩

end Go.Proofs.YtkccaadhjodhlaaDoor
