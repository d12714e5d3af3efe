/- The walk of the reference's Least; the walk of the law TrimLeasts: true. No condition on the law. -/
import Derived.Test.YtpejhgkcofilmaaTrK
set_option linter.unusedVariables false
namespace Go.Proofs.Ytpejhgkcofilmaa
open Go.RowKit

set_option maxRecDepth 100000 in
set_option maxHeartbeats 3200000 in
theorem rleast_any {S : Nat → Prop} (A : Option Addr) (n c : Nat) (l : List Int) (t : Int) (w : World) (hl : Ints w S A n l) (hn : l.length ≤ 1000000) :
    Calls Try.prog 50 #[.int .i64 t, .slice A n c] w fun e w' => e = .returned (.int .i64 (l.foldl min t)) ∧ w' = w := by
  have HL := Lib.hid hl
  have HN := Lib.hid hl.1
  have hnn : (n : Int) ≤ 1000000 := by have := hl.1; omega
  clear hl
  go_enter Try.func50, Try.ntmps50
  go_wp2
  go_loopw [5, 6] (fun v i wr => ∃ k : Nat, k ≤ l.length ∧ i = .int .i64 k ∧ v = .int .i64 ((l.take k).foldl min t) ∧ wr = w) (fun _ i _ => l.length - (intOf i).toNat)
  case atStart => exact ⟨0, by omega, rfl, rfl, rfl⟩
  case round =>
    obtain ⟨k, hk, rfl, rfl, rfl⟩ := hrel
    by_cases hlt : k < l.length
    · have hi : (k : Int) < (n : Int) := by have := HN.out; omega
      obtain ⟨b, o, rfl, _, _, hc⟩ := HL.out.cell k hlt
      have h2 := hc wr (Below.refl _ _)
      have HE := Lib.hid (foldl_take min t l k hlt)
      have HK := Lib.hid hlt
      clear hc hk
      generalize l[k] = y at *
      generalize (l.take k).foldl min t = z at *
      clear hlt
      by_cases hyz : y < z
      · have HM := Lib.hid (show min z y = y by omega)
        go_wp2
        go_roundw
        case rel => exact ⟨k + 1, HK.out, by go_num, by rw [HE.out, HM.out], by first | rfl | trivial⟩
        case measure => exact meas_up _ _ HK.out
      · have HM := Lib.hid (show min z y = z by omega)
        go_wp2
        go_roundw
        case rel => exact ⟨k + 1, HK.out, by go_num, by rw [HE.out, HM.out], by first | rfl | trivial⟩
        case measure => exact meas_up _ _ HK.out
    · obtain rfl : k = l.length := by omega
      have hi : (n : Int) ≤ (l.length : Int) := by have := HN.out; omega
      rw [List.take_length]
      clear hlt hk
      generalize hz : l.foldl min t = z at *
      have HZ := Lib.hid hz
      clear hz
      go_wp2
      go_ret
      exact ⟨by rw [HZ.out]; rfl, rfl⟩

set_option maxRecDepth 100000 in
set_option maxHeartbeats 12800000 in
theorem leasts_ok {S : Nat → Prop} (A : Option Addr) (n c : Nat) (l : List Int) (t a b : Int) (w : World) (hl : Ints w S A n l) (hn : l.length ≤ 100)
    (ha : -2147483648 ≤ a ∧ a ≤ 2147483647) (hb : -2147483648 ≤ b ∧ b ≤ 2147483647) (hc : n ≤ c) (hA : A = none → c = 0) :
    Calls Try.prog 15 #[.int .i64 t, .slice A n c, .agg #[.int .i32 a, .int .i32 b]] w fun e w' => e = .returned (.bool true) ∧ Below w.heap.size w w' := by
  have hmax := fun (a b : Int) (W : World) => (show Sem.run Try.prog (Builtin.max_ #[3, 3] 3 #[.int .i64 a, .int .i64 b]) W = .ok (.int .i64 (if a < b then b else a)) W from rfl)
  have e1 : (if a < 0 then 0 else a) = max a 0 := by rw [Int.max_def]; split <;> split <;> omega
  have e2 : (if b < 0 then 0 else b) = max b 0 := by rw [Int.max_def]; split <;> split <;> omega
  have hm1 := fun W => hmax a 0 W
  have hm2 := fun W => hmax b 0 W
  rw [e1] at hm1
  rw [e2] at hm2
  have b1 : 0 ≤ max a 0 ∧ max a 0 ≤ 4294967296 := by rw [Int.max_def]; split <;> omega
  have b2 : 0 ≤ max b 0 ∧ max b 0 ≤ 4294967296 := by rw [Int.max_def]; split <;> omega
  have CB := Lib.hid fun W => bound_any a b W (by omega) (by omega)
  obtain ⟨b10, b11⟩ := b1
  obtain ⟨b20, b21⟩ := b2
  clear e1 e2 hmax
  generalize max a 0 = x at *
  generalize max b 0 = y at *
  have HL := Lib.hid hl
  have hnn : (n : Int) ≤ 100 := by have := hl.1; omega
  obtain ⟨a0, a1⟩ := ha
  obtain ⟨b0, b1⟩ := hb
  have C1 := Lib.hid fun (W : World) (hB : Below w.heap.size w W) => least_any (S := fun _ => True) A n c l t W (fun _ _ => trivial) ⟨hl.1, ((hl.below hB).2).more fun _ _ _ => trivial⟩ hc hA (by omega)
  have C2 := Lib.hid fun (W : World) (hB : Below w.heap.size w W) => rleast_any A n c l t W (hl.below hB) (by omega)
  have q0 : (w.alloc (.cells #[.int .i32 a, .int .i32 b] 112)).cell? ⟨w.heap.size, 0, none⟩ = some (.int .i32 a) := by rw [World.cell?_alloc_at _ _ _ _ rfl]; rfl
  have q1 : (w.alloc (.cells #[.int .i32 a, .int .i32 b] 112)).cell? ⟨w.heap.size, 1, none⟩ = some (.int .i32 b) := by rw [World.cell?_alloc_at _ _ _ _ rfl]; rfl
  have HB0 := Lib.hid ((Below.refl w.heap.size w).alloc (Nat.le_refl _) (.cells #[.int .i32 a, .int .i32 b] 112))
  clear hl
  go_enter Try.func15, Try.ntmps15
  go_wp2
  go_quiet (fail)
  have HB1 := Lib.hid (show Below w.heap.size w ((w.alloc (.cells #[.int .i32 a, .int .i32 b] 112)).drewN nq) from ⟨HB0.out.os, HB0.out.tape, HB0.out.output, HB0.out.size, HB0.out.block⟩)
  clear q0 q1 HB0
  generalize (w.alloc (.cells #[.int .i32 a, .int .i32 b] 112)).drewN nq = w1 at *
  go_wp2_with fail
  refine (C1.out w1 HB1.out).mono ?_
  rintro e w2 ⟨v, rfl, hv, hb⟩
  obtain rfl : v = l.foldl min t := isMin_eq hv (isMin_fold l t)
  have HB2 := Lib.hid (HB1.out.trans (hb.mono HB1.out.size))
  clear hv hb HB1 C1
  generalize l.foldl min t = z at *
  go_wp2_with fail
  refine (C2.out w2 HB2.out).mono ?_
  rintro e w3 ⟨rfl, rfl⟩
  go_wp2_with fail
  refine (CB.out w3).mono ?_
  rintro e w4 ⟨rfl, rfl⟩
  clear CB C2
  go_wp2_with fail
  refine (awake51_any w4).mono ?_
  rintro e w5 ⟨rfl, hb⟩
  have HB5 := Lib.hid (HB2.out.trans (hb.mono HB2.out.size))
  clear hb
  go_wp2
  go_ret
  exact ⟨rfl, HB5.out⟩

set_option maxRecDepth 100000 in
set_option maxHeartbeats 3200000 in
theorem leasts_great (A : Option Addr) (n c : Nat) (t : Int) (u : Value) (w : World) (a b : Int) (hu : u = .agg #[.int .i32 a, .int .i32 b]) (hn : 100 < n) :
    Calls Try.prog 15 #[.int .i64 t, .slice A n c, u] w fun e w' => e = .returned (.bool true) ∧ Below w.heap.size w w' := by
  subst hu
  have hnn : (100 : Int) < (n : Int) := by omega
  clear hn
  go_enter Try.func15, Try.ntmps15
  go_wp2_with fail
  refine (awake51_any _).mono ?_
  rintro e w1 ⟨rfl, hb⟩
  have HB := Lib.hid (((Below.refl w.heap.size w).alloc (Nat.le_refl _) (.cells #[.int .i32 a, .int .i32 b] 112)).trans (hb.mono (by simp)))
  clear hb
  go_wp2
  go_ret
  exact ⟨rfl, HB.out⟩
theorem leasts_any (A : Option Addr) (n c : Nat) (l : List Int) (t : Int) (p : Int × Int) (w : World) (hl : Ints w (fun _ => True) A n l) (hp : (-2147483648 ≤ p.1 ∧ p.1 ≤ 2147483647) ∧ (-2147483648 ≤ p.2 ∧ p.2 ≤ 2147483647)) (hc : n ≤ c) (hA : A = none → c = 0) :
    Calls Try.prog 15 #[.int .i64 t, .slice A n c, .agg #[.int .i32 p.1, .int .i32 p.2]] w fun e w' => e = .returned (.bool true) ∧ Below w.heap.size w w' := by
  by_cases h : n ≤ 100
  · exact leasts_ok A n c l t p.1 p.2 w hl (by have := hl.1; omega) hp.1 hp.2 hc hA
  · exact leasts_great A n c t _ w p.1 p.2 rfl (by omega)
end Go.Proofs.Ytpejhgkcofilmaa
