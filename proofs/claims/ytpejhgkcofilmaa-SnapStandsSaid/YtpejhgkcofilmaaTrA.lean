/- The walks of slices.Min and of trim's Least and Bound. Conditions: at most 2^40 numbers. -/
import Derived.Test.YtpejhgkcofilmaaStC
set_option linter.unusedVariables false
namespace Go.Proofs.Ytpejhgkcofilmaa
open Go.RowKit

theorem meas_up (n k : Nat) (h : k < n) : n - ((k : Int) + 1).toNat < n - ((k : Int)).toNat := by omega
/-- A slice of numbers. -/
def Ints (w : World) (S : Nat → Prop) (A : Option Addr) (n : Nat) (l : List Int) : Prop := n = l.length ∧ Reads w S 1 A n (l.map (.int .i64 ·))
theorem Ints.below {w w' : World} {S : Nat → Prop} {A : Option Addr} {n : Nat} {l : List Int} (h : Ints w S A n l) (hb : Below w.heap.size w w') : Ints w' S A n l := ⟨h.1, h.2.below hb⟩
theorem Ints.cell {w : World} {S : Nat → Prop} {A : Option Addr} {n : Nat} {l : List Int} (h : Ints w S A n l) (k : Nat) (hk : k < l.length) :
    ∃ b o, A = some ⟨b, o, none⟩ ∧ b < w.heap.size ∧ S b ∧ ∀ w', Below w.heap.size w w' → w'.cell? ⟨b, o + k, none⟩ = some (.int .i64 l[k]) := by
  obtain ⟨b, o, e, hb, hS, hh⟩ := h.2.2 (by have := h.1; omega)
  refine ⟨b, o, e, hb, hS, fun w' hB => ?_⟩
  rw [hB.cell hb]
  exact hh k _ (by simp [hk])
/-- The least of some numbers. -/
def IsMin (v : Int) (l : List Int) : Prop := v ∈ l ∧ ∀ x ∈ l, v ≤ x
theorem isMin_step {l : List Int} {k : Nat} {v : Int} (h : IsMin v (l.take k)) (hk : k < l.length) : IsMin (if l[k] < v then l[k] else v) (l.take (k + 1)) := by
  rw [List.take_succ_eq_append_getElem hk]
  obtain ⟨h1, h2⟩ := h
  split
  · refine ⟨List.mem_append_right _ (List.mem_singleton_self _), fun x hx => ?_⟩
    rcases List.mem_append.1 hx with hx | hx
    · have := h2 x hx; omega
    · simp only [List.mem_singleton] at hx; omega
  · refine ⟨List.mem_append_left _ h1, fun x hx => ?_⟩
    rcases List.mem_append.1 hx with hx | hx
    · exact h2 x hx
    · simp only [List.mem_singleton] at hx; omega

set_option maxRecDepth 100000 in
set_option maxHeartbeats 3200000 in
theorem min_any {S : Nat → Prop} (A : Option Addr) (n c : Nat) (l : List Int) (w : World) (hl : Ints w S A n l) (h0 : 0 < l.length) (hn : l.length ≤ 1099511627776) :
    Calls Try.prog 74 #[.slice A n c] w fun e w' => ∃ v, e = .returned (.int .i64 v) ∧ IsMin v l ∧ w' = w := by
  have hmin := fun (a b : Int) (W : World) => (show Sem.run Try.prog (Builtin.min_ #[2, 2] 2 #[.int .i64 a, .int .i64 b]) W = .ok (.int .i64 (if b < a then b else a)) W from rfl)
  have HL := Lib.hid hl
  obtain ⟨b, o, rfl, _, _, hc0⟩ := hl.cell 0 h0
  have h1 := hc0 w (Below.refl _ _)
  rw [Nat.add_zero] at h1
  have t0 : ¬ (n : Int) < 1 := by have := hl.1; omega
  have HN := Lib.hid hl.1
  have hnn : (n : Int) ≤ 1099511627776 := by have := hl.1; omega
  have hlo : 0 < n := by have := hl.1; omega
  have H1 := Lib.hid (show IsMin l[0] (l.take 1) from by
    cases l with
    | nil => simp at h0
    | cons x t => simp [IsMin])
  clear hc0 hl
  generalize l[0] = x0 at *
  go_enter Try.func74, Try.ntmps74
  go_wp2
  go_loopw [3, 4] (fun m i wr => ∃ (k : Nat) (v : Int), k ≤ l.length ∧ i = .int .i64 k ∧ m = .int .i64 v ∧ IsMin v (l.take k) ∧ wr = w) (fun _ i _ => l.length - (intOf i).toNat)
  case atStart => exact ⟨1, x0, h0, rfl, rfl, H1.out, rfl⟩
  case round =>
    clear h1
    obtain ⟨k, v, hk, rfl, rfl, hv, rfl⟩ := hrel
    by_cases hlt : k < l.length
    · have hi : (k : Int) < (n : Int) := by have := HN.out; omega
      obtain ⟨b', o', e, _, _, hc⟩ := HL.out.cell k hlt
      have e1 : b = b' := by injection e with e; injection e
      have e2 : o = o' := by injection e with e; injection e
      subst e1 e2
      have h2 := hc wr (Below.refl _ _)
      have HV := Lib.hid (isMin_step hv hlt)
      have HK := Lib.hid hlt
      have hm2 := fun W => hmin v l[k] W
      clear hc e hv hk hmin
      generalize l[k] = y at *
      generalize (if y < v then y else v) = z at *
      go_wp2
      go_roundw
      case rel => exact ⟨k + 1, z, HK.out, by go_num, rfl, HV.out, by first | rfl | trivial⟩
      case measure => exact meas_up _ _ HK.out
    · obtain rfl : k = l.length := by omega
      have hi : (n : Int) ≤ (l.length : Int) := by have := HN.out; omega
      have HV := Lib.hid hv
      rw [List.take_length] at HV
      clear hv hlt
      go_wp2
      go_ret
      exact ⟨v, rfl, HV.out, rfl⟩

set_option maxRecDepth 100000 in
set_option maxHeartbeats 3200000 in
theorem least_any {S : Nat → Prop} (A : Option Addr) (n c : Nat) (l : List Int) (t : Int) (w : World) (hS : ∀ b, w.heap.size ≤ b → S b) (hl : Ints w S A n l) (hc : n ≤ c) (hA : A = none → c = 0) (hn : l.length ≤ 1000000) :
    Calls Try.prog 45 #[.int .i64 t, .slice A n c] w fun e w' => ∃ v, e = .returned (.int .i64 v) ∧ IsMin v (l ++ [t]) ∧ Below w.heap.size w w' := by
  obtain ⟨i0, hi0, hz0, hz1, hz2⟩ := info_parts Try.info2
  have HL := Lib.hid hl
  have HN := Lib.hid hl.1
  have HA := Lib.hid (show A = none → n = 0 from fun h => by have := hA h; omega)
  have hnn : n ≤ 1000000 := by have := hl.1; omega
  have hnc : (n : Int) ≤ (c : Int) := by omega
  clear hl
  go_enter Try.func45, Try.ntmps45
  have HR := Lib.hid ((HL.out.2).alloc (.cells #[.int .i64 t] 2))
  have HX := Lib.hid (Reads.new (S := fun _ => True) (size := 1) (n := 1) w #[.int .i64 t] 2 rfl trivial)
  go_wp2_with (at_builtin; refine wpList_append_new rfl (.tmp 10) (.tmp 12) 40 rfl 2 i0 _ 1 8 Try.underlying40 hi0 hz0 hz1 hz2 rfl (by omega) A n n _ _ rfl HR.out ?k0 _ 1 1 _ _ rfl HX.out (by omega) ?k1 (by omega) ?k2 (by omega) ?k3)
  case k0 => exact HA.out
  case k1 => rfl
  case k2 => simp only [maxLen]; omega
  case k3 =>
    intro g cap w2 g1 g2 g3 g4
    have RR := Lib.hid (show Ints w2 (fun b => w.heap.size ≤ b) (some ⟨g, 0, none⟩) (n + 1) (l ++ [t]) from ⟨by have := HN.out; simp; omega, by
      have h := Reads.of_own (S := fun b => w.heap.size ≤ b) g3 (fun b hb => by first | omega | (simp at hb; omega))
      simpa using h⟩)
    have HB := Lib.hid (((Below.refl w.heap.size w).alloc (Nat.le_refl _) (.cells #[.int .i64 t] 2)).trans (g4.mono (by simp)))
    clear g1 g2 g3 g4
    go_wp2_with fail
    refine (min_any _ _ _ _ w2 RR.out (by simp) (by have := HN.out; simp; omega)).mono ?_
    rintro e w3 ⟨v, rfl, hv, rfl⟩
    have HV := Lib.hid hv
    clear hv
    go_wp2
    go_ret
    exact ⟨v, rfl, HV.out, HB.out⟩

set_option maxRecDepth 100000 in
set_option maxHeartbeats 3200000 in
theorem bound_any (a b : Int) (w : World) (ha : -4294967296 ≤ a ∧ a ≤ 4294967296) (hb : -4294967296 ≤ b ∧ b ≤ 4294967296) :
    Calls Try.prog 48 #[.int .i64 a, .int .i64 b] w fun e w' => e = .returned (.int .i64 (max a 0 + max b 0)) ∧ w' = w := by
  have hmax := fun (a b : Int) (W : World) => (show Sem.run Try.prog (Builtin.max_ #[3, 3] 3 #[.int .i64 a, .int .i64 b]) W = .ok (.int .i64 (if a < b then b else a)) W from rfl)
  have e1 : (if a < 0 then 0 else a) = max a 0 := by rw [Int.max_def]; split <;> split <;> omega
  have e2 : (if b < 0 then 0 else b) = max b 0 := by rw [Int.max_def]; split <;> split <;> omega
  have hm1 := fun W => hmax a 0 W
  have hm2 := fun W => hmax b 0 W
  rw [e1] at hm1
  rw [e2] at hm2
  have b1 : 0 ≤ max a 0 ∧ max a 0 ≤ 4294967296 := by rw [Int.max_def]; split <;> omega
  have b2 : 0 ≤ max b 0 ∧ max b 0 ≤ 4294967296 := by rw [Int.max_def]; split <;> omega
  clear e1 e2 hmax ha hb
  generalize max a 0 = x at *
  generalize max b 0 = y at *
  obtain ⟨b10, b11⟩ := b1
  obtain ⟨b20, b21⟩ := b2
  go_enter Try.func48, Try.ntmps48
  go_wp2
  go_ret
  exact ⟨rfl, rfl⟩
end Go.Proofs.Ytpejhgkcofilmaa
