/- The walks of trim's Kept, Cells and All over a store. Conditions: the maps and lists lie in blocks that meet S; the lists ascend and have at most 10^6 versions. -/
import Derived.Test.YtpejhgkcofilmaaTrA
set_option linter.unusedVariables false
namespace Go.Proofs.Ytpejhgkcofilmaa
open Go.RowKit

section
variable {ops : Array Oper} {rest : List Oper} {a : Act} {w : World} {Q : Exit → Act → World → Prop} {o : Oper} {s : Sn} {S : Nat → Prop} {b1 b2 : Option Nat}
/-- A store boxed: a block of its own holds it. -/
theorem box_at (hg : o.guard = none) (x : Operand) (ho : o.op = .box 57 x) (hx : a.eval x = s.val b1 b2) (hm : s.Maps w S b1 b2)
    (k : ∀ w', s.At w' (fun b => S b ∧ b ≠ w.heap.size) w.heap.size → Below w.heap.size w w' → w'.heap.size = w.heap.size + 1 → wpList Try.prog ops Q rest (a.put o.dst (.pointer (some ⟨w.heap.size, 0, none⟩))) w') : wpList Try.prog ops Q (o :: rest) a w := by
  refine box_sto hg x ho _ rfl hx ?_
  refine k _ ⟨b1, b2, heap_alloc_new _ _, ?_⟩ ((Below.refl _ _).alloc (Nat.le_refl _) _) (by simp)
  exact (hm.more (fun b hb h => ⟨h, by omega⟩)).below ((Below.refl _ _).alloc (Nat.le_refl _) _)
/-- A new variable of the store's type. -/
theorem alloc_at (hg : o.guard = none) (ho : o.op = .alloc 57) (k : ∀ w', (Sn.zero 0).At w' S w.heap.size → Below w.heap.size w w' → w'.heap.size = w.heap.size + 1 → wpList Try.prog ops Q rest (a.put o.dst (.pointer (some ⟨w.heap.size, 0, none⟩))) w') : wpList Try.prog ops Q (o :: rest) a w := by
  refine wpList_alloc_mine hg 57 ho _ rfl (stoZ 0) stoZ_zero rfl ?_
  exact k _ ⟨none, none, heap_alloc_new _ _, Sn.zero_maps 0 _ _⟩ ((Below.refl _ _).alloc (Nat.le_refl _) _) (by simp)
end

/-- The number of versions of the first k cells. -/
def Sn.keptN (s : Sn) : Nat → Int
  | 0 => 0
  | k + 1 => s.keptN k + (s.L k).length
def Sn.Few (s : Sn) : Prop := ∀ k, (s.L k).length ≤ 1000000
theorem Sn.kept_le {s : Sn} (h : s.Few) (k : Nat) : 0 ≤ s.keptN k ∧ s.keptN k ≤ k * 1000000 := by
  induction k with
  | zero => simp [Sn.keptN]
  | succ k ih =>
    have := h k
    have := ih.1
    have := ih.2
    show 0 ≤ s.keptN k + _ ∧ s.keptN k + _ ≤ _
    omega

set_option maxRecDepth 100000 in
set_option maxHeartbeats 6400000 in
theorem kept_any {S : Nat → Prop} {s : Sn} {b1 b2 : Option Nat} (w : World) (hS : ∀ b, w.heap.size ≤ b → S b) (hm : s.Maps w S b1 b2) (hf : s.Few) :
    Calls Try.prog 47 #[s.val b1 b2] w fun e w' => e = .returned (.int .i64 (s.keptN 2048)) ∧ Below w.heap.size w w' := by
  have HM := Lib.hid hm
  have HF := Lib.hid hf
  have HS := Lib.hid hS
  clear hm hf hS
  go_enter Try.func47, Try.ntmps47
  go_wp2_with (with_reducible refine at_box_ (t := 57) ?_; refine box_at rfl _ rfl rfl HM.out ?_)
  intro w1 hp hb1 hz1
  have P := Lib.hid hp
  have HB := Lib.hid hb1
  have HZ := Lib.hid (show w.heap.size + 1 ≤ w1.heap.size by omega)
  clear hp hb1 hz1 HM
  go_wp2
  go_loopw [3, 5] (fun n i wr => ∃ k : Nat, k ≤ 2048 ∧ i = .int .i64 k ∧ n = .int .i64 (s.keptN k) ∧ Hid (s.At wr (fun b => S b ∧ b ≠ w.heap.size) w.heap.size) ∧ Hid (Below w.heap.size w wr) ∧ Hid (w.heap.size + 1 ≤ wr.heap.size)) (fun _ i _ => 2048 - (intOf i).toNat)
  case atStart => exact ⟨0, by omega, rfl, rfl, P, HB, HZ⟩
  case round =>
    clear P HB HZ
    obtain ⟨k, hk, rfl, rfl, P, HB, HZ⟩ := hrel
    by_cases hlt : k < 2048
    · have h8 : (k : Int) < 2048 := by omega
      obtain ⟨hr0, hr1⟩ := Sn.kept_le HF.out k
      have hr2 : s.keptN k ≤ 2048000000 := by omega
      have hlen : ((s.L k).length : Int) ≤ 1000000 := by have := HF.out k; omega
      have HE := Lib.hid (show s.keptN (k + 1) = s.keptN k + (s.L k).length from rfl)
      have HK := Lib.hid hlt
      clear hr1 hlt hk
      generalize s.keptN k = r at *
      go_wp2_with (with_reducible refine at_load_ (t := 57) ?_; refine get_at rfl _ rfl w.heap.size rfl P.out ?_)
      intro b1 b2 hm
      have HM := Lib.hid hm
      clear hm
      try simp only [Act.put, List.setIfInBounds_toArray, List.set_cons_zero, List.set_cons_succ]
      go_wp2_with fail
      refine (st_list (S := fun b => S b ∧ b ≠ w.heap.size) (k : Int) (fun b hb => ⟨HS.out b (by have := HZ.out; omega), by have := HZ.out; omega⟩) HM.out).mono ?_
      rintro e w2 ⟨u, rfl, ⟨A, n, c, rfl, hc1, hc2, hv⟩, hb2⟩
      have HN := Lib.hid hv.1
      have P2 := Lib.hid (P.out.below hb2)
      have HB2 := Lib.hid (HB.out.trans (hb2.mono HB.out.size))
      have HZ2 := Lib.hid (Nat.le_trans HZ.out hb2.size)
      clear hv hb2 hc1 hc2 HM P HB HZ
      go_wp2_with fail
      refine (len_any A n c w2).mono ?_
      rintro e w3 ⟨rfl, hb3⟩
      have P3 := Lib.hid (P2.out.below hb3)
      have HB3 := Lib.hid (HB2.out.trans (hb3.mono HB2.out.size))
      have HZ3 := Lib.hid (Nat.le_trans HZ2.out hb3.size)
      have hnn : (n : Int) ≤ 1000000 := by have := HN.out; omega
      clear hb3 P2 HB2 HZ2 hlen
      go_wp2
      go_roundw
      case rel => exact ⟨k + 1, by have := HK.out; omega, by go_num, by rw [HE.out, ← HN.out], P3, HB3, HZ3⟩
      case measure => exact meas_up _ _ HK.out
    · obtain rfl : k = 2048 := by omega
      go_wp2
      go_ret
      exact ⟨rfl, HB.out⟩
end Go.Proofs.Ytpejhgkcofilmaa
