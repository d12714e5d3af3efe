/- How many versions a trim keeps. No program in sight. -/
import Derived.Test.YtpejhgkcofilmaaTrL
set_option linter.unusedVariables false
namespace Go.Proofs.Ytpejhgkcofilmaa
open Go.RowKit

def sumN (f : Nat → Int) : Nat → Int
  | 0 => 0
  | k + 1 => sumN f k + f k
theorem kept_sum {s : Sn} (f : Nat → Int) (n : Nat) (h : ∀ k : Nat, k < n → ((s.L k).length : Int) = f k) : s.keptN n = sumN f n := by
  induction n with
  | zero => rfl
  | succ k ih =>
    show s.keptN k + _ = sumN f k + f k
    rw [ih (fun j hj => h j (by omega)), h k (by omega)]
theorem sumN_add (f g : Nat → Int) (n : Nat) : sumN (fun k => f k + g k) n = sumN f n + sumN g n := by
  induction n with
  | zero => rfl
  | succ k ih =>
    show sumN _ k + (f k + g k) = sumN f k + f k + (sumN g k + g k)
    rw [ih]; omega
theorem sumN_one (n : Nat) : sumN (fun _ => 1) n = n := by
  induction n with
  | zero => rfl
  | succ k ih =>
    show sumN _ k + 1 = _
    rw [ih]; omega
theorem sumN_zero (n : Nat) : sumN (fun _ => 0) n = 0 := by
  induction n with
  | zero => rfl
  | succ k ih =>
    show sumN _ k + 0 = _
    rw [ih]; rfl
theorem sumN_at (c : Int) (n i : Nat) (hi : i < n) : sumN (fun k => if (i : Int) = k then c else 0) n = c := by
  induction n with
  | zero => omega
  | succ k ih =>
    show sumN _ k + (if (i : Int) = k then c else 0) = c
    by_cases h : i = k
    · subst h
      have : sumN (fun k : Nat => if (i : Int) = k then c else 0) i = 0 := by
        have : ∀ j, j ≤ i → sumN (fun k : Nat => if (i : Int) = k then c else 0) j = 0 := by
          intro j
          induction j with
          | zero => intro _; rfl
          | succ m ih =>
            intro hm
            show sumN _ m + (if (i : Int) = m then c else 0) = 0
            rw [ih (by omega), if_neg (by omega)]; rfl
        exact this i (Nat.le_refl _)
      rw [this, if_pos rfl]; omega
    · rw [ih (by omega), if_neg (by omega)]; omega
theorem sumN_congr {f g : Nat → Int} (n : Nat) (h : ∀ k, k < n → f k = g k) : sumN f n = sumN g n := by
  induction n with
  | zero => rfl
  | succ k ih =>
    show sumN f k + f k = sumN g k + g k
    rw [ih (fun j hj => h j (by omega)), h k (by omega)]
/-- Counting by cells counts all. -/
theorem sum_count (p : W3 → Bool) (n : Nat) (all : List W3) (h : ∀ x ∈ all, 0 ≤ x.1 ∧ x.1 < (n : Int)) : sumN (fun k => ((all.filter fun x => x.1 == (k : Int)).countP p : Nat)) n = (all.countP p : Nat) := by
  induction all with
  | nil => exact (sumN_congr n (fun k _ => rfl)).trans (sumN_zero n)
  | cons x r ih =>
    have hx := h x (List.mem_cons_self ..)
    have ih := ih fun y hy => h y (List.mem_cons_of_mem _ hy)
    obtain ⟨i, hi⟩ : ∃ i : Nat, x.1 = i := ⟨x.1.toNat, by omega⟩
    have e : ∀ k : Nat, (((x :: r).filter fun y => y.1 == (k : Int)).countP p : Int) = (if (i : Int) = k then (if p x = true then 1 else 0) else 0) + ((r.filter fun y => y.1 == (k : Int)).countP p : Nat) := by
      intro k
      rw [List.filter_cons]
      by_cases hk : (i : Int) = k
      · rw [if_pos (by rw [hi]; simpa using hk), if_pos hk, List.countP_cons]
        by_cases hp : p x = true
        · rw [if_pos hp, if_pos hp]; omega
        · rw [if_neg hp, if_neg hp]; omega
      · rw [if_neg (by rw [hi]; simpa using hk), if_neg hk]; omega
    rw [sumN_congr n (fun k _ => e k), sumN_add, ih, sumN_at _ n i (by omega), List.countP_cons]
    by_cases hp : p x = true
    · rw [if_pos hp, if_pos hp]; omega
    · rw [if_neg hp, if_neg hp]; omega
section
variable {n : Nat} {s : Sn} {all : List W3} {m : Int} (h : Good n s all m)
include h
theorem Good.late_eq (t : Int) (ht : 0 ≤ t) (k : Int) (h0 : 0 ≤ k) (h1 : k < n) : late (s.L k) t = (all.filter fun x => x.1 == k).countP fun x => decide (t < x.2.1) := by
  rw [h.hL k h0 h1]
  unfold late
  rw [List.countP_cons, List.countP_map, if_neg (by simp; omega)]
  rfl
theorem Good.aft_pos (t : Int) (ht : 0 ≤ t) (k : Int) (h0 : 0 ≤ k) (h1 : k < n) : 0 < aft (s.L k) t := aft_pos2 (h.first k h0 h1) ht
/-- The number of versions kept: one a cell, and the writes after the stamp. -/
theorem Good.all_kept (hn : n ≤ 6) : s.all.1.keptN 2048 = n + (all.countP fun x => decide (s.old < x.2.1) : Nat) := by
  rw [kept_few (h.allO hn) 2048 (by omega)]
  have e : ∀ k : Nat, k < n → ((s.all.1.L k).length : Int) = 1 + ((all.filter fun x => x.1 == (k : Int)).countP fun x => decide (s.old < x.2.1) : Nat) := by
    intro k hk
    rw [h.allL hn, if_pos (by omega), cutL_len (h.hA k) s.old (h.aft_pos s.old h.old_le.1 k (by omega) (by omega)), h.late_eq s.old h.old_le.1 k (by omega) (by omega)]
    omega
  rw [kept_sum _ n e, sumN_add, sumN_one, sum_count _ n all fun x hx => ⟨(h.hle x hx).1, (h.hle x hx).2.1⟩]
end
/-- A store behind the closing of its first j readers. -/
def Sn.closes (s : Sn) : Nat → Sn
  | 0 => s
  | j + 1 => (s.closes j).closeS ((j : Int) + 1)
theorem closeS_lists (s : Sn) (r : Int) : (s.closeS r).c = s.c ∧ (s.closeS r).n = s.n ∧ (s.closeS r).L = s.L ∧ (s.closeS r).T = s.T := by
  unfold Sn.closeS
  split <;> exact ⟨rfl, rfl, rfl, rfl⟩
theorem closes_lists (s : Sn) (j : Nat) : (s.closes j).c = s.c ∧ (s.closes j).n = s.n ∧ (s.closes j).L = s.L := by
  induction j with
  | zero => exact ⟨rfl, rfl, rfl⟩
  | succ j ih =>
    obtain ⟨h1, h2, h3, _⟩ := closeS_lists (s.closes j) ((j : Int) + 1)
    exact ⟨h1.trans ih.1, h2.trans ih.2.1, h3.trans ih.2.2⟩
theorem closes_B (s : Sn) (j : Nat) (hj : j ≤ 8) : ∀ i, i < j → (s.closes j).B i = false := by
  induction j with
  | zero => intro i hi; omega
  | succ j ih =>
    intro i hi
    show ((s.closes j).closeS ((j : Int) + 1)).B i = false
    unfold Sn.closeS
    split
    · show updB (s.closes j).B (((j : Int) + 1) - 1).toNat false i = false
      unfold updB
      split
      · rfl
      · exact ih (by omega) i (by omega)
    · rename_i h
      by_cases hij : i < j
      · exact ih (by omega) i hij
      · obtain rfl : i = j := by omega
        have : isR (s.closes i).B ((i : Int) + 1) = (s.closes i).B i := by
          unfold isR
          rw [decide_eq_true (by omega), decide_eq_true (by omega), show (((i : Int) + 1) - 1).toNat = i by omega]
          simp
        rw [this] at h
        simpa using h
theorem rdI_none {B : Nat → Bool} {T : Nat → Int} (j : Nat) (h : ∀ i, i < j → B i = false) : rdI B T j = [] := by
  induction j with
  | zero => rfl
  | succ j ih =>
    unfold rdI
    rw [ih fun i hi => h i (by omega), if_neg (by rw [h j (by omega)]; simp)]
    rfl
theorem closed_old (s : Sn) : (s.closes 8).old = s.n := by
  unfold Sn.old
  rw [rdI_none 8 (closes_B s 8 (Nat.le_refl _))]
  exact (closes_lists s 8).2.1
/-- A store that is trimmed with no reader open keeps one version a cell. -/
theorem Good.closed {n : Nat} {s : Sn} {all : List W3} {m : Int} (h : Good n s all m) (hn : n ≤ 6) : (s.all.1.closes 8).all.1.keptN 2048 = n := by
  obtain ⟨c1, c2, c3⟩ := closes_lists s.all.1 8
  have hlike := all_like s
  have hO : ∀ k, ¬ (0 ≤ k ∧ k < (n : Int)) → (s.all.1.closes 8).L k = [] := fun k hk => by rw [c3]; exact h.allO hn k hk
  have hL : ∀ k, 0 ≤ k → k < (n : Int) → (s.all.1.closes 8).L k = cutL (s.L k) s.old := fun k h0 h1 => by rw [c3, h.allL hn, if_pos ⟨h0, h1⟩]
  have hA : ∀ k, Asc ((s.all.1.closes 8).L k) := fun k => by
    rw [c3, h.allL hn]
    split
    · exact cutL_asc (h.hA k) _
    · exact h.hA k
  have hpos : ∀ k, 0 ≤ k → k < (n : Int) → 0 < ((s.all.1.closes 8).L k).length := fun k h0 h1 => by
    rw [hL k h0 h1, cutL_len (h.hA k) s.old (h.aft_pos s.old h.old_le.1 k h0 h1)]; omega
  have hold : (s.all.1.closes 8).old = s.n := (closed_old _).trans hlike.2.1
  have hnn : (s.all.1.closes 8).n = s.n := c2.trans hlike.2.1
  have hcc : (s.all.1.closes 8).c = n := c1.trans (hlike.1.trans h.hc)
  have hall : ∀ k, (s.all.1.closes 8).all.1.L k = if 0 ≤ k ∧ k < (n : Int) then cutL (cutL (s.L k) s.old) s.n else [] := by
    intro k
    rw [all_eq _ n (locs_few hO 2048 (by omega))]
    unfold Sn.cells
    rw [hold, fold_L hA s.n (by omega) _ 0 k, hcc]
    by_cases hk : 0 ≤ k ∧ k < (n : Int)
    · rw [if_pos ⟨(locs_mem hpos n (Nat.le_refl _) k).2 hk, hk⟩, if_pos hk, hL k hk.1 hk.2]
    · rw [if_neg (fun x => hk x.2), if_neg hk, hO k hk]
  rw [kept_few (fun k hk => by rw [hall, if_neg hk]) 2048 (by omega), kept_sum (fun _ => 1) n, sumN_one]
  intro k hk
  have hk0 : 0 ≤ (k : Int) ∧ (k : Int) < n := by omega
  have hpk := hpos k hk0.1 hk0.2
  rw [hL k hk0.1 hk0.2] at hpk
  have hlast : ∀ p ∈ cutL (s.L k) s.old, p.1 ≤ s.n := fun p hp => (h.hst k p (List.mem_of_mem_drop hp)).2
  have ha := cutL_asc (h.hA k) s.old
  have hlate : late (cutL (s.L k) s.old) s.n = 0 := by
    unfold late
    rw [List.countP_eq_zero]
    intro p hp
    have := hlast p hp
    simp; omega
  have := late_aft ha s.n
  rw [hall, if_pos hk0, cutL_len ha s.n (by omega), hlate]
  rfl
theorem all_ok {s : Sn} (h : s.Ok) : s.all.1.Ok := (Sn.cells_ok h s.old (s.locs 2048) 0).1
theorem closes_ok {s : Sn} (h : s.Ok) (j : Nat) : (s.closes j).Ok := by
  unfold Sn.Ok Sn.Few
  rw [(closes_lists s j).2.2]
  exact h
theorem great_no {l : List TAct} (h : greatB l = false) : l.length ≤ 40 ∧ ∀ a ∈ l, a.m ≤ 8 := by
  unfold greatB at h
  rw [Bool.or_eq_false_iff] at h
  have h1 : l.length ≤ 40 := by have := h.2; simp at this; exact this
  refine ⟨h1, fun a ha => ?_⟩
  have h2 := h.1
  rw [List.any_eq_false] at h2
  have := h2 a (by rw [List.take_of_length_le h1]; exact ha)
  simpa using this
end Go.Proofs.Ytpejhgkcofilmaa
