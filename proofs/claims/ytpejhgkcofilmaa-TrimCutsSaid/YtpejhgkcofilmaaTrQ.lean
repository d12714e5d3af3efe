/- What trimming cell by cell leaves; what trimming again leaves. No program in sight. -/
import Derived.Test.YtpejhgkcofilmaaTrM
set_option linter.unusedVariables false
namespace Go.Proofs.Ytpejhgkcofilmaa
open Go.RowKit

/-- The cells of the first j rounds. -/
def turnL (n : Nat) (u : Int) (j : Nat) : List Int := (List.range j).map fun i => (((i : Nat) : Int) + u) % (n : Int)
theorem turnL_snoc (n : Nat) (u : Int) (j : Nat) : turnL n u (j + 1) = turnL n u j ++ [((j : Int) + u) % (n : Int)] := by
  unfold turnL
  rw [List.range_succ, List.map_append]
  rfl
theorem turnL_all (n : Nat) (u : Int) (k : Int) (h0 : 0 ≤ k) (h1 : k < n) : k ∈ turnL n u n := by
  unfold turnL
  rw [List.mem_map]
  have hm := Int.emod_nonneg (k - u) (show (n : Int) ≠ 0 by omega)
  have hm2 := Int.emod_lt_of_pos (k - u) (show 0 < (n : Int) by omega)
  refine ⟨((k - u) % (n : Int)).toNat, by rw [List.mem_range]; omega, ?_⟩
  rw [Int.toNat_of_nonneg hm, Int.emod_add_emod, show k - u + u = k by omega]
  exact Int.emod_eq_of_lt h0 h1
theorem kept_congr {s s' : Sn} (n : Nat) (h : ∀ k : Nat, k < n → s'.L k = s.L k) : s'.keptN n = s.keptN n := by
  rw [kept_sum (fun k => ((s.L k).length : Int)) n (fun k hk => by rw [h k hk]), kept_sum (fun k => ((s.L k).length : Int)) n (fun k _ => rfl)]
/-- The store, and the number of versions removed, behind the cutting of some cells. -/
def partF (s : Sn) (l : List Int) : Sn × Int := l.foldl (Sn.cutF s.old) (s, 0)
theorem partF_snoc (s : Sn) (l : List Int) (i : Int) : partF s (l ++ [i]) = Sn.cutF s.old (partF s l) i := by
  unfold partF
  rw [List.foldl_append]
  rfl
theorem partF_like (s : Sn) (l : List Int) : Like s (partF s l).1 := fold_like s s.old l 0
/-- One more cell, as a call of Cells gives it. -/
theorem partF_cells (s : Sn) (l : List Int) (i : Int) : ((partF s l).1.cells [i]).1 = (partF s (l ++ [i])).1 ∧ (partF s l).2 + ((partF s l).1.cells [i]).2 = (partF s (l ++ [i])).2 := by
  rw [partF_snoc]
  have ho := (partF_like s l).old
  unfold Sn.cells
  rw [ho]
  refine ⟨rfl, ?_⟩
  simp only [List.foldl_cons, List.foldl_nil, Sn.cutF]
  omega
section
variable {n : Nat} {s : Sn} {all : List W3} {m : Int} (h : Good n s all m)
include h
theorem Good.partL (l : List Int) (k : Int) : (partF s l).1.L k = if k ∈ l ∧ 0 ≤ k ∧ k < (n : Int) then cutL (s.L k) s.old else s.L k := by
  unfold partF
  rw [fold_L h.hA s.old h.old_le.2 l 0 k, h.hc]
theorem Good.partO (l : List Int) (k : Int) (hk : ¬ (0 ≤ k ∧ k < (n : Int))) : (partF s l).1.L k = [] := by
  rw [h.partL, if_neg (fun x => hk x.2)]
  exact h.hO k hk
theorem Good.partD (hn : n ≤ 6) (l : List Int) : (partF s l).2 = s.keptN 2048 - (partF s l).1.keptN 2048 := by
  unfold partF
  rw [fold_d (by omega) h.hO s.old l 0, Int.zero_add]
theorem Good.part_all (hn : n ≤ 6) (u : Int) : (∀ k, (partF s (turnL n u n)).1.L k = s.all.1.L k) ∧ (partF s (turnL n u n)).1.keptN 2048 = s.all.1.keptN 2048 ∧ (partF s (turnL n u n)).2 = s.all.2 := by
  have hL : ∀ k, (partF s (turnL n u n)).1.L k = s.all.1.L k := by
    intro k
    rw [h.partL, h.allL hn]
    by_cases hk : 0 ≤ k ∧ k < (n : Int)
    · rw [if_pos ⟨turnL_all n u k hk.1 hk.2, hk⟩, if_pos hk]
    · rw [if_neg (fun x => hk x.2), if_neg hk]
  have hK : (partF s (turnL n u n)).1.keptN 2048 = s.all.1.keptN 2048 := by
    rw [kept_few (h.partO _) 2048 (by omega), kept_few (h.allO hn) 2048 (by omega)]
    exact kept_congr n fun k _ => hL k
  refine ⟨hL, hK, ?_⟩
  rw [h.partD hn, h.all_d hn, hK]
theorem Good.part_ok (hm : m ≤ 1000) (l : List Int) : (partF s l).1.Ok ∧ 0 ≤ (partF s l).2 ∧ (partF s l).2 ≤ l.length * 1000000 := by
  have := Sn.cells_ok (h.okS hm) s.old l 0
  unfold partF
  refine ⟨this.1, this.2.1, ?_⟩
  have h3 := this.2.2
  omega
end
section
variable {n : Nat} {s : Sn} {all : List W3} {m : Int} (h : Good n s all m)
include h
/-- Trimming a trimmed store. -/
theorem Good.again (hn : n ≤ 6) : s.all.1.all.2 = 0 ∧ s.all.1.all.1.keptN 2048 = s.all.1.keptN 2048 := by
  have hlike := all_like s
  have hO := h.allO hn
  have hA : ∀ k, Asc (s.all.1.L k) := fun k => by
    rw [h.allL hn]
    split
    · exact cutL_asc (h.hA k) _
    · exact h.hA k
  have hL : ∀ k, s.all.1.all.1.L k = s.all.1.L k := by
    intro k
    rw [all_eq _ n (locs_few hO 2048 (by omega))]
    unfold Sn.cells
    rw [hlike.old, fold_L hA s.old (by rw [hlike.2.1]; exact h.old_le.2) _ 0 k]
    split
    · rw [h.allL hn]
      split
      · exact cutL_two (h.hA k) _
      · rename_i h1 h2
        exact absurd ⟨h1.2.1, by have := h1.2.2; rw [hlike.1, h.hc] at this; exact this⟩ h2
    · rfl
  have hK : s.all.1.all.1.keptN 2048 = s.all.1.keptN 2048 := by
    rw [kept_few (fun k hk => by rw [hL]; exact hO k hk) 2048 (by omega), kept_few hO 2048 (by omega)]
    exact kept_congr n fun k _ => hL k
  refine ⟨?_, hK⟩
  have e : s.all.1.all.2 = s.all.1.keptN 2048 - s.all.1.all.1.keptN 2048 := by
    rw [all_eq s.all.1 n (locs_few hO 2048 (by omega))]
    unfold Sn.cells
    rw [fold_d (by omega) hO s.all.1.old (s.all.1.locs n) 0, Int.zero_add]
  rw [e, hK, Int.sub_self]
/-- What is seen at the stamp of the oldest reader or later is as before. -/
theorem Good.sees (hn : n ≤ 6) (k t : Int) (ht : s.old ≤ t) : seeV (s.all.1.L k) t = seeV (s.L k) t ∧ seeB (s.all.1.L k) t = seeB (s.L k) t := by
  rw [h.allL hn]
  split
  · exact see_cut (s.L k) (h.hA k) s.old t ht
  · exact ⟨rfl, rfl⟩
theorem Good.reads_same (hn : n ≤ 6) (r k : Int) : s.all.1.readV r k = s.readV r k ∧ s.all.1.readE r k = s.readE r k := by
  obtain ⟨l1, l2, l3, l4, l5⟩ := all_like s
  have hE : s.all.1.readE r k = s.readE r k ∧ (isR s.B r = true → seeV (s.all.1.L k) (s.T (r - 1).toNat) = seeV (s.L k) (s.T (r - 1).toNat)) := by
    unfold Sn.readE
    rw [l4, l5, l1]
    by_cases hr : isR s.B r = true
    · have hB : s.B (r - 1).toNat = true ∧ (r - 1).toNat < 8 := by
        unfold isR at hr
        rw [Bool.and_eq_true, Bool.and_eq_true, decide_eq_true_eq, decide_eq_true_eq] at hr
        exact ⟨hr.2, by omega⟩
      have hold : s.old ≤ s.T (r - 1).toNat := (foldl_min (rdI s.B s.T 8) s.n).2.2 _ (mem_rdI _ _ _ hB.1 8 hB.2)
      obtain ⟨e1, e2⟩ := h.sees hn k _ hold
      rw [e2]
      exact ⟨rfl, fun _ => e1⟩
    · rw [if_neg hr, if_neg hr]
      exact ⟨rfl, fun x => absurd x hr⟩
  refine ⟨?_, hE.1⟩
  unfold Sn.readV
  rw [hE.1]
  split
  · rename_i h0
    rw [l5]
    refine hE.2 ?_
    cases hr : isR s.B r with
    | true => rfl
    | false =>
      unfold Sn.readE at h0
      rw [hr] at h0
      simp at h0
  · rfl
theorem Good.ats_same (hn : n ≤ 6) (t k : Int) (h0 : 0 ≤ k) (h1 : k < n) (ht : s.old ≤ t) (ht2 : t ≤ s.n) : s.all.1.atV t k = s.atV t k ∧ s.all.1.atB t k = true ∧ s.atB t k = true := by
  obtain ⟨l1, l2, _, _, _⟩ := all_like s
  obtain ⟨e1, e2⟩ := h.sees hn k t ht
  have hc : (decide (0 ≤ k) && decide (k < s.c)) = true := by rw [h.hc]; simp; omega
  have hseen : seeB (s.L k) t = true := by
    unfold seeB
    have := aft_pos2 (h.first k h0 h1) (t := t) (by have := h.old_le.1; dsimp only; omega)
    simpa using this
  have hb : s.atB t k = true := by unfold Sn.atB; rw [hc, hseen, decide_eq_true ht2]; rfl
  refine ⟨?_, ?_, hb⟩
  · unfold Sn.atV
    rw [l1, l2, e1]
  · unfold Sn.atB at hb ⊢
    rw [l1, l2, e2]
    exact hb
end
end Go.Proofs.Ytpejhgkcofilmaa
