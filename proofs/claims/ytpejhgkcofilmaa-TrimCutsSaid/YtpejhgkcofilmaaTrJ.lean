/- What trimming leaves of a store. No program in sight. -/
import Derived.Test.YtpejhgkcofilmaaTrI
import Derived.Test.YtpejhgkcofilmaaPure
set_option linter.unusedVariables false
namespace Go.Proofs.Ytpejhgkcofilmaa
open Go.RowKit

/-- A list cut at t. -/
def cutL (l : List (Int × Int)) (t : Int) : List (Int × Int) := l.drop (aft l t - 1)
theorem cutL_asc {l : List (Int × Int)} (h : Asc l) (t : Int) : Asc (cutL l t) := List.Pairwise.drop h
theorem cutL_two {l : List (Int × Int)} (h : Asc l) (t : Int) : cutL (cutL l t) t = cutL l t := by
  unfold cutL
  rw [cut_again l h t, List.drop_zero]
/-- The number of versions after t. -/
def late (l : List (Int × Int)) (t : Int) : Nat := l.countP fun p => decide (t < p.1)
theorem late_aft {l : List (Int × Int)} (h : Asc l) (t : Int) : late l t + aft l t = l.length := by
  induction l with
  | nil => rfl
  | cons p r ih =>
    have hp := List.pairwise_cons.1 h
    have ih := ih hp.2
    unfold late aft at *
    rw [List.countP_cons, List.takeWhile_cons, List.length_cons]
    by_cases hle : p.1 ≤ t
    · rw [if_neg (by simpa using hle), decide_eq_true hle, if_pos rfl, List.length_cons]
      omega
    · rw [if_pos (by simpa using hle), decide_eq_false hle, if_neg (by simp), List.length_nil]
      have : r.countP (fun p => decide (t < p.1)) = r.length := by
        rw [List.countP_eq_length]
        intro q hq
        have := hp.1 q hq
        simp; omega
      omega
theorem cutL_len {l : List (Int × Int)} (h : Asc l) (t : Int) (h0 : 0 < aft l t) : (cutL l t).length = late l t + 1 := by
  have := late_aft h t
  unfold cutL
  rw [List.length_drop]
  omega
theorem aft_pos2 {l : List (Int × Int)} {p : Int × Int} (h : l[0]? = some p) {t : Int} (ht : p.1 ≤ t) : 0 < aft l t := by
  cases l with
  | nil => cases h
  | cons x r =>
    simp at h
    subst h
    unfold aft
    rw [List.takeWhile_cons, decide_eq_true ht, if_pos rfl, List.length_cons]
    omega

/-- Stores alike in all but their lists. -/
def Like (s s' : Sn) : Prop := s'.c = s.c ∧ s'.n = s.n ∧ s'.W = s.W ∧ s'.B = s.B ∧ s'.T = s.T
theorem Like.old {s s' : Sn} (h : Like s s') : s'.old = s.old := by
  unfold Sn.old
  rw [h.2.1, h.2.2.2.1, h.2.2.2.2]
section
variable {s : Sn} (hA : ∀ k, Asc (s.L k)) (t : Int)
theorem fold_like (s : Sn) (t : Int) (l : List Int) (d : Int) : Like s (l.foldl (Sn.cutF t) (s, d)).1 := by
  induction l generalizing s d with
  | nil => exact ⟨rfl, rfl, rfl, rfl, rfl⟩
  | cons i r ih =>
    rw [List.foldl_cons]
    exact ih (s.cut i t) _
include hA
/-- The lists behind some cuts at one stamp. -/
theorem fold_L (ht : t ≤ s.n) (l : List Int) (d : Int) (k : Int) : (l.foldl (Sn.cutF t) (s, d)).1.L k = if k ∈ l ∧ 0 ≤ k ∧ k < s.c then cutL (s.L k) t else s.L k := by
  induction l generalizing s d with
  | nil => rw [if_neg (by simp)]; rfl
  | cons i r ih =>
    have hcut : ∀ j, (s.cut i t).L j = if j = i ∧ 0 ≤ j ∧ j < s.c then cutL (s.L j) t else s.L j := by
      intro j
      unfold Sn.cut cutL
      dsimp only
      by_cases h : j = i
      · subst h
        by_cases h2 : 0 ≤ j ∧ j < s.c
        · rw [if_pos ⟨rfl, by simpa using h2, ht⟩, if_pos ⟨rfl, h2⟩]
        · rw [if_neg (fun x => h2 (by simpa using x.2.1)), if_neg (fun x => h2 x.2)]
      · rw [if_neg (fun x => h x.1), if_neg (fun x => h x.1)]
    have hA' : ∀ j, Asc ((s.cut i t).L j) := fun j => by rw [hcut]; split; exact cutL_asc (hA j) t; exact hA j
    rw [List.foldl_cons]
    have e := ih (s := s.cut i t) hA' ht (d + ((s.L i).length - ((s.cut i t).L i).length))
    have e : (List.foldl (Sn.cutF t) (Sn.cutF t (s, d) i) r).1.L k = if k ∈ r ∧ 0 ≤ k ∧ k < s.c then cutL ((s.cut i t).L k) t else (s.cut i t).L k := e
    rw [e, hcut]
    by_cases hk : 0 ≤ k ∧ k < s.c
    · by_cases hi : k = i
      · subst hi
        rw [if_pos (⟨rfl, hk⟩ : k = k ∧ 0 ≤ k ∧ k < s.c), if_pos (⟨List.mem_cons_self .., hk⟩ : k ∈ k :: r ∧ 0 ≤ k ∧ k < s.c), cutL_two (hA k) t]
        split <;> rfl
      · rw [if_neg (fun x => hi x.1 : ¬ (k = i ∧ 0 ≤ k ∧ k < s.c))]
        by_cases hr : k ∈ r
        · rw [if_pos ⟨hr, hk⟩, if_pos ⟨List.mem_cons_of_mem _ hr, hk⟩]
        · rw [if_neg (fun x => hr x.1), if_neg (fun x => by rcases List.mem_cons.1 x.1 with h | h; exact hi h; exact hr h)]
    · rw [if_neg (fun x => hk x.2), if_neg (fun x => hk x.2), if_neg (fun x => hk x.2)]
end
theorem kept_upd {s s' : Sn} {i : Int} (h : ∀ k, k ≠ i → s'.L k = s.L k) (m : Nat) : s'.keptN m = s.keptN m + (if 0 ≤ i ∧ i < m then ((s'.L i).length : Int) - (s.L i).length else 0) := by
  induction m with
  | zero => rw [if_neg (by omega)]; rfl
  | succ k ih =>
    show s'.keptN k + _ = s.keptN k + _ + _
    rw [ih]
    by_cases hk : (k : Int) = i
    · subst hk
      rw [if_neg (by omega), if_pos (by omega)]
      omega
    · rw [h k hk]
      by_cases h2 : 0 ≤ i ∧ i < k
      · rw [if_pos h2, if_pos (by omega)]; omega
      · rw [if_neg h2, if_neg (by omega)]; omega
/-- The number of versions removed is the number by which the store shrinks. -/
theorem fold_d {s : Sn} {n : Nat} (hn : (n : Int) ≤ 2048) (hO : ∀ k, ¬ (0 ≤ k ∧ k < (n : Int)) → s.L k = []) (t : Int) (l : List Int) (d : Int) : (l.foldl (Sn.cutF t) (s, d)).2 = d + s.keptN 2048 - (l.foldl (Sn.cutF t) (s, d)).1.keptN 2048 := by
  induction l generalizing s d with
  | nil => show d = d + s.keptN 2048 - s.keptN 2048; omega
  | cons i r ih =>
    rw [List.foldl_cons]
    have hO' : ∀ k, ¬ (0 ≤ k ∧ k < (n : Int)) → (s.cut i t).L k = [] := fun k hk => by
      unfold Sn.cut
      dsimp only
      rw [hO k hk]
      split <;> simp
    have e := ih hO' (d + ((s.L i).length - ((s.cut i t).L i).length))
    have e : (List.foldl (Sn.cutF t) (Sn.cutF t (s, d) i) r).2 = d + ((s.L i).length - ((s.cut i t).L i).length) + (s.cut i t).keptN 2048 - (List.foldl (Sn.cutF t) (Sn.cutF t (s, d) i) r).1.keptN 2048 := e
    rw [e, kept_upd (s := s) (s' := s.cut i t) (i := i) (fun k hk => by unfold Sn.cut; dsimp only; rw [if_neg (fun x => hk x.1)]) 2048]
    by_cases h : 0 ≤ i ∧ i < ((2048 : Nat) : Int)
    · rw [if_pos h]; omega
    · rw [if_neg h]
      have h1 := hO i (fun x => h ⟨x.1, by omega⟩)
      have h2 := hO' i (fun x => h ⟨x.1, by omega⟩)
      rw [h1, h2]
      simp
/-- Cells that have no list do not count. -/
theorem kept_few {s : Sn} {n : Nat} (hO : ∀ k, ¬ (0 ≤ k ∧ k < (n : Int)) → s.L k = []) (m : Nat) (h : n ≤ m) : s.keptN m = s.keptN n := by
  induction m with
  | zero => rw [show n = 0 by omega]
  | succ k ih =>
    by_cases hk : n = k + 1
    · rw [hk]
    · show s.keptN k + _ = _
      rw [ih (by omega), hO k (by omega)]
      simp
theorem locs_few {s : Sn} {n : Nat} (hO : ∀ k, ¬ (0 ≤ k ∧ k < (n : Int)) → s.L k = []) (m : Nat) (h : n ≤ m) : s.locs m = s.locs n := by
  induction m with
  | zero => rw [show n = 0 by omega]
  | succ k ih =>
    by_cases hk : n = k + 1
    · rw [hk]
    · show s.locs k ++ _ = _
      rw [ih (by omega), hO k (by omega)]
      simp
theorem locs_mem {s : Sn} {n : Nat} (h : ∀ k, 0 ≤ k → k < (n : Int) → 0 < (s.L k).length) (m : Nat) (hm : m ≤ n) (k : Int) : k ∈ s.locs m ↔ 0 ≤ k ∧ k < m := by
  induction m with
  | zero => simp [Sn.locs]
            try omega
  | succ j ih =>
    unfold Sn.locs
    rw [if_pos (h j (by omega) (by omega)), List.mem_append, ih (by omega)]
    simp
    omega
theorem all_eq (s : Sn) (n : Nat) (h : s.locs 2048 = s.locs n) : s.all = s.cells (s.locs n) := congrArg s.cells h
theorem all_like (s : Sn) : Like s s.all.1 := fold_like s s.old _ 0
section
variable {n : Nat} {s : Sn} {all : List W3} {m : Int} (h : Good n s all m)
include h
theorem Good.pos (k : Int) (h0 : 0 ≤ k) (h1 : k < n) : 0 < (s.L k).length := by rw [h.hL k h0 h1]; simp
theorem Good.first (k : Int) (h0 : 0 ≤ k) (h1 : k < n) : (s.L k)[0]? = some (0, 0) := by rw [h.hL k h0 h1]; rfl
theorem Good.old_le : 0 ≤ s.old ∧ s.old ≤ s.n := by
  obtain ⟨h1, h2, h3⟩ := foldl_min (rdI s.B s.T 8) s.n
  refine ⟨?_, h2⟩
  rcases h1 with e | e
  · show 0 ≤ (rdI s.B s.T 8).foldl min s.n
    rw [e]; exact h.hn0
  · obtain ⟨j, _, hb, ht⟩ := rdI_mem _ _ _ _ e
    have := (h.hT j hb).1
    show 0 ≤ (rdI s.B s.T 8).foldl min s.n
    omega
theorem Good.kept (hn : n ≤ 6) : s.keptN 2048 = s.keptN n := kept_few h.hO 2048 (by omega)
/-- The lists behind a trim. -/
theorem Good.allL (hn : n ≤ 6) (k : Int) : s.all.1.L k = if 0 ≤ k ∧ k < (n : Int) then cutL (s.L k) s.old else s.L k := by
  rw [all_eq s n (locs_few h.hO 2048 (by omega))]
  unfold Sn.cells
  rw [fold_L h.hA s.old h.old_le.2 (s.locs n) 0 k, h.hc]
  by_cases hk : 0 ≤ k ∧ k < (n : Int)
  · rw [if_pos ⟨(locs_mem h.pos n (Nat.le_refl _) k).2 hk, hk⟩, if_pos hk]
  · rw [if_neg (fun x => hk x.2), if_neg hk]
theorem Good.allO (hn : n ≤ 6) (k : Int) (hk : ¬ (0 ≤ k ∧ k < (n : Int))) : s.all.1.L k = [] := by
  rw [h.allL hn, if_neg hk]; exact h.hO k hk
theorem Good.all_d (hn : n ≤ 6) : s.all.2 = s.keptN 2048 - s.all.1.keptN 2048 := by
  rw [all_eq s n (locs_few h.hO 2048 (by omega))]
  unfold Sn.cells
  rw [fold_d (by omega) h.hO s.old (s.locs n) 0, Int.zero_add]
end
end Go.Proofs.Ytpejhgkcofilmaa
