/- What trimming some cells leaves, in the words of the reference. No program in sight. -/
import Derived.Test.YtpejhgkcofilmaaTrO
import Derived.Test.YtpejhgkcofilmaaTrQ
set_option linter.unusedVariables false
namespace Go.Proofs.Ytpejhgkcofilmaa
open Go.RowKit

/-- Rows cut at t. -/
def cutW (l : List W3) (t : Int) : List W3 := l.drop (aft (stL l) t - 1)
/-- The rows of cell k behind the first y cells of the list. -/
def vT (all : List W3) (wl : List Int) (t k : Int) (y : Nat) : List W3 := if k ∈ wl.take y then cutW (ofL all k) t else ofL all k
theorem vT_zero (all : List W3) (wl : List Int) (t k : Int) : vT all wl t k 0 = ofL all k := if_neg (by simp)
theorem vT_next (all : List W3) (wl : List Int) (t k : Int) (y : Nat) (hy : y < wl.length) : vT all wl t k (y + 1) = if wl[y] = k then cutW (ofL all k) t else vT all wl t k y := by
  unfold vT
  rw [List.take_succ_eq_append_getElem hy]
  by_cases h : wl[y] = k
  · rw [if_pos h, if_pos (by rw [h]; simp)]
  · rw [if_neg h]
    have : k ∈ wl.take y ++ [wl[y]] ↔ k ∈ wl.take y := by
      rw [List.mem_append]
      constructor
      · rintro (h1 | h1)
        · exact h1
        · simp only [List.mem_singleton] at h1; exact absurd h1.symm h
      · exact .inl
    by_cases h2 : k ∈ wl.take y
    · rw [if_pos (this.2 h2), if_pos h2]
    · rw [if_neg (fun x => h2 (this.1 x)), if_neg h2]
theorem vT_len (all : List W3) (wl : List Int) (t k : Int) (y : Nat) : (vT all wl t k y).length ≤ (ofL all k).length := by
  unfold vT cutW
  split
  · simp
  · exact Nat.le_refl _
theorem ofL_len (all : List W3) (k : Int) : (ofL all k).length ≤ all.length + 1 := by
  unfold ofL
  rw [List.length_cons]
  have := List.length_filter_le (fun x : W3 => x.1 == k) all
  omega
section
variable {n : Nat} {s : Sn} {all : List W3} {m : Int} (h : Good n s all m)
include h
theorem Good.of_st (k : Int) (h0 : 0 ≤ k) (h1 : k < n) : stL (ofL all k) = s.L k := by
  rw [h.hL k h0 h1]
  rfl
theorem Good.v_st (wl : List Int) (k : Int) (h0 : 0 ≤ k) (h1 : k < n) : stL (vT all wl s.old k wl.length) = (partF s wl).1.L k := by
  rw [h.partL]
  unfold vT
  rw [List.take_length]
  by_cases hk : k ∈ wl
  · rw [if_pos hk, if_pos ⟨hk, h0, h1⟩]
    unfold cutW cutL stL
    rw [List.map_drop]
    have := h.of_st k h0 h1
    unfold stL at this
    rw [this]
  · rw [if_neg hk, if_neg (fun x => hk x.1)]
    exact h.of_st k h0 h1
theorem Good.of_asc (k : Int) (h0 : 0 ≤ k) (h1 : k < n) : Asc (stL (ofL all k)) := by
  rw [h.of_st k h0 h1]; exact h.hA k
theorem Good.v_asc (hm : m ≤ 1000) (wl : List Int) (k : Int) (h0 : 0 ≤ k) (h1 : k < n) : Asc (stL (vT all wl s.old k wl.length)) := by
  rw [h.v_st wl k h0 h1]
  exact (h.part_ok hm wl).1.1 k
theorem Good.lens (wl : List Int) (k : Nat) (h1 : k < n) : ((ofL all k).length : Int) = (s.keptN (k + 1) - s.keptN k) ∧ ((vT all wl s.old k wl.length).length : Int) = (partF s wl).1.keptN (k + 1) - (partF s wl).1.keptN k ∧ (vT all wl s.old k wl.length).length = ((partF s wl).1.L k).length := by
  have e1 : (ofL all k).length = (s.L k).length := by rw [← h.of_st k (by omega) (by omega)]; simp [stL]
  have e2 : (vT all wl s.old k wl.length).length = ((partF s wl).1.L k).length := by rw [← h.v_st wl k (by omega) (by omega)]; simp [stL]
  refine ⟨?_, ?_, e2⟩
  · show _ = s.keptN k + ((s.L k).length : Int) - s.keptN k
    omega
  · show _ = (partF s wl).1.keptN k + (((partF s wl).1.L k).length : Int) - (partF s wl).1.keptN k
    omega
theorem Good.x_at (hm : m ≤ 1000) (wl : List Int) (k t : Int) (h0 : 0 ≤ k) (h1 : k < n) (ht : t ≤ s.n) : (partF s wl).1.atV t k = seeV (stL (vT all wl s.old k wl.length)) t ∧ (partF s wl).1.atB t k = seeB (stL (vT all wl s.old k wl.length)) t := by
  obtain ⟨l1, l2, _, _, _⟩ := partF_like s wl
  rw [h.v_st wl k h0 h1]
  have hc : (decide (0 ≤ k) && decide (k < s.c)) = true := by rw [h.hc]; simp; omega
  unfold Sn.atV Sn.atB
  rw [l1, l2, hc, decide_eq_true ht]
  exact ⟨if_pos rfl, rfl⟩
/-- What the law's last test compares. -/
theorem Good.cuts_end (hn : n ≤ 6) (wl : List Int) : (partF s wl).2 = s.keptN n - (partF s wl).1.keptN n ∧ (partF s wl).1.keptN 2048 = (partF s wl).1.keptN n ∧ s.keptN 2048 = (partF s wl).1.keptN n + (partF s wl).2 := by
  have e1 := kept_few (h.partO wl) 2048 (by omega)
  have e2 := h.kept hn
  have e3 := h.partD hn wl
  omega
end
end Go.Proofs.Ytpejhgkcofilmaa
