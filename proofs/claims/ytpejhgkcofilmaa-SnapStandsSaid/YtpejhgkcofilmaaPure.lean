/- Plain laws on lists of versions: what a cut leaves visible. -/
import Derived.Test.YtpejhgkcofilmaaLawA
set_option linter.unusedVariables false
namespace Go.Proofs.Ytpejhgkcofilmaa

theorem Asc.lt {l : List (Int × Int)} (h : Asc l) (i j : Nat) (hj : j < l.length) (hij : i < j) : l[i].1 < l[j].1 := List.pairwise_iff_getElem.1 h i j (by omega) hj hij
/-- The count of stamps up to t in a list without its first d. -/
theorem aft_drop (l : List (Int × Int)) (h : Asc l) (d : Nat) (t : Int) : aft (l.drop d) t = aft l t - d := by
  have h1 := aft_le (l.drop d) t
  have h2 := aft_le l t
  have hd : Asc (l.drop d) := h.drop
  rw [List.length_drop] at h1
  rcases Nat.lt_trichotomy (aft (l.drop d) t) (aft l t - d) with h3 | h3 | h3
  · have hk : aft (l.drop d) t < (l.drop d).length := by rw [List.length_drop]; omega
    have h4 := (aft_iff (l.drop d) t hd _ hk).2 (Nat.le_refl _)
    rw [List.getElem_drop] at h4
    have h5 := (aft_iff l t h (d + aft (l.drop d) t) (by omega)).1 h4
    omega
  · exact h3
  · have hk : aft l t - d < (l.drop d).length := by rw [List.length_drop]; omega
    have h4 := (aft_pos (l.drop d) t hd _ hk).2 h3
    rw [List.getElem_drop] at h4
    have h5 := (aft_pos l t h (d + (aft l t - d)) (by rw [List.length_drop] at hk; omega)).1 h4
    omega
theorem aft_mono (l : List (Int × Int)) (h : Asc l) (s t : Int) (hst : s ≤ t) : aft l s ≤ aft l t := by
  have h1 := aft_le l s
  have h2 := aft_le l t
  rcases Nat.lt_or_ge (aft l t) (aft l s) with h3 | h3
  · have h4 := (aft_pos l s h (aft l t) (by omega)).2 h3
    have h5 := (aft_pos l t h (aft l t) (by omega)).1 (by omega)
    omega
  · exact h3
/-- A cut at s changes nothing that is visible from s on. -/
theorem see_cut (l : List (Int × Int)) (h : Asc l) (s t : Int) (hst : s ≤ t) : seeV (l.drop (aft l s - 1)) t = seeV l t ∧ seeB (l.drop (aft l s - 1)) t = seeB l t := by
  have h1 := aft_drop l h (aft l s - 1) t
  have h2 := aft_mono l h s t hst
  unfold seeV seeB
  rw [h1]
  rcases Nat.eq_zero_or_pos (aft l t) with h0 | h0
  · rw [h0]; simp
  · constructor
    · rw [if_neg (by omega), if_neg (by omega), List.getElem?_drop]
      congr 3
      omega
    · apply decide_eq_decide.2
      omega
/-- A second cut at the same stamp removes nothing. -/
theorem cut_again (l : List (Int × Int)) (h : Asc l) (s : Int) : aft (l.drop (aft l s - 1)) s - 1 = 0 := by
  rw [aft_drop l h]; omega
/-- In a cut list each version but the first is newer than the stamp. -/
theorem cut_next (l : List (Int × Int)) (h : Asc l) (s : Int) (i : Nat) (hi : i + 1 < (l.drop (aft l s - 1)).length) : (l.drop (aft l s - 1))[i].1 < (l.drop (aft l s - 1))[i + 1].1 ∧ s < (l.drop (aft l s - 1))[i + 1].1 := by
  refine ⟨(show Asc (l.drop (aft l s - 1)) from h.drop).lt i (i + 1) hi (by omega), ?_⟩
  have hd : Asc (l.drop (aft l s - 1)) := h.drop
  refine (aft_iff _ s hd (i + 1) hi).2 ?_
  have := cut_again l h s
  omega
/-- Two cuts, in whichever order, are the later one. -/
theorem cut_two (l : List (Int × Int)) (h : Asc l) (p q : Int) (hpq : p ≤ q) :
    (l.drop (aft l p - 1)).drop (aft (l.drop (aft l p - 1)) q - 1) = l.drop (aft l q - 1) ∧ (l.drop (aft l q - 1)).drop (aft (l.drop (aft l q - 1)) p - 1) = l.drop (aft l q - 1) := by
  have h1 := aft_mono l h p q hpq
  rw [aft_drop l h, aft_drop l h, List.drop_drop, List.drop_drop]
  constructor <;> congr 1 <;> omega
/-- Add changes nothing that is visible before its stamp. -/
theorem see_add (l : List (Int × Int)) (h : Asc l) (s v t : Int) (ht : addE l s ≠ 0 ∨ t < s) : seeV (addL l s v) t = seeV l t ∧ seeB (addL l s v) t = seeB l t := by
  by_cases h0 : addE l s = 0
  · have hts : t < s := ht.resolve_left (fun h => h h0)
    have hA : Asc (addL l s v) := h.add s v
    have e : addL l s v = l ++ [(s, v)] := by simp [addL, h0]
    have h1 := aft_le l t
    have h2 : aft (l ++ [(s, v)]) t = aft l t := by
      rw [e] at hA
      have h3 := aft_le (l ++ [(s, v)]) t
      rw [List.length_append, List.length_singleton] at h3
      rcases Nat.lt_trichotomy (aft (l ++ [(s, v)]) t) (aft l t) with h4 | h4 | h4
      · have h5 := (aft_pos l t h (aft (l ++ [(s, v)]) t) (by omega)).2 h4
        have h6 := (aft_pos _ t hA (aft (l ++ [(s, v)]) t) (by simp; omega)).1 (by rw [List.getElem_append_left (by omega)]; exact h5)
        omega
      · exact h4
      · have h5 := (aft_pos _ t hA (aft l t) (by simp; omega)).2 h4
        rcases Nat.lt_or_ge (aft l t) l.length with h6 | h6
        · rw [List.getElem_append_left h6] at h5
          have := (aft_pos l t h (aft l t) h6).1 h5
          omega
        · have h7 : aft l t = l.length := by omega
          simp only [h7, List.getElem_concat_length] at h5
          omega
    rw [e]
    unfold seeV seeB
    rw [h2]
    refine ⟨?_, rfl⟩
    split
    · rfl
    · rw [List.getElem?_append_left (by omega)]
  · have e : addL l s v = l := by simp [addL, h0]
    rw [e]; exact ⟨rfl, rfl⟩
end Go.Proofs.Ytpejhgkcofilmaa
