/- The walk of the law's Made: for at most 2^20 acts it returns the versions that the acts leave, twice, and true. -/
import Derived.Test.YtpejhgkcofilmaaVerG
set_option linter.unusedVariables false
namespace Go.Proofs.Ytpejhgkcofilmaa
open Go.RowKit

/-- One act: a stamp, a value, whether to cut. -/
def play1 (l : List (Int × Int)) (a : Int × Int × Bool) : List (Int × Int) := if a.2.2 then l.drop (aft l a.1 - 1) else addL l a.1 a.2.1
def play (acts : List (Int × Int × Bool)) : List (Int × Int) := acts.foldl play1 []
theorem play_snoc (acts : List (Int × Int × Bool)) (k : Nat) (h : k < acts.length) : play (acts.take (k + 1)) = play1 (play (acts.take k)) acts[k] := by
  unfold play; rw [List.take_succ_eq_append_getElem h, List.foldl_append]; rfl
theorem Asc.snoc {l : List (Int × Int)} (h : Asc l) (s v : Int) (hs : ∀ k, l.length = k + 1 → (lastP l).1 < s) : Asc (l ++ [(s, v)]) := by
  unfold Asc
  rw [List.pairwise_append]
  refine ⟨h, by simp, fun p hp q hq => ?_⟩
  simp only [List.mem_singleton] at hq
  subst hq
  obtain ⟨i, hi, rfl⟩ := List.getElem_of_mem hp
  obtain ⟨k, hk⟩ : ∃ k, l.length = k + 1 := ⟨l.length - 1, by omega⟩
  have h1 := hs k hk
  obtain ⟨hkl, hP⟩ := lastP_get l k hk
  rw [hP] at h1
  rcases Nat.lt_or_ge i k with h2 | h2
  · have := List.pairwise_iff_getElem.1 h i k hi hkl h2
    show l[i].1 < s
    omega
  · obtain rfl : i = k := by omega
    exact h1
theorem Asc.add {l : List (Int × Int)} (h : Asc l) (s v : Int) : Asc (addL l s v) := by
  unfold addL
  split
  · rename_i h0
    refine h.snoc s v fun k hk => ?_
    unfold addE at h0
    split at h0
    · cases h0
    · split at h0
      · cases h0
      · rename_i h1
        have hne : l.isEmpty = false := isEmpty_no l (by omega)
        rcases Int.lt_or_le (lastP l).1 s with h2 | h2
        · exact h2
        · exact absurd ⟨hne, h2⟩ h1
  · exact h
theorem Asc.play1 {l : List (Int × Int)} (h : Asc l) (a : Int × Int × Bool) : Asc (play1 l a) := by
  unfold Go.Proofs.Ytpejhgkcofilmaa.play1
  split
  · exact h.drop
  · exact h.add _ _
theorem play1_len (l : List (Int × Int)) (a : Int × Int × Bool) : (play1 l a).length ≤ l.length + 1 := by
  unfold play1 addL
  split
  · simp; omega
  · split <;> simp
theorem play_asc (acts : List (Int × Int × Bool)) (k : Nat) : Asc (play (acts.take k)) := by
  induction k with
  | zero => simp [play, Asc]
  | succ k ih =>
    rcases Nat.lt_or_ge k acts.length with h | h
    · rw [play_snoc acts k h]; exact ih.play1 _
    · rw [List.take_of_length_le (by omega)]; rwa [List.take_of_length_le h] at ih
theorem play_len (acts : List (Int × Int × Bool)) (k : Nat) (hk : k ≤ acts.length) : (play (acts.take k)).length ≤ k := by
  induction k with
  | zero => simp [play]
  | succ k ih =>
    rw [play_snoc acts k (by omega)]
    have := play1_len (play (acts.take k)) acts[k]
    have := ih (by omega)
    omega

/-- The cells of a list of acts. -/
def flatA (l : List (Int × Int × Bool)) : List Value := l.flatMap fun a => [.int .i64 a.1, .int .i64 a.2.1, .bool a.2.2]
theorem flatA_get (l : List (Int × Int × Bool)) (i : Nat) (h : i < l.length) : (flatA l)[3 * i]? = some (.int .i64 l[i].1) ∧ (flatA l)[3 * i + 1]? = some (.int .i64 l[i].2.1) ∧ (flatA l)[3 * i + 2]? = some (.bool l[i].2.2) := by
  induction l generalizing i with
  | nil => simp at h
  | cons a t ih =>
    cases i with
    | zero => simp [flatA]
    | succ k =>
      have := ih k (by simpa using h)
      simpa [flatA, Nat.mul_add] using this
def Acts (w : World) (S : Nat → Prop) (A : Option Addr) (n : Nat) (l : List (Int × Int × Bool)) : Prop := n = l.length ∧ Reads w S 3 A n (flatA l)
theorem Acts.later {w : World} {S : Nat → Prop} {n : Nat} {A : Option Addr} {l : List (Int × Int × Bool)} (h : Acts w S A n l) (k : Nat) (hk : k < l.length) :
    ∃ b o, A = some ⟨b, o, none⟩ ∧ b < w.heap.size ∧ ∀ W, Below w.heap.size w W → W.cell? ⟨b, o + k * 3, none⟩ = some (.int .i64 l[k].1) ∧ W.cell? ⟨b, o + k * 3 + 1, none⟩ = some (.int .i64 l[k].2.1) ∧ W.cell? ⟨b, o + k * 3 + 2, none⟩ = some (.bool l[k].2.2) := by
  obtain ⟨rfl, h1, h2⟩ := h
  obtain ⟨b, o, e, hb, _, hc⟩ := h2 (by omega)
  have := flatA_get l k hk
  refine ⟨b, o, e, hb, fun W hW => ⟨?_, ?_, ?_⟩⟩
  · rw [hW.cell (p := ⟨b, o + k * 3, none⟩) hb, Nat.mul_comm]; exact hc _ _ this.1
  · rw [hW.cell (p := ⟨b, o + k * 3 + 1, none⟩) hb, Nat.mul_comm, Nat.add_assoc]; exact hc _ _ this.2.1
  · rw [hW.cell (p := ⟨b, o + k * 3 + 2, none⟩) hb, Nat.mul_comm, Nat.add_assoc]; exact hc _ _ this.2.2
end Go.Proofs.Ytpejhgkcofilmaa
