/- How the counts and the last values follow the entries of a commit, one by one. No program in sight. -/
import Derived.Test.YtpejhgkcofilmaaTrG
set_option linter.unusedVariables false
namespace Go.Proofs.Ytpejhgkcofilmaa
open Go.RowKit

theorem wr_no {l : List Ent} {k : Int} (h : ∀ e ∈ l, e.loc ≠ k) : wrOf l k = none := by
  cases hx : wrOf l k with
  | none => rfl
  | some v =>
    obtain ⟨e, he, _, h1, _⟩ := wr_some hx
    exact absurd h1 (h e he)
section
variable {s : Sn} {ps : List (Int × Int)} {m : Nat}
/-- The j-th entry. -/
theorem ents_at (j : Nat) (hj : j < (s.ents ps m).length) : ∃ i : Nat, i < m ∧ ∃ v, (s.ents ps m)[j] = s.ent i v ∧ putOf s.c ps i = some v ∧ wrOf ((s.ents ps m).take j) i = none ∧ ∀ k, wrOf ((s.ents ps m).take (j + 1)) k = if k = i then some v else wrOf ((s.ents ps m).take j) k := by
  obtain ⟨i, hi, v, hp, he⟩ := ents_mem (List.getElem_mem hj)
  refine ⟨i, hi, v, he, hp, wr_no fun e h => ?_, fun k => ?_⟩
  · obtain ⟨a, ha, rfl⟩ := List.mem_iff_getElem.1 h
    rw [List.length_take] at ha
    have := List.pairwise_iff_getElem.1 (ents_sorted (s := s) (ps := ps) m) a j (by omega) hj (by omega)
    rw [he] at this
    rw [List.getElem_take]
    show _ ≠ (i : Int)
    change _ < (i : Int) at this
    omega
  · rw [List.take_succ_eq_append_getElem hj, wrOf_snoc, he]
    rfl
theorem commit_nil (l : Nat) : cntV (s.commit []) l = cntV s l ∧ lastV (s.commit []) l = lastV s l := ⟨rfl, rfl⟩
theorem cnt_at (es : List Ent) (n i : Nat) (hi : i < n) (h : wrOf es i = none) : (cntV (s.commit es) n)[i]? = some (.int .u32 (s.W i)) := by
  unfold cntV
  rw [List.getElem?_map, List.getElem?_range hi]
  show some (Value.int .u32 (if (wrOf es i).isSome = true then (s.W i + 1) % 4294967296 else s.W i)) = _
  rw [h]
  rfl
theorem cnt_next (es es' : List Ent) (n i : Nat) (v : Int) (hi : i < n) (hw : 0 ≤ s.W i ∧ s.W i < 4294967295) (h : ∀ k : Int, wrOf es' k = if k = i then some v else wrOf es k) :
    (cntV (s.commit es) n).set i (.int .u32 (s.W i + 1)) = cntV (s.commit es') n := by
  apply List.ext_getElem?
  intro k
  unfold cntV
  rw [List.getElem?_set]
  by_cases hk : i = k
  · subst hk
    rw [if_pos rfl, if_pos (by simpa using hi), List.getElem?_map, List.getElem?_range hi]
    show _ = some (Value.int .u32 (if (wrOf es' i).isSome = true then (s.W i + 1) % 4294967296 else s.W i))
    rw [h, if_pos rfl]
    show _ = some (Value.int .u32 ((s.W i + 1) % 4294967296))
    rw [Int.emod_eq_of_lt (by omega) (by omega)]
  · rw [if_neg hk, List.getElem?_map, List.getElem?_map]
    rcases Nat.lt_or_ge k n with hkn | hkn
    · rw [List.getElem?_range hkn]
      show some (Value.int .u32 (if (wrOf es k).isSome = true then (s.W k + 1) % 4294967296 else s.W k)) = some (Value.int .u32 (if (wrOf es' k).isSome = true then (s.W k + 1) % 4294967296 else s.W k))
      rw [h, if_neg (show ¬ ((k : Int) = (i : Int)) by omega)]
    · rw [List.getElem?_eq_none (by simpa using hkn)]
      rfl
theorem last_next (es es' : List Ent) (n i : Nat) (v : Int) (hi : i < n) (h : ∀ k : Int, wrOf es' k = if k = i then some v else wrOf es k) :
    (lastV (s.commit es) n).set i (.int .i64 v) = lastV (s.commit es') n := by
  apply List.ext_getElem?
  intro k
  unfold lastV
  rw [List.getElem?_set]
  by_cases hk : i = k
  · subst hk
    rw [if_pos rfl, if_pos (by simpa using hi), List.getElem?_map, List.getElem?_range hi]
    show _ = some (Value.int .i64 (lastP (match wrOf es' i with | some v => s.L i ++ [(s.n + 1, v)] | none => s.L i)).2)
    rw [h, if_pos rfl]
    simp [lastP]
  · rw [if_neg hk, List.getElem?_map, List.getElem?_map]
    rcases Nat.lt_or_ge k n with hkn | hkn
    · rw [List.getElem?_range hkn]
      show some (Value.int .i64 (lastP (match wrOf es k with | some v => s.L k ++ [(s.n + 1, v)] | none => s.L k)).2) = some (Value.int .i64 (lastP (match wrOf es' k with | some v => s.L k ++ [(s.n + 1, v)] | none => s.L k)).2)
      rw [h, if_neg (show ¬ ((k : Int) = (i : Int)) by omega)]
    · rw [List.getElem?_eq_none (by simpa using hkn)]
      rfl
theorem cnt_zero (c : Int) (n : Nat) (h : (n : Int) ≤ c) : cntV (Sn.zero c) n = List.replicate n (.int .u32 0) ∧ lastV (Sn.zero c) n = List.replicate n (.int .i64 0) := by
  constructor
  · apply List.ext_getElem?
    intro k
    unfold cntV
    rw [List.getElem?_map]
    rcases Nat.lt_or_ge k n with hkn | hkn
    · rw [List.getElem?_range hkn, List.getElem?_replicate, if_pos hkn]; rfl
    · rw [List.getElem?_eq_none (by simpa using hkn), List.getElem?_replicate, if_neg (by omega)]; rfl
  · apply List.ext_getElem?
    intro k
    unfold lastV
    rw [List.getElem?_map]
    rcases Nat.lt_or_ge k n with hkn | hkn
    · rw [List.getElem?_range hkn, List.getElem?_replicate, if_pos hkn]
      show some (Value.int .i64 (lastP (listOf c noG k)).2) = _
      unfold listOf
      rw [if_pos (by omega)]
      rfl
    · rw [List.getElem?_eq_none (by simpa using hkn), List.getElem?_replicate, if_neg (by omega)]; rfl
theorem last_at (n i : Nat) (hi : i < n) : (lastV s n)[i]? = some (.int .i64 (lastP (s.L i)).2) := by
  unfold lastV
  rw [List.getElem?_map, List.getElem?_range hi]
  rfl
theorem cnt_at0 (n i : Nat) (hi : i < n) : (cntV s n)[i]? = some (.int .u32 (s.W i)) := by
  unfold cntV
  rw [List.getElem?_map, List.getElem?_range hi]
  rfl
end
/-- No one of the first j puts names cell k. -/
def noPut (c : Int) (ps : List (Int × Int)) (k : Int) (j : Nat) : Prop := ∀ i (h : i < ps.length), i < j → (ps[i].1 + 128) % c ≠ k
theorem putOf_hit {c : Int} {ps : List (Int × Int)} {k : Int} {j : Nat} (h : noPut c ps k j) (hj : j < ps.length) (he : (ps[j].1 + 128) % c = k) : putOf c ps k = some ps[j].2 := by
  unfold putOf
  have hf : (ps.find? fun p => (p.1 + 128) % c == k) = some ps[j] := by
    rw [List.find?_eq_some_iff_getElem]
    refine ⟨by simpa using he, j, hj, rfl, fun i hi => ?_⟩
    have := h i (by omega) hi
    simpa using this
  rw [hf]
  rfl
theorem putOf_no {c : Int} {ps : List (Int × Int)} {k : Int} (h : noPut c ps k ps.length) : putOf c ps k = none := by
  unfold putOf
  rw [List.find?_eq_none.2]
  · rfl
  · intro p hp
    obtain ⟨i, hi, rfl⟩ := List.mem_iff_getElem.1 hp
    have := h i hi hi
    simpa using this
theorem noPut_next {c : Int} {ps : List (Int × Int)} {k : Int} {j : Nat} (h : noPut c ps k j) (hj : j < ps.length) (he : (ps[j].1 + 128) % c ≠ k) : noPut c ps k (j + 1) := by
  intro i hi hij
  by_cases e : i = j
  · subst e; exact he
  · exact h i hi (by omega)
end Go.Proofs.Ytpejhgkcofilmaa
