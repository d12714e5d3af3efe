/- What entry.Merge computes, in plain Lean. No condition. -/
import Derived.Test.YtilapnejkdgomaaDoorMgE
set_option linter.unusedVariables false
set_option linter.unusedSimpArgs false
namespace Go.Proofs.YtilapnejkdgomaaDoor

/-- An entry that takes another one in behind itself. -/
def onto (y x : Ent) : Ent := { y with new := x.new, wr := y.wr || x.wr }
/-- One entry merged into a sorted list. -/
def mIns (out : List Ent) (x : Ent) : Option (List Ent) :=
  if has x out = true then
    match out[low x out]? with
    | some y => if leafV y = x.val ∧ leafN y = x.ver ∧ x.ref = 0 then some (out.set (low x out) (onto y x)) else none
    | none => none
  else some (out.take (low x out) ++ x :: out.drop (low x out))
/-- entry.Merge's answer. -/
def mrgL : List Ent → List Ent → Option (List Ent)
  | out, [] => some out
  | out, x :: t => match mIns out x with | some o => mrgL o t | none => none
def mrg (a b : List Ent) : List Ent × Int :=
  if chk0 a ≠ 0 then ([], chk0 a) else if chk0 b ≠ 0 then ([], chk0 b) else
  match mrgL (srt Ent.loc a) (srt Ent.loc b) with
  | none => ([], 14)
  | some o => if 32 < o.length then ([], 15) else (o, 0)
theorem low_split (x : Ent) (l : List Ent) (h : Asc Ent.loc l) : (∀ y ∈ l.take (low x l), y.loc < x.loc) ∧ (∀ y ∈ l.drop (low x l), x.loc ≤ y.loc) := by
  induction l with
  | nil => exact ⟨fun y h => by simp at h, fun y h => by simp at h⟩
  | cons z t ih =>
    have h' := List.pairwise_cons.1 h
    by_cases hz : z.loc < x.loc
    · have e : low x (z :: t) = low x t + 1 := by unfold low; rw [List.takeWhile_cons_of_pos (by simpa using hz), List.length_cons]
      rw [e, List.take_succ_cons, List.drop_succ_cons]
      refine ⟨fun y hy => ?_, (ih h'.2).2⟩
      rcases List.mem_cons.1 hy with rfl | hy
      · exact hz
      · exact (ih h'.2).1 y hy
    · have e : low x (z :: t) = 0 := by unfold low; rw [List.takeWhile_cons_of_neg (by simpa using hz)]; rfl
      rw [e]
      refine ⟨fun y hy => by simp at hy, fun y hy => ?_⟩
      rw [List.drop_zero] at hy
      rcases List.mem_cons.1 hy with rfl | hy
      · omega
      · have := h'.1 y hy; omega
theorem mIns_asc {out o : List Ent} {x : Ent} (h : Asc Ent.loc out) (he : mIns out x = some o) : Asc Ent.loc o := by
  obtain ⟨h1, h2⟩ := low_split x out h
  unfold mIns at he
  split at he
  · split at he
    · next y hy =>
      split at he
      · injection he with he
        subst he
        unfold Asc at h ⊢
        rw [List.pairwise_iff_getElem] at h ⊢
        intro i j hi hj hij
        rw [List.length_set] at hi hj
        have hyl : ∀ k (hk : k < out.length), ((out.set (low x out) (onto y x))[k]'(by rw [List.length_set]; exact hk)).loc = out[k].loc := fun k hk => by
          rw [List.getElem_set]
          split
          · next e => subst e; obtain ⟨_, e2⟩ := List.getElem?_eq_some_iff.1 hy; rw [← e2] ; rfl
          · rfl
        rw [hyl i hi, hyl j hj]
        exact h i j hi hj hij
      · cases he
    · cases he
  · injection he with he
    subst he
    have hs := List.take_append_drop (low x out) out
    rw [← hs] at h
    refine asc_app Ent.loc (asc_left Ent.loc h) (List.pairwise_cons.2 ⟨fun y hy => h2 y hy, asc_right Ent.loc h⟩) fun y hy z hz => ?_
    rcases List.mem_cons.1 hz with rfl | hz
    · have := h1 y hy; omega
    · exact asc_across Ent.loc h y hy z hz
theorem mIns_length {out o : List Ent} {x : Ent} (he : mIns out x = some o) : o.length ≤ out.length + 1 := by
  unfold mIns at he
  split at he
  · split at he
    · split at he
      · injection he with he; subst he; rw [List.length_set]; omega
      · cases he
    · cases he
  · injection he with he; subst he
    rw [List.length_append, List.length_cons, List.length_take, List.length_drop]; omega
theorem mrgL_none {out : List Ent} {x : Ent} {t : List Ent} (h : mIns out x = none) : mrgL out (x :: t) = none := by rw [mrgL, h]
theorem mrgL_some {out o : List Ent} {x : Ent} {t : List Ent} (h : mIns out x = some o) : mrgL out (x :: t) = mrgL o t := by rw [mrgL, h]
end Go.Proofs.YtilapnejkdgomaaDoor
