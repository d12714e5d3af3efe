/- Pure: the eliminated pairs, the order, the answers. No condition. -/
import Derived.Test.YtkloaopjlbinpaaGreatTeT
set_option linter.unusedVariables false
set_option linter.unusedSimpArgs false
namespace Go.Proofs.YtkloaopjlbinpaaGreat
open Go.RowKit Go.MapKept

structure Opn where
  th : Int
  pu : Bool
  v : Int
def opC (o : Opn) : List Value := [.int .i64 o.th, .bool o.pu, .int .i64 o.v]
def oT (L : List Opn) (i : Nat) : Int := (L.getD i ⟨0, false, 0⟩).th
def oP (L : List Opn) (i : Nat) : Bool := (L.getD i ⟨0, false, 0⟩).pu
def oV (L : List Opn) (i : Nat) : Int := (L.getD i ⟨0, false, 0⟩).v
def isF (L : List Opn) (j : Nat) : Bool := !(List.range j).any (fun i => decide (oT L i = oT L j))
def seenF (L : List Opn) (j : Nat) : Int → Option Value := fun k => if (List.range j).any (fun i => decide (oT L i = k)) = true then some (.bool true) else none
def fl (b : Bool) (L : List Opn) (j : Nat) : List Nat := (List.range j).filter (fun i => isF L i && (oP L i == b))
theorem seen_zero (L : List Opn) : seenF L 0 = fun _ => none := by funext k; simp [seenF]
theorem any_succ (j : Nat) (p : Nat → Bool) : (List.range (j + 1)).any p = ((List.range j).any p || p j) := by
  rw [List.range_succ, List.any_append]; simp
theorem seen_step {L : List Opn} {j : Nat} (h : isF L j = true) : upd (seenF L j) (oT L j) (.bool true) = seenF L (j + 1) := by
  funext k
  unfold upd seenF
  rw [any_succ]
  by_cases hk : k = oT L j
  · subst hk
    rw [if_pos rfl, if_pos (by simp)]
  · rw [if_neg hk, decide_eq_false (show ¬ oT L j = k from fun e => hk e.symm), Bool.or_false]
theorem seen_skip {L : List Opn} {j : Nat} (h : isF L j = false) : seenF L (j + 1) = seenF L j := by
  funext k
  unfold seenF
  rw [any_succ]
  by_cases hk : k = oT L j
  · subst hk
    unfold isF at h
    rw [Bool.not_eq_false'] at h
    rw [h]; simp
  · rw [decide_eq_false (show ¬ oT L j = k from fun e => hk e.symm), Bool.or_false]
theorem seen_get (L : List Opn) (j : Nat) : (seenF L j (oT L j)).getD (.bool false) = .bool (!isF L j) := by
  unfold seenF isF
  rw [Bool.not_not]
  split
  · rename_i h; rw [h]; rfl
  · rename_i h; rw [Bool.eq_false_iff.2 h]; rfl
theorem fl_step (b : Bool) (L : List Opn) (j : Nat) : fl b L (j + 1) = if (isF L j && (oP L j == b)) = true then fl b L j ++ [j] else fl b L j := by
  unfold fl
  rw [List.range_succ, List.filter_append, List.filter_cons]
  split <;> simp
theorem fl_len (b : Bool) (L : List Opn) (j : Nat) : (fl b L j).length ≤ j := by
  have := List.length_filter_le (fun i => isF L i && (oP L i == b)) (List.range j)
  rwa [List.length_range] at this
theorem fl_mem {b : Bool} {L : List Opn} {j i : Nat} (h : i ∈ fl b L j) : i < j ∧ oP L i = b := by
  unfold fl at h
  rw [List.mem_filter, List.mem_range, Bool.and_eq_true] at h
  exact ⟨h.1, eq_of_beq h.2.2⟩
theorem fl_nodup (b : Bool) (L : List Opn) (j : Nat) : (fl b L j).Nodup := List.Pairwise.filter _ List.nodup_range
def prs (L : List Opn) : List (Nat × Nat) := (fl true L L.length).zip (fl false L L.length)
def inP (L : List Opn) (i : Nat) : Bool := (prs L).any (fun p => decide (p.1 = i) || decide (p.2 = i))
def rst (L : List Opn) (j : Nat) : List Nat := (List.range j).filter (fun i => !inP L i)
def prF (L : List Opn) (j : Nat) : Int → Option Value := fun k => if ((prs L).take j).any (fun p => decide ((p.1 : Int) = k) || decide ((p.2 : Int) = k)) = true then some (.bool true) else none
theorem pr_zero (L : List Opn) : prF L 0 = fun _ => none := by funext k; simp [prF]
theorem pr_step {L : List Opn} {j : Nat} {p : Nat × Nat} (h : (prs L)[j]? = some p) : upd (upd (prF L j) p.1 (.bool true)) p.2 (.bool true) = prF L (j + 1) := by
  funext k
  unfold upd prF
  rw [List.take_add_one, h, List.any_append]
  by_cases h2 : k = p.2
  · subst h2; simp
  · by_cases h1 : k = p.1
    · subst h1; simp [h2]
    · rw [if_neg h2, if_neg h1]
      have e1 : ¬ (p.1 : Int) = k := fun e => h1 e.symm
      have e2 : ¬ (p.2 : Int) = k := fun e => h2 e.symm
      rw [show ((some p).toList).any (fun p : Nat × Nat => decide ((p.1 : Int) = k) || decide ((p.2 : Int) = k)) = false from by simp [e1, e2], Bool.or_false]
theorem pr_get (L : List Opn) (i : Nat) : (prF L (prs L).length i).getD (.bool false) = .bool (inP L i) := by
  unfold prF inP
  rw [List.take_length]
  have e : ((prs L).any fun p => decide ((p.1 : Int) = (i : Int)) || decide ((p.2 : Int) = (i : Int))) = ((prs L).any fun p => decide (p.1 = i) || decide (p.2 = i)) := by
    refine congrArg (fun f => (prs L).any f) (funext fun p => ?_)
    rw [decide_eq_decide.2 (@Int.ofNat_inj p.1 i), decide_eq_decide.2 (@Int.ofNat_inj p.2 i)]
  rw [e]
  split
  · rename_i h; rw [h]; rfl
  · rename_i h; rw [Bool.eq_false_iff.2 h]; rfl
theorem rst_step (L : List Opn) (j : Nat) : rst L (j + 1) = if inP L j = true then rst L j else rst L j ++ [j] := by
  unfold rst
  rw [List.range_succ, List.filter_append, List.filter_cons]
  cases inP L j <;> simp
theorem rst_len (L : List Opn) (j : Nat) : (rst L j).length ≤ j := by
  have := List.length_filter_le (fun i => !inP L i) (List.range j)
  rwa [List.length_range] at this
def fl2 (l : List (Nat × Nat)) : List Nat := l.flatMap fun p => [p.1, p.2]
def ordL (L : List Opn) : List Nat := fl2 (prs L) ++ rst L L.length
theorem fl2_mem {a b : List Nat} {i : Nat} (h : i ∈ fl2 (a.zip b)) : i ∈ a ∨ i ∈ b := by
  unfold fl2 at h
  rw [List.mem_flatMap] at h
  obtain ⟨p, hp, h⟩ := h
  have := List.of_mem_zip (a := p.1) (b := p.2) hp
  rcases List.mem_cons.1 h with rfl | h
  · exact .inl this.1
  · rw [List.mem_singleton] at h; subst h; exact .inr this.2
theorem fl2_nodup : ∀ (a b : List Nat), a.Nodup → b.Nodup → (∀ i ∈ a, i ∉ b) → (fl2 (a.zip b)).Nodup
  | [], _, _, _, _ => by simp [fl2]
  | _ :: _, [], _, _, _ => by simp [fl2]
  | x :: a, y :: b, ha, hb, hd => by
    rw [List.nodup_cons] at ha hb
    show (x :: y :: fl2 (a.zip b)).Nodup
    rw [List.nodup_cons, List.nodup_cons]
    have ih := fl2_nodup a b ha.2 hb.2 fun i hi h => hd i (List.mem_cons_of_mem _ hi) (List.mem_cons_of_mem _ h)
    refine ⟨fun h => ?_, fun h => ?_, ih⟩
    · rcases List.mem_cons.1 h with rfl | h
      · exact hd _ List.mem_cons_self List.mem_cons_self
      · rcases fl2_mem h with h | h
        · exact ha.1 h
        · exact hd x List.mem_cons_self (List.mem_cons_of_mem _ h)
    · rcases fl2_mem h with h | h
      · exact hd y (List.mem_cons_of_mem _ h) List.mem_cons_self
      · exact hb.1 h
theorem mem_fl2 {l : List (Nat × Nat)} {i : Nat} : i ∈ fl2 l ↔ l.any (fun p => decide (p.1 = i) || decide (p.2 = i)) = true := by
  unfold fl2
  rw [List.mem_flatMap, List.any_eq_true]
  constructor
  · rintro ⟨p, hp, h⟩
    refine ⟨p, hp, ?_⟩
    simp at h ⊢
    rcases h with h | h
    · exact .inl h.symm
    · exact .inr h.symm
  · rintro ⟨p, hp, h⟩
    refine ⟨p, hp, ?_⟩
    simp at h ⊢
    rcases h with h | h
    · exact .inl h.symm
    · exact .inr h.symm
theorem ord_nodup (L : List Opn) : (ordL L).Nodup := by
  unfold ordL
  rw [List.nodup_append]
  refine ⟨fl2_nodup _ _ (fl_nodup _ _ _) (fl_nodup _ _ _) fun i h1 h2 => ?_, List.Pairwise.filter _ List.nodup_range, fun i h1 j h2 e => ?_⟩
  · have e1 := (fl_mem h1).2
    have e2 := (fl_mem h2).2
    rw [e1] at e2
    cases e2
  · subst e
    unfold rst at h2
    rw [List.mem_filter] at h2
    have h3 := h2.2
    rw [show inP L i = true from mem_fl2.1 h1] at h3
    cases h3
theorem ord_lt {L : List Opn} {i : Nat} (h : i ∈ ordL L) : i < L.length := by
  unfold ordL at h
  rcases List.mem_append.1 h with h | h
  · rcases fl2_mem h with h | h <;> exact (fl_mem h).1
  · unfold rst at h
    rw [List.mem_filter, List.mem_range] at h
    exact h.1
theorem ord_len (L : List Opn) : (ordL L).length ≤ L.length := nodup_bound _ _ (ord_nodup L) fun _ h => ord_lt h
/-- The answers and the values behind operations one by one. -/
def runA (L : List Opn) : List Int → List Nat → List (Int × Int)
  | _, [] => []
  | l, i :: is => (stE (oP L i) l, stV (oP L i) (oV L i) l) :: runA L (stL (oP L i) (oV L i) l) is
def runS (L : List Opn) : List Int → List Nat → List Int
  | l, [] => l
  | l, i :: is => runS L (stL (oP L i) (oV L i) l) is
theorem runA_len (L : List Opn) : ∀ (is : List Nat) (l : List Int), (runA L l is).length = is.length
  | [], _ => rfl
  | i :: is, l => by rw [runA, List.length_cons, runA_len L is, List.length_cons]
theorem runA_app (L : List Opn) (js : List Nat) : ∀ (is : List Nat) (l : List Int), runA L l (is ++ js) = runA L l is ++ runA L (runS L l is) js
  | [], _ => rfl
  | i :: is, l => by rw [List.cons_append, runA, runA, runA_app L js is, runS, List.cons_append]
theorem runS_app (L : List Opn) (js : List Nat) : ∀ (is : List Nat) (l : List Int), runS L l (is ++ js) = runS L (runS L l is) js
  | [], _ => rfl
  | i :: is, l => by rw [List.cons_append, runS, runS_app L js is, runS]
theorem runS_pairs (L : List Opn) (l : List Int) : ∀ (ps : List (Nat × Nat)), (∀ p ∈ ps, oP L p.1 = true ∧ oP L p.2 = false) → runS L l (fl2 ps) = l
  | [], _ => rfl
  | p :: ps, h => by
    have h1 := h p List.mem_cons_self
    show runS L (stL (oP L p.2) (oV L p.2) (stL (oP L p.1) (oV L p.1) l)) (fl2 ps) = l
    rw [h1.1, h1.2]
    exact runS_pairs L l ps fun q hq => h q (List.mem_cons_of_mem _ hq)
def pw (L : List Opn) (ps : List (Nat × Nat)) : List (Nat × Int × Int) := ps.flatMap fun p => [(p.1, 0, oV L p.1), (p.2, 0, oV L p.1)]
theorem zip_pairs (L : List Opn) (l : List Int) : ∀ (ps : List (Nat × Nat)), (∀ p ∈ ps, oP L p.1 = true ∧ oP L p.2 = false) → (fl2 ps).zip (runA L l (fl2 ps)) = pw L ps
  | [], _ => rfl
  | p :: ps, h => by
    have h1 := h p List.mem_cons_self
    show (p.1, stE (oP L p.1) l, stV (oP L p.1) (oV L p.1) l) :: (p.2, stE (oP L p.2) (stL (oP L p.1) (oV L p.1) l), stV (oP L p.2) (oV L p.2) (stL (oP L p.1) (oV L p.1) l)) :: (fl2 ps).zip (runA L (stL (oP L p.2) (oV L p.2) (stL (oP L p.1) (oV L p.1) l)) (fl2 ps)) = (p.1, 0, oV L p.1) :: (p.2, 0, oV L p.1) :: pw L ps
    rw [h1.1, h1.2]
    have := zip_pairs L l ps fun q hq => h q (List.mem_cons_of_mem _ hq)
    show (p.1, 0, oV L p.1) :: (p.2, 0, oV L p.1) :: (fl2 ps).zip (runA L l (fl2 ps)) = _
    rw [this]
theorem prs_ok {L : List Opn} {p : Nat × Nat} (h : p ∈ prs L) : (p.1 < L.length ∧ p.2 < L.length) ∧ oP L p.1 = true ∧ oP L p.2 = false := by
  have := List.of_mem_zip (a := p.1) (b := p.2) h
  exact ⟨⟨(fl_mem this.1).1, (fl_mem this.2).1⟩, (fl_mem this.1).2, (fl_mem this.2).2⟩
/-- The answers behind writes. -/
def fin (n : Nat) (W : List (Nat × Int × Int)) : List (Int × Int) := W.foldl (fun a w => a.set w.1 w.2) (List.replicate n (0, 0))
theorem fin_snoc (n : Nat) (W : List (Nat × Int × Int)) (i : Nat) (a : Int × Int) : fin n (W ++ [(i, a)]) = (fin n W).set i a := by unfold fin; rw [List.foldl_append]; rfl
theorem fold_len : ∀ (W : List (Nat × Int × Int)) (a : List (Int × Int)), (W.foldl (fun a w => a.set w.1 w.2) a).length = a.length
  | [], _ => rfl
  | w :: W, a => by rw [List.foldl_cons, fold_len W, List.length_set]
theorem fin_len (n : Nat) (W : List (Nat × Int × Int)) : (fin n W).length = n := by unfold fin; rw [fold_len, List.length_replicate]
theorem fold_skip2 (i : Nat) : ∀ (W : List (Nat × Int × Int)) (a : List (Int × Int)), (∀ w ∈ W, w.1 ≠ i) → (W.foldl (fun a w => a.set w.1 w.2) a)[i]? = a[i]?
  | [], _, _ => rfl
  | w :: W, a, h => by
    rw [List.foldl_cons, fold_skip2 i W _ fun x hx => h x (List.mem_cons_of_mem _ hx), List.getElem?_set_ne (h w List.mem_cons_self)]
theorem fold_get : ∀ (W : List (Nat × Int × Int)) (a : List (Int × Int)), (W.map (·.1)).Nodup → ∀ i x, (i, x) ∈ W → i < a.length → (W.foldl (fun a w => a.set w.1 w.2) a)[i]? = some x
  | [], _, _, _, _, h, _ => by cases h
  | w :: W, a, hn, i, x, h, hi => by
    rw [List.map_cons, List.nodup_cons] at hn
    rw [List.foldl_cons]
    rcases List.mem_cons.1 h with e | h
    · subst e
      rw [fold_skip2 i W _ fun y hy e => hn.1 (by show i ∈ _; rw [← e]; exact List.mem_map_of_mem (f := (·.1)) hy), List.getElem?_set_self hi]
    · exact fold_get W _ hn.2 i x h (by rw [List.length_set]; exact hi)
/-- All answers. -/
def allW (L : List Opn) (l : List Int) : List (Nat × Int × Int) := pw L (prs L) ++ (rst L L.length).zip (runA L l (rst L L.length))
theorem allW_eq (L : List Opn) (l : List Int) : allW L l = (ordL L).zip (runA L l (ordL L)) := by
  have hp : ∀ p ∈ prs L, oP L p.1 = true ∧ oP L p.2 = false := fun p h => (prs_ok h).2
  unfold allW ordL
  rw [runA_app, runS_pairs L l _ hp, List.zip_append (by rw [runA_len]), zip_pairs L l _ hp]
theorem ans_at {L : List Opn} {l : List Int} {k i : Nat} {x : Int × Int} (hi : (ordL L)[k]? = some i) (hx : (runA L l (ordL L))[k]? = some x) : (fin L.length (allW L l))[i]? = some x := by
  rw [allW_eq]
  refine fold_get _ _ ?_ i x ?_ ?_
  · rw [List.map_fst_zip (by rw [runA_len]; exact Nat.le_refl _)]; exact ord_nodup L
  · exact List.mem_of_getElem? (i := k) (by rw [List.getElem?_zip_eq_some]; exact ⟨hi, hx⟩)
  · rw [List.length_replicate]; exact ord_lt (List.mem_of_getElem? hi)
theorem ans_rest {L : List Opn} {l : List Int} {k i : Nat} {x : Int × Int} (hi : (rst L L.length)[k]? = some i) (hx : (runA L l (rst L L.length))[k]? = some x) : (fin L.length (allW L l))[i]? = some x := by
  have hp : ∀ p ∈ prs L, oP L p.1 = true ∧ oP L p.2 = false := fun p h => (prs_ok h).2
  refine ans_at (k := (fl2 (prs L)).length + k) ?_ ?_
  · unfold ordL; rw [List.getElem?_append_right (Nat.le_add_right _ _), Nat.add_sub_cancel_left]; exact hi
  · unfold ordL; rw [runA_app, runS_pairs L l _ hp, List.getElem?_append_right (by rw [runA_len]; exact Nat.le_add_right _ _), runA_len, Nat.add_sub_cancel_left]; exact hx
theorem runS_ord (L : List Opn) (l : List Int) : runS L l (ordL L) = runS L l (rst L L.length) := by
  have hp : ∀ p ∈ prs L, oP L p.1 = true ∧ oP L p.2 = false := fun p h => (prs_ok h).2
  unfold ordL
  rw [runS_app, runS_pairs L l _ hp]
theorem run_step (L : List Opn) (l : List Int) (is : List Nat) (k i : Nat) (h : is[k]? = some i) :
    (runA L l is)[k]? = some (stE (oP L i) (runS L l (is.take k)), stV (oP L i) (oV L i) (runS L l (is.take k))) ∧ runS L l (is.take (k + 1)) = stL (oP L i) (oV L i) (runS L l (is.take k)) ∧ runA L l (is.take (k + 1)) = runA L l (is.take k) ++ [(stE (oP L i) (runS L l (is.take k)), stV (oP L i) (oV L i) (runS L l (is.take k)))] := by
  have e : is.take (k + 1) = is.take k ++ [i] := by rw [List.take_add_one, h]; rfl
  have hk : k < is.length := (List.getElem?_eq_some_iff.1 h).1
  refine ⟨?_, ?_, ?_⟩
  · have e2 : is = is.take k ++ i :: is.drop (k + 1) := by
      rw [← List.singleton_append, ← List.append_assoc, ← e, List.take_append_drop]
    conv => lhs; rw [e2]
    rw [runA_app, List.getElem?_append_right (by rw [runA_len, List.length_take]; omega), runA_len, List.length_take, Nat.min_eq_left (Nat.le_of_lt hk), Nat.sub_self]
    rfl
  · rw [e, runS_app]; rfl
  · rw [e, runA_app]; rfl
theorem run_len (L : List Opn) : ∀ (is : List Nat) (l : List Int), (runS L l is).length ≤ l.length + is.length
  | [], l => Nat.le_refl _
  | i :: is, l => by
    have h := run_len L is (stL (oP L i) (oV L i) l)
    have e : (stL (oP L i) (oV L i) l).length ≤ l.length + 1 := by
      unfold stL
      split
      · exact Nat.le_refl _
      · rw [List.length_tail]; omega
    rw [runS, List.length_cons]
    omega
end Go.Proofs.YtkloaopjlbinpaaGreat
