/- entry.Merge against the reference's Merge, as plain laws over lists. No condition. -/
import Derived.Test.YtilapnejkdgomaaDoorMgF
set_option linter.unusedVariables false
set_option linter.unusedSimpArgs false
namespace Go.Proofs.YtilapnejkdgomaaDoor

/-- No two entries at one location. -/
def Dst (l : List Ent) : Prop := l.Pairwise fun a b => a.loc ≠ b.loc
def rHas (out : List Ent) (x : Ent) : Bool := out.any fun y => y.loc == x.loc
/-- An entry of out at x's location leaves another word than x expects. -/
def rMis (x y : Ent) : Bool := y.loc == x.loc && !(decide (leafV y = x.val) && decide (leafN y = x.ver))
def rBad (out : List Ent) (x : Ent) : Bool := out.any (rMis x)
def rMap (x : Ent) (y : Ent) : Ent := if y.loc = x.loc then onto y x else y
def rPut (out : List Ent) (x : Ent) : List Ent := if rHas out x = true then out.map (rMap x) else out ++ [x]
/-- The reference's loop: the list behind it. -/
def rGo (out b : List Ent) : List Ent := b.foldl rPut out
def rGoB : List Ent → List Ent → Bool
  | _, [] => false
  | out, x :: t => rBad out x || rGoB (rPut out x) t

theorem Dst.perm {a b : List Ent} (h : Dst a) (p : a.Perm b) : Dst b := (p.pairwise_iff (R := fun a b : Ent => a.loc ≠ b.loc) (fun hab => Ne.symm hab)).1 h
theorem dst_fk {a : List Ent} (h : Dst a) (k : Int) : (fk Ent.loc k a).length ≤ 1 := by
  induction a with
  | nil => exact Nat.zero_le _
  | cons x t ih =>
    have h' := List.pairwise_cons.1 h
    by_cases hk : x.loc = k
    · have e : fk Ent.loc k t = [] := fk_nil _ fun y hy e => h'.1 y hy (hk.trans e.symm)
      have e2 : fk Ent.loc k (x :: t) = x :: fk Ent.loc k t := by simp [fk, hk]
      rw [e2, e]; exact Nat.le_refl _
    · have e2 : fk Ent.loc k (x :: t) = fk Ent.loc k t := by simp [fk, hk]
      rw [e2]; exact ih h'.2
theorem perm_small {α : Type} {a b : List α} (p : a.Perm b) (h : a.length ≤ 1) : a = b := by
  match a, h with
  | [], _ => exact (List.nil_perm.1 p).symm
  | [x], _ => exact List.singleton_perm.1 p
theorem dst_fk_eq {a b : List Ent} (h : Dst a) (p : a.Perm b) (k : Int) : fk Ent.loc k a = fk Ent.loc k b := perm_small (p.filter _) (dst_fk h k)
theorem srt_perm (l : List Ent) : (srt Ent.loc l).Perm l := by
  have key : ∀ (x : Ent) (l : List Ent), (insS Ent.loc x l).Perm (x :: l) := by
    intro x l
    induction l with
    | nil => exact .refl _
    | cons y t ih =>
      unfold insS
      split
      · exact .refl _
      · exact (ih.cons y).trans (.swap ..)
  have go : ∀ (l acc : List Ent), (l.foldl (fun acc x => insS Ent.loc x acc) acc).Perm (acc ++ l) := by
    intro l
    induction l with
    | nil => intro acc; rw [List.append_nil]; exact .refl _
    | cons x t ih =>
      intro acc
      refine (ih _).trans ?_
      refine ((key x acc).append_right t).trans ?_
      exact (List.perm_middle (l₁ := acc) (a := x) (l₂ := t)).symm
  exact go l []
theorem srt_of_perm {a b : List Ent} (h : Dst a) (p : a.Perm b) : srt Ent.loc a = srt Ent.loc b :=
  ((srt_sts Ent.loc a).congr Ent.loc (dst_fk_eq h p)).eq Ent.loc
theorem eq_srt {o l : List Ent} (ha : Asc Ent.loc o) (h : Dst o) (p : o.Perm l) : o = srt Ent.loc l := by
  rw [← srt_of_perm h p, srt_asc Ent.loc ha]

theorem rMap_loc (x y : Ent) : (rMap x y).loc = y.loc := by unfold rMap; split <;> rfl
theorem rHas_perm {a b : List Ent} (p : a.Perm b) (x : Ent) : rHas a x = rHas b x := p.any_eq
theorem rBad_perm {a b : List Ent} (p : a.Perm b) (x : Ent) : rBad a x = rBad b x := p.any_eq
theorem rPut_perm {a b : List Ent} (p : a.Perm b) (x : Ent) : (rPut a x).Perm (rPut b x) := by
  unfold rPut
  rw [rHas_perm p x]
  split
  · exact p.map _
  · exact p.append_right _
theorem rHas_map (l : List Ent) (x y : Ent) : rHas (l.map (rMap y)) x = rHas l x := by
  unfold rHas
  rw [List.any_map]
  congr 1
  funext z
  show ((rMap y z).loc == x.loc) = _
  rw [rMap_loc]
theorem rHas_false {l : List Ent} {x : Ent} (h : ¬ rHas l x = true) : ∀ y ∈ l, y.loc ≠ x.loc := fun y hy e => h (List.any_eq_true.2 ⟨y, hy, by simpa using e⟩)
theorem rHas_put {l : List Ent} {x y : Ent} (h : x.loc ≠ y.loc) : rHas (rPut l y) x = rHas l x := by
  unfold rPut
  split
  · exact rHas_map l x y
  · unfold rHas
    rw [List.any_append]
    have : (y.loc == x.loc) = false := beq_eq_false_iff_ne.2 (Ne.symm h)
    simp [this]
theorem Dst.put {l : List Ent} (h : Dst l) (x : Ent) : Dst (rPut l x) := by
  unfold rPut
  split
  · unfold Dst
    rw [List.pairwise_map]
    refine h.imp fun {a b} hab => ?_
    rw [rMap_loc, rMap_loc]
    exact hab
  · next hn =>
    refine List.pairwise_append.2 ⟨h, List.pairwise_singleton .., fun a ha b hb => ?_⟩
    rw [List.mem_singleton.1 hb]
    exact rHas_false hn a ha
theorem rBad_put {l : List Ent} {x y : Ent} (h : x.loc ≠ y.loc) : rBad (rPut l y) x = rBad l x := by
  have key : ∀ z, rMis x (rMap y z) = rMis x z := fun z => by
    unfold rMap
    split
    · next e =>
      have : (z.loc == x.loc) = false := beq_eq_false_iff_ne.2 fun e2 => h (e2.symm.trans e)
      unfold rMis
      have e1 : ((onto z y).loc == x.loc) = false := this
      rw [this, e1, Bool.false_and, Bool.false_and]
    · rfl
  unfold rPut
  split
  · unfold rBad
    rw [List.any_map]
    congr 1
    funext z
    exact key z
  · unfold rBad
    rw [List.any_append]
    have : rMis x y = false := by
      unfold rMis
      have : (y.loc == x.loc) = false := beq_eq_false_iff_ne.2 (Ne.symm h)
      rw [this, Bool.false_and]
    simp [this]
theorem rPut_swap {l : List Ent} {x y : Ent} (h : x.loc ≠ y.loc) : (rPut (rPut l y) x).Perm (rPut (rPut l x) y) := by
  have hx := rHas_put (l := l) h
  have hy := rHas_put (l := l) (Ne.symm h)
  have key : ∀ z, rMap x (rMap y z) = rMap y (rMap x z) := fun z => by
    unfold rMap
    by_cases h1 : z.loc = y.loc
    · have h2 : z.loc ≠ x.loc := fun e => h (e.symm.trans h1)
      rw [if_pos h1, if_neg h2, if_pos h1, if_neg (show ¬ (onto z y).loc = x.loc from h2)]
    · rw [if_neg h1]
      by_cases h2 : z.loc = x.loc
      · rw [if_pos h2, if_neg (show ¬ (onto z x).loc = y.loc from h1)]
      · rw [if_neg h2, if_neg h1]
  have e1 : rMap x y = y := if_neg (Ne.symm h)
  have e2 : rMap y x = x := if_neg h
  rw [show rPut (rPut l y) x = if rHas (rPut l y) x = true then (rPut l y).map (rMap x) else rPut l y ++ [x] from rfl, hx,
    show rPut (rPut l x) y = if rHas (rPut l x) y = true then (rPut l x).map (rMap y) else rPut l x ++ [y] from rfl, hy]
  unfold rPut
  by_cases a : rHas l x = true <;> by_cases b : rHas l y = true
  · simp only [if_pos a, if_pos b, List.map_map]
    rw [show rMap x ∘ rMap y = rMap y ∘ rMap x from funext key]
  · simp only [if_pos a, if_neg b, List.map_append, List.map_cons, List.map_nil, e1]
    exact .refl _
  · simp only [if_neg a, if_pos b, List.map_append, List.map_cons, List.map_nil, e2]
    exact .refl _
  · simp only [if_neg a, if_neg b, List.append_assoc]
    exact List.Perm.append_left _ (.swap ..)
theorem rGo_perm {b1 b2 : List Ent} (p : b1.Perm b2) : ∀ {o1 o2 : List Ent}, o1.Perm o2 → Dst b1 → (rGo o1 b1).Perm (rGo o2 b2) := by
  induction p with
  | nil => intro o1 o2 h _; exact h
  | cons x _ ih => intro o1 o2 h hd; exact ih (rPut_perm h x) (List.pairwise_cons.1 hd).2
  | swap x y l =>
    intro o1 o2 h hd
    have hxy : y.loc ≠ x.loc := (List.pairwise_cons.1 hd).1 x (.head _)
    have : (rPut (rPut o1 y) x).Perm (rPut (rPut o2 x) y) := (rPut_perm (rPut_perm h y) x).trans (rPut_swap (Ne.symm hxy))
    have go : ∀ (l : List Ent) {a b : List Ent}, a.Perm b → (rGo a l).Perm (rGo b l) := by
      intro l
      induction l with
      | nil => intro a b h; exact h
      | cons z t ih => intro a b h; exact ih (rPut_perm h z)
    exact go l this
  | trans p1 _ ih1 ih2 => intro o1 o2 h hd; exact (ih1 h hd).trans (ih2 (.refl _) (hd.perm p1))
/-- Whether any does not match: each for itself. -/
theorem rGoB_eq : ∀ {b out : List Ent}, Dst b → rGoB out b = b.any (rBad out)
  | [], _, _ => rfl
  | x :: t, out, h => by
    have h' := List.pairwise_cons.1 h
    rw [rGoB, rGoB_eq h'.2, List.any_cons]
    congr 1
    have : ∀ l : List Ent, (∀ y ∈ l, x.loc ≠ y.loc) → l.any (rBad (rPut out x)) = l.any (rBad out) := by
      intro l
      induction l with
      | nil => intro _; rfl
      | cons y t ih =>
        intro hy
        rw [List.any_cons, List.any_cons, ih fun z hz => hy z (.tail _ hz), rBad_put (Ne.symm (hy y (.head _)))]
    exact this t h'.1
theorem Dst.go {b : List Ent} : ∀ {out : List Ent}, Dst out → Dst (rGo out b) := by
  induction b with
  | nil => intro out h; exact h
  | cons x t ih => intro out h; exact ih (h.put x)
theorem has_iff {s : List Ent} (h : Asc Ent.loc s) (x : Ent) : has x s = rHas s x := by
  obtain ⟨h1, h2⟩ := low_split x s h
  have hs := List.take_append_drop (low x s) s
  cases e : rHas s x with
  | true =>
    obtain ⟨y, hy, he⟩ := List.any_eq_true.1 e
    have he : y.loc = x.loc := by simpa using he
    rw [← hs] at hy
    rcases List.mem_append.1 hy with hy | hy
    · have := h1 y hy; omega
    · unfold has
      cases hd : s.drop (low x s) with
      | nil => rw [hd] at hy; cases hy
      | cons z t =>
        have hz : s[low x s]? = some z := by
          have : (s.drop (low x s))[0]? = some z := by rw [hd]; rfl
          rwa [List.getElem?_drop] at this
        rw [hz]
        show (z.loc == x.loc) = true
        have hzx : x.loc ≤ z.loc := h2 z (by rw [hd]; exact .head _)
        have hzy : z.loc ≤ y.loc := by
          rw [hd] at hy
          rcases List.mem_cons.1 hy with rfl | hy
          · omega
          · have ha : Asc Ent.loc (z :: t) := hd ▸ (asc_cut Ent.loc h (low x s)).2
            exact (List.pairwise_cons.1 ha).1 y hy
        simp only [beq_iff_eq]; omega
  | false =>
    unfold has
    split
    · next y hy =>
      have hm : y ∈ s := List.mem_of_getElem? hy
      have := rHas_false (l := s) (x := x) (by rw [e]; simp) y hm
      exact beq_eq_false_iff_ne.2 this
    · rfl
theorem mIns_go {s : List Ent} (ha : Asc Ent.loc s) (hd : Dst s) (x : Ent) (hx : x.ref = 0) :
    mIns s x = if rBad s x = true then none else some (srt Ent.loc (rPut s x)) := by
  have hi := has_iff ha x
  by_cases hh : has x s = true
  · obtain ⟨y, hy⟩ : ∃ y, s[low x s]? = some y := by
      unfold has at hh
      split at hh
      · next y hy => exact ⟨y, hy⟩
      · cases hh
    have hyl : y.loc = x.loc := by
      unfold has at hh
      rw [hy] at hh
      simpa using hh
    obtain ⟨hlt, hye⟩ := List.getElem?_eq_some_iff.1 hy
    have uniq : ∀ (k : Nat) (hk : k < s.length), s[k].loc = x.loc → k = low x s := by
      intro k hk he
      have hp := List.pairwise_iff_getElem.1 hd
      rcases Nat.lt_trichotomy k (low x s) with h | h | h
      · exact absurd (by rw [hye, he, hyl]) (hp k (low x s) hk hlt h)
      · exact h
      · exact absurd (by rw [hye, he, hyl]) (hp (low x s) k hlt hk h)
    have hset : s.set (low x s) (onto y x) = s.map (rMap x) := by
      refine List.ext_getElem (by simp) fun k h1 h2 => ?_
      rw [List.getElem_set, List.getElem_map]
      have hk : k < s.length := by simpa using h1
      split
      · next e =>
        subst e
        unfold rMap
        rw [hye, if_pos hyl]
      · next e =>
        unfold rMap
        rw [if_neg fun h => e (uniq k hk h).symm]
    have hbad : rBad s x = rMis x y := by
      cases e : rMis x y with
      | true => exact List.any_eq_true.2 ⟨y, List.mem_of_getElem? hy, e⟩
      | false =>
        refine Bool.eq_false_iff.2 fun h => ?_
        obtain ⟨z, hz, h⟩ := List.any_eq_true.1 h
        obtain ⟨k, hk, rfl⟩ := List.getElem_of_mem hz
        have hzl : s[k].loc = x.loc := by
          unfold rMis at h
          simp only [Bool.and_eq_true, beq_iff_eq] at h
          exact h.1
        have hk2 := uniq k hk hzl
        subst hk2
        rw [hye, e] at h
        cases h
    unfold mIns
    rw [if_pos hh, hy]
    have hp : rPut s x = s.map (rMap x) := by unfold rPut; rw [if_pos (by rw [← hi]; exact hh)]
    show (if leafV y = x.val ∧ leafN y = x.ver ∧ x.ref = 0 then some (s.set (low x s) (onto y x)) else none) = _
    rw [hbad]
    by_cases hm : leafV y = x.val ∧ leafN y = x.ver
    · have e : rMis x y = false := by
        unfold rMis
        rw [decide_eq_true hm.1, decide_eq_true hm.2]
        simp
      rw [if_pos ⟨hm.1, hm.2, hx⟩, e, if_neg (by simp)]
      have ho : mIns s x = some (s.set (low x s) (onto y x)) := by
        unfold mIns
        rw [if_pos hh, hy]
        show (if leafV y = x.val ∧ leafN y = x.ver ∧ x.ref = 0 then some (s.set (low x s) (onto y x)) else none) = _
        rw [if_pos ⟨hm.1, hm.2, hx⟩]
      have hao := mIns_asc ha ho
      have hdo : Dst (s.set (low x s) (onto y x)) := by rw [hset, ← hp]; exact hd.put x
      congr 1
      refine eq_srt hao hdo ?_
      rw [hset, hp]
    · have e : rMis x y = true := by
        unfold rMis
        have : (decide (leafV y = x.val) && decide (leafN y = x.ver)) = false := by
          rw [← Bool.decide_and]
          exact decide_eq_false hm
        rw [this]
        simp [hyl]
      rw [if_neg fun h => hm ⟨h.1, h.2.1⟩, e, if_pos rfl]
  · have hn : ¬ rHas s x = true := by rw [← hi]; exact hh
    have hb : rBad s x = false := by
      refine Bool.eq_false_iff.2 fun h => ?_
      obtain ⟨z, hz, h⟩ := List.any_eq_true.1 h
      have hzl : z.loc = x.loc := by
        unfold rMis at h
        simp only [Bool.and_eq_true, beq_iff_eq] at h
        exact h.1
      exact rHas_false hn z hz hzl
    have hp : rPut s x = s ++ [x] := by unfold rPut; rw [if_neg hn]
    have ho : mIns s x = some (s.take (low x s) ++ x :: s.drop (low x s)) := by unfold mIns; rw [if_neg hh]
    rw [hb, if_neg (by simp), ho]
    have hao := mIns_asc ha ho
    have hpm : (s.take (low x s) ++ x :: s.drop (low x s)).Perm (s ++ [x]) := by
      refine List.perm_middle.trans ?_
      rw [List.take_append_drop]
      exact (List.perm_append_singleton x s).symm
    congr 1
    refine eq_srt hao ?_ (hp ▸ hpm)
    exact ((hp ▸ hd.put x : Dst (s ++ [x]))).perm hpm.symm
theorem mrgL_go : ∀ {b s : List Ent}, Asc Ent.loc s → Dst s → (∀ x ∈ b, x.ref = 0) → mrgL s b = if rGoB s b = true then none else some (srt Ent.loc (rGo s b))
  | [], s, ha, _, _ => by rw [mrgL, rGoB, if_neg (by simp)]; exact congrArg some (srt_asc Ent.loc ha).symm
  | x :: t, s, ha, hd, hr => by
    have hx := mIns_go ha hd x (hr x (.head _))
    have hp := hd.put x
    have hpm := srt_perm (rPut s x)
    cases hb : rBad s x with
    | true => rw [mrgL, hx, hb, if_pos rfl, rGoB, hb, Bool.true_or, if_pos rfl]
    | false =>
      rw [mrgL, hx, hb, if_neg (by simp), rGoB, hb, Bool.false_or]
      have hs : Dst (srt Ent.loc (rPut s x)) := hp.perm hpm.symm
      show mrgL (srt Ent.loc (rPut s x)) t = _
      rw [mrgL_go (srt_sts Ent.loc _).1 hs fun y hy => hr y (.tail _ hy)]
      have e1 : rGoB (srt Ent.loc (rPut s x)) t = rGoB (rPut s x) t := by
        have go : ∀ (l : List Ent) {a b : List Ent}, a.Perm b → rGoB a l = rGoB b l := by
          intro l
          induction l with
          | nil => intro a b h; rfl
          | cons z t ih => intro a b h; rw [rGoB, rGoB, ih (rPut_perm h z), rBad_perm h]
        exact go t hpm
      rw [e1]
      split
      · rfl
      · have go : ∀ (l : List Ent) {a b : List Ent}, a.Perm b → (rGo a l).Perm (rGo b l) := by
          intro l
          induction l with
          | nil => intro a b h; exact h
          | cons z t ih => intro a b h; exact ih (rPut_perm h z)
        congr 1
        exact srt_of_perm hs.go (go t hpm)
/-- What the two sorted lists give is what the reference gets out of the unsorted ones. -/
theorem mrgL_ref {a b : List Ent} (ha : Dst a) (hb : Dst b) (hr : ∀ x ∈ b, x.ref = 0) :
    mrgL (srt Ent.loc a) (srt Ent.loc b) = if b.any (rBad a) = true then none else some (srt Ent.loc (rGo a b)) := by
  have pa := srt_perm a
  have pb := srt_perm b
  have da := ha.perm pa.symm
  have db := hb.perm pb.symm
  rw [mrgL_go (srt_sts Ent.loc a).1 da fun x hx => hr x (((srt_sts Ent.loc b).mem Ent.loc x).1 hx), rGoB_eq db]
  have e : (srt Ent.loc b).any (rBad (srt Ent.loc a)) = b.any (rBad a) := by
    rw [show rBad (srt Ent.loc a) = rBad a from funext fun x => rBad_perm pa x]
    exact pb.any_eq
  rw [e]
  split
  · rfl
  · congr 1
    exact srt_of_perm da.go (rGo_perm pb pa db)
theorem chkL_zero : ∀ {r done : List Ent}, chkL done r = 0 → (∀ x ∈ r, entE x = 0 ∧ ∀ y ∈ done, y.loc ≠ x.loc) ∧ Dst r
  | [], _, _ => ⟨fun x h => (by cases h), List.Pairwise.nil⟩
  | x :: t, done, h => by
    rw [chkL] at h
    split at h
    · next hx => exact absurd h hx
    · next hx =>
      split at h
      · cases h
      · next hn =>
        obtain ⟨h1, h2⟩ := chkL_zero h
        have hn' := rHas_false (l := done) (x := x) hn
        refine ⟨fun y hy => ?_, List.pairwise_cons.2 ⟨fun y hy => (h1 y hy).2 x (List.mem_append_right _ (.head _)), h2⟩⟩
        rcases List.mem_cons.1 hy with rfl | hy
        · exact ⟨Classical.not_not.1 hx, hn'⟩
        · exact ⟨(h1 y hy).1, fun z hz => (h1 y hy).2 z (List.mem_append_left _ hz)⟩
theorem chk0_zero {l : List Ent} (h : chk0 l = 0) : Dst l ∧ (∀ x ∈ l, entE x = 0) ∧ l.length ≤ 32 := by
  unfold chk0 at h
  split at h
  · next h0 =>
    have := List.eq_nil_of_length_eq_zero h0
    subst this
    exact ⟨List.Pairwise.nil, fun x h => (by cases h), Nat.zero_le _⟩
  · next h0 =>
    unfold chk at h
    rw [if_neg h0] at h
    split at h
    · cases h
    · next h2 =>
      obtain ⟨h3, h4⟩ := chkL_zero h
      exact ⟨h4, fun x hx => (h3 x hx).1, by omega⟩
theorem entE_ref {x : Ent} (h : entE x = 0) : x.ref = 0 := by
  unfold entE at h
  split at h
  · cases h
  · split at h
    · cases h
    · next h2 => exact Classical.not_not.1 h2
theorem rGo_length {b : List Ent} : ∀ {out : List Ent}, (rGo out b).length ≤ out.length + b.length := by
  induction b with
  | nil => intro out; exact Nat.le_refl _
  | cons x t ih =>
    intro out
    refine Nat.le_trans ih ?_
    have : (rPut out x).length ≤ out.length + 1 := by
      unfold rPut
      split
      · rw [List.length_map]; omega
      · rw [List.length_append]; simp
    rw [List.length_cons]; omega
theorem srt_len (l : List Ent) : (srt Ent.loc l).length = l.length := (srt_perm l).length_eq
/-- The reference's Merge. -/
def rMrg (a b : List Ent) : List Ent × Int :=
  if chk0 a ≠ 0 then ([], chk0 a) else if chk0 b ≠ 0 then ([], chk0 b) else
  if b.any (rBad a) = true then ([], 14) else if 32 < (rGo a b).length then ([], 15) else (srt Ent.loc (rGo a b), 0)
theorem mrg_ref (a b : List Ent) : mrg a b = rMrg a b := by
  unfold mrg rMrg
  split
  · rfl
  · next ha =>
    split
    · rfl
    · next hb =>
      have ha := chk0_zero (Classical.not_not.1 ha)
      have hb := chk0_zero (Classical.not_not.1 hb)
      rw [mrgL_ref ha.1 hb.1 fun x hx => entE_ref (hb.2.1 x hx)]
      by_cases h : b.any (rBad a) = true
      · rw [if_pos h, if_pos h]
      · rw [if_neg h, if_neg h]
        show (if 32 < (srt Ent.loc (rGo a b)).length then _ else _) = _
        rw [srt_len]
end Go.Proofs.YtilapnejkdgomaaDoor
