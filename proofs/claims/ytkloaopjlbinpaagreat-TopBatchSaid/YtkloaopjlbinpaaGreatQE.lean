/- The law of batches: merging operations key by key, and turning a run of commuting operations, change no key's value. Pure: no program. The trie in the words of memory: its tree, its nodes, what a key finds, and what one store does. Pure: no program. What one store does to the trie in the words of memory, and what its pairs read as when sorted. Pure: no program. -/
import Derived.Test.YtkloaopjlbinpaaGreatQD
import Derived.Test.YtkloaopjlbinpaaGreatQC
import Derived.Test.YtkloaopjlbinpaaGreatTeH
set_option linter.unusedVariables false
set_option linter.unusedSimpArgs false
namespace Go.Proofs.YtkloaopjlbinpaaGreat

theorem snocInd {α : Type} {p : List α → Prop} (h0 : p []) (h1 : ∀ l a, p l → p (l ++ [a])) (l : List α) : p l := by
  have : ∀ r : List α, p r.reverse := by
    intro r
    induction r with
    | nil => exact h0
    | cons a t ih => rw [List.reverse_cons]; exact h1 _ _ ih
  have h := this l.reverse
  rwa [List.reverse_reverse] at h
structure BOp where
  kd : Int
  ky : Int
  n : Int
def In64 (x : Int) : Prop := -9223372036854775808 ≤ x ∧ x ≤ 9223372036854775807
def BOp.ok (o : BOp) : Prop := (0 ≤ o.kd ∧ o.kd ≤ 3) ∧ (0 ≤ o.ky ∧ o.ky ≤ 9) ∧ In64 o.n
def wr64 (x : Int) : Int := IntKind.i64.wrap x
theorem wr64_eq (x : Int) : wr64 x = (x + 9223372036854775808) % 18446744073709551616 - 9223372036854775808 := IntKind.wrap_i64 x
theorem wr64_in (x : Int) : In64 (wr64 x) := by rw [wr64_eq]; unfold In64; omega
/-- An operation's effect on a value. -/
def mkF (kd v n : Int) : Int := if kd = 0 then wr64 (v + n) else if kd = 1 then max v n else if kd = 2 then min v n else n
theorem mkF_in {kd v n : Int} (hv : In64 v) (hn : In64 n) : In64 (mkF kd v n) := by
  unfold mkF
  split
  · exact wr64_in _
  split
  · unfold In64 at *; omega
  split
  · unfold In64 at *; omega
  · exact hn
def setO (S : Int → Option Int) (k v : Int) : Int → Option Int := fun i => if i = k then some v else S i
def stepB (S : Int → Option Int) (o : BOp) : Int → Option Int := setO S o.ky (mkF o.kd ((S o.ky).getD 0) o.n)
def runB (S : Int → Option Int) (l : List BOp) : Int → Option Int := l.foldl stepB S
def Good (S : Int → Option Int) : Prop := ∀ k, In64 ((S k).getD 0)
theorem good_none : Good fun _ => none := fun _ => by unfold In64; simp
theorem good_step {S : Int → Option Int} (h : Good S) {o : BOp} (ho : o.ok) : Good (stepB S o) := by
  intro k
  unfold stepB setO
  by_cases e : k = o.ky
  · rw [if_pos e]; exact mkF_in (h _) ho.2.2
  · rw [if_neg e]; exact h k
theorem good_run : ∀ (l : List BOp) {S : Int → Option Int}, Good S → (∀ o ∈ l, o.ok) → Good (runB S l)
  | [], _, h, _ => h
  | o :: l, _, h, hl => good_run l (good_step h (hl o List.mem_cons_self)) fun x hx => hl x (List.mem_cons_of_mem _ hx)
theorem runB_app (S : Int → Option Int) (a b : List BOp) : runB S (a ++ b) = runB (runB S a) b := List.foldl_append

def idleB (o : BOp) : Bool := if o.kd = 0 then decide (o.n = 0) else if o.kd = 1 then decide (o.n = -9223372036854775808) else if o.kd = 2 then decide (o.n = 9223372036854775807) else false
def commS (a b : BOp) : Bool :=
  if a.kd = b.kd then decide (a.kd ≠ 3) || decide (a.n = b.n)
  else if (a.kd = 1 ∧ b.kd = 2) ∨ (a.kd = 1 ∧ b.kd = 3) then decide (a.n ≤ b.n)
  else if a.kd = 2 ∧ b.kd = 3 then decide (b.n ≤ a.n) else false
def commB (a b : BOp) : Bool :=
  if a.ky ≠ b.ky ∨ idleB a = true ∨ idleB b = true then true
  else if b.kd < a.kd then commS b a else commS a b
theorem kinds {o : BOp} (h : o.ok) : o.kd = 0 ∨ o.kd = 1 ∨ o.kd = 2 ∨ o.kd = 3 := by have := h.1; omega
theorem idle_mk {o : BOp} (h : idleB o = true) (ho : o.ok) {v : Int} (hv : In64 v) : mkF o.kd v o.n = v := by
  unfold In64 at hv
  unfold idleB at h
  unfold mkF
  rcases kinds ho with e | e | e | e <;> rw [e] at h ⊢ <;> simp at h ⊢
  · rw [h, wr64_eq]; omega
  · omega
  · omega
theorem commS_mk {a b : BOp} (h : commS a b = true) (ha : a.ok) (hb : b.ok) {v : Int} (hv : In64 v) : mkF b.kd (mkF a.kd v a.n) b.n = mkF a.kd (mkF b.kd v b.n) a.n := by
  unfold In64 at hv
  unfold commS at h
  unfold mkF
  rcases kinds ha with e | e | e | e <;> rcases kinds hb with f | f | f | f <;> rw [e, f] at h <;> rw [e, f] <;> simp at h ⊢
  · rw [wr64_eq, wr64_eq, wr64_eq, wr64_eq]; omega
  all_goals omega
theorem comm_mk {a b : BOp} (h : commB a b = true) (hk : a.ky = b.ky) (ha : a.ok) (hb : b.ok) {v : Int} (hv : In64 v) : mkF b.kd (mkF a.kd v a.n) b.n = mkF a.kd (mkF b.kd v b.n) a.n := by
  unfold commB at h
  split at h
  · rename_i hi
    rcases hi with hi | hi | hi
    · exact absurd hk hi
    · rw [idle_mk hi ha hv, idle_mk hi ha (mkF_in hv hb.2.2)]
    · rw [idle_mk hi hb hv, idle_mk hi hb (mkF_in hv ha.2.2)]
  · split at h
    · exact (commS_mk h hb ha hv).symm
    · exact commS_mk h ha hb hv
theorem comm_step {a b : BOp} (h : commB a b = true) (ha : a.ok) (hb : b.ok) {S : Int → Option Int} (hS : Good S) : stepB (stepB S a) b = stepB (stepB S b) a := by
  funext k
  unfold stepB setO
  by_cases e : a.ky = b.ky
  · have := comm_mk h e ha hb (hS a.ky)
    by_cases f : k = b.ky
    · simp only [e, f, if_true, Option.getD_some]
      rw [e] at this
      rw [this]
    · simp only [e, f, if_false]
  · have e' : ¬ b.ky = a.ky := fun x => e x.symm
    by_cases f : k = a.ky
    · simp only [f, e, e', if_true, if_false]
    · simp only [f, e, e', if_false]
theorem swap_one : ∀ (l : List BOp) {S : Int → Option Int} {x : BOp}, Good S → x.ok → (∀ o ∈ l, o.ok) → (∀ o ∈ l, commB x o = true) → runB S (x :: l) = runB S (l ++ [x])
  | [], _, _, _, _, _, _ => rfl
  | o :: l, S, x, hS, hx, hl, hc => by
    have ih := swap_one l (good_step hS (hl o List.mem_cons_self)) hx (fun y hy => hl y (List.mem_cons_of_mem _ hy)) (fun y hy => hc y (List.mem_cons_of_mem _ hy))
    show runB (stepB (stepB S x) o) l = runB (stepB S o) (l ++ [x])
    rw [comm_step (hc o List.mem_cons_self) hx (hl o List.mem_cons_self) hS, ← ih]
    rfl
theorem swap_all : ∀ (a b : List BOp) {S : Int → Option Int}, Good S → (∀ o ∈ a, o.ok) → (∀ o ∈ b, o.ok) → (∀ x ∈ a, ∀ y ∈ b, commB x y = true) → runB S (a ++ b) = runB S (b ++ a)
  | [], b, _, _, _, _, _ => by simp
  | x :: a, b, S, hS, ha, hb, hc => by
    have ih := swap_all a b (good_step hS (ha x List.mem_cons_self)) (fun y hy => ha y (List.mem_cons_of_mem _ hy)) hb (fun y hy => hc y (List.mem_cons_of_mem _ hy))
    have e1 : runB S (x :: a ++ b) = runB (stepB S x) (a ++ b) := rfl
    rw [e1, ih]
    have e2 : runB (stepB S x) (b ++ a) = runB (runB S (x :: b)) a := by rw [runB_app]; rfl
    rw [e2, swap_one b hS (ha x List.mem_cons_self) hb (hc x List.mem_cons_self), ← runB_app, List.append_assoc]
    rfl

/-- The value of one key behind its operations. -/
def fk (v : Int) (l : List BOp) : Int := l.foldl (fun v o => mkF o.kd v o.n) v
def onK (k : Int) (l : List BOp) : List BOp := l.filter fun o => decide (o.ky = k)
theorem fk_in : ∀ (l : List BOp) {v : Int}, In64 v → (∀ o ∈ l, o.ok) → In64 (fk v l)
  | [], _, h, _ => h
  | o :: l, _, h, hl => fk_in l (mkF_in h (hl o List.mem_cons_self).2.2) fun x hx => hl x (List.mem_cons_of_mem _ hx)
theorem fk_snoc (v : Int) (l : List BOp) (o : BOp) : fk v (l ++ [o]) = mkF o.kd (fk v l) o.n := by unfold fk; rw [List.foldl_append]; rfl
theorem run_key (k : Int) : ∀ (l : List BOp) (S : Int → Option Int), runB S l k = if onK k l = [] then S k else some (fk ((S k).getD 0) (onK k l))
  | [], _ => by simp [runB, onK]
  | o :: l, S => by
    show runB (stepB S o) l k = _
    rw [run_key k l]
    by_cases e : o.ky = k
    · have h1 : onK k (o :: l) = o :: onK k l := by unfold onK; rw [List.filter_cons, if_pos (by simpa using e)]
      have h2 : stepB S o k = some (mkF o.kd ((S k).getD 0) o.n) := by unfold stepB setO; rw [if_pos e.symm, e]
      rw [h1, h2, if_neg (show ¬ (o :: onK k l = []) by simp)]
      split
      · rename_i h3; rw [h3]; rfl
      · rfl
    · have h1 : onK k (o :: l) = onK k l := by unfold onK; rw [List.filter_cons, if_neg (by simpa using e)]
      have h2 : stepB S o k = S k := by unfold stepB setO; rw [if_neg (fun x => e x.symm)]
      rw [h1, h2]

/-- Two operations merged. -/
def mergeB (a b : BOp) : Option BOp := if a.ky ≠ b.ky then none else if b.kd = 3 then some b else if a.kd = 3 ∨ a.kd = b.kd then some ⟨a.kd, a.ky, mkF b.kd a.n b.n⟩ else none
theorem merge_ok {a b c : BOp} (h : mergeB a b = some c) (ha : a.ok) (hb : b.ok) : c.ok ∧ c.ky = b.ky ∧ a.ky = b.ky := by
  unfold mergeB at h
  split at h
  · cases h
  rename_i hk
  have hk : a.ky = b.ky := Decidable.not_not.1 hk
  split at h
  · injection h with h; subst h; exact ⟨hb, rfl, hk⟩
  split at h
  · injection h with h; subst h; exact ⟨⟨ha.1, ha.2.1, mkF_in ha.2.2 hb.2.2⟩, hk, hk⟩
  · cases h
theorem merge_mk {a b c : BOp} (h : mergeB a b = some c) (ha : a.ok) (hb : b.ok) {v : Int} (hv : In64 v) : mkF c.kd v c.n = mkF b.kd (mkF a.kd v a.n) b.n := by
  unfold In64 at hv
  unfold mergeB at h
  split at h
  · cases h
  split at h
  · rename_i e; injection h with h; subst h; unfold mkF; rw [e]; rfl
  split at h
  · rename_i e f
    injection h with h; subst h
    unfold mkF
    show (if a.kd = 0 then _ else _) = _
    rcases kinds ha with e1 | e1 | e1 | e1 <;> rcases kinds hb with f1 | f1 | f1 | f1 <;> rw [e1, f1] at f <;> rw [e1, f1] <;> simp at f ⊢
    · rw [wr64_eq, wr64_eq, wr64_eq, wr64_eq]; omega
    all_goals omega
  · cases h
/-- An operation laid onto a row (the row turned about: its last first). -/
def pushR : List BOp → BOp → List BOp
  | [], o => [o]
  | x :: r, o => match mergeB x o with | none => o :: x :: r | some c => pushR r c
theorem pushR_ne : ∀ (r : List BOp) (o : BOp), pushR r o ≠ []
  | [], _ => by simp [pushR]
  | x :: r, o => by unfold pushR; split; simp; exact pushR_ne r _
theorem pushR_len : ∀ (r : List BOp) (o : BOp), (pushR r o).length ≤ r.length + 1
  | [], _ => by simp [pushR]
  | x :: r, o => by
    unfold pushR
    split
    · simp
    · have := pushR_len r ‹_›; simp only [List.length_cons]; omega
theorem pushR_ok : ∀ (r : List BOp) {o : BOp} {k : Int}, (∀ x ∈ r, x.ok ∧ x.ky = k) → o.ok → o.ky = k → ∀ x ∈ pushR r o, x.ok ∧ x.ky = k
  | [], o, k, _, h, hk => by intro x hx; simp only [pushR, List.mem_singleton] at hx; subst hx; exact ⟨h, hk⟩
  | y :: r, o, k, hr, h, hk => by
    have hy := hr y List.mem_cons_self
    unfold pushR
    split
    · intro x hx
      rcases List.mem_cons.1 hx with rfl | hx
      · exact ⟨h, hk⟩
      · exact hr x hx
    · rename_i c hm
      have := merge_ok hm hy.1 h
      exact pushR_ok r (fun x hx => hr x (List.mem_cons_of_mem _ hx)) this.1 (this.2.1.trans hk)
theorem pushR_fk : ∀ (r : List BOp) {o : BOp} {k v : Int}, (∀ x ∈ r, x.ok ∧ x.ky = k) → o.ok → o.ky = k → In64 v → fk v (pushR r o).reverse = mkF o.kd (fk v r.reverse) o.n
  | [], o, k, v, _, _, _, _ => rfl
  | y :: r, o, k, v, hr, h, hk, hv => by
    have hy := hr y List.mem_cons_self
    have hr' : ∀ x ∈ r, x.ok ∧ x.ky = k := fun x hx => hr x (List.mem_cons_of_mem _ hx)
    unfold pushR
    split
    · rw [List.reverse_cons, fk_snoc]
    · rename_i c hm
      have hc := merge_ok hm hy.1 h
      rw [pushR_fk r hr' hc.1 (hc.2.1.trans hk) hv, List.reverse_cons, fk_snoc, merge_mk hm hy.1 h]
      exact fk_in _ hv fun x hx => (hr' x (List.mem_reverse.1 hx)).1
def pushB (r : List BOp) (o : BOp) : List BOp := (pushR r.reverse o).reverse
/-- Batch, operation by operation: the keys met and the rows. -/
structure BS where
  ks : List Int
  row : Int → List BOp
def BS.step (s : BS) (o : BOp) : BS := ⟨if s.row o.ky = [] then s.ks ++ [o.ky] else s.ks, fun k => if k = o.ky then pushB (s.row k) o else s.row k⟩
def bsOf (l : List BOp) : BS := l.foldl BS.step ⟨[], fun _ => []⟩
def batB (l : List BOp) : List BOp := (bsOf l).ks.flatMap (bsOf l).row
theorem bsOf_snoc (l : List BOp) (o : BOp) : bsOf (l ++ [o]) = (bsOf l).step o := by unfold bsOf; rw [List.foldl_append]; rfl
structure BS.Inv (s : BS) (l : List BOp) : Prop where
  nd : s.ks.Nodup
  iff : ∀ k, k ∈ s.ks ↔ s.row k ≠ []
  ok : ∀ k, ∀ o ∈ s.row k, o.ok ∧ o.ky = k
  emp : ∀ k, s.row k = [] ↔ onK k l = []
  fk : ∀ k, fk 0 (s.row k) = fk 0 (onK k l)
  len : (s.ks.flatMap s.row).length ≤ l.length
theorem flat_set (ks : List Int) (f g : Int → List BOp) (k : Int) (hk : (g k).length ≤ (f k).length + 1) (ho : ∀ i, i ≠ k → g i = f i) (hn : ks.Nodup) : (ks.flatMap g).length ≤ (ks.flatMap f).length + (if k ∈ ks then 1 else 0) := by
  induction ks with
  | nil => simp
  | cons a t ih =>
    have ih := ih (List.nodup_cons.1 hn).2
    have ha := (List.nodup_cons.1 hn).1
    rw [List.flatMap_cons, List.flatMap_cons, List.length_append, List.length_append]
    by_cases e : a = k
    · subst e
      rw [if_neg ha] at ih
      rw [if_pos List.mem_cons_self]
      omega
    · rw [ho a e]
      by_cases h : k ∈ t
      · rw [if_pos h] at ih; rw [if_pos (List.mem_cons_of_mem _ h)]; omega
      · rw [if_neg h] at ih; rw [if_neg (by rw [List.mem_cons]; rintro (x | x); exact e x.symm; exact h x)]; omega
theorem bs_inv : ∀ (l : List BOp), (∀ o ∈ l, o.ok) → (bsOf l).Inv l := by
  intro l
  refine snocInd (p := fun l => (∀ o ∈ l, o.ok) → (bsOf l).Inv l) ?_ ?_ l
  · intro _; exact ⟨List.nodup_nil, fun k => by simp [bsOf], fun k o h => (List.not_mem_nil (show o ∈ ([] : List BOp) from h)).elim, fun k => by simp [bsOf, onK], fun k => rfl, by simp [bsOf]⟩
  · intro l o ih hl
    have h := ih fun x hx => hl x (List.mem_append_left _ hx)
    have ho : o.ok := hl o (by simp)
    rw [bsOf_snoc]
    obtain ⟨s, hs⟩ : ∃ s, s = bsOf l := ⟨_, rfl⟩
    rw [← hs] at h ⊢
    have hrev : ∀ x ∈ (s.row o.ky).reverse, x.ok ∧ x.ky = o.ky := fun x hx => h.ok _ x (List.mem_reverse.1 hx)
    have hne : pushB (s.row o.ky) o ≠ [] := fun e => pushR_ne _ _ (List.reverse_eq_nil_iff.1 e)
    have hlen : (pushB (s.row o.ky) o).length ≤ (s.row o.ky).length + 1 := by
      unfold pushB
      rw [List.length_reverse]
      have := pushR_len (s.row o.ky).reverse o
      rw [List.length_reverse] at this
      exact this
    have hon : ∀ k, onK k (l ++ [o]) = if k = o.ky then onK k l ++ [o] else onK k l := by
      intro k
      unfold onK
      rw [List.filter_append]
      by_cases e : k = o.ky
      · rw [if_pos e, List.filter_cons, if_pos (by simpa using e.symm)]; rfl
      · rw [if_neg e, List.filter_cons, if_neg (by simpa using fun x => e x.symm)]; simp
    refine ⟨?_, ?_, ?_, ?_, ?_, ?_⟩
    · show (if s.row o.ky = [] then s.ks ++ [o.ky] else s.ks).Nodup
      split
      · rename_i e
        rw [List.nodup_append]
        refine ⟨h.nd, by simp, fun a ha b hb => ?_⟩
        simp only [List.mem_singleton] at hb
        subst hb
        intro e2
        rw [e2] at ha
        exact (h.iff _).1 ha e
      · exact h.nd
    · intro k
      show k ∈ (if s.row o.ky = [] then s.ks ++ [o.ky] else s.ks) ↔ (if k = o.ky then pushB (s.row k) o else s.row k) ≠ []
      by_cases e : k = o.ky
      · rw [if_pos e]
        subst e
        refine ⟨fun _ => hne, fun _ => ?_⟩
        split
        · simp
        · rename_i e2; exact (h.iff _).2 e2
      · rw [if_neg e]
        split
        · rw [List.mem_append, List.mem_singleton]
          exact ⟨fun x => (h.iff k).1 (x.resolve_right e), fun x => .inl ((h.iff k).2 x)⟩
        · exact h.iff k
    · intro k x hx
      change x ∈ (if k = o.ky then pushB (s.row k) o else s.row k) at hx
      by_cases e : k = o.ky
      · rw [if_pos e] at hx
        subst e
        exact pushR_ok _ hrev ho rfl x (List.mem_reverse.1 hx)
      · rw [if_neg e] at hx; exact h.ok k x hx
    · intro k
      show (if k = o.ky then pushB (s.row k) o else s.row k) = [] ↔ _
      rw [hon]
      by_cases e : k = o.ky
      · rw [if_pos e, if_pos e]
        subst e
        exact ⟨fun x => absurd x hne, fun x => by simp at x⟩
      · rw [if_neg e, if_neg e]; exact h.emp k
    · intro k
      show fk 0 (if k = o.ky then pushB (s.row k) o else s.row k) = _
      rw [hon]
      by_cases e : k = o.ky
      · rw [if_pos e, if_pos e]
        subst e
        have := pushR_fk (s.row o.ky).reverse (v := 0) hrev ho rfl (by unfold In64; omega)
        rw [List.reverse_reverse] at this
        rw [fk_snoc, ← h.fk]
        exact this
      · rw [if_neg e, if_neg e]; exact h.fk k
    · show ((if s.row o.ky = [] then s.ks ++ [o.ky] else s.ks).flatMap fun k => if k = o.ky then pushB (s.row k) o else s.row k).length ≤ (l ++ [o]).length
      have hl := h.len
      rw [List.length_append, List.length_singleton]
      have hfs := flat_set s.ks s.row (fun k => if k = o.ky then pushB (s.row k) o else s.row k) o.ky (by rw [if_pos rfl]; exact hlen) (fun i hi => if_neg hi) h.nd
      split
      · rename_i e
        rw [List.flatMap_append, List.length_append]
        rw [if_neg (fun x => (h.iff _).1 x e)] at hfs
        rw [e] at hlen
        simp only [List.flatMap_cons, List.flatMap_nil, List.append_nil, if_true]
        rw [e]
        simp only [List.length_nil] at hlen
        omega
      · rename_i e
        rw [if_pos ((h.iff _).2 e)] at hfs
        omega
theorem onK_flat (k : Int) : ∀ (ks : List Int) (row : Int → List BOp), ks.Nodup → (∀ k, ∀ o ∈ row k, o.ky = k) → onK k (ks.flatMap row) = if k ∈ ks then row k else []
  | [], _, _, _ => by simp [onK]
  | a :: t, row, hn, hk => by
    have ih := onK_flat k t row (List.nodup_cons.1 hn).2 hk
    have hall : ∀ b, onK k (row b) = if b = k then row b else [] := by
      intro b
      unfold onK
      by_cases e : b = k
      · rw [if_pos e, List.filter_eq_self]
        exact fun o ho => by rw [hk b o ho]; simpa using e
      · rw [if_neg e, List.filter_eq_nil_iff]
        exact fun o ho => by rw [hk b o ho]; simpa using e
    have e1 : onK k ((a :: t).flatMap row) = onK k (row a) ++ onK k (t.flatMap row) := by rw [List.flatMap_cons]; exact List.filter_append ..
    rw [e1, ih, hall a]
    by_cases e : a = k
    · subst e
      rw [if_pos rfl, if_neg (List.nodup_cons.1 hn).1, if_pos List.mem_cons_self, List.append_nil]
    · rw [if_neg e, List.nil_append]
      by_cases h : k ∈ t
      · rw [if_pos h, if_pos (List.mem_cons_of_mem _ h)]
      · rw [if_neg h, if_neg (by rw [List.mem_cons]; rintro (x | x); exact e x.symm; exact h x)]
theorem bat_run (l : List BOp) (hl : ∀ o ∈ l, o.ok) : runB (fun _ => none) (batB l) = runB (fun _ => none) l := by
  have h := bs_inv l hl
  funext k
  rw [run_key, run_key]
  unfold batB
  rw [onK_flat k _ _ h.nd (fun k o ho => (h.ok k o ho).2)]
  by_cases e : onK k l = []
  · rw [if_pos e, if_neg (fun x => (h.iff k).1 x ((h.emp k).2 e)), if_pos rfl]
  · have e1 : (bsOf l).row k ≠ [] := fun x => e ((h.emp k).1 x)
    rw [if_neg e, if_pos ((h.iff k).2 e1), if_neg e1]
    exact congrArg some (h.fk k)
theorem bat_len (l : List BOp) (hl : ∀ o ∈ l, o.ok) : (batB l).length ≤ l.length := (bs_inv l hl).len
theorem bat_ok (l : List BOp) (hl : ∀ o ∈ l, o.ok) : ∀ o ∈ batB l, o.ok := by
  intro o ho
  obtain ⟨k, -, hk⟩ := List.mem_flatMap.1 ho
  exact ((bs_inv l hl).ok k o hk).1

/-- Runs, operation by operation. -/
def fitsB (r : List BOp) (o : BOp) : Bool := r.all fun x => commB x o
def rstep (out : List (List BOp)) (o : BOp) : List (List BOp) := match out.getLast? with
  | none => out ++ [[o]]
  | some r => if fitsB r o = true then out.dropLast ++ [r ++ [o]] else out ++ [[o]]
def runsB (l : List BOp) : List (List BOp) := l.foldl rstep []
theorem runsB_snoc (l : List BOp) (o : BOp) : runsB (l ++ [o]) = rstep (runsB l) o := by unfold runsB; rw [List.foldl_append]; rfl
def CommR (r : List BOp) : Prop := r ≠ [] ∧ r.Pairwise fun a b => commB a b = true
theorem runs_inv (l : List BOp) : (runsB l).flatten = l ∧ ∀ r ∈ runsB l, CommR r := by
  refine snocInd (p := fun l => (runsB l).flatten = l ∧ ∀ r ∈ runsB l, CommR r) ?_ ?_ l
  · exact ⟨rfl, fun r h => by cases h⟩
  · intro l o ih
    rw [runsB_snoc]
    obtain ⟨h1, h2⟩ := ih
    have hone : CommR [o] := ⟨by simp, List.pairwise_singleton _ _⟩
    have hnew : ((runsB l) ++ [[o]]).flatten = l ++ [o] ∧ ∀ r ∈ (runsB l) ++ [[o]], CommR r := by
      refine ⟨by rw [List.flatten_append, h1]; rfl, fun r hr => ?_⟩
      rcases List.mem_append.1 hr with hr | hr
      · exact h2 r hr
      · simp only [List.mem_singleton] at hr; subst hr; exact hone
    unfold rstep
    split
    · exact hnew
    · rename_i r hr
      split
      · rename_i hf
        obtain ⟨ys, hy⟩ := List.getLast?_eq_some_iff.1 hr
        have hd : (runsB l).dropLast = ys := by rw [hy, List.dropLast_concat]
        rw [hd]
        have hmem : r ∈ runsB l := by rw [hy]; simp
        have hcr := h2 r hmem
        refine ⟨?_, fun x hx => ?_⟩
        · rw [hy, List.flatten_append] at h1
          rw [← h1, List.flatten_append]
          simp
        · rcases List.mem_append.1 hx with hx | hx
          · exact h2 x (by rw [hy]; exact List.mem_append_left _ hx)
          · simp only [List.mem_singleton] at hx
            subst hx
            refine ⟨by simp, ?_⟩
            rw [List.pairwise_append]
            refine ⟨hcr.2, List.pairwise_singleton _ _, fun a ha b hb => ?_⟩
            simp only [List.mem_singleton] at hb
            subst hb
            exact List.all_eq_true.1 hf a ha
      · exact hnew
/-- A run turned by t places. -/
def rotB (t : Nat) (r : List BOp) : List BOp := r.drop (t % r.length) ++ r.take (t % r.length)
theorem rot_run {r : List BOp} (h : CommR r) (hr : ∀ o ∈ r, o.ok) (t : Nat) {S : Int → Option Int} (hS : Good S) : runB S (rotB t r) = runB S r := by
  unfold rotB
  generalize t % r.length = j
  have hp := h.2
  rw [← List.take_append_drop j r, List.pairwise_append] at hp
  rw [← swap_all (r.take j) (r.drop j) hS (fun o ho => hr o (List.mem_of_mem_take ho)) (fun o ho => hr o (List.mem_of_mem_drop ho)) hp.2.2, List.take_append_drop]
theorem rot_mem {t : Nat} {r : List BOp} {o : BOp} (h : o ∈ rotB t r) : o ∈ r := by
  unfold rotB at h
  rcases List.mem_append.1 h with h | h
  · exact List.mem_of_mem_drop h
  · exact List.mem_of_mem_take h
theorem rot_len (t : Nat) (r : List BOp) : (rotB t r).length = r.length := by
  unfold rotB
  rw [List.length_append, List.length_drop, List.length_take]
  rcases Nat.eq_zero_or_pos r.length with h | h
  · rw [h]; simp
  · have := Nat.mod_lt t h
    omega
theorem rot_get (t : Nat) (r : List BOp) {i : Nat} (hi : i < r.length) : (rotB t r)[i]? = r[(i + t) % r.length]? := by
  unfold rotB
  have hj := Nat.mod_lt t (show 0 < r.length by omega)
  have e : (i + t) % r.length = (i + t % r.length) % r.length := by simp
  rw [e]
  generalize t % r.length = j at hj
  rcases Nat.lt_or_ge i (r.length - j) with h | h
  · rw [List.getElem?_append_left (by rw [List.length_drop]; exact h), List.getElem?_drop, Nat.mod_eq_of_lt (by omega), Nat.add_comm]
  · rw [List.getElem?_append_right (by rw [List.length_drop]; exact h), List.length_drop, List.getElem?_take, if_pos (by omega)]
    congr 1
    rw [Nat.mod_eq_sub_mod (by omega), Nat.mod_eq_of_lt (by omega)]
    omega
def turnB (t : Nat) (l : List BOp) : List BOp := (runsB l).flatMap (rotB t)
theorem turns_run (t : Nat) : ∀ (rs : List (List BOp)) {S : Int → Option Int}, Good S → (∀ r ∈ rs, CommR r) → (∀ r ∈ rs, ∀ o ∈ r, o.ok) → runB S (rs.flatMap (rotB t)) = runB S rs.flatten
  | [], _, _, _, _ => rfl
  | r :: rs, S, hS, hc, ho => by
    rw [List.flatMap_cons, List.flatten_cons, runB_app, runB_app, rot_run (hc r List.mem_cons_self) (ho r List.mem_cons_self) t hS]
    exact turns_run t rs (good_run r hS (ho r List.mem_cons_self)) (fun x hx => hc x (List.mem_cons_of_mem _ hx)) (fun x hx => ho x (List.mem_cons_of_mem _ hx))
theorem turn_run (t : Nat) (l : List BOp) (hl : ∀ o ∈ l, o.ok) : runB (fun _ => none) (turnB t l) = runB (fun _ => none) l := by
  obtain ⟨h1, h2⟩ := runs_inv l
  unfold turnB
  rw [turns_run t (runsB l) good_none h2 (fun r hr o ho => hl o (by rw [← h1]; exact List.mem_flatten.2 ⟨r, hr, ho⟩)), h1]
theorem turn_len (t : Nat) (l : List BOp) : (turnB t l).length = l.length := by
  have h1 := (runs_inv l).1
  unfold turnB
  have : ∀ rs : List (List BOp), (rs.flatMap (rotB t)).length = rs.flatten.length := by
    intro rs
    induction rs with
    | nil => rfl
    | cons r rs ih => rw [List.flatMap_cons, List.flatten_cons, List.length_append, List.length_append, ih, rot_len]
  rw [this, h1]
theorem turn_ok (t : Nat) (l : List BOp) (hl : ∀ o ∈ l, o.ok) : ∀ o ∈ turnB t l, o.ok := by
  intro o ho
  obtain ⟨r, hr, ho⟩ := List.mem_flatMap.1 ho
  have h1 := (runs_inv l).1
  exact hl o (by rw [← h1]; exact List.mem_flatten.2 ⟨r, hr, rot_mem ho⟩)
end Go.Proofs.YtkloaopjlbinpaaGreat
namespace Go.Proofs.YtkloaopjlbinpaaGreat

/-- The hashes of the keys 0 to 9. -/
def hsT : List Nat := [0, 11400714820970677676, 4354685563936836440, 15755400384957978899, 8709371127873672881, 1663341875200855286, 13064056691911438886, 6018027439040311425, 17418742255747345763, 10372713007454952248]
def hs (k : Int) : Nat := hsT.getD k.toNat 0
def dg (d : Nat) (k : Int) : Nat := hs k / 8 ^ d % 8
def key (k : Int) : Prop := 0 ≤ k ∧ k ≤ 9
theorem dg_lt (d : Nat) (k : Int) : dg d k < 8 := Nat.mod_lt _ (by omega)
theorem dg_inj {k k' : Int} (h : key k) (h' : key k') (h0 : dg 0 k = dg 0 k') (h1 : dg 1 k = dg 1 k') : k = k' := by
  have hall : ∀ a : Fin 10, ∀ b : Fin 10, hsT.getD a 0 / 8 ^ 0 % 8 = hsT.getD b 0 / 8 ^ 0 % 8 → hsT.getD a 0 / 8 ^ 1 % 8 = hsT.getD b 0 / 8 ^ 1 % 8 → a = b := by decide
  have := hall ⟨k.toNat, by have := h.2; have := h.1; omega⟩ ⟨k'.toNat, by have := h'.2; have := h'.1; omega⟩ h0 h1
  have e := congrArg Fin.val this
  have e : k.toNat = k'.toNat := e
  have := h.1
  have := h'.1
  omega

inductive Tr where
  | e
  | l (a : Nat) (k v : Int)
  | b (a : Nat) (s : Nat → Tr)
def Tr.at (V : Int → Int) : Tr → Int → Prop
  | .e, c => V c = 0
  | .l a k v, c => V c = adr a ∧ V (adr a) = k ∧ V (adr a + 1) = v ∧ V (adr a + 2) = 0
  | .b a s, c => V c = -adr a ∧ ∀ i : Nat, i < 8 → (s i).at V (adr a + (i : Int))
def Tr.nodes : Tr → List Nat
  | .e => []
  | .l a _ _ => [a]
  | .b a s => a :: (List.range 8).flatMap fun i => (s i).nodes
def Tr.pairs : Tr → List (Int × Int)
  | .e => []
  | .l _ k v => [(k, v)]
  | .b _ s => (List.range 8).flatMap fun i => (s i).pairs
def Tr.ok : Tr → Nat → Prop
  | .e, _ => True
  | .l _ k _, _ => key k
  | .b _ s, d => d < 2 ∧ ∀ i, i < 8 → (s i).ok (d + 1) ∧ ∀ p ∈ (s i).pairs, dg d p.1 = i
def Tr.bot (k : Int) : Tr → Nat → Tr
  | .e, _ => .e
  | .l a k' v, _ => .l a k' v
  | .b _ s, d => (s (dg d k)).bot k (d + 1)
def Tr.cell (k : Int) : Tr → Nat → Int → Int
  | .e, _, c => c
  | .l _ _ _, _, c => c
  | .b a s, d, _ => (s (dg d k)).cell k (d + 1) (adr a + (dg d k : Int))
def Tr.dep (k : Int) : Tr → Nat → Nat
  | .e, d => d
  | .l _ _ _, d => d
  | .b _ s, d => (s (dg d k)).dep k (d + 1)
def Tr.repl (k : Int) (u : Tr) : Tr → Nat → Tr
  | .e, _ => u
  | .l _ _ _, _ => u
  | .b a s, d => .b a fun i => if i = dg d k then Tr.repl k u (s i) (d + 1) else s i
def Tr.get (k : Int) : Tr → Nat → Option Int
  | .e, _ => none
  | .l _ k' v, _ => if k = k' then some v else none
  | .b _ s, d => (s (dg d k)).get k (d + 1)
/-- The cells that a tree at c takes up. -/
def Out (t : Tr) (c x : Int) : Prop := x = c ∨ ∃ n ∈ t.nodes, ∃ j : Nat, j < 8 ∧ x = adr n + (j : Int)
theorem adr_inj {n m i j : Nat} (hi : i < 8) (hj : j < 8) (h : adr n + (i : Int) = adr m + (j : Int)) : n = m ∧ i = j := by unfold adr at h; omega
theorem nodes_sub {a : Nat} {s : Nat → Tr} {i n : Nat} (hi : i < 8) (h : n ∈ (s i).nodes) : n ∈ (Tr.b a s).nodes :=
  List.mem_cons_of_mem _ (List.mem_flatMap.2 ⟨i, List.mem_range.2 hi, h⟩)
theorem pairs_sub {a : Nat} {s : Nat → Tr} {i : Nat} {p : Int × Int} (hi : i < 8) (h : p ∈ (s i).pairs) : p ∈ (Tr.b a s).pairs :=
  List.mem_flatMap.2 ⟨i, List.mem_range.2 hi, h⟩
theorem nd_b {a : Nat} {s : Nat → Tr} (h : (Tr.b a s).nodes.Nodup) : (∀ i, i < 8 → a ∉ (s i).nodes) ∧ (∀ i, i < 8 → (s i).nodes.Nodup) ∧ ∀ i j, i < 8 → j < 8 → i ≠ j → ∀ n ∈ (s i).nodes, n ∉ (s j).nodes := by
  obtain ⟨h1, h2⟩ := List.nodup_cons.1 (show (a :: (List.range 8).flatMap fun i => (s i).nodes).Nodup from h)
  obtain ⟨h3, h4⟩ := List.pairwise_flatMap.1 h2
  refine ⟨fun i hi hm => h1 (List.mem_flatMap.2 ⟨i, List.mem_range.2 hi, hm⟩), fun i hi => h3 i (List.mem_range.2 hi), fun i j hi hj hne n hn hn' => ?_⟩
  rw [List.pairwise_iff_getElem] at h4
  rcases Nat.lt_or_ge i j with hlt | hge
  · have := h4 i j (by simpa using hi) (by simpa using hj) hlt n (by simpa using hn) n (by simpa using hn')
    exact this rfl
  · have := h4 j i (by simpa using hj) (by simpa using hi) (by omega) n (by simpa using hn') n (by simpa using hn)
    exact this rfl
theorem b_nd {a : Nat} {s : Nat → Tr} (h1 : ∀ i, i < 8 → a ∉ (s i).nodes) (h2 : ∀ i, i < 8 → (s i).nodes.Nodup) (h3 : ∀ i j, i < 8 → j < 8 → i ≠ j → ∀ n ∈ (s i).nodes, n ∉ (s j).nodes) : (Tr.b a s).nodes.Nodup := by
  show (a :: (List.range 8).flatMap fun i => (s i).nodes).Nodup
  rw [List.nodup_cons]
  refine ⟨fun h => ?_, List.pairwise_flatMap.2 ⟨fun i hi => h2 i (List.mem_range.1 hi), ?_⟩⟩
  · obtain ⟨i, hi, h⟩ := List.mem_flatMap.1 h
    exact h1 i (List.mem_range.1 hi) h
  · refine List.Pairwise.imp_of_mem ?_ List.pairwise_lt_range
    intro i j hi hj hlt x hx y hy e
    subst e
    exact h3 i j (List.mem_range.1 hi) (List.mem_range.1 hj) (by omega) x hx hy

theorem Tr.frame {V V' : Int → Int} : ∀ (t : Tr) (c : Int), t.at V c → (∀ x, Out t c x → V' x = V x) → t.at V' c
  | .e, c, h, hv => (hv c (.inl rfl)).trans h
  | .l a k v, c, h, hv => by
    have q : ∀ j : Nat, j < 8 → V' (adr a + (j : Int)) = V (adr a + (j : Int)) := fun j hj => hv _ (.inr ⟨a, List.mem_singleton.2 rfl, j, hj, rfl⟩)
    have q0 := q 0 (by omega)
    have q1 := q 1 (by omega)
    have q2 := q 2 (by omega)
    simp only [Int.natCast_zero, Int.add_zero] at q0
    exact ⟨(hv c (.inl rfl)).trans h.1, q0.trans h.2.1, q1.trans h.2.2.1, q2.trans h.2.2.2⟩
  | .b a s, c, h, hv => by
    refine ⟨(hv c (.inl rfl)).trans h.1, fun i hi => (s i).frame _ (h.2 i hi) fun x hx => hv x (.inr ?_)⟩
    rcases hx with rfl | ⟨n, hn, j, hj, rfl⟩
    · exact ⟨a, List.mem_cons_self, i, hi, rfl⟩
    · exact ⟨n, nodes_sub hi hn, j, hj, rfl⟩
theorem Tr.bot_out (k : Int) : ∀ (t : Tr) (d : Nat) (c x : Int), Out (t.bot k d) (t.cell k d c) x → Out t c x
  | .e, _, _, _, h => h
  | .l _ _ _, _, _, _, h => h
  | .b a s, d, c, x, h => by
    rcases (s (dg d k)).bot_out k (d + 1) _ x h with rfl | ⟨n, hn, j, hj, rfl⟩
    · exact .inr ⟨a, List.mem_cons_self, dg d k, dg_lt _ _, rfl⟩
    · exact .inr ⟨n, nodes_sub (dg_lt _ _) hn, j, hj, rfl⟩
theorem Tr.bot_nodes (k : Int) : ∀ (t : Tr) (d n : Nat), n ∈ (t.bot k d).nodes → n ∈ t.nodes
  | .e, _, _, h => h
  | .l _ _ _, _, _, h => h
  | .b a s, d, n, h => nodes_sub (dg_lt _ _) ((s (dg d k)).bot_nodes k (d + 1) n h)
theorem Tr.bot_pairs (k : Int) (p : Int × Int) : ∀ (t : Tr) (d : Nat), p ∈ (t.bot k d).pairs → p ∈ t.pairs
  | .e, _, h => h
  | .l _ _ _, _, h => h
  | .b a s, d, h => pairs_sub (a := a) (dg_lt _ _) ((s (dg d k)).bot_pairs k p (d + 1) h)
theorem Tr.repl_at {V V' : Int → Int} (k : Int) (u : Tr) : ∀ (t : Tr) (d : Nat) (c : Int), t.at V c → t.nodes.Nodup → (∀ n ∈ t.nodes, ∀ j : Nat, j < 8 → c ≠ adr n + (j : Int)) → u.at V' (t.cell k d c) →
    (∀ x, Out t c x → ¬ Out (t.bot k d) (t.cell k d c) x → V' x = V x) → (Tr.repl k u t d).at V' c
  | .e, _, _, _, _, _, hu, _ => hu
  | .l _ _ _, _, _, _, _, _, hu, _ => hu
  | .b a s, d, c, h, hn, hc, hu, hv => by
    obtain ⟨h1, h2, h3⟩ := nd_b hn
    have h8 := dg_lt d k
    have hc0 : ∀ n ∈ (s (dg d k)).nodes, ∀ j : Nat, j < 8 → adr a + (dg d k : Int) ≠ adr n + (j : Int) := fun n hm j hj e => by
      have := (adr_inj h8 hj e).1
      subst this
      exact h1 _ h8 hm
    refine ⟨?_, fun i hi => ?_⟩
    · rw [hv c (.inl rfl) fun ho => ?_]
      · exact h.1
      · rcases (s (dg d k)).bot_out k (d + 1) _ c ho with e | ⟨n, hm, j, hj, e⟩
        · exact hc a List.mem_cons_self _ h8 e
        · exact hc n (nodes_sub h8 hm) j hj e
    · show (if i = dg d k then Tr.repl k u (s i) (d + 1) else s i).at V' (adr a + (i : Int))
      have hin : ∀ x, Out (s i) (adr a + (i : Int)) x → Out (Tr.b a s) c x := by
        rintro x (rfl | ⟨n, hm, j, hj, rfl⟩)
        · exact .inr ⟨a, List.mem_cons_self, i, hi, rfl⟩
        · exact .inr ⟨n, nodes_sub hi hm, j, hj, rfl⟩
      split
      · rename_i e
        subst e
        exact Tr.repl_at k u (s (dg d k)) (d + 1) _ (h.2 _ h8) (h2 _ h8) hc0 hu fun x hx hb => hv x (hin x hx) hb
      · rename_i e
        refine (s i).frame _ (h.2 i hi) fun x hx => hv x (hin x hx) fun ho => ?_
        have ho := (s (dg d k)).bot_out k (d + 1) _ x ho
        rcases hx with rfl | ⟨m, hm, j', hj', rfl⟩
        · rcases ho with e2 | ⟨n, hm, j, hj, e2⟩
          · exact e (adr_inj hi h8 e2).2
          · have := (adr_inj hi hj e2).1
            subst this
            exact h1 _ h8 hm
        · rcases ho with e2 | ⟨n, hm2, j, hj, e2⟩
          · have := (adr_inj hj' h8 e2).1
            subst this
            exact h1 _ hi hm
          · have := (adr_inj hj' hj e2).1
            subst this
            exact h3 i _ hi h8 e _ hm hm2
theorem Tr.repl_nodes (k : Int) (u : Tr) : ∀ (t : Tr) (d n : Nat), n ∈ (Tr.repl k u t d).nodes → n ∈ u.nodes ∨ n ∈ t.nodes
  | .e, _, _, h => .inl h
  | .l _ _ _, _, _, h => .inl h
  | .b a s, d, n, h => by
    rcases List.mem_cons.1 (show n ∈ a :: (List.range 8).flatMap fun i => (if i = dg d k then Tr.repl k u (s i) (d + 1) else s i).nodes from h) with rfl | h
    · exact .inr List.mem_cons_self
    · obtain ⟨i, hi, h⟩ := List.mem_flatMap.1 h
      have hi := List.mem_range.1 hi
      split at h
      · exact (Tr.repl_nodes k u (s i) (d + 1) n h).imp id (nodes_sub hi)
      · exact .inr (nodes_sub hi h)
theorem Tr.repl_nd (k : Int) (u : Tr) : ∀ (t : Tr) (d : Nat), t.nodes.Nodup → u.nodes.Nodup → (∀ n ∈ u.nodes, n ∈ (t.bot k d).nodes ∨ n ∉ t.nodes) → (Tr.repl k u t d).nodes.Nodup
  | .e, _, _, hu, _ => hu
  | .l _ _ _, _, _, hu, _ => hu
  | .b a s, d, hn, hu, hd => by
    obtain ⟨h1, h2, h3⟩ := nd_b hn
    have h8 := dg_lt d k
    have hin : ∀ n ∈ u.nodes, n = a → False := by
      rintro n hm rfl
      rcases hd n hm with h | h
      · exact h1 _ h8 ((s (dg d k)).bot_nodes k (d + 1) n h)
      · exact h List.mem_cons_self
    have hin2 : ∀ n ∈ u.nodes, ∀ i, i < 8 → i ≠ dg d k → n ∉ (s i).nodes := by
      intro n hm i hi hne h'
      rcases hd n hm with h | h
      · exact h3 _ _ h8 hi (fun e => hne e.symm) n ((s (dg d k)).bot_nodes k (d + 1) n h) h'
      · exact h (nodes_sub hi h')
    refine b_nd (s := fun i => if i = dg d k then Tr.repl k u (s i) (d + 1) else s i) ?_ ?_ ?_
    · intro i hi
      split
      · intro h
        rcases Tr.repl_nodes k u (s i) (d + 1) a h with h | h
        · exact hin a h rfl
        · exact h1 i hi h
      · exact h1 i hi
    · intro i hi
      split
      · rename_i e
        subst e
        exact Tr.repl_nd k u (s (dg d k)) (d + 1) (h2 _ h8) hu fun n hm => (hd n hm).imp id fun h h' => h (nodes_sub h8 h')
      · exact h2 i hi
    · intro i j hi hj hne n
      split
      · rename_i e
        subst e
        rw [if_neg (fun e => hne e.symm)]
        intro h h'
        rcases Tr.repl_nodes k u (s (dg d k)) (d + 1) n h with h | h
        · exact hin2 n h j hj (fun e => hne e.symm) h'
        · exact h3 _ j h8 hj hne n h h'
      · rename_i e
        split
        · rename_i e2
          subst e2
          intro h h'
          rcases Tr.repl_nodes k u (s (dg d k)) (d + 1) n h' with h' | h'
          · exact hin2 n h' i hi e h
          · exact h3 i _ hi h8 hne n h h'
        · exact h3 i j hi hj hne n
theorem Tr.repl_pairs (k : Int) (u : Tr) (p : Int × Int) : ∀ (t : Tr) (d : Nat), p ∈ (Tr.repl k u t d).pairs → p ∈ u.pairs ∨ p ∈ t.pairs
  | .e, _, h => .inl h
  | .l _ _ _, _, h => .inl h
  | .b a s, d, h => by
    obtain ⟨i, hi, h⟩ := List.mem_flatMap.1 (show p ∈ (List.range 8).flatMap fun i => (if i = dg d k then Tr.repl k u (s i) (d + 1) else s i).pairs from h)
    have hi := List.mem_range.1 hi
    split at h
    · exact (Tr.repl_pairs k u p (s i) (d + 1) h).imp id (pairs_sub (a := a) hi)
    · exact .inr (pairs_sub (a := a) hi h)
theorem Tr.dep_ge (k : Int) : ∀ (t : Tr) (d : Nat), d ≤ t.dep k d
  | .e, _ => Nat.le_refl _
  | .l _ _ _, _ => Nat.le_refl _
  | .b _ s, d => Nat.le_trans (Nat.le_succ d) ((s (dg d k)).dep_ge k (d + 1))
theorem Tr.dep_le (k : Int) : ∀ (t : Tr) (d : Nat), t.ok d → d ≤ 2 → t.dep k d ≤ 2
  | .e, _, _, h => h
  | .l _ _ _, _, _, h => h
  | .b _ s, d, h, _ => (s (dg d k)).dep_le k (d + 1) (h.2 _ (dg_lt _ _)).1 h.1
theorem Tr.bot_dg (k : Int) (p : Int × Int) : ∀ (t : Tr) (d : Nat), t.ok d → p ∈ (t.bot k d).pairs → ∀ j, d ≤ j → j < t.dep k d → dg j p.1 = dg j k
  | .e, d, _, _, j, h1, h2 => absurd h2 (Nat.not_lt.2 h1)
  | .l _ _ _, d, _, _, j, h1, h2 => absurd h2 (Nat.not_lt.2 h1)
  | .b a s, d, h, hp, j, h1, h2 => by
    rcases Nat.lt_or_ge d j with hlt | hge
    · exact (s (dg d k)).bot_dg k p (d + 1) (h.2 _ (dg_lt _ _)).1 hp j hlt h2
    · have : j = d := by omega
      subst this
      exact (h.2 _ (dg_lt _ _)).2 p ((s (dg j k)).bot_pairs k p (j + 1) hp)
theorem Tr.repl_ok (k : Int) (u : Tr) : ∀ (t : Tr) (d : Nat), t.ok d → u.ok (t.dep k d) → (∀ p ∈ u.pairs, p.1 = k ∨ ∃ q ∈ (t.bot k d).pairs, q.1 = p.1) → (Tr.repl k u t d).ok d
  | .e, _, _, hu, _ => hu
  | .l _ _ _, _, _, hu, _ => hu
  | .b a s, d, h, hu, hp => by
    refine ⟨h.1, fun i hi => ?_⟩
    show (if i = dg d k then Tr.repl k u (s i) (d + 1) else s i).ok (d + 1) ∧ ∀ p ∈ (if i = dg d k then Tr.repl k u (s i) (d + 1) else s i).pairs, dg d p.1 = i
    split
    · rename_i e
      subst e
      refine ⟨Tr.repl_ok k u (s (dg d k)) (d + 1) (h.2 _ hi).1 hu hp, fun p hm => ?_⟩
      rcases Tr.repl_pairs k u p (s (dg d k)) (d + 1) hm with hm | hm
      · rcases hp p hm with e | ⟨q, hq, e⟩
        · rw [e]
        · rw [← e]; exact (h.2 _ hi).2 q ((s (dg d k)).bot_pairs k q (d + 1) hq)
      · exact (h.2 _ hi).2 p hm
    · exact h.2 i hi
theorem Tr.repl_bot (k : Int) (u : Tr) : ∀ (t : Tr) (d : Nat), (Tr.repl k u t d).bot k d = u.bot k (t.dep k d)
  | .e, _ => rfl
  | .l _ _ _, _ => rfl
  | .b a s, d => by
    show (if dg d k = dg d k then Tr.repl k u (s (dg d k)) (d + 1) else s (dg d k)).bot k (d + 1) = _
    rw [if_pos rfl]
    exact Tr.repl_bot k u (s (dg d k)) (d + 1)
theorem Tr.repl_cell (k : Int) (u : Tr) : ∀ (t : Tr) (d : Nat) (c : Int), (Tr.repl k u t d).cell k d c = u.cell k (t.dep k d) (t.cell k d c)
  | .e, _, _ => rfl
  | .l _ _ _, _, _ => rfl
  | .b a s, d, c => by
    show (if dg d k = dg d k then Tr.repl k u (s (dg d k)) (d + 1) else s (dg d k)).cell k (d + 1) _ = _
    rw [if_pos rfl]
    exact Tr.repl_cell k u (s (dg d k)) (d + 1) _
theorem Tr.repl_dep (k : Int) (u : Tr) : ∀ (t : Tr) (d : Nat), (Tr.repl k u t d).dep k d = u.dep k (t.dep k d)
  | .e, _ => rfl
  | .l _ _ _, _ => rfl
  | .b a s, d => by
    show (if dg d k = dg d k then Tr.repl k u (s (dg d k)) (d + 1) else s (dg d k)).dep k (d + 1) = _
    rw [if_pos rfl]
    exact Tr.repl_dep k u (s (dg d k)) (d + 1)
theorem Tr.get_bot (k : Int) : ∀ (t : Tr) (d : Nat), t.get k d = (t.bot k d).get k (t.dep k d)
  | .e, _ => rfl
  | .l _ _ _, _ => rfl
  | .b a s, d => (s (dg d k)).get_bot k (d + 1)
theorem Tr.get_same (k : Int) (u : Tr) : ∀ (t : Tr) (d : Nat), (Tr.repl k u t d).get k d = u.get k (t.dep k d)
  | .e, _ => rfl
  | .l _ _ _, _ => rfl
  | .b a s, d => by
    show (if dg d k = dg d k then Tr.repl k u (s (dg d k)) (d + 1) else s (dg d k)).get k (d + 1) = _
    rw [if_pos rfl]
    exact Tr.get_same k u (s (dg d k)) (d + 1)
theorem Tr.get_other (k k' : Int) (u : Tr) : ∀ (t : Tr) (d : Nat), u.get k' (t.dep k d) = (t.bot k d).get k' (t.dep k d) → (Tr.repl k u t d).get k' d = t.get k' d
  | .e, _, h => h
  | .l _ _ _, _, h => h
  | .b a s, d, h => by
    show (if dg d k' = dg d k then Tr.repl k u (s (dg d k')) (d + 1) else s (dg d k')).get k' (d + 1) = (s (dg d k')).get k' (d + 1)
    split
    · rename_i e
      rw [e]
      exact Tr.get_other k k' u (s (dg d k)) (d + 1) h
    · rfl
theorem Tr.get_pairs (k v : Int) : ∀ (t : Tr) (d : Nat), t.ok d → (t.get k d = some v ↔ (k, v) ∈ t.pairs)
  | .e, _, _ => by simp [Tr.get, Tr.pairs]
  | .l _ k' v', _, _ => by
    show (if k = k' then some v' else none) = some v ↔ (k, v) ∈ [(k', v')]
    rw [List.mem_singleton, Prod.mk.injEq]
    split
    · rename_i e; simp [e, eq_comm]
    · rename_i e; simp [e]
  | .b a s, d, h => by
    show (s (dg d k)).get k (d + 1) = some v ↔ _
    rw [(s (dg d k)).get_pairs k v (d + 1) (h.2 _ (dg_lt _ _)).1]
    refine ⟨pairs_sub (a := a) (dg_lt _ _), fun hm => ?_⟩
    obtain ⟨i, hi, hm⟩ := List.mem_flatMap.1 hm
    have := (h.2 i (List.mem_range.1 hi)).2 _ hm
    rw [show dg d k = i from this]
    exact hm
theorem Tr.pairs_nd : ∀ (t : Tr) (d : Nat), t.ok d → t.pairs.Pairwise fun p q => p.1 ≠ q.1
  | .e, _, _ => List.Pairwise.nil
  | .l _ _ _, _, _ => List.pairwise_singleton _ _
  | .b a s, d, h => by
    refine List.pairwise_flatMap.2 ⟨fun i hi => (s i).pairs_nd (d + 1) (h.2 i (List.mem_range.1 hi)).1, ?_⟩
    refine List.Pairwise.imp_of_mem ?_ List.pairwise_lt_range
    intro i j hi hj hlt p hp q hq e
    have h1 := (h.2 i (List.mem_range.1 hi)).2 p hp
    have h2 := (h.2 j (List.mem_range.1 hj)).2 q hq
    rw [e] at h1
    omega
theorem Tr.pairs_key : ∀ (t : Tr) (d : Nat), t.ok d → ∀ p ∈ t.pairs, key p.1
  | .e, _, _, p, h => by cases h
  | .l _ k v, _, h, p, hp => by rw [List.mem_singleton.1 hp]; exact h
  | .b a s, d, h, p, hp => by
    obtain ⟨i, hi, hp⟩ := List.mem_flatMap.1 hp
    exact (s i).pairs_key (d + 1) (h.2 i (List.mem_range.1 hi)).1 p hp

/-- The words hold the map's trie t; nh nodes are handed out. -/
structure TI (V : Int → Int) (t : Tr) (nh : Nat) : Prop where
  tree : t.at V 40
  nd : t.nodes.Nodup
  lt : ∀ n ∈ t.nodes, n < nh
  ok : t.ok 0
  v1 : V 1 = 0
  v2 : V 2 = nh
  v41 : 0 ≤ V 41 ∧ V 41 ≤ nh
  v47 : V 47 = nh
theorem TI.root {V : Int → Int} {t : Tr} {nh : Nat} (h : TI V t nh) : ∀ n ∈ t.nodes, ∀ j : Nat, j < 8 → (40 : Int) ≠ adr n + (j : Int) := fun n _ j _ => by unfold adr; omega
theorem TI.cnt {V : Int → Int} {t : Tr} {nh : Nat} (h : TI V t nh) : t.nodes.length ≤ nh := nodup_bound _ _ h.nd h.lt
/-- Where a key's path ends: the root, or a cell of a node. -/
theorem cell_at (k : Int) : ∀ (t : Tr) (d : Nat) (c : Int), t.cell k d c = c ∨ ∃ n ∈ t.nodes, ∃ j : Nat, j < 8 ∧ t.cell k d c = adr n + (j : Int)
  | .e, _, _ => .inl rfl
  | .l _ _ _, _, _ => .inl rfl
  | .b a s, d, c => by
    rcases cell_at k (s (dg d k)) (d + 1) (adr a + (dg d k : Int)) with h | ⟨n, hn, j, hj, h⟩
    · exact .inr ⟨a, List.mem_cons_self, dg d k, dg_lt _ _, h⟩
    · exact .inr ⟨n, nodes_sub (dg_lt _ _) hn, j, hj, h⟩
/-- A path's last cell lies in no node that the path's end takes up. -/
theorem cell_bot (k : Int) : ∀ (t : Tr) (d : Nat) (c : Int), t.nodes.Nodup → (∀ n ∈ t.nodes, ∀ j : Nat, j < 8 → c ≠ adr n + (j : Int)) → ∀ n ∈ (t.bot k d).nodes, ∀ j : Nat, j < 8 → t.cell k d c ≠ adr n + (j : Int)
  | .e, _, _, _, h => h
  | .l _ _ _, _, _, _, h => h
  | .b a s, d, c, hn, h => by
    obtain ⟨h1, h2, h3⟩ := nd_b hn
    refine cell_bot k (s (dg d k)) (d + 1) _ (h2 _ (dg_lt _ _)) fun n hm j hj e => ?_
    have := (adr_inj (dg_lt _ _) hj e).1
    subst this
    exact h1 _ (dg_lt _ _) hm
end Go.Proofs.YtkloaopjlbinpaaGreat
namespace Go.Proofs.YtkloaopjlbinpaaGreat

theorem Tr.bot_at {V : Int → Int} (k : Int) : ∀ (t : Tr) (d : Nat) (c : Int), t.at V c → (t.bot k d).at V (t.cell k d c)
  | .e, _, _, h => h
  | .l _ _ _, _, _, h => h
  | .b a s, d, c, h => Tr.bot_at k (s (dg d k)) (d + 1) _ (h.2 _ (dg_lt _ _))
theorem Tr.bot_ok (k : Int) : ∀ (t : Tr) (d : Nat), t.ok d → (t.bot k d).ok (t.dep k d)
  | .e, _, h => h
  | .l _ _ _, _, h => h
  | .b a s, d, h => Tr.bot_ok k (s (dg d k)) (d + 1) (h.2 _ (dg_lt _ _)).1
theorem Tr.bot_form (k : Int) : ∀ (t : Tr) (d : Nat), t.bot k d = .e ∨ ∃ a k' v, t.bot k d = .l a k' v
  | .e, _ => .inl rfl
  | .l a k' v, _ => .inr ⟨a, k', v, rfl⟩
  | .b a s, d => Tr.bot_form k (s (dg d k)) (d + 1)
section
variable {V V' : Int → Int} {t : Tr} {nh : Nat} {k : Int}
theorem TI.zero (h : ∀ x, V x = 0) : TI V .e 0 :=
  ⟨h 40, List.nodup_nil, fun n hn => (List.not_mem_nil hn).elim, trivial, h 1, h 2, by rw [h 41]; omega, h 47⟩
theorem TI.same (h : TI V t nh) (hv : ∀ x, V' x = V x) : TI V' t nh := by
  have : V' = V := funext hv
  rw [this]; exact h
/-- A cell of the tree is no cell of the pool or of the root's counters, and lies in no node to come. -/
theorem TI.out (h : TI V t nh) {x : Int} (hx : Out t 40 x) : x ≠ 1 ∧ x ≠ 2 ∧ x ≠ 41 ∧ x ≠ 47 ∧ ∀ j : Nat, j < 8 → x ≠ adr nh + (j : Int) := by
  rcases hx with rfl | ⟨n, hn, j, hj, rfl⟩
  · exact ⟨by omega, by omega, by omega, by omega, fun j _ => by unfold adr; omega⟩
  · have := h.lt n hn
    exact ⟨by unfold adr; omega, by unfold adr; omega, by unfold adr; omega, by unfold adr; omega, fun i hi e => by have := (adr_inj hj hi e).1; omega⟩
theorem TI.cell (h : TI V t nh) (k : Int) : t.cell k 0 40 ≠ 1 ∧ t.cell k 0 40 ≠ 2 ∧ t.cell k 0 40 ≠ 41 ∧ t.cell k 0 40 ≠ 47 ∧ ∀ j : Nat, j < 8 → t.cell k 0 40 ≠ adr nh + (j : Int) :=
  h.out (Tr.bot_out k t 0 40 _ (.inl rfl))
theorem TI.cell_in (h : TI V t nh) (hn : nh ≤ 128) (k : Int) : inM (t.cell k 0 40) := by
  unfold inM
  rcases cell_at k t 0 40 with e | ⟨n, hm, j, hj, e⟩
  · rw [e]; omega
  · have := h.lt n hm
    rw [e]; unfold adr; omega
theorem TI.set {a : Nat} {v v' : Int} (h : TI V t nh) (hb : t.bot k 0 = .l a k v) (hoth : ∀ x, x ≠ adr a + 1 → V' x = V x) (h1 : V' (adr a + 1) = v') :
    TI V' (Tr.repl k (.l a k v') t 0) nh ∧ (Tr.repl k (.l a k v') t 0).get k 0 = some v' ∧ ∀ k', k' ≠ k → (Tr.repl k (.l a k v') t 0).get k' 0 = t.get k' 0 := by
  have hat := Tr.bot_at k t 0 40 h.tree
  have hok := Tr.bot_ok k t 0 h.ok
  have hcb := cell_bot k t 0 40 h.nd h.root
  have hbn : ∀ n, n ∈ (t.bot k 0).nodes ↔ n = a := fun n => by rw [hb]; exact List.mem_singleton
  have hbo : Out (t.bot k 0) (t.cell k 0 40) (adr a + 1) := .inr ⟨a, (hbn a).2 rfl, 1, by omega, rfl⟩
  have ho := h.out (Tr.bot_out k t 0 40 _ hbo)
  have hca := hcb a ((hbn a).2 rfl) 1 (by omega)
  rw [hb] at hat hok
  have ha0 : adr a ≠ adr a + 1 := by omega
  have ha2 : adr a + 2 ≠ adr a + 1 := by omega
  refine ⟨⟨?_, ?_, ?_, ?_, ?_, ?_, ?_, ?_⟩, ?_, ?_⟩
  · refine Tr.repl_at k _ t 0 40 h.tree h.nd h.root ⟨?_, ?_, h1, ?_⟩ fun x hx hx2 => hoth x fun e => hx2 (by rw [e]; exact hbo)
    · rw [hoth _ hca]; exact hat.1
    · rw [hoth _ ha0]; exact hat.2.1
    · rw [hoth _ ha2]; exact hat.2.2.2
  · exact Tr.repl_nd k _ t 0 h.nd (List.pairwise_singleton _ _) fun n hn => .inl ((hbn n).2 (List.mem_singleton.1 hn))
  · intro n hn
    rcases Tr.repl_nodes k _ t 0 n hn with hn | hn
    · exact h.lt n (Tr.bot_nodes k t 0 n ((hbn n).2 (List.mem_singleton.1 hn)))
    · exact h.lt n hn
  · exact Tr.repl_ok k _ t 0 h.ok hok fun p hp => .inl (by rw [List.mem_singleton.1 hp])
  · rw [hoth _ fun e => ho.1 e.symm]; exact h.v1
  · rw [hoth _ fun e => ho.2.1 e.symm]; exact h.v2
  · rw [hoth _ fun e => ho.2.2.1 e.symm]; exact h.v41
  · rw [hoth _ fun e => ho.2.2.2.1 e.symm]; exact h.v47
  · rw [Tr.get_same]; exact if_pos rfl
  · intro k' hne
    refine Tr.get_other k k' _ t 0 ?_
    rw [hb]
    show (if k' = k then _ else _) = (if k' = k then _ else _)
    rw [if_neg hne, if_neg hne]
def brn (nh a : Nat) (k0 v0 : Int) (d : Nat) : Tr := .b nh fun i => if i = dg d k0 then .l a k0 v0 else .e
theorem brn_nodes (nh a : Nat) (k0 v0 : Int) (d n : Nat) : n ∈ (brn nh a k0 v0 d).nodes → n = nh ∨ n = a := by
  intro h
  rcases List.mem_cons.1 (show n ∈ nh :: (List.range 8).flatMap fun i => (if i = dg d k0 then Tr.l a k0 v0 else Tr.e).nodes from h) with h | h
  · exact .inl h
  · obtain ⟨i, _, h⟩ := List.mem_flatMap.1 h
    split at h
    · exact .inr (List.mem_singleton.1 h)
    · exact (List.not_mem_nil h).elim
theorem brn_pairs (nh a : Nat) (k0 v0 : Int) (d : Nat) (p : Int × Int) : p ∈ (brn nh a k0 v0 d).pairs → p = (k0, v0) := by
  intro h
  obtain ⟨i, _, h⟩ := List.mem_flatMap.1 (show p ∈ (List.range 8).flatMap fun i => (if i = dg d k0 then Tr.l a k0 v0 else Tr.e).pairs from h)
  split at h
  · exact List.mem_singleton.1 h
  · exact (List.not_mem_nil h).elim
theorem brn_nd {nh a : Nat} (k0 v0 : Int) (d : Nat) (h : a ≠ nh) : (brn nh a k0 v0 d).nodes.Nodup := by
  refine b_nd ?_ ?_ ?_
  · intro i _
    split
    · exact fun h' => h (List.mem_singleton.1 h').symm
    · exact List.not_mem_nil
  · intro i _
    split
    · exact List.pairwise_singleton _ _
    · exact List.nodup_nil
  · intro i j _ _ hne n
    split
    · rename_i e
      rw [if_neg (fun e2 => hne (e.trans e2.symm))]
      exact fun _ => List.not_mem_nil
    · exact fun h => (List.not_mem_nil h).elim
theorem brn_get (nh a : Nat) (k0 v0 : Int) (d : Nat) (k' : Int) : (brn nh a k0 v0 d).get k' d = if k' = k0 then some v0 else none := by
  show (if dg d k' = dg d k0 then Tr.l a k0 v0 else Tr.e).get k' (d + 1) = _
  by_cases e : k' = k0
  · rw [e, if_pos rfl, if_pos rfl]; exact if_pos rfl
  · rw [if_neg e]
    split
    · exact if_neg e
    · rfl
theorem TI.split {a : Nat} {k0 v0 : Int} (h : TI V t nh) (hk : key k) (hb : t.bot k 0 = .l a k0 v0) (hne : k0 ≠ k)
    (hoth : ∀ x, x ≠ 2 → x ≠ 47 → x ≠ t.cell k 0 40 → (∀ j : Nat, j < 8 → x ≠ adr nh + (j : Int)) → V' x = V x) (h2 : V' 2 = nh + 1) (h47 : V' 47 = nh + 1) (hc : V' (t.cell k 0 40) = -adr nh)
    (hz : ∀ j : Nat, j < 8 → j ≠ dg (t.dep k 0) k0 → V' (adr nh + (j : Int)) = 0) (hd : V' (adr nh + (dg (t.dep k 0) k0 : Int)) = adr a) :
    TI V' (Tr.repl k (brn nh a k0 v0 (t.dep k 0)) t 0) (nh + 1) ∧ (Tr.repl k (brn nh a k0 v0 (t.dep k 0)) t 0).bot k 0 = (if dg (t.dep k 0) k = dg (t.dep k 0) k0 then .l a k0 v0 else .e)
    ∧ (Tr.repl k (brn nh a k0 v0 (t.dep k 0)) t 0).cell k 0 40 = adr nh + (dg (t.dep k 0) k : Int) ∧ (Tr.repl k (brn nh a k0 v0 (t.dep k 0)) t 0).dep k 0 = t.dep k 0 + 1
    ∧ ∀ k', (Tr.repl k (brn nh a k0 v0 (t.dep k 0)) t 0).get k' 0 = t.get k' 0 := by
  have hat := Tr.bot_at k t 0 40 h.tree
  have hok := Tr.bot_ok k t 0 h.ok
  have hcb := cell_bot k t 0 40 h.nd h.root
  have hbn : ∀ n, n ∈ (t.bot k 0).nodes ↔ n = a := fun n => by rw [hb]; exact List.mem_singleton
  have hal := h.lt a (Tr.bot_nodes k t 0 a ((hbn a).2 rfl))
  have hdl := Tr.dep_le k t 0 h.ok (by omega)
  have hd2 : t.dep k 0 < 2 := by
    rcases Nat.lt_or_ge (t.dep k 0) 2 with hlt | hge
    · exact hlt
    · have hbd := Tr.bot_dg k (k0, v0) t 0 h.ok (by rw [hb]; exact List.mem_singleton.2 rfl)
      have hk0 : key k0 := by rw [hb] at hok; exact hok
      exact absurd (dg_inj hk0 hk (hbd 0 (by omega) (by omega)) (hbd 1 (by omega) (by omega))) hne
  have hc0 := h.cell k
  rw [hb] at hat hok
  obtain ⟨d, hdd⟩ : ∃ d, d = t.dep k 0 := ⟨_, rfl⟩
  rw [← hdd] at hz hd hd2 hok ⊢
  have hA : ∀ j : Nat, j < 8 → V' (adr a + (j : Int)) = V (adr a + (j : Int)) := fun j hj =>
    hoth _ (by unfold adr; omega) (by unfold adr; omega) (fun e => hcb a ((hbn a).2 rfl) j hj e.symm) (fun i hi e => by have := (adr_inj hj hi e).1; omega)
  have hA0 := hA 0 (by omega)
  have hA1 := hA 1 (by omega)
  have hA2 := hA 2 (by omega)
  simp only [Int.natCast_zero, Int.add_zero] at hA0
  refine ⟨⟨?_, ?_, ?_, ?_, ?_, ?_, ?_, ?_⟩, ?_, ?_, ?_, ?_⟩
  · refine Tr.repl_at k _ t 0 40 h.tree h.nd h.root ⟨hc, fun i hi => ?_⟩ fun x hx hx2 => ?_
    · show (if i = dg d k0 then Tr.l a k0 v0 else Tr.e).at V' (adr nh + (i : Int))
      split
      · rename_i e
        rw [e]
        exact ⟨hd, hA0.trans hat.2.1, hA1.trans hat.2.2.1, hA2.trans hat.2.2.2⟩
      · rename_i e; exact hz i hi e
    · have ho := h.out hx
      exact hoth x ho.2.1 ho.2.2.2.1 (fun e => hx2 (.inl e)) ho.2.2.2.2
  · refine Tr.repl_nd k _ t 0 h.nd (brn_nd k0 v0 d (by omega)) fun n hn => ?_
    rcases brn_nodes nh a k0 v0 d n hn with e | e
    · exact .inr fun hm => by have := h.lt n hm; omega
    · exact .inl ((hbn n).2 e)
  · intro n hn
    rcases Tr.repl_nodes k _ t 0 n hn with hn | hn
    · rcases brn_nodes nh a k0 v0 d n hn with e | e <;> omega
    · have := h.lt n hn; omega
  · refine Tr.repl_ok k _ t 0 h.ok ?_ fun p hp => ?_
    · rw [← hdd]
      refine ⟨hd2, fun i hi => ?_⟩
      show (if i = dg d k0 then Tr.l a k0 v0 else Tr.e).ok (d + 1) ∧ ∀ p ∈ (if i = dg d k0 then Tr.l a k0 v0 else Tr.e).pairs, dg d p.1 = i
      split
      · rename_i e
        exact ⟨hok, fun p hp => by rw [List.mem_singleton.1 hp]; exact e.symm⟩
      · exact ⟨trivial, fun p hp => (List.not_mem_nil hp).elim⟩
    · refine .inr ⟨(k0, v0), by rw [hb]; exact List.mem_singleton.2 rfl, ?_⟩
      rw [brn_pairs nh a k0 v0 d p hp]
  · rw [hoth 1 (by omega) (by omega) (fun e => hc0.1 e.symm) (fun j _ => by unfold adr; omega)]; exact h.v1
  · rw [h2]; omega
  · rw [hoth 41 (by omega) (by omega) (fun e => hc0.2.2.1 e.symm) (fun j _ => by unfold adr; omega)]; have := h.v41; omega
  · rw [h47]; omega
  · rw [Tr.repl_bot, ← hdd]
    show (if dg d k = dg d k0 then Tr.l a k0 v0 else Tr.e).bot k (d + 1) = _
    split <;> rfl
  · rw [Tr.repl_cell, ← hdd]
    show (if dg d k = dg d k0 then Tr.l a k0 v0 else Tr.e).cell k (d + 1) (adr nh + (dg d k : Int)) = _
    split <;> rfl
  · rw [Tr.repl_dep, ← hdd]
    show (if dg d k = dg d k0 then Tr.l a k0 v0 else Tr.e).dep k (d + 1) = _
    split <;> rfl
  · intro k'
    refine Tr.get_other k k' _ t 0 ?_
    rw [← hdd, brn_get, hb]
    rfl
theorem TI.add {v : Int} (h : TI V t nh) (hk : key k) (hb : t.bot k 0 = .e)
    (hoth : ∀ x, x ≠ 2 → x ≠ 41 → x ≠ 47 → x ≠ t.cell k 0 40 → x ≠ adr nh → x ≠ adr nh + 1 → x ≠ adr nh + 2 → V' x = V x) (h2 : V' 2 = nh + 1) (h41 : V' 41 = V 41 + 1) (h47 : V' 47 = nh + 1) (hc : V' (t.cell k 0 40) = adr nh)
    (ha : V' (adr nh) = k) (hv : V' (adr nh + 1) = v) (hz : V' (adr nh + 2) = 0) :
    TI V' (Tr.repl k (.l nh k v) t 0) (nh + 1) ∧ (Tr.repl k (.l nh k v) t 0).get k 0 = some v ∧ ∀ k', k' ≠ k → (Tr.repl k (.l nh k v) t 0).get k' 0 = t.get k' 0 := by
  have hc0 := h.cell k
  refine ⟨⟨?_, ?_, ?_, ?_, ?_, ?_, ?_, ?_⟩, ?_, ?_⟩
  · refine Tr.repl_at k _ t 0 40 h.tree h.nd h.root ⟨hc, ha, hv, hz⟩ fun x hx hx2 => ?_
    have ho := h.out hx
    have h0 := ho.2.2.2.2 0 (by omega)
    have h1 := ho.2.2.2.2 1 (by omega)
    have h2 := ho.2.2.2.2 2 (by omega)
    simp only [Int.natCast_zero, Int.add_zero] at h0
    exact hoth x ho.2.1 ho.2.2.1 ho.2.2.2.1 (fun e => hx2 (.inl e)) h0 h1 h2
  · refine Tr.repl_nd k _ t 0 h.nd (List.pairwise_singleton _ _) fun n hn => .inr fun hm => ?_
    have := h.lt n hm
    have := List.mem_singleton.1 hn
    omega
  · intro n hn
    rcases Tr.repl_nodes k _ t 0 n hn with hn | hn
    · have := List.mem_singleton.1 hn; omega
    · have := h.lt n hn; omega
  · exact Tr.repl_ok k _ t 0 h.ok hk fun p hp => .inl (by rw [List.mem_singleton.1 hp])
  · rw [hoth 1 (by omega) (by omega) (by omega) (fun e => hc0.1 e.symm) (by unfold adr; omega) (by unfold adr; omega) (by unfold adr; omega)]; exact h.v1
  · rw [h2]; omega
  · rw [h41]; have := h.v41; omega
  · rw [h47]; omega
  · rw [Tr.get_same]; exact if_pos rfl
  · intro k' hne
    refine Tr.get_other k k' _ t 0 ?_
    rw [hb]
    exact if_neg hne
end
/-- The pairs of a map with the keys 0 to 9, by their keys. -/
def prsOf (S : Int → Option Int) : List (Int × Int) := (List.range 10).filterMap fun i : Nat => (S (i : Int)).map fun v => ((i : Int), v)
theorem prsOf_mem (S : Int → Option Int) (p : Int × Int) : p ∈ prsOf S ↔ key p.1 ∧ S p.1 = some p.2 := by
  unfold prsOf key
  rw [List.mem_filterMap]
  constructor
  · rintro ⟨i, hi, h⟩
    have hi := List.mem_range.1 hi
    obtain ⟨v, hv, rfl⟩ := Option.map_eq_some_iff.1 h
    exact ⟨⟨by dsimp only; omega, by dsimp only; omega⟩, hv⟩
  · rintro ⟨h1, h2⟩
    refine ⟨p.1.toNat, List.mem_range.2 (by omega), ?_⟩
    rw [Int.toNat_of_nonneg h1.1, h2]
    rfl
theorem prsOf_sorted (S : Int → Option Int) : (prsOf S).Pairwise fun p q => p.1 < q.1 := by
  unfold prsOf
  rw [List.pairwise_filterMap]
  refine List.Pairwise.imp ?_ List.pairwise_lt_range
  intro i j hij p hp q hq
  obtain ⟨v, _, rfl⟩ := Option.map_eq_some_iff.1 hp
  obtain ⟨u, _, rfl⟩ := Option.map_eq_some_iff.1 hq
  dsimp only
  omega
theorem prsOf_len (S : Int → Option Int) : (prsOf S).length ≤ 10 := by
  unfold prsOf
  have := List.length_filterMap_le (fun i : Nat => (S (i : Int)).map fun v => ((i : Int), v)) (List.range 10)
  rw [List.length_range] at this
  exact this
theorem prsOf_uniq {t : Tr} (h : t.ok 0) {l : List (Int × Int)} (hp : l.Perm t.pairs) (hs : l.Pairwise fun p q => p.1 ≤ q.1) : l = prsOf fun k => t.get k 0 := by
  have hm : ∀ p, p ∈ t.pairs ↔ p ∈ prsOf fun k => t.get k 0 := by
    intro p
    rw [prsOf_mem, Tr.get_pairs p.1 p.2 t 0 h]
    exact ⟨fun hp => ⟨Tr.pairs_key t 0 h p hp, hp⟩, fun hp => hp.2⟩
  have hn1 : t.pairs.Nodup := List.Pairwise.imp (fun hne e => hne (by rw [e])) (Tr.pairs_nd t 0 h)
  have hn2 : (prsOf fun k => t.get k 0).Nodup := List.Pairwise.imp (fun hlt e => by rw [e] at hlt; omega) (prsOf_sorted _)
  have hp2 : l.Perm (prsOf fun k => t.get k 0) := hp.trans ((List.perm_ext_iff_of_nodup hn1 hn2).2 hm)
  refine List.Perm.eq_of_pairwise (le := fun p q => p.1 ≤ q.1) (fun p q h1 h2 h3 h4 => ?_) hs (List.Pairwise.imp (fun h => Int.le_of_lt h) (prsOf_sorted _)) hp2
  have e : p.1 = q.1 := Int.le_antisymm h3 h4
  have g1 := ((prsOf_mem _ p).1 (hp2.subset h1)).2
  have g2 := ((prsOf_mem _ q).1 h2).2
  rw [e] at g1
  rw [g1] at g2
  injection g2 with g2
  exact Prod.ext e g2
theorem prsOf_ext {S S' : Int → Option Int} (h : ∀ k, key k → S k = S' k) : prsOf S = prsOf S' := by
  have : ∀ l : List Nat, (∀ i ∈ l, i < 10) → (l.filterMap fun i : Nat => (S (i : Int)).map fun v => ((i : Int), v)) = l.filterMap fun i : Nat => (S' (i : Int)).map fun v => ((i : Int), v) := by
    intro l
    induction l with
    | nil => intro _; rfl
    | cons a t ih =>
      intro hl
      have := hl a List.mem_cons_self
      rw [List.filterMap_cons, List.filterMap_cons, h a ⟨by omega, by omega⟩, ih fun i hi => hl i (List.mem_cons_of_mem _ hi)]
  exact this _ fun i hi => List.mem_range.1 hi
end Go.Proofs.YtkloaopjlbinpaaGreat
