/- The rows of a map, each in a block of the call's own; append onto a row. No condition. -/
import Derived.Test.YtkloaopjlbinpaaGreatQI
set_option linter.unusedVariables false
set_option linter.unusedSimpArgs false
namespace Go.Proofs.YtkloaopjlbinpaaGreat
open Go.RowKit Go.MapKept

theorem ele_op : ElE 25 22 3 24 := ele_of Tryz.underlying22 (by decide) (by decide) (z := .agg #[.int .i64 0, .int .i64 0, .int .i64 0]) (by kernel_rfl) rfl
theorem ele_i64 : ElE 2 26 1 8 := ele_of Tryz.underlying26 (by decide) (by decide) (z := .int .i64 0) (by kernel_rfl) rfl
theorem opB_one (l : List BOp) : ∀ u ∈ l.flatMap opB, u.oneCell' = true := by
  intro u hu
  obtain ⟨p, _, hu⟩ := List.mem_flatMap.1 hu
  unfold opB at hu
  simp only [List.mem_cons, List.not_mem_nil, or_false] at hu
  rcases hu with rfl | rfl | rfl <;> rfl
theorem opB_len (l : List BOp) : (l.flatMap opB).length = l.length * 3 := by
  induction l with
  | nil => rfl
  | cons a t ih => rw [List.flatMap_cons, List.length_append, ih, List.length_cons]; show 3 + _ = _; omega
theorem opB_take (l : List BOp) : ∀ m : Nat, (l.flatMap opB).take (m * 3) = (l.take m).flatMap opB := by
  induction l with
  | nil => intro m; simp
  | cons a t ih =>
    intro m
    cases m with
    | zero => simp
    | succ m =>
      rw [List.take_succ_cons, List.flatMap_cons, List.flatMap_cons, ← ih m]
      have : (m + 1) * 3 = (opB a).length + m * 3 := by show _ = 3 + _; omega
      rw [this, List.take_length_add_append]
section
variable {E ST : TypeId} {sz bt : Nat} {X : Nat → Prop} {w w' W : World} {base mb n m c : Nat} {v : Value} {xs : List Value} {f : Int → Option Value} {row : Int → List BOp}
theorem row_more (hE : ElE E ST sz bt) (h : w.ownsRow base E sz v n xs) (hb : base ≤ w.heap.size) {S : Nat → Prop} {A : Option Addr} {m c : Nat} {news : List Value} (hr : Reads w S sz A m news) (h1 : ∀ u ∈ news, u.oneCell' = true) (hn : n + m ≤ 100000) (ty : TypeId) :
    ∃ A' c' W, (Builtin.append_ #[ST, ST] ty #[v, .slice A m c]).run Tryz.prog w = .ok (.slice A' (n + m) c') W ∧ W.ownsRow base E sz (.slice A' (n + m) c') (n + m) (xs ++ news) ∧ KX (fun b => v.ownBlock = some b) w W ∧
      ((Value.slice A' (n + m) c').ownBlock = v.ownBlock ∨ (Value.slice A' (n + m) c').ownBlock = some w.heap.size) := by
  obtain ⟨ht, h0, hb64, i, z, i1, i2, i3, i4, i5⟩ := hE
  have hby : (n + m) * bt ≤ 140737488355328 := Nat.le_trans (Nat.mul_le_mul hn hb64) (by omega)
  obtain ⟨v', W, run, e2, e3, e4⟩ := run_append_any (P := Tryz.prog) w base ST ty E i z sz bt ht i1 i2 i3 i4 i5 h0 v n xs h S A m c news hr h1 (by unfold maxLen; omega) hby hb
  obtain ⟨A', c', rfl, -, -, -⟩ := own_reads (S := fun _ => True) e2 (fun _ _ => trivial)
  exact ⟨A', c', W, run, e2, KX.of_grown e3 fun k h => h, e4⟩
theorem own_cut {A : Option Addr} (h : w.ownsRow base E sz (.slice A n c) n xs) (hm : m ≤ n) : w.ownsRow base E sz (.slice A m c) m (xs.take (m * sz)) := by
  have hle : m * sz ≤ n * sz := Nat.mul_le_mul_right _ hm
  refine ⟨by rw [List.length_take, h.1]; omega, ?_⟩
  rcases h.2 with ⟨e, h0⟩ | ⟨g, cap, cur, e, hg, hc, h1, h2, h3, h4⟩
  · injection e with e1 e2 e3
    subst e1 e3
    obtain rfl : m = 0 := by omega
    exact .inl ⟨rfl, rfl⟩
  · injection e with e1 e2 e3
    subst e1 e3
    refine .inr ⟨g, c, cur, rfl, hg, hc, by omega, h2, h3, ?_⟩
    rw [← h4, List.take_take, Nat.min_eq_left hle]
/-- The rows of a map, one for each key, each in a block of its own. -/
structure RW (w : World) (base mb : Nat) (f : Int → Option Value) (row : Int → List BOp) : Prop where
  m : IntMap w mb f
  rw : ∀ k, (row k = [] ∧ f k = none) ∨ (row k ≠ [] ∧ ∃ A c, f k = some (.slice A (row k).length c) ∧ w.ownsRow base 25 3 (.slice A (row k).length c) (row k).length ((row k).flatMap opB))
  ne : ∀ k k' v v' b, k ≠ k' → f k = some v → f k' = some v' → v.ownBlock = some b → v'.ownBlock ≠ some b
theorem RW.own (h : RW w base mb f row) {k : Int} (hf : f k = some v) : w.ownsRow base 25 3 v (row k).length ((row k).flatMap opB) := by
  rcases h.rw k with ⟨-, e⟩ | ⟨-, A, c, e, ho⟩
  · rw [e] at hf; cases hf
  · rw [e] at hf; injection hf with hf; subst hf; exact ho
theorem RW.lt (h : RW w base mb f row) {k : Int} (hf : f k = some v) {b : Nat} (hb : v.ownBlock = some b) : base ≤ b ∧ b < w.heap.size := (h.own hf).lt b hb
theorem RW.nem (h : RW w base mb f row) {k : Int} (hf : f k = some v) : v.ownBlock ≠ some mb := by
  intro e
  rcases (h.own hf).2 with ⟨rfl, -⟩ | ⟨g, cap, cur, rfl, -, hc, -⟩
  · cases e
  · injection e with e
    subst e
    obtain ⟨es, cl, hm, -⟩ := h.m
    have := hm.symm.trans hc
    injection this with this
    cases this
theorem RW.kx (h : RW w base mb f row) (hk : KX X w w') (hm : ¬ X mb) (hx : ∀ k v b, f k = some v → v.ownBlock = some b → ¬ X b) : RW w' base mb f row := by
  refine ⟨h.m.keep (hk.block mb h.m.lt hm), fun k => ?_, h.ne⟩
  rcases h.rw k with e | ⟨e, A, c, e1, ho⟩
  · exact .inl e
  · exact .inr ⟨e, A, c, e1, own_kx ho hk fun b hb => hx k _ b e1 hb⟩
theorem RW.below (h : RW w base mb f row) (hb : Below w.heap.size w w') : RW w' base mb f row := h.kx (KX.of_below (X := fun _ => False) hb) (fun h => h) fun _ _ _ _ _ h => h
/-- The row of a key, be it there or not. -/
theorem RW.cur (h : RW w base mb f row) (k : Int) : ∃ A c, (f k).getD (.slice none 0 0) = .slice A (row k).length c ∧ w.ownsRow base 25 3 (.slice A (row k).length c) (row k).length ((row k).flatMap opB) ∧ ((f k).isSome = true ↔ row k ≠ []) ∧
    (∀ b, (Value.slice A (row k).length c).ownBlock = some b → f k = some (.slice A (row k).length c)) := by
  rcases h.rw k with ⟨e, e1⟩ | ⟨e, A, c, e1, ho⟩
  · refine ⟨none, 0, by rw [e1, e]; rfl, by rw [e]; exact World.ownsRow_nil _ _ _ _, by rw [e1]; simp [e], fun b hb => by cases hb⟩
  · exact ⟨A, c, by rw [e1]; rfl, ho, by rw [e1]; simp [e], fun _ _ => e1⟩
/-- A row laid anew. -/
theorem RW.put (h : RW w base mb f row) {k : Int} {A : Option Addr} {n c : Nat} (hb : ∀ b, (Value.slice A n c).ownBlock = some b → ∃ v, f k = some v ∧ v.ownBlock = some b) {W1 W2 : World} {A' : Option Addr} {c' : Nat} {r : List BOp} (hr : r ≠ [])
    (ho : W1.ownsRow base 25 3 (.slice A' r.length c') r.length (r.flatMap opB)) (hk : KX (fun b => (Value.slice A n c).ownBlock = some b) w W1)
    (hw : (Value.slice A' r.length c').ownBlock = (Value.slice A n c).ownBlock ∨ ∃ q, (Value.slice A' r.length c').ownBlock = some q ∧ w.heap.size ≤ q) (hm : IntMap W2 mb (upd f k (.slice A' r.length c'))) (hk2 : KX (fun b => b = mb) W1 W2) :
    RW W2 base mb (upd f k (.slice A' r.length c')) (fun i => if i = k then r else row i) := by
  have hnm : (Value.slice A' r.length c').ownBlock ≠ some mb := by
    intro e
    rcases hw with e1 | ⟨q, e1, hq⟩
    · rw [e] at e1
      obtain ⟨v, hv, hvb⟩ := hb mb e1.symm
      exact h.nem hv hvb
    · rw [e] at e1; injection e1 with e1; have := h.m.lt; omega
  have hoth : ∀ i v b, i ≠ k → f i = some v → v.ownBlock = some b → (Value.slice A' r.length c').ownBlock ≠ some b := by
    intro i v b hi hv hvb e
    rcases hw with e1 | ⟨q, e1, hq⟩
    · rw [e] at e1
      obtain ⟨v', hv', hvb'⟩ := hb b e1.symm
      exact h.ne i k v v' b hi hv hv' hvb hvb'
    · rw [e] at e1; injection e1 with e1; have := (h.lt hv hvb).2; omega
  refine ⟨hm, fun i => ?_, fun i j v v' b hij hv hv' hvb hvb' => ?_⟩
  · by_cases hi : i = k
    · subst hi
      rw [if_pos rfl]
      refine .inr ⟨hr, A', c', by unfold upd; rw [if_pos rfl], own_kx ho hk2 fun b hb e => hnm (by rw [hb, e])⟩
    · rw [if_neg hi]
      rcases h.rw i with ⟨e, e1⟩ | ⟨e, B, d, e1, hoi⟩
      · exact .inl ⟨e, by unfold upd; rw [if_neg hi]; exact e1⟩
      · refine .inr ⟨e, B, d, by unfold upd; rw [if_neg hi]; exact e1, own_kx (own_kx hoi hk fun b hb' e2 => ?_) hk2 fun b hb' e2 => h.nem e1 (by rw [hb', e2])⟩
        obtain ⟨v', hv', hvb'⟩ := hb b e2
        exact h.ne i k _ v' b hi e1 hv' hb' hvb'
  · unfold upd at hv hv'
    by_cases hi : i = k
    · have hj : ¬ j = k := fun e => hij (hi.trans e.symm)
      rw [if_pos hi] at hv
      rw [if_neg hj] at hv'
      injection hv with hv
      subst hv
      exact hoth j v' b hj hv' hvb' hvb
    · rw [if_neg hi] at hv
      by_cases hj : j = k
      · rw [if_pos hj] at hv'
        injection hv' with hv'
        subst hv'
        exact hoth i v b hi hv hvb hvb'
      · rw [if_neg hj] at hv'
        exact h.ne i j v v' b hij hv hv' hvb hvb'
end
/-- The last place as an index. -/
def zOf : Nat → Int
  | 0 => -1
  | p + 1 => (p : Int)
theorem zOf_wrap (n : Nat) (h : n ≤ 100) : IntKind.i64.wrap ((n : Int) - 1) = zOf n := by
  cases n with
  | zero => decide
  | succ n => rw [wrap_i64 _ (by omega) (by omega)]; show ((n + 1 : Nat) : Int) - 1 = (n : Int); omega
theorem pushR_cons (x : BOp) (r : List BOp) (o : BOp) : pushR (x :: r) o = match mergeB x o with | none => o :: x :: r | some c => pushR r c := rfl
theorem pushB_snoc {r : List BOp} {x o c : BOp} (h : mergeB x o = some c) : pushB (r ++ [x]) o = pushB r c := by unfold pushB; rw [List.reverse_append]; show (pushR (x :: r.reverse) o).reverse = _; rw [pushR_cons, h]
theorem pushB_stop {r : List BOp} {x o : BOp} (h : mergeB x o = none) : pushB (r ++ [x]) o = r ++ [x] ++ [o] := by unfold pushB; rw [List.reverse_append]; show (pushR (x :: r.reverse) o).reverse = _; rw [pushR_cons, h]; simp
end Go.Proofs.YtkloaopjlbinpaaGreat
