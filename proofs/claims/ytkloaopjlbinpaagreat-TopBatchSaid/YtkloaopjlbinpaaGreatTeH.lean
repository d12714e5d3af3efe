/- Sorting and compacting a row of locations; what a range over a map keeps. No condition. -/
import Derived.Test.YtkloaopjlbinpaaGreatTeC
import Derived.Test.YtkloaopjlbinpaaGreatTeS
import Derived.Sort.OwnSortedInts
set_option linter.unusedVariables false
set_option linter.unusedSimpArgs false
namespace Go.Proofs.YtkloaopjlbinpaaGreat
open Go.RowKit Go.MapKept Go.Sort

theorem nodup_bound : ∀ (n : Nat) (l : List Nat), l.Nodup → (∀ x ∈ l, x < n) → l.length ≤ n
  | 0, l, _, h => by
    cases l with
    | nil => exact Nat.le_refl _
    | cons a t => exact absurd (h a List.mem_cons_self) (Nat.not_lt_zero _)
  | n + 1, l, hn, h => by
    by_cases hm : n ∈ l
    · have h1 := nodup_bound n (l.erase n) (hn.erase n) (fun x hx => by
        obtain ⟨h1, h2⟩ := (hn.mem_erase_iff).1 hx
        have := h x h2
        omega)
      rw [List.length_erase_of_mem hm] at h1
      omega
    · have := nodup_bound n l hn (fun x hx => by
        have h1 := h x hx
        have : x ≠ n := fun e => hm (e ▸ hx)
        omega)
      omega
theorem loc_bound {l : List Int} (hn : l.Nodup) (h : ∀ k ∈ l, inM k) : l.length ≤ 1120 := by
  have := nodup_bound 1120 (l.map Int.toNat) (by
    rw [List.nodup_iff_pairwise_ne, List.pairwise_map]
    rw [List.nodup_iff_pairwise_ne] at hn
    refine hn.imp_of_mem fun {a b} ha hb hab e => hab ?_
    have h1 := h a ha
    have h2 := h b hb
    unfold inM at h1 h2
    omega) (fun x hx => by
    obtain ⟨k, hk, rfl⟩ := List.mem_map.1 hx
    have := h k hk
    unfold inM at this
    omega)
  rwa [List.length_map] at this
def sorted (l : List Int) : List Int := l.mergeSort fun x y => decide (x ≤ y)
theorem sorted_perm (l : List Int) : (sorted l).Perm l := List.mergeSort_perm _ _
theorem sorted_len (l : List Int) : (sorted l).length = l.length := (sorted_perm l).length_eq
theorem sort_own {w : World} {base : Nat} {v : Value} {l : List Int} (h : w.ownsRow base 51 1 v l.length (l.map (.int .i64))) (hlen : l.length ≤ 100000) :
    Calls Tryz.prog 65 #[v] w fun e w' => e = .returned (.tuple #[]) ∧ w'.ownsRow base 51 1 v l.length ((sorted l).map (.int .i64)) ∧ w.grownBy w' v.ownBlock := by
  rcases h.2 with ⟨rfl, h0⟩ | ⟨g, cap, cur, rfl, hb, hg, hn, hm, hs, ht⟩
  · have hl : l = [] := List.eq_nil_of_length_eq_zero h0
    subst hl
    refine (Tryz.slices_Sort_int_none none 0 w).mono fun e w' he => ⟨he.1, ?_, ?_⟩
    · rw [he.2, show sorted [] = [] by simp [sorted]]; exact World.ownsRow_nil _ _ _ _
    · rw [he.2]; exact ⟨rfl, rfl, rfl, Nat.le_refl _, fun _ _ _ => rfl⟩
  · rw [Nat.mul_one] at ht
    refine (Tryz.slices_Sort_int g 0 cap l w (holds_of_blockI hg ht) (lt_of_block hg) (by omega)).mono fun e w' he => ?_
    obtain ⟨rfl, n, os, rfl⟩ := he
    exact ⟨rfl, ownsRow_sortedI (sorted_len l) hb hg hn hm (by omega), grownBy_sortedI _⟩
theorem compact_own {w : World} {base : Nat} {v : Value} {l : List Int} (h : w.ownsRow base 51 1 v l.length (l.map (.int .i64))) (hlen : l.length ≤ 100000) :
    Calls Tryz.prog 66 #[v] w fun e w' => ∃ A c, e = .returned (.slice A (Lib.compact l).length c) ∧ (Lib.compact l).length ≤ c ∧ Reads w' (fun b => base ≤ b) 1 A (Lib.compact l).length ((Lib.compact l).map (.int .i64)) ∧ w.grownBy w' v.ownBlock := by
  rcases h.2 with ⟨rfl, h0⟩ | ⟨g, cap, cur, rfl, hb, hg, hn, hm, hs, ht⟩
  · have hl : l = [] := List.eq_nil_of_length_eq_zero h0
    subst hl
    refine (Tryz.slices_Compact_int_empty none 0 w).mono fun e w' he => ⟨none, 0, he.1, Nat.le_refl _, Reads.none_, ?_⟩
    rw [he.2]; exact ⟨rfl, rfl, rfl, Nat.le_refl _, fun _ _ _ => rfl⟩
  · rw [Nat.mul_one] at ht
    have hcl : (Lib.compact l).length ≤ l.length := by
      unfold Lib.compact Lib.compactUpTo
      rw [List.length_map]
      exact Nat.le_trans (List.length_filter_le _ _) (by simp)
    refine (Tryz.slices_Compact_int g 0 cap l w (holds_of_blockI hg ht) (by omega) hn).mono fun e w' he => ?_
    obtain ⟨rfl, n, hw⟩ := he
    have e1 : w' = grow (putRow (Value.int .i64) (Sort.ahead w n) g 0 (Lib.compact l ++ List.replicate (l.length - (Lib.compact l).length) 0).toArray) #[] := by rw [hw, grow_empty]
    have e2 := ownsRow_sortedI (w := w) (n := n) (os := #[]) (ts := Lib.compact l ++ List.replicate (l.length - (Lib.compact l).length) 0) (ss := l) (by rw [List.length_append, List.length_replicate]; omega) hb hg hn hm (by omega)
    rw [← e1] at e2
    have e3 := Reads.of_own (S := fun b => base ≤ b) e2 (fun _ h => h)
    refine ⟨_, cap, rfl, by omega, ?_, by rw [e1]; exact grownBy_sortedI _⟩
    have e4 := e3.first hcl
    rw [Nat.mul_one, List.map_append, List.take_append_of_le_length (by simp), List.take_of_length_le (by simp)] at e4
    exact e4
/-- A range over a map goes on where what has changed lies elsewhere. -/
theorem Iter.kx {X : Nat → Prop} {w w' : World} {r b : Nat} {f : Int → Option Value} {left : List Int} (h : Iter w r (.map (some b)) f left) (hk : KX X w w') (hr : r < w.heap.size) (hb : b < w.heap.size) (h1 : ¬ X r) (h2 : ¬ X b) :
    Iter w' r (.map (some b)) f left ∧ iterLeft w' r (.map (some b)) = iterLeft w r (.map (some b)) :=
  ⟨h.keep (hk.block r hr h1) (fun c e => by injection e with e; injection e with e; subst e; exact hk.block b hb h2), iterLeft_keep (hk.block r hr h1) (fun c e => by injection e with e; injection e with e; subst e; exact hk.block b hb h2)⟩
section
variable {P : Program} {w : World} {K : Act → World → Prop} {o : Oper} {a : Act} {Q : Exit → Act → World → Prop} {T kt et : TypeId}
theorem step_mapUpdate (m x v : Operand) (hop : o.op = Op.mapUpdate T m x v) (ht : P.underlying T = some (.map kt et)) (hk : P.underlying kt = some (.int .i64)) (b : Nat) (f : Int → Option Value) (h : IntMap w b f)
    (hm : a.eval m = .map (some b)) (i : Int) (hx : a.eval x = .int .i64 i) (u : Value) (hv : a.eval v = u)
    (hK : ∀ w', IntMap w' b (upd f i u) → w.grownBy w' (some b) → w'.heap.size = w.heap.size → K (a.put o.dst undef) w') : o.wp P a w K Q := by
  obtain ⟨w', hrun, r1, r2, r3⟩ := h.store ht hk i u
  unfold Oper.wp
  simp [execOp, hop, hm, hx, hv, hrun, Result.andThen]
  exact hK w' r1 r2 r3
theorem step_app (s x : Operand) (t : TypeId) (ho : o.op = .call { callee := .builtin .append, args := #[s, x], argTypes := #[t, t] }) (v u v' : Value) (w' : World) (hs : a.eval s = v) (hx : a.eval x = u) (hrun : (Builtin.append_ #[t, t] o.type #[v, u]).run P w = .ok v' w')
    (h : K (a.put o.dst v') w') : o.wp P a w K Q := by
  unfold Oper.wp execOp
  simp only [ho, resolve, invoke, builtin, Sem.run_bind, Sem.run_pure, Result.andThen_ok, List.map_toArray, List.map_cons, List.map_nil, hs, hx, hrun]
  exact h
end
def part (f : Int → Option Value) (left : List Int) : Int → Option Value := fun k => if k ∈ left then none else f k
theorem part_all {f : Int → Option Value} {left : List Int} (h : ∀ k, k ∈ left ↔ (f k).isSome = true) : part f left = fun _ => none := by
  funext k
  unfold part
  split
  · rfl
  · rename_i hk
    rw [h] at hk
    cases hf : f k with
    | none => rfl
    | some v => rw [hf] at hk; exact absurd rfl hk
theorem part_nil (f : Int → Option Value) : part f [] = f := by
  funext k
  simp [part]
theorem part_step {f : Int → Option Value} {left : List Int} (hn : left.Nodup) {k : Int} {u : Value} (hf : f k = some u) : upd (part f left) k u = part f (left.erase k) := by
  funext i
  unfold upd part
  by_cases h : i = k
  · subst h
    rw [if_pos rfl, if_neg (by rw [hn.mem_erase_iff]; simp), hf]
  · rw [if_neg h]
    by_cases hi : i ∈ left
    · rw [if_pos hi, if_pos (by rw [hn.mem_erase_iff]; exact ⟨h, hi⟩)]
    · rw [if_neg hi, if_neg (by rw [hn.mem_erase_iff]; exact fun x => hi x.2)]
end Go.Proofs.YtkloaopjlbinpaaGreat
