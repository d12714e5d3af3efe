/- The walk of eliminate's Order. Condition: at most 20 operations. -/
import Derived.Test.YtkloaopjlbinpaaGreatTeY
set_option linter.unusedVariables false
set_option linter.unusedSimpArgs false
namespace Go.Proofs.YtkloaopjlbinpaaGreat
open Go.RowKit Go.MapKept

/-- append of indices onto a row of the call's own. -/
theorem app_ints {w : World} {base : Nat} {v : Value} {l : List Nat} (h : w.ownsRow base 3 1 v l.length (l.map nI)) {A : Option Addr} {m c : Nat} {l2 : List Nat} (hR : Reads w (fun _ => True) 1 A m (l2.map nI)) (hm : l2.length = m) (hl : l.length + m ≤ 100000) (hb : base ≤ w.heap.size) (ty : TypeId) :
    ∃ A' c' w', (Builtin.append_ #[85, 85] ty #[v, .slice A m c]).run Tryz.prog w = .ok (.slice A' (l.length + m) c') w' ∧
      w'.ownsRow base 3 1 (.slice A' (l.length + m) c') (l ++ l2).length ((l ++ l2).map nI) ∧ KX (fun b => v.ownBlock = some b) w w' := by
  obtain ⟨i, i1, i2, i3, i4⟩ := int_info
  obtain ⟨v', w', run, e2, e3, e4⟩ := run_append_any (P := Tryz.prog) w base 85 ty 3 i _ 1 8 Tryz.underlying85 i1 i2 i3 i4 rfl (by omega) v l.length _ h (fun _ => True) A m c _ hR (by intro u hu; obtain ⟨x, -, rfl⟩ := List.mem_map.1 hu; rfl) (by unfold maxLen; omega) (by omega) hb
  obtain ⟨A', c', rfl, -, -, -⟩ := own_reads (S := fun _ => True) e2 (fun _ _ => trivial)
  exact ⟨A', c', w', run, by rw [List.length_append, hm, List.map_append]; exact e2, KX.of_grown e3 fun k h => h⟩
theorem two_cell {w : World} {A : Option Addr} {l : List (Nat × Nat)} {n j : Nat} {p : Nat × Nat} (hR : Reads w (fun _ => True) 2 A n (l.flatMap twoC)) (hj : j < n) (hx : l[j]? = some p) : ∃ b q, A = some ⟨b, q, none⟩ ∧ b < w.heap.size ∧ w.cell? ⟨b, q + j * 2, none⟩ = some (.int .i64 p.1) ∧ w.cell? ⟨b, q + j * 2 + 1, none⟩ = some (.int .i64 p.2) := by
  obtain ⟨b, q, rfl, hb, -, hc⟩ := hR.2 (by omega)
  have h := fun r hr => flat_get 2 twoC (fun _ => rfl) l j _ hx r hr
  exact ⟨b, q, rfl, hb, by have := hc (j * 2 + 0) _ (h 0 (by omega)); exact this, by have := hc (j * 2 + 1) _ (h 1 (by omega)); rw [← Nat.add_assoc] at this; exact this⟩
theorem fl2_len (l : List (Nat × Nat)) : (fl2 l).length = l.length * 2 := by
  induction l with
  | nil => rfl
  | cons p l ih => show (p.1 :: p.2 :: fl2 l).length = _; rw [List.length_cons, List.length_cons, ih, List.length_cons]; omega
theorem fl2_snoc (l : List (Nat × Nat)) (p : Nat × Nat) : fl2 (l ++ [p]) = fl2 l ++ [p.1, p.2] := by unfold fl2; rw [List.flatMap_append]; rfl
end Go.Proofs.YtkloaopjlbinpaaGreat
