/- apply in one contract; Clone in one contract; the answers' cells. Condition: at most 100 values. -/
import Derived.Test.YtkloaopjlbinpaaGreatTfA
import Derived.Test.YtkloaopjlbinpaaGreatTeS
set_option linter.unusedVariables false
set_option linter.unusedSimpArgs false
namespace Go.Proofs.YtkloaopjlbinpaaGreat
open Go.RowKit Go.MapKept

theorem apply_any (w : World) (base : Nat) (v : Value) (l : List Int) (h : w.ownsRow base 2 1 v l.length (l.reverse.map (.int .i64))) (hl : l.length ≤ 100) (hb : base ≤ w.heap.size) (th x : Int) (pu : Bool) :
    Calls Tryz.prog 29 #[v, .agg #[.int .i64 th, .bool pu, .int .i64 x]] w fun e w' => ∃ v', e = .returned (.tuple #[v', .agg #[.int .i64 (stE pu l), .int .i64 (stV pu x l)]]) ∧ w'.ownsRow base 2 1 v' (stL pu x l).length ((stL pu x l).reverse.map (.int .i64)) ∧ KX (fun b => v.ownBlock = some b) w w' := by
  cases pu with
  | true => exact (apply_push w base v l h hl hb th x).mono fun e w' h => by obtain ⟨v', h1, h2, h3, -⟩ := h; exact ⟨v', h1, h2, h3⟩
  | false => cases l with
    | nil => exact (apply_none w base v h hb th x).mono fun e w' h => by obtain ⟨v', h1, h2, h3, -⟩ := h; exact ⟨v', h1, h2, h3.mono fun _ _ h => h.elim⟩
    | cons y l => exact (apply_pop w base v y l h hl hb th x).mono fun e w' h => by obtain ⟨v', h1, h2, h3, -⟩ := h; exact ⟨v', h1, h2, h3.mono fun _ _ h => h.elim⟩
theorem clone_any (w : World) (A : Option Addr) (n c : Nat) (l : List Int) (hl : l.length = n) (hn : n ≤ 20) (hR : Reads w (fun _ => True) 1 A n (l.map (.int .i64))) :
    Calls Tryz.prog 28 #[.slice A n c] w fun e w' => ∃ v', e = .returned v' ∧ w'.ownsRow w.heap.size 2 1 v' n (l.map (.int .i64)) ∧ Below w.heap.size w w' := by
  rcases Nat.eq_zero_or_pos n with h0 | h0
  · subst h0
    obtain rfl : l = [] := List.eq_nil_of_length_eq_zero hl
    cases A with
    | none => exact (Tryz.slices_Clone_int_nil 0 c w).mono fun e w' h => ⟨_, h.1, by rw [h.2]; exact World.ownsRow_nil _ _ _ _, by rw [h.2]; exact Below.refl _ _⟩
    | some a => exact (Tryz.slices_Clone_int_zero a c w).mono fun e w' h => by obtain ⟨v', h1, h2, -, h3⟩ := h; exact ⟨v', h1, h2, h3⟩
  · obtain ⟨b, o, rfl, -, -, hc⟩ := hR.2 h0
    refine (Tryz.slices_Clone_int b o n c l w (by omega) (by omega) (fun j hj => hc j _ (by rw [List.getElem?_map, List.getD_eq_getElem?_getD, List.getElem?_eq_getElem hj]; rfl))).mono fun e w' h => ?_
    obtain ⟨v', h1, h2, -, h3⟩ := h
    exact ⟨v', h1, by rw [List.take_of_length_le (by omega)] at h2; exact h2, h3⟩
def ansC (a : Int × Int) : List Value := [.int .i64 a.1, .int .i64 a.2]
def ansU (n : Nat) (W : List (Nat × Int × Int)) : Array Value := ((fin n W).flatMap ansC).toArray
theorem flat_set2 (x : Int × Int) : ∀ (l : List (Int × Int)) (i : Nat), i < l.length → ((l.flatMap ansC).set (i * 2) (.int .i64 x.1)).set (i * 2 + 1) (.int .i64 x.2) = (l.set i x).flatMap ansC
  | [], i, h => absurd h (Nat.not_lt_zero _)
  | a :: l, 0, _ => rfl
  | a :: l, i + 1, h => by
    have ih := flat_set2 x l i (Nat.lt_of_succ_lt_succ h)
    rw [show (i + 1) * 2 = i * 2 + 1 + 1 by omega]
    show (.int .i64 a.1) :: (.int .i64 a.2) :: (((l.flatMap ansC).set (i * 2) (.int .i64 x.1)).set (i * 2 + 1) (.int .i64 x.2)) = (.int .i64 a.1) :: (.int .i64 a.2) :: (l.set i x).flatMap ansC
    rw [ih]
theorem ans_set {n : Nat} {W : List (Nat × Int × Int)} {i : Nat} (x : Int × Int) (h : i < n) : ((ansU n W).setIfInBounds (i * 2) (.int .i64 x.1)).setIfInBounds (i * 2 + 1) (.int .i64 x.2) = ansU n (W ++ [(i, x)]) := by
  unfold ansU
  rw [List.setIfInBounds_toArray, List.setIfInBounds_toArray, flat_set2 x _ _ (by rw [fin_len]; exact h), fin_snoc]
theorem ans_zero (n : Nat) : madeCells #[.int .i64 0, .int .i64 0] (n * 2) = ansU n [] := by
  apply Array.ext'
  have h1 : (madeCells #[.int .i64 0, .int .i64 0] (n * 2)).toList = List.replicate (n * 2) (.int .i64 0) := by
    rw [List.eq_replicate_iff]
    refine ⟨by rw [Array.length_toList, size_madeCells], fun x hx => ?_⟩
    unfold madeCells at hx
    rw [Array.toList_map, List.mem_map] at hx
    obtain ⟨k, -, rfl⟩ := hx
    have h2 : k % 2 = 0 ∨ k % 2 = 1 := by omega
    show (#[Value.int .i64 0, Value.int .i64 0] : Array Value)[k % 2]! = _
    rcases h2 with h | h <;> rw [h] <;> rfl
  have h2 : ∀ m : Nat, (List.replicate m ((0 : Int), (0 : Int))).flatMap ansC = List.replicate (m * 2) (.int .i64 0) := by
    intro m
    induction m with
    | zero => rfl
    | succ m ih => rw [List.replicate_succ, List.flatMap_cons, ih, show (m + 1) * 2 = m * 2 + 1 + 1 by omega, List.replicate_succ, List.replicate_succ]; rfl
  rw [h1]
  exact (h2 n).symm
theorem ans_size (n : Nat) (W : List (Nat × Int × Int)) : (ansU n W).size = n * 2 := by
  unfold ansU
  rw [List.size_toArray, flat_len 2 ansC (fun _ => rfl), fin_len]
theorem ans_cells (n : Nat) (W : List (Nat × Int × Int)) (i : Nat) (h : i < n) : ∃ a b, (ansU n W)[i * 2]? = some (.int .i64 a) ∧ (ansU n W)[i * 2 + 1]? = some (.int .i64 b) := by
  obtain ⟨x, hx⟩ : ∃ x, (fin n W)[i]? = some x := ⟨_, List.getElem?_eq_getElem (by rw [fin_len]; exact h)⟩
  have hg := fun r hr => flat_get 2 ansC (fun _ => rfl) (fin n W) i _ hx r hr
  refine ⟨x.1, x.2, ?_, ?_⟩
  · unfold ansU; rw [List.getElem?_toArray]; exact hg 0 (by omega)
  · unfold ansU; rw [List.getElem?_toArray]; exact hg 1 (by omega)
theorem ans_info3 : (Tryz.prog.info? 46).map (fun i => (i.zero, i.size, i.bytes)) = some (some (.agg #[.int .i64 0, .int .i64 0]), 2, 16) := by kernel_rfl
set_option maxRecDepth 100000 in
theorem make_ans (w : World) (n : Nat) (hn : n ≤ 20) : (Instr.makeSlice 41 (.int .i64 n) (.int .i64 n)).run Tryz.prog w = .ok (.slice (some ⟨w.heap.size, 0, none⟩) n n) (w.alloc (.cells (ansU n []) 46)) := by
  obtain ⟨i, h1, h2⟩ := Option.map_eq_some_iff.1 ans_info3
  injection h2 with h2 h3
  injection h3 with h3 h4
  have hr := run_makeSlice (P := Tryz.prog) w 41 46 i _ Tryz.underlying41 h1 h2 .i64 .i64 n n (by omega) (Int.le_refl _) (by rw [h3]; omega) (by rw [h4]; omega) (by omega)
  rw [hr, h3]
  simp only [Int.toNat_natCast]
  rw [← ans_zero]
  rfl
end Go.Proofs.YtkloaopjlbinpaaGreat
