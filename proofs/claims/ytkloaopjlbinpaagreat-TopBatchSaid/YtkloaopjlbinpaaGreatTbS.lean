/- The walks of the batches' effects: makes and its four closures. Condition: a kind is one of 0 to 3. -/
import Derived.Test.YtkloaopjlbinpaaGreatTbR
set_option linter.unusedVariables false
set_option linter.unusedSimpArgs false
namespace Go.Proofs.YtkloaopjlbinpaaGreat
open Go.RowKit Go.MapKept

set_option maxRecDepth 100000 in
theorem mk_add (v n : Int) (w : World) : Calls Tryz.prog 51 #[.int .i64 v, .int .i64 n] w fun e w' => e = .returned (.int .i64 (wr64 (v + n))) ∧ w' = w := by
  obtain ⟨r, hr⟩ : ∃ r, r = wr64 (v + n) := ⟨_, rfl⟩
  have W1 : IntKind.i64.wrap (v + n) = r := hr.symm
  rw [← hr]
  clear hr
  go_enter Tryz.func51, Tryz.ntmps51
  go_wp2
  go_ret
  exact ⟨rfl, rfl⟩
set_option maxRecDepth 100000 in
theorem mk_most (v n : Int) (w : World) : Calls Tryz.prog 52 #[.int .i64 v, .int .i64 n] w fun e w' => e = .returned (.int .i64 (max v n)) ∧ w' = w := by
  go_enter Tryz.func52, Tryz.ntmps52
  go_wp2
  go_ret
  exact ⟨rfl, rfl⟩
set_option maxRecDepth 100000 in
theorem mk_least (v n : Int) (w : World) : Calls Tryz.prog 53 #[.int .i64 v, .int .i64 n] w fun e w' => e = .returned (.int .i64 (min v n)) ∧ w' = w := by
  go_enter Tryz.func53, Tryz.ntmps53
  go_wp2
  go_ret
  exact ⟨rfl, rfl⟩
set_option maxRecDepth 100000 in
theorem mk_put (v n : Int) (w : World) : Calls Tryz.prog 54 #[.int .i64 v, .int .i64 n] w fun e w' => e = .returned (.int .i64 (n)) ∧ w' = w := by
  go_enter Tryz.func54, Tryz.ntmps54
  go_wp2
  go_ret
  exact ⟨rfl, rfl⟩
theorem fn_zero (w : World) : (zeroValue 77).run Tryz.prog w = .ok .nilFunc w := by kernel_rfl
set_option maxRecDepth 100000 in
set_option maxHeartbeats 6400000 in
theorem makes0 (w : World) : Calls Tryz.prog 22 #[.int .i64 0] w fun e w' => e = .returned (.func (.func 51) #[] #[]) ∧ Below w.heap.size w w' := by
  obtain ⟨W1, hW1⟩ : ∃ W, W = w.alloc (.map #[] 0) := ⟨_, rfl⟩
  have b1 : Below w.heap.size w W1 := by rw [hW1]; exact below_alloc _ _
  have M1 : IntMap W1 w.heap.size (fun _ => none) := by rw [hW1]; exact IntMap.made w
  have hmm : (Instr.makeMap 133 none).run Tryz.prog w = .ok (.map (some w.heap.size)) W1 := by rw [hW1]; exact run_makeMap _ _
  clear hW1
  obtain ⟨W2, r1, M2, g1, -⟩ := M1.store (P := Tryz.prog) Tryz.underlying133 Tryz.underlying3 0 (.func (.func 51) #[] #[])
  have b2 : Below w.heap.size w W2 := b1.trans ((KX.of_grown (X := fun b => b = w.heap.size) g1 fun k e => (Option.some.inj e).symm).below b1.size fun b hb => by omega)
  obtain ⟨W3, r2, M3, g2, -⟩ := M2.store (P := Tryz.prog) Tryz.underlying133 Tryz.underlying3 1 (.func (.func 52) #[] #[])
  have b3 : Below w.heap.size w W3 := b2.trans ((KX.of_grown (X := fun b => b = w.heap.size) g2 fun k e => (Option.some.inj e).symm).below b2.size fun b hb => by omega)
  obtain ⟨W4, r3, M4, g3, -⟩ := M3.store (P := Tryz.prog) Tryz.underlying133 Tryz.underlying3 2 (.func (.func 53) #[] #[])
  have b4 : Below w.heap.size w W4 := b3.trans ((KX.of_grown (X := fun b => b = w.heap.size) g3 fun k e => (Option.some.inj e).symm).below b3.size fun b hb => by omega)
  obtain ⟨W5, r4, M5, g4, -⟩ := M4.store (P := Tryz.prog) Tryz.underlying133 Tryz.underlying3 3 (.func (.func 54) #[] #[])
  have b5 : Below w.heap.size w W5 := b4.trans ((KX.of_grown (X := fun b => b = w.heap.size) g4 fun k e => (Option.some.inj e).symm).below b4.size fun b hb => by omega)
  have hlk : (Instr.lookup 133 (.map (some w.heap.size)) (.int .i64 0) false).run Tryz.prog W5 = .ok (.func (.func 51) #[] #[]) W5 := by
    have e := IsMap.look (P := Tryz.prog) (S := fun _ => True) (T := 133) (K := 3) (E := 77) (.inr ⟨w.heap.size, rfl, trivial, IntMap.lt M5, M5⟩) Tryz.underlying133 Tryz.underlying3 fn_zero 0 false
    rw [if_neg (by simp)] at e
    simp [upd] at e
    exact e
  have B5 := Lib.hid b5
  clear M1 M2 M3 M4 M5 g1 g2 g3 g4 b1 b2 b3 b4 b5
  go_enter Tryz.func22, Tryz.ntmps22
  go_wp2
  go_ret
  exact ⟨rfl, B5.out⟩
set_option maxRecDepth 100000 in
set_option maxHeartbeats 6400000 in
theorem makes1 (w : World) : Calls Tryz.prog 22 #[.int .i64 1] w fun e w' => e = .returned (.func (.func 52) #[] #[]) ∧ Below w.heap.size w w' := by
  obtain ⟨W1, hW1⟩ : ∃ W, W = w.alloc (.map #[] 0) := ⟨_, rfl⟩
  have b1 : Below w.heap.size w W1 := by rw [hW1]; exact below_alloc _ _
  have M1 : IntMap W1 w.heap.size (fun _ => none) := by rw [hW1]; exact IntMap.made w
  have hmm : (Instr.makeMap 133 none).run Tryz.prog w = .ok (.map (some w.heap.size)) W1 := by rw [hW1]; exact run_makeMap _ _
  clear hW1
  obtain ⟨W2, r1, M2, g1, -⟩ := M1.store (P := Tryz.prog) Tryz.underlying133 Tryz.underlying3 0 (.func (.func 51) #[] #[])
  have b2 : Below w.heap.size w W2 := b1.trans ((KX.of_grown (X := fun b => b = w.heap.size) g1 fun k e => (Option.some.inj e).symm).below b1.size fun b hb => by omega)
  obtain ⟨W3, r2, M3, g2, -⟩ := M2.store (P := Tryz.prog) Tryz.underlying133 Tryz.underlying3 1 (.func (.func 52) #[] #[])
  have b3 : Below w.heap.size w W3 := b2.trans ((KX.of_grown (X := fun b => b = w.heap.size) g2 fun k e => (Option.some.inj e).symm).below b2.size fun b hb => by omega)
  obtain ⟨W4, r3, M4, g3, -⟩ := M3.store (P := Tryz.prog) Tryz.underlying133 Tryz.underlying3 2 (.func (.func 53) #[] #[])
  have b4 : Below w.heap.size w W4 := b3.trans ((KX.of_grown (X := fun b => b = w.heap.size) g3 fun k e => (Option.some.inj e).symm).below b3.size fun b hb => by omega)
  obtain ⟨W5, r4, M5, g4, -⟩ := M4.store (P := Tryz.prog) Tryz.underlying133 Tryz.underlying3 3 (.func (.func 54) #[] #[])
  have b5 : Below w.heap.size w W5 := b4.trans ((KX.of_grown (X := fun b => b = w.heap.size) g4 fun k e => (Option.some.inj e).symm).below b4.size fun b hb => by omega)
  have hlk : (Instr.lookup 133 (.map (some w.heap.size)) (.int .i64 1) false).run Tryz.prog W5 = .ok (.func (.func 52) #[] #[]) W5 := by
    have e := IsMap.look (P := Tryz.prog) (S := fun _ => True) (T := 133) (K := 3) (E := 77) (.inr ⟨w.heap.size, rfl, trivial, IntMap.lt M5, M5⟩) Tryz.underlying133 Tryz.underlying3 fn_zero 1 false
    rw [if_neg (by simp)] at e
    simp [upd] at e
    exact e
  have B5 := Lib.hid b5
  clear M1 M2 M3 M4 M5 g1 g2 g3 g4 b1 b2 b3 b4 b5
  go_enter Tryz.func22, Tryz.ntmps22
  go_wp2
  go_ret
  exact ⟨rfl, B5.out⟩
set_option maxRecDepth 100000 in
set_option maxHeartbeats 6400000 in
theorem makes2 (w : World) : Calls Tryz.prog 22 #[.int .i64 2] w fun e w' => e = .returned (.func (.func 53) #[] #[]) ∧ Below w.heap.size w w' := by
  obtain ⟨W1, hW1⟩ : ∃ W, W = w.alloc (.map #[] 0) := ⟨_, rfl⟩
  have b1 : Below w.heap.size w W1 := by rw [hW1]; exact below_alloc _ _
  have M1 : IntMap W1 w.heap.size (fun _ => none) := by rw [hW1]; exact IntMap.made w
  have hmm : (Instr.makeMap 133 none).run Tryz.prog w = .ok (.map (some w.heap.size)) W1 := by rw [hW1]; exact run_makeMap _ _
  clear hW1
  obtain ⟨W2, r1, M2, g1, -⟩ := M1.store (P := Tryz.prog) Tryz.underlying133 Tryz.underlying3 0 (.func (.func 51) #[] #[])
  have b2 : Below w.heap.size w W2 := b1.trans ((KX.of_grown (X := fun b => b = w.heap.size) g1 fun k e => (Option.some.inj e).symm).below b1.size fun b hb => by omega)
  obtain ⟨W3, r2, M3, g2, -⟩ := M2.store (P := Tryz.prog) Tryz.underlying133 Tryz.underlying3 1 (.func (.func 52) #[] #[])
  have b3 : Below w.heap.size w W3 := b2.trans ((KX.of_grown (X := fun b => b = w.heap.size) g2 fun k e => (Option.some.inj e).symm).below b2.size fun b hb => by omega)
  obtain ⟨W4, r3, M4, g3, -⟩ := M3.store (P := Tryz.prog) Tryz.underlying133 Tryz.underlying3 2 (.func (.func 53) #[] #[])
  have b4 : Below w.heap.size w W4 := b3.trans ((KX.of_grown (X := fun b => b = w.heap.size) g3 fun k e => (Option.some.inj e).symm).below b3.size fun b hb => by omega)
  obtain ⟨W5, r4, M5, g4, -⟩ := M4.store (P := Tryz.prog) Tryz.underlying133 Tryz.underlying3 3 (.func (.func 54) #[] #[])
  have b5 : Below w.heap.size w W5 := b4.trans ((KX.of_grown (X := fun b => b = w.heap.size) g4 fun k e => (Option.some.inj e).symm).below b4.size fun b hb => by omega)
  have hlk : (Instr.lookup 133 (.map (some w.heap.size)) (.int .i64 2) false).run Tryz.prog W5 = .ok (.func (.func 53) #[] #[]) W5 := by
    have e := IsMap.look (P := Tryz.prog) (S := fun _ => True) (T := 133) (K := 3) (E := 77) (.inr ⟨w.heap.size, rfl, trivial, IntMap.lt M5, M5⟩) Tryz.underlying133 Tryz.underlying3 fn_zero 2 false
    rw [if_neg (by simp)] at e
    simp [upd] at e
    exact e
  have B5 := Lib.hid b5
  clear M1 M2 M3 M4 M5 g1 g2 g3 g4 b1 b2 b3 b4 b5
  go_enter Tryz.func22, Tryz.ntmps22
  go_wp2
  go_ret
  exact ⟨rfl, B5.out⟩
set_option maxRecDepth 100000 in
set_option maxHeartbeats 6400000 in
theorem makes3 (w : World) : Calls Tryz.prog 22 #[.int .i64 3] w fun e w' => e = .returned (.func (.func 54) #[] #[]) ∧ Below w.heap.size w w' := by
  obtain ⟨W1, hW1⟩ : ∃ W, W = w.alloc (.map #[] 0) := ⟨_, rfl⟩
  have b1 : Below w.heap.size w W1 := by rw [hW1]; exact below_alloc _ _
  have M1 : IntMap W1 w.heap.size (fun _ => none) := by rw [hW1]; exact IntMap.made w
  have hmm : (Instr.makeMap 133 none).run Tryz.prog w = .ok (.map (some w.heap.size)) W1 := by rw [hW1]; exact run_makeMap _ _
  clear hW1
  obtain ⟨W2, r1, M2, g1, -⟩ := M1.store (P := Tryz.prog) Tryz.underlying133 Tryz.underlying3 0 (.func (.func 51) #[] #[])
  have b2 : Below w.heap.size w W2 := b1.trans ((KX.of_grown (X := fun b => b = w.heap.size) g1 fun k e => (Option.some.inj e).symm).below b1.size fun b hb => by omega)
  obtain ⟨W3, r2, M3, g2, -⟩ := M2.store (P := Tryz.prog) Tryz.underlying133 Tryz.underlying3 1 (.func (.func 52) #[] #[])
  have b3 : Below w.heap.size w W3 := b2.trans ((KX.of_grown (X := fun b => b = w.heap.size) g2 fun k e => (Option.some.inj e).symm).below b2.size fun b hb => by omega)
  obtain ⟨W4, r3, M4, g3, -⟩ := M3.store (P := Tryz.prog) Tryz.underlying133 Tryz.underlying3 2 (.func (.func 53) #[] #[])
  have b4 : Below w.heap.size w W4 := b3.trans ((KX.of_grown (X := fun b => b = w.heap.size) g3 fun k e => (Option.some.inj e).symm).below b3.size fun b hb => by omega)
  obtain ⟨W5, r4, M5, g4, -⟩ := M4.store (P := Tryz.prog) Tryz.underlying133 Tryz.underlying3 3 (.func (.func 54) #[] #[])
  have b5 : Below w.heap.size w W5 := b4.trans ((KX.of_grown (X := fun b => b = w.heap.size) g4 fun k e => (Option.some.inj e).symm).below b4.size fun b hb => by omega)
  have hlk : (Instr.lookup 133 (.map (some w.heap.size)) (.int .i64 3) false).run Tryz.prog W5 = .ok (.func (.func 54) #[] #[]) W5 := by
    have e := IsMap.look (P := Tryz.prog) (S := fun _ => True) (T := 133) (K := 3) (E := 77) (.inr ⟨w.heap.size, rfl, trivial, IntMap.lt M5, M5⟩) Tryz.underlying133 Tryz.underlying3 fn_zero 3 false
    rw [if_neg (by simp)] at e
    simp [upd] at e
    exact e
  have B5 := Lib.hid b5
  clear M1 M2 M3 M4 M5 g1 g2 g3 g4 b1 b2 b3 b4 b5
  go_enter Tryz.func22, Tryz.ntmps22
  go_wp2
  go_ret
  exact ⟨rfl, B5.out⟩
end Go.Proofs.YtkloaopjlbinpaaGreat
