/- The walk of law33's Done. Conditions: what is asked of the function that is handed over; no version is the greatest. -/
import Derived.Test.YtkloaopjlbinpaaGreatTeK
set_option linter.unusedVariables false
set_option linter.unusedSimpArgs false
namespace Go.Proofs.YtkloaopjlbinpaaGreat
open Go.RowKit Go.MapKept

/-- The words after a transaction. -/
def nextM (g : Mem) (P : List (Int × Int)) : Mem := ⟨cur g P, fun k => if wrt P k = true then g.ver k + 1 else g.ver k⟩
/-- The words where the writes to these locations are done. -/
def upM (g : Mem) (P : List (Int × Int)) (D : List Int) : Mem := ⟨fun k => if k ∈ D ∧ wrt P k = true then cur g P k else g.val k, fun k => if k ∈ D ∧ wrt P k = true then g.ver k + 1 else g.ver k⟩
theorem upM_nil (g : Mem) (P : List (Int × Int)) : (upM g P []).at = g.at := by
  funext k
  simp [upM, Mem.at]
theorem upM_step {g : Mem} {P : List (Int × Int)} {D : List Int} {k : Int} (hk : inM k) (hw : wrt P k = true) : upd (upM g P D).at k (.agg #[.int .i64 (cur g P k), .int .u32 (g.ver k + 1), .int .u32 0]) = (upM g P (D ++ [k])).at := by
  funext i
  unfold upd Mem.at upM
  by_cases h : i = k
  · subst h
    simp [hk, hw, wdV]
  · simp [h]
theorem upM_skip {g : Mem} {P : List (Int × Int)} {D : List Int} {k : Int} (hw : wrt P k = false) : (upM g P D).at = (upM g P (D ++ [k])).at := by
  funext i
  unfold Mem.at upM
  by_cases h : i = k
  · subst h
    simp [hw]
  · simp [h]
theorem upM_all {g : Mem} {P : List (Int × Int)} {D : List Int} (h : ∀ k, wrt P k = true → k ∈ D) : (upM g P D).at = (nextM g P).at := by
  funext i
  unfold Mem.at upM nextM
  cases hw : wrt P i with
  | true => simp [h i hw, hw]
  | false => simp [hw, cur_none g (wrt_false hw)]
theorem upM_some (g : Mem) (P : List (Int × Int)) (D : List Int) {k : Int} (hk : inM k) : ∃ v n, (upM g P D).at k = some (.agg #[.int .i64 v, .int .u32 n, .int .u32 0]) := ⟨_, _, if_pos hk⟩
theorem nextM_fits {g : Mem} {P : List (Int × Int)} {n : Int} (h : g.Fits n) : (nextM g P).Fits (n + 1) := fun k hk => by
  have := h k hk
  unfold nextM
  dsimp only
  split <;> omega
theorem word_eqv (a b : Int) (W : World) : (Op.equalIn 10000 96 (.agg #[.int .i64 a, .int .u32 b, .int .u32 0]) (.agg #[.int .i64 a, .int .u32 b, .int .u32 0])).run Tryz.prog W = .ok true W := by
  go_simp
  try simp
theorem word_field1 (x y z : Value) (w : World) : (Instr.field 96 (.agg #[x, y, z]) 1).run Tryz.prog w = .ok y w := by kernel_rfl
theorem wrap_u32' (n : Int) (h0 : 0 ≤ n) (h1 : n < 4294967296) : IntKind.u32.wrap n = n := by rw [IntKind.wrap_u32]; omega
end Go.Proofs.YtkloaopjlbinpaaGreat
