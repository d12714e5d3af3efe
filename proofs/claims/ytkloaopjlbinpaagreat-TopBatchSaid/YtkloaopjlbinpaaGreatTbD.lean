/- The trie's key methods. Condition: a key is one of 0 to 9. -/
import Derived.Test.YtkloaopjlbinpaaGreatQE
import Derived.Test.YtkloaopjlbinpaaGreatQD
import Derived.Handy
set_option linter.unusedVariables false
set_option linter.unusedSimpArgs false
namespace Go.Proofs.YtkloaopjlbinpaaGreat
open Go.RowKit Go.MapKept

theorem key_cases {k : Int} (h : key k) : k = 0 ∨ k = 1 ∨ k = 2 ∨ k = 3 ∨ k = 4 ∨ k = 5 ∨ k = 6 ∨ k = 7 ∨ k = 8 ∨ k = 9 := by unfold key at h; omega
set_option maxRecDepth 100000 in
set_option maxHeartbeats 6400000 in
theorem hash_any (k : Int) (hk : key k) (w : World) : Calls Tryz.prog 132 #[.agg #[], .int .i64 k] w fun e w' => e = .returned (.int .u64 (hs k)) ∧ Below w.heap.size w w' := by
  rcases key_cases hk with rfl | rfl | rfl | rfl | rfl | rfl | rfl | rfl | rfl | rfl
  all_goals
    clear hk
    go_enter Tryz.func132, Tryz.ntmps132
    go_wp2
    go_ret
    exact ⟨by rfl, below_alloc _ _⟩
set_option maxRecDepth 100000 in
set_option maxHeartbeats 6400000 in
theorem num_any (k : Int) (w : World) : Calls Tryz.prog 134 #[.agg #[], .int .i64 k] w fun e w' => e = .returned (.tuple #[.int .i64 k, .bool true]) ∧ Below w.heap.size w w' := by
  go_enter Tryz.func134, Tryz.ntmps134
  go_wp2
  go_ret2
  exact ⟨rfl, below_alloc _ _⟩
set_option maxRecDepth 100000 in
set_option maxHeartbeats 6400000 in
theorem ikey_any (k : Int) (w : World) : Calls Tryz.prog 133 #[.agg #[], .int .i64 k] w fun e w' => e = .returned (.tuple #[.int .i64 k, .bool true]) ∧ Below w.heap.size w w' := by
  go_enter Tryz.func133, Tryz.ntmps133
  go_wp2
  go_ret2
  exact ⟨rfl, below_alloc _ _⟩
end Go.Proofs.YtkloaopjlbinpaaGreat
