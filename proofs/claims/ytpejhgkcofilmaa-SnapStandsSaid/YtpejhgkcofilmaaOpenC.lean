/- How a law's argument that is a slice of int64 is opened. -/
import Derived.Test.YtpejhgkcofilmaaOpen
set_option linter.unusedVariables false
namespace Go.Proofs.Ytpejhgkcofilmaa
open Go.ChangeShapes Go.WideShapes Go.ChangeAt Go.RowKit Go.Deep

theorem trod_i64 {H : Type} {enc : TypeId × Value → H} {w : World} {base : Nat} {spare : Nat → Bool} {held : Bool} (n : Nat) (cs : List Value) (y : DataW H × List MemPlace) (hl : cs.length = 1)
    (h : DataW.trod enc Try.prog w base spare held n 2 cs = some y) : ∃ a : Int, cs = [.int .i64 a] ∧ I64 a := by
  obtain ⟨a, ha, _, w0⟩ := DataW.trod_int Try.underlying2 h
  exact ⟨a, ha, w0⟩
theorem flat_map1 (l : List Int) : l.flatMap (fun a => [Value.int .i64 a]) = l.map (.int .i64 ·) := by
  induction l with
  | nil => rfl
  | cons a t ih => rw [List.flatMap_cons, List.map_cons, ih]; rfl
/-- The argument's slice of int64, whatever its length. -/
theorem ints_arg {H : Type} {enc : TypeId × Value → H} {w : World} {A : Option Addr} {n c : Nat} {d : DataW H} {p : List MemPlace} (h : DataW.Trod enc Try.prog w 0 (fun _ => true) true 40 (.slice A n c) d p) :
    ∃ l : List Int, n = l.length ∧ Reads w (fun _ => True) 1 A n (l.map (.int .i64 ·)) := by
  obtain ⟨fuel, hf⟩ := h
  obtain ⟨A', n', c', l, h1, h2, h3, h4, h5, h6⟩ := open_rows (f := fun a : Int => [.int .i64 a]) (k := 1) (fun _ => rfl) (by omega) I64
    Try.underlying40 (show Try.prog.cellsOf 2 = 1 by kernel_rfl) (fun n cs' y hl h => trod_i64 n cs' y hl h) hf
  simp [Value.cells] at h1
  obtain ⟨rfl, rfl, rfl⟩ := h1
  rw [flat_map1] at h3
  exact ⟨l, h2, h3⟩
end Go.Proofs.Ytpejhgkcofilmaa
