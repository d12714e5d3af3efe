/- How the arguments of trim's laws are opened: acts with their puts, cells, a pair of int32. -/
import Derived.Test.YtpejhgkcofilmaaOpenC
import Derived.Test.YtpejhgkcofilmaaTrE
set_option linter.unusedVariables false
namespace Go.Proofs.Ytpejhgkcofilmaa
open Go.ChangeShapes Go.WideShapes Go.ChangeAt Go.RowKit Go.Deep Go.OpenShut

theorem list2' {α : Type} (l : List α) (h : l.length = 2) : ∃ a b, l = [a, b] := by
  match l, h with
  | [a, b], _ => exact ⟨a, b, rfl⟩
set_option maxRecDepth 100000 in
theorem trod_put {H : Type} {enc : TypeId × Value → H} {w : World} {base : Nat} {spare : Nat → Bool} {held : Bool} (n : Nat) (cs : List Value) (y : DataW H × List MemPlace) (hl : cs.length = 2)
    (h : DataW.trod enc Try.prog w base spare held n 150 cs = some y) : ∃ a : Int × Int, cs = putC a ∧ (-128 ≤ a.1 ∧ a.1 ≤ 127 ∧ -128 ≤ a.2 ∧ a.2 ≤ 127) := by
  have c2 : Try.prog.cellsOf 149 = 1 := by kernel_rfl
  obtain ⟨ys, m, _, _, _, hyl, hg⟩ := DataW.trod_array Try.underlying150 h
  obtain ⟨u0, u1, rfl⟩ := list2' cs hl
  obtain ⟨y0, y1, rfl⟩ := list2' ys hyl
  have h0 := hg 0 (by omega)
  have h1 := hg 1 (by omega)
  simp only [c2, Nat.zero_mul, Nat.one_mul, List.drop_zero, List.drop_succ_cons, List.take_succ_cons, List.take_zero, List.getElem?_cons_zero, List.getElem?_cons_succ] at h0 h1
  obtain ⟨a, ha, _, wa⟩ := DataW.trod_int Try.underlying149 h0
  obtain ⟨b, hb, _, wb⟩ := DataW.trod_int Try.underlying149 h1
  injection ha with ha; injection hb with hb
  subst ha hb
  have := bounds_i8 wa
  have := bounds_i8 wb
  exact ⟨(a, b), rfl, by dsimp only; omega⟩
set_option maxRecDepth 100000 in
theorem trod_tact {H : Type} {enc : TypeId × Value → H} {w : World} {base : Nat} {spare : Nat → Bool} {held : Bool} (n : Nat) (cs : List Value) (y : DataW H × List MemPlace) (hl : cs.length = 3)
    (h : DataW.trod enc Try.prog w base spare held n 148 cs = some y) : ∃ a : TAct, cs = tactC a ∧ a.ok w (fun _ => True) := by
  obtain ⟨ys, m, _, _, _, hyl, hf⟩ := DataW.trod_struct Try.underlying148 h
  have c2 : Try.prog.cellsOf 5 = 1 := by kernel_rfl
  have c4 : Try.prog.cellsOf 146 = 1 := by kernel_rfl
  obtain ⟨u0, u1, u2, rfl⟩ := list3 cs hl
  obtain ⟨y0, y1, y2, rfl⟩ := list3 ys hyl
  have h0 := hf 0 _ rfl
  have h1 := hf 1 _ rfl
  have h2 := hf 2 _ rfl
  simp only [c2, c4, List.drop_zero, List.drop_succ_cons, List.take_succ_cons, List.take_zero, List.getElem?_cons_zero, List.getElem?_cons_succ] at h0 h1 h2
  obtain ⟨a, ha, _, w0⟩ := DataW.trod_int Try.underlying5 h0
  obtain ⟨b, hb, _, w1⟩ := DataW.trod_int Try.underlying5 h1
  injection ha with ha; injection hb with hb
  subst ha hb
  obtain ⟨A, k, c, l, h3, h4, h5, h6, h7, h8⟩ := open_rows (f := putC) (k := 2) (fun _ => rfl) (by omega) (fun a => -128 ≤ a.1 ∧ a.1 ≤ 127 ∧ -128 ≤ a.2 ∧ a.2 ≤ 127)
    Try.underlying146 (show Try.prog.cellsOf 150 = 2 by kernel_rfl) (fun n cs' y hl h => trod_put n cs' y hl h) h2
  injection h3 with h3
  subst h3
  have := bounds_u8 w0
  have := bounds_u8 w1
  exact ⟨⟨a, b, A, k, c, l⟩, rfl, ⟨⟨by dsimp only; omega, by dsimp only; omega, by dsimp only; omega, by dsimp only; omega⟩, h8⟩, h4, h5⟩
/-- The argument's slice of acts. -/
theorem tacts_arg {H : Type} {enc : TypeId × Value → H} {w : World} {A : Option Addr} {n c : Nat} {d : DataW H} {p : List MemPlace} (h : DataW.Trod enc Try.prog w 0 (fun _ => true) true 99 (.slice A n c) d p) :
    ∃ l : List TAct, TActs w (fun _ => True) A n l := by
  obtain ⟨fuel, hf⟩ := h
  obtain ⟨A', n', c', l, h1, h2, h3, h4, h5, h6⟩ := open_rows (f := tactC) (k := 3) (fun _ => rfl) (by omega) (fun a => a.ok w (fun _ => True))
    Try.underlying99 (show Try.prog.cellsOf 148 = 3 by kernel_rfl) (fun n cs' y hl h => trod_tact n cs' y hl h) hf
  simp [Value.cells] at h1
  obtain ⟨rfl, rfl, rfl⟩ := h1
  exact ⟨l, h2, h3, h6⟩
set_option maxRecDepth 100000 in
theorem pair32_arg {H : Type} {enc : TypeId × Value → H} {w : World} {r : Reach} {b0 : Nat} {v : Value} {d : DataW H} {p : List MemPlace} (hv : Value.okWide Try.prog w r b0 112 v) (h : DataW.Trod enc Try.prog w 0 (fun _ => true) true 112 v d p) :
    ∃ a : Int × Int, v = .agg #[.int .i32 a.1, .int .i32 a.2] ∧ ((-2147483648 ≤ a.1 ∧ a.1 ≤ 2147483647) ∧ (-2147483648 ≤ a.2 ∧ a.2 ≤ 2147483647)) := by
  simp only [Value.okWide, Try.underlying112] at hv
  obtain ⟨cs, rfl, hs, _⟩ := hv
  obtain ⟨fuel, hf⟩ := h
  have hc : Try.prog.cellsOf 112 = 2 := by kernel_rfl
  have c2 : Try.prog.cellsOf 21 = 1 := by kernel_rfl
  obtain ⟨ys, m, _, _, _, hyl, hg⟩ := DataW.trod_array Try.underlying112 hf
  obtain ⟨u0, u1, hu⟩ := list2' cs.toList (by rw [Array.length_toList, hs, hc])
  obtain ⟨y0, y1, rfl⟩ := list2' ys hyl
  have h0 := hg 0 (by omega)
  have h1 := hg 1 (by omega)
  simp only [Value.cells, hu, c2, Nat.zero_mul, Nat.one_mul, List.drop_zero, List.drop_succ_cons, List.take_succ_cons, List.take_zero, List.getElem?_cons_zero, List.getElem?_cons_succ] at h0 h1
  obtain ⟨a, ha, _, wa⟩ := DataW.trod_int Try.underlying21 h0
  obtain ⟨b, hb, _, wb⟩ := DataW.trod_int Try.underlying21 h1
  injection ha with ha; injection hb with hb
  subst ha hb
  refine ⟨(a, b), ?_, bounds_i32 wa, bounds_i32 wb⟩
  congr 1
  exact Array.toList_inj.1 hu
set_option maxRecDepth 100000 in
theorem locs_arg {H : Type} {enc : TypeId × Value → H} {w : World} {A : Option Addr} {n c : Nat} {d : DataW H} {p : List MemPlace} (h : DataW.Trod enc Try.prog w 0 (fun _ => true) true 117 (.slice A n c) d p) :
    ∃ l : List Int, Ints w (fun _ => True) A n l := by
  obtain ⟨fuel, hf⟩ := h
  obtain ⟨A', n', c', l, h1, h2, h3, h4, h5, h6⟩ := open_rows (f := fun a : Int => [.int .i64 a]) (k := 1) (fun _ => rfl) (by omega) I64
    Try.underlying117 (show Try.prog.cellsOf 67 = 1 by kernel_rfl) (fun n cs' y hl h => by obtain ⟨a, ha, _, w0⟩ := DataW.trod_int Try.underlying67 h; exact ⟨a, ha, w0⟩) hf
  simp [Value.cells] at h1
  obtain ⟨rfl, rfl, rfl⟩ := h1
  rw [flat_map1] at h3
  exact ⟨l, h2, h3⟩
theorem ints_arg2 {H : Type} {enc : TypeId × Value → H} {w : World} {A : Option Addr} {n c : Nat} {d : DataW H} {p : List MemPlace} (h : DataW.Trod enc Try.prog w 0 (fun _ => true) true 40 (.slice A n c) d p) :
    ∃ l : List Int, Ints w (fun _ => True) A n l ∧ n ≤ c ∧ (A = none → c = 0) := by
  obtain ⟨fuel, hf⟩ := h
  obtain ⟨A', n', c', l, h1, h2, h3, h4, h5, h6⟩ := open_rows (f := fun a : Int => [.int .i64 a]) (k := 1) (fun _ => rfl) (by omega) I64
    Try.underlying40 (show Try.prog.cellsOf 2 = 1 by kernel_rfl) (fun n cs' y hl h => trod_i64 n cs' y hl h) hf
  simp [Value.cells] at h1
  obtain ⟨rfl, rfl, rfl⟩ := h1
  rw [flat_map1] at h3
  exact ⟨l, ⟨h2, h3⟩, h4, h5⟩
end Go.Proofs.Ytpejhgkcofilmaa
