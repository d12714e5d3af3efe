/- How the arguments of TopBatch, a slice of operations and a byte, are opened to cells. -/
import Derived.Test.YtkloaopjlbinpaaGreatTcD
import Derived.Test.YtkloaopjlbinpaaGreatRows
import Derived.ProofKit
import Derived.OpenShut
import Derived.ShutString
import Derived.ChangeOld
import Derived.Below
import Derived.Deep.Slices
import Derived.Deep.Fields
import Derived.ChangeSame
set_option linter.unusedVariables false
namespace Go.Proofs.YtkloaopjlbinpaaGreat
open Go.ChangeShapes Go.WideShapes Go.ChangeAt Go.RowKit Go.Deep
open Go.ChangeMaps (open_string shut_string)

theorem own : ownKnob Tryz.prog.godebug = none := by kernel_rfl
theorem laidOut : laidOutB Tryz.prog = true := by kernel_rfl

/-- Out of one witness an index, a list of witnesses. -/
theorem collect {α : Type} {P : Nat → α → Prop} (n : Nat) (h : ∀ i, i < n → ∃ x, P i x) : ∃ l : List α, l.length = n ∧ ∀ i (hi : i < l.length), P i l[i] := by
  induction n with
  | zero => exact ⟨[], rfl, fun i hi => by simp at hi⟩
  | succ n ih =>
    obtain ⟨l, hl, hp⟩ := ih fun i hi => h i (by omega)
    obtain ⟨x, hx⟩ := h n (by omega)
    refine ⟨l ++ [x], by simp [hl], fun i hi => ?_⟩
    rcases Nat.lt_or_ge i l.length with h1 | h1
    · rw [List.getElem_append_left h1]; exact hp i h1
    · have h2 : i = l.length := by simp at hi; omega
      subst h2
      simp only [List.getElem_concat_length]
      rwa [hl]
/-- A cell of a row whose elements lay k cells each. -/
theorem flat_at {α : Type} {f : α → List Value} {k : Nat} (hk : ∀ x, (f x).length = k) (l : List α) (j : Nat) (u : Value) (h : (l.flatMap f)[j]? = some u) :
    ∃ i r, ∃ hi : i < l.length, j = i * k + r ∧ (f l[i])[r]? = some u := by
  induction l generalizing j with
  | nil => simp at h
  | cons a t ih =>
    rw [List.flatMap_cons] at h
    rcases Nat.lt_or_ge j k with h1 | h1
    · rw [List.getElem?_append_left (by rw [hk]; exact h1)] at h
      exact ⟨0, j, by simp, by omega, h⟩
    · rw [List.getElem?_append_right (by rw [hk]; exact h1), hk] at h
      obtain ⟨i, r, hi, hj, hu⟩ := ih _ h
      refine ⟨i + 1, r, by simpa using hi, ?_, by simpa using hu⟩
      rw [Nat.add_mul]; omega
section
variable {H : Type} {enc : TypeId × Value → H} {P : Program} {w : World} {base : Nat} {spare : Nat → Bool} {held : Bool}
/-- A slice whose elements lay k cells each, of which each element's cells are those of some x: it reads as the flat row of a list. -/
theorem open_rows {α : Type} {f : α → List Value} {k : Nat} (hk : ∀ x, (f x).length = k) (hk0 : 0 < k) (G : α → Prop) {t e : TypeId} {fuel : Nat} {cs : List Value} {x : DataW H × List MemPlace} (ht : P.underlying t = some (.slice e)) (hC : P.cellsOf e = k)
    (hel : ∀ n cs' y, cs'.length = k → DataW.trod enc P w base spare held n e cs' = some y → ∃ x, cs' = f x ∧ G x)
    (h : DataW.trod enc P w base spare held fuel t cs = some x) :
    ∃ (A : Option Addr) (n c : Nat) (l : List α), cs = [.slice A n c] ∧ n = l.length ∧ Reads w (fun _ => True) k A n (l.flatMap f) ∧ n ≤ c ∧ (A = none → c = 0) ∧ ∀ x ∈ l, G x := by
  rcases open_slice ht h with ⟨rfl, _⟩ | ⟨a, len, cap, m, n, D, Pl, rfl, _, hl, hm, hmm, _, hi⟩
  · exact ⟨none, 0, 0, [], rfl, rfl, .none_, Nat.le_refl _, fun _ => rfl, fun x hx => by cases hx⟩
  · have hml : len ≤ m := by rw [hmm]; split <;> omega
    have hw : ∀ i, i < len → ∃ x : α, G x ∧ ∀ r u, (f x)[r]? = some u → w.cell? (a.add (i * k + r)) = some u := by
      intro i hil
      obtain ⟨cs', hc, htr⟩ := hi i (by omega)
      rw [hC] at hc
      obtain ⟨_, hcl, hat⟩ := World.cells?_some hc
      obtain ⟨x, rfl, hG⟩ := hel n cs' _ hcl htr
      refine ⟨x, hG, fun r u hu => ?_⟩
      have hr : r < k := by have := (List.getElem?_eq_some_iff.1 hu).1; omega
      rw [← Go.Deep.add_add, hat r hr]
      exact hu
    obtain ⟨l, hll, hp⟩ := collect len hw
    refine ⟨some a, len, cap, l, rfl, hll.symm, ⟨by rw [flat_len k f hk, hll], fun hn => ?_⟩, hl, by simp, fun x hx => ?_⟩
    · obtain ⟨b, o, spot⟩ := a
      have hcell : ∀ j u, (l.flatMap f)[j]? = some u → w.cell? ((⟨b, o, spot⟩ : Addr).add j) = some u := by
        intro j u hu
        obtain ⟨i, r, hi, rfl, hu'⟩ := flat_at hk l j u hu
        exact (hp i hi).2 r u hu'
      have h0 : (l.flatMap f).length = len * k := by rw [flat_len k f hk, hll]
      have hpos : 0 < (l.flatMap f).length := by rw [h0]; exact Nat.mul_pos hn hk0
      have hc0 := hcell 0 _ (List.getElem?_eq_getElem hpos)
      have hb := World.block_lt_of_cell? w _ hc0
      have hs : spot = none := by simpa [Addr.add] using World.cell?_spot hc0
      subst hs
      exact ⟨b, o, rfl, by simpa [Addr.add] using hb, trivial, fun j u hu => by rw [← add_mk]; exact hcell j u hu⟩
    · obtain ⟨i, hi, rfl⟩ := List.getElem_of_mem hx
      exact (hp i hi).1
end

def I64 (x : Int) : Prop := (Lit.int .i64 x).wf = true
theorem list3 {α : Type} (l : List α) (h : l.length = 3) : ∃ a b c, l = [a, b, c] := by
  match l, h with
  | [a, b, c], _ => exact ⟨a, b, c, rfl⟩
theorem i64_in {x : Int} (h : I64 x) : In64 x := by
  unfold I64 at h
  simp only [Lit.wf, Bool.and_eq_true, decide_eq_true_eq] at h
  have e1 : IntKind.i64.min = -9223372036854775808 := by decide
  have e2 : IntKind.i64.max = 9223372036854775807 := by decide
  unfold In64
  omega
theorem u8_in {x : Int} (h : (Lit.int .u8 x).wf = true) : 0 ≤ x ∧ x ≤ 255 := by
  simp only [Lit.wf, Bool.and_eq_true, decide_eq_true_eq] at h
  have e1 : IntKind.u8.min = 0 := by decide
  have e2 : IntKind.u8.max = 255 := by decide
  omega
set_option maxRecDepth 100000 in
theorem trod_bop {H : Type} {enc : TypeId × Value → H} {w : World} {base : Nat} {spare : Nat → Bool} {held : Bool} (n : Nat) (cs : List Value) (y : DataW H × List MemPlace) (hl : cs.length = 3)
    (h : DataW.trod enc Tryz.prog w base spare held n 25 cs = some y) : ∃ a : BOp, cs = opB a ∧ I64 a.n := by
  obtain ⟨ys, m, _, _, _, hyl, hf⟩ := DataW.trod_struct Tryz.underlying25 h
  obtain ⟨u0, u1, u2, rfl⟩ := list3 cs hl
  obtain ⟨y0, y1, y2, rfl⟩ := list3 ys hyl
  have h0 := hf 0 _ rfl
  have h1 := hf 1 _ rfl
  have h2 := hf 2 _ rfl
  simp only [List.getElem?_cons_zero, List.getElem?_cons_succ] at h0 h1 h2
  obtain ⟨a, ha, _, w0⟩ := DataW.trod_int Tryz.underlying3 h0
  obtain ⟨b, hb, _, w1⟩ := DataW.trod_int Tryz.underlying2 h1
  obtain ⟨c, hc, _, w2⟩ := DataW.trod_int Tryz.underlying2 h2
  injection ha with ha; injection hb with hb; injection hc with hc
  subst ha hb hc
  exact ⟨⟨a, b, c⟩, rfl, w2⟩
/-- The argument's slice of operations, whatever its length. -/
theorem bops_arg {H : Type} {enc : TypeId × Value → H} {w : World} {A : Option Addr} {n c : Nat} {d : DataW H} {p : List MemPlace} (h : DataW.Trod enc Tryz.prog w 0 (fun _ => true) true 22 (.slice A n c) d p) :
    ∃ l : List BOp, l.length = n ∧ Reads w (fun _ => True) 3 A n (l.flatMap opB) ∧ ∀ o ∈ l, In64 o.n := by
  obtain ⟨fuel, hf⟩ := h
  obtain ⟨A', n', c', l, h1, h2, h3, h4, h5, h6⟩ := open_rows (f := opB) (k := 3) (fun _ => rfl) (by omega) (fun a => I64 a.n)
    Tryz.underlying22 (show Tryz.prog.cellsOf 25 = 3 by kernel_rfl) (fun n cs' y hl h => trod_bop n cs' y hl h) hf
  simp [Value.cells] at h1
  obtain ⟨rfl, rfl, rfl⟩ := h1
  exact ⟨l, h2.symm, h3, fun o ho => i64_in (h6 o ho)⟩
theorem topB_any (w : World) (A : Option Addr) (n c : Nat) (l : List BOp) (hl : l.length = n) (hR : Reads w (fun _ => True) 3 A n (l.flatMap opB)) (hin : ∀ o ∈ l, In64 o.n) (t : Int) (ht : 0 ≤ t ∧ t ≤ 255) :
    Calls Tryz.prog 3 #[.slice A n c, .int .u8 t] w fun e w' => e = .returned (.bool true) ∧ Below w.heap.size w w' := by
  rcases Nat.lt_or_ge 20 n with h | h
  · exact topB_big w A n c t h
  · exact topB_main w A n c l hl h hin hR t ht
end Go.Proofs.YtkloaopjlbinpaaGreat
