/- How the argument of ParserBlanks, a slice of bytes, is opened to cells. -/
import Derived.Test.YtkakbidllpjopaaGreatDoorRdB
import Derived.Test.YtkakbidllpjopaaGreatDoorW16
import Derived.ProofKit
import Derived.OpenShut
import Derived.Deep.Slices
import Derived.Deep.Fields
set_option linter.unusedVariables false
set_option linter.unusedSimpArgs false
namespace Go.Proofs.YtkakbidllpjopaaGreatDoor
open Go.ChangeShapes Go.WideShapes Go.ChangeAt Go.RowKit Go.Deep Go.OpenShut

/-- Out of one witness an index, a list of witnesses. -/
theorem collect {α : Type} {P : Nat → α → Prop} (n : Nat) (h : ∀ i, i < n → ∃ x, P i x) : ∃ l : List α, l.length = n ∧ ∀ i (hi : i < l.length), P i l[i] := by
  induction n with
  | zero => exact ⟨[], rfl, fun i hi => by simp at hi⟩
  | succ n ih =>
    obtain ⟨l, hl, hp⟩ := ih fun i hi => h i (by omega)
    obtain ⟨x, hx⟩ := h n (by omega)
    refine ⟨l ++ [x], by simp [hl], fun i hi => ?_⟩
    rcases Nat.lt_or_ge i l.length with h1 | h1
    · rw [List.getElem_append_left h1]; exact hp i h1
    · have h2 : i = l.length := by simp at hi; omega
      subst h2
      simp only [List.getElem_concat_length]
      rwa [hl]
/-- A cell of a row whose elements lay k cells each. -/
theorem flat_at {α : Type} {f : α → List Value} {k : Nat} (hk : ∀ x, (f x).length = k) (l : List α) (j : Nat) (u : Value) (h : (l.flatMap f)[j]? = some u) :
    ∃ i r, ∃ hi : i < l.length, j = i * k + r ∧ (f l[i])[r]? = some u := by
  induction l generalizing j with
  | nil => simp at h
  | cons a t ih =>
    rw [List.flatMap_cons] at h
    rcases Nat.lt_or_ge j k with h1 | h1
    · rw [List.getElem?_append_left (by rw [hk]; exact h1)] at h
      exact ⟨0, j, by simp, by omega, h⟩
    · rw [List.getElem?_append_right (by rw [hk]; exact h1), hk] at h
      obtain ⟨i, r, hi, hj, hu⟩ := ih _ h
      refine ⟨i + 1, r, by simpa using hi, ?_, by simpa using hu⟩
      rw [Nat.add_mul]; omega
theorem flat_len_k {α : Type} {f : α → List Value} {k : Nat} (hk : ∀ x, (f x).length = k) (l : List α) : (l.flatMap f).length = l.length * k := by
  induction l with
  | nil => simp
  | cons a t ih => rw [List.flatMap_cons, List.length_append, ih, hk, List.length_cons, Nat.add_mul]; omega

section
variable {H : Type} {enc : TypeId × Value → H} {P : Program} {w : World} {base : Nat} {spare : Nat → Bool} {held : Bool}
/-- A slice whose elements lay k cells each, of which each element's cells are those of some x: it reads as the flat row of a list. -/
theorem open_rows {α : Type} {f : α → List Value} {k : Nat} (hk : ∀ x, (f x).length = k) (hk0 : 0 < k) (G : α → Prop) {t e : TypeId} {fuel : Nat} {cs : List Value} {x : DataW H × List MemPlace} (ht : P.underlying t = some (.slice e)) (hC : P.cellsOf e = k)
    (hel : ∀ n cs' y, cs'.length = k → DataW.trod enc P w base spare held n e cs' = some y → ∃ x, cs' = f x ∧ G x)
    (h : DataW.trod enc P w base spare held fuel t cs = some x) :
    ∃ (A : Option Addr) (n c : Nat) (l : List α), cs = [.slice A n c] ∧ n = l.length ∧ Reads w (fun _ => True) k A n (l.flatMap f) ∧ n ≤ c ∧ (A = none → c = 0) ∧ ∀ x ∈ l, G x := by
  rcases open_slice ht h with ⟨rfl, _⟩ | ⟨a, len, cap, m, n, D, Pl, rfl, _, hl, hm, hmm, _, hi⟩
  · exact ⟨none, 0, 0, [], rfl, rfl, .none_, Nat.le_refl _, fun _ => rfl, fun x hx => by cases hx⟩
  · have hml : len ≤ m := by rw [hmm]; split <;> omega
    have hw : ∀ i, i < len → ∃ x : α, G x ∧ ∀ r u, (f x)[r]? = some u → w.cell? (a.add (i * k + r)) = some u := by
      intro i hil
      obtain ⟨cs', hc, htr⟩ := hi i (by omega)
      rw [hC] at hc
      obtain ⟨_, hcl, hat⟩ := World.cells?_some hc
      obtain ⟨x, rfl, hG⟩ := hel n cs' _ hcl htr
      refine ⟨x, hG, fun r u hu => ?_⟩
      have hr : r < k := by have := (List.getElem?_eq_some_iff.1 hu).1; omega
      rw [← Go.Deep.add_add, hat r hr]
      exact hu
    obtain ⟨l, hll, hp⟩ := collect len hw
    refine ⟨some a, len, cap, l, rfl, hll.symm, ⟨by rw [flat_len_k hk, hll], fun hn => ?_⟩, hl, by simp, fun x hx => ?_⟩
    · obtain ⟨b, o, spot⟩ := a
      have hcell : ∀ j u, (l.flatMap f)[j]? = some u → w.cell? ((⟨b, o, spot⟩ : Addr).add j) = some u := by
        intro j u hu
        obtain ⟨i, r, hi, rfl, hu'⟩ := flat_at hk l j u hu
        exact (hp i hi).2 r u hu'
      have h0 : (l.flatMap f).length = len * k := by rw [flat_len_k hk, hll]
      have hpos : 0 < (l.flatMap f).length := by rw [h0]; exact Nat.mul_pos hn hk0
      have hc0 := hcell 0 _ (List.getElem?_eq_getElem hpos)
      have hb := World.block_lt_of_cell? w _ hc0
      have hs : spot = none := by simpa [Addr.add] using World.cell?_spot hc0
      subst hs
      exact ⟨b, o, rfl, by simpa [Addr.add] using hb, trivial, fun j u hu => by rw [← add_mk]; exact hcell j u hu⟩
    · obtain ⟨i, hi, rfl⟩ := List.getElem_of_mem hx
      exact (hp i hi).1
end

set_option maxRecDepth 100000 in
/-- A slice's length, as the claim's inputs have it. -/
theorem slice_len {w : World} {r : Reach} {base : Nat} {t e : TypeId} {a : Option Addr} {len cap : Nat} (ht : Tryz.prog.underlying t = some (.slice e)) (h : Value.okWide Tryz.prog w r base t (.slice a len cap)) : len ≤ 9223372036854775807 := by
  simp only [Value.okWide, ht, Cell.okWide] at h
  cases a with
  | none =>
    cases len with
    | zero => omega
    | succ k => simp_all [Cell.ok]
  | some b =>
    simp only [Cell.ok, ht] at h
    have h2 : (cap : Int) ≤ 9223372036854775807 := by simpa [IntKind.max, IntKind.bits, IntKind.signed] using h.2.1
    omega
theorem bytes_arg {H : Type} {enc : TypeId × Value → H} {w : World} {A : Option Addr} {n c : Nat} {d : DataW H} {p : List MemPlace} (h : DataW.Trod enc Tryz.prog w 0 (fun _ => true) true 58 (.slice A n c) d p) :
    ∃ l : List Int, n = l.length ∧ Reads w (fun _ => True) 1 A n (l.flatMap fun a => [Value.int .u8 a]) ∧ ∀ x ∈ l, 0 ≤ x ∧ x ≤ 255 := by
  obtain ⟨fuel, hf⟩ := h
  obtain ⟨A', n', c', l, h1, h2, h3, h4, h5, h6⟩ := open_rows (f := fun a : Int => [.int .u8 a]) (k := 1) (fun _ => rfl) (by omega) (fun x => 0 ≤ x ∧ x ≤ 255)
    Tryz.underlying58 (show Tryz.prog.cellsOf 5 = 1 by kernel_rfl) (fun n cs' y hl h => by obtain ⟨a, ha, _, w0⟩ := DataW.trod_int Tryz.underlying5 h; exact ⟨a, ha, bounds_u8 w0⟩) hf
  simp [Value.cells] at h1
  obtain ⟨rfl, rfl, rfl⟩ := h1
  exact ⟨l, h2, h3, h6⟩
theorem laidOut : laidOutB Tryz.prog = true := by kernel_rfl
theorem byts_arg {H : Type} {enc : TypeId × Value → H} {w : World} {A : Option Addr} {n c : Nat} {d : DataW H} {p : List MemPlace} (h : DataW.Trod enc Tryz.prog w 0 (fun _ => true) true 58 (.slice A n c) d p) :
    ∃ l : List Int, Byts w A n l := bytes_arg h
end Go.Proofs.YtkakbidllpjopaaGreatDoor
