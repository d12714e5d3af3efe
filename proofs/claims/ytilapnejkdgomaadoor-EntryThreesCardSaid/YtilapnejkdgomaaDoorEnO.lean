/- How a law's argument that is a list of entries is opened; what the rows' condition says of the table of powers of ten. -/
import Derived.Test.YtilapnejkdgomaaDoorEnQ
import Derived.Test.YtilapnejkdgomaaDoorEnA
import Derived.Test.YtilapnejkdgomaaDoorTxA
import Derived.ShutString
import Derived.ChangeOld
import Derived.Below
import Derived.Deep.Slices
import Derived.Deep.Fields
import Derived.ChangeSame
import Derived.Lib.LaidTab
import Derived.Stop.LaidErr
import Derived.Test.YtilapnejkdgomaaDoorEnG
set_option linter.unusedVariables false
set_option linter.unusedSimpArgs false
namespace Go.Proofs.YtilapnejkdgomaaDoor
open Go.ChangeShapes Go.WideShapes Go.ChangeAt Go.RowKit Go.Deep Go.OpenShut

theorem laidOut : laidOutB Tryd.prog = true := by kernel_rfl
/-- Out of one witness an index, a list of witnesses. -/
theorem collect {α : Type} {P : Nat → α → Prop} (n : Nat) (h : ∀ i, i < n → ∃ x, P i x) : ∃ l : List α, l.length = n ∧ ∀ i (hi : i < l.length), P i l[i] := by
  induction n with
  | zero => exact ⟨[], rfl, fun i hi => by simp at hi⟩
  | succ n ih =>
    obtain ⟨l, hl, hp⟩ := ih fun i hi => h i (by omega)
    obtain ⟨x, hx⟩ := h n (by omega)
    refine ⟨l ++ [x], by simp [hl], fun i hi => ?_⟩
    rcases Nat.lt_or_ge i l.length with h1 | h1
    · rw [List.getElem_append_left h1]; exact hp i h1
    · have h2 : i = l.length := by simp at hi; omega
      subst h2
      simp only [List.getElem_concat_length]
      rwa [hl]
/-- A cell of a row whose elements lay k cells each. -/
theorem flat_at {α : Type} {f : α → List Value} {k : Nat} (hk : ∀ x, (f x).length = k) (l : List α) (j : Nat) (u : Value) (h : (l.flatMap f)[j]? = some u) :
    ∃ i r, ∃ hi : i < l.length, j = i * k + r ∧ (f l[i])[r]? = some u := by
  induction l generalizing j with
  | nil => simp at h
  | cons a t ih =>
    rw [List.flatMap_cons] at h
    rcases Nat.lt_or_ge j k with h1 | h1
    · rw [List.getElem?_append_left (by rw [hk]; exact h1)] at h
      exact ⟨0, j, by simp, by omega, h⟩
    · rw [List.getElem?_append_right (by rw [hk]; exact h1), hk] at h
      obtain ⟨i, r, hi, hj, hu⟩ := ih _ h
      refine ⟨i + 1, r, by simpa using hi, ?_, by simpa using hu⟩
      rw [Nat.add_mul]; omega
theorem flat_len {α : Type} {f : α → List Value} {k : Nat} (hk : ∀ x, (f x).length = k) (l : List α) : (l.flatMap f).length = l.length * k := by
  induction l with
  | nil => simp
  | cons a t ih => rw [List.flatMap_cons, List.length_append, ih, hk, List.length_cons, Nat.add_mul]; omega

section
variable {H : Type} {enc : TypeId × Value → H} {P : Program} {w : World} {base : Nat} {spare : Nat → Bool} {held : Bool}
/-- A slice whose elements lay k cells each, of which each element's cells are those of some x: it reads as the flat row of a list. -/
theorem open_rows {α : Type} {f : α → List Value} {k : Nat} (hk : ∀ x, (f x).length = k) (hk0 : 0 < k) (G : α → Prop) {t e : TypeId} {fuel : Nat} {cs : List Value} {x : DataW H × List MemPlace} (ht : P.underlying t = some (.slice e)) (hC : P.cellsOf e = k)
    (hel : ∀ n cs' y, cs'.length = k → DataW.trod enc P w base spare held n e cs' = some y → ∃ x, cs' = f x ∧ G x)
    (h : DataW.trod enc P w base spare held fuel t cs = some x) :
    ∃ (A : Option Addr) (n c : Nat) (l : List α), cs = [.slice A n c] ∧ n = l.length ∧ Reads w (fun _ => True) k A n (l.flatMap f) ∧ n ≤ c ∧ (A = none → c = 0) ∧ ∀ x ∈ l, G x := by
  rcases open_slice ht h with ⟨rfl, _⟩ | ⟨a, len, cap, m, n, D, Pl, rfl, _, hl, hm, hmm, _, hi⟩
  · exact ⟨none, 0, 0, [], rfl, rfl, .none_, Nat.le_refl _, fun _ => rfl, fun x hx => by cases hx⟩
  · have hml : len ≤ m := by rw [hmm]; split <;> omega
    have hw : ∀ i, i < len → ∃ x : α, G x ∧ ∀ r u, (f x)[r]? = some u → w.cell? (a.add (i * k + r)) = some u := by
      intro i hil
      obtain ⟨cs', hc, htr⟩ := hi i (by omega)
      rw [hC] at hc
      obtain ⟨_, hcl, hat⟩ := World.cells?_some hc
      obtain ⟨x, rfl, hG⟩ := hel n cs' _ hcl htr
      refine ⟨x, hG, fun r u hu => ?_⟩
      have hr : r < k := by have := (List.getElem?_eq_some_iff.1 hu).1; omega
      rw [← Go.Deep.add_add, hat r hr]
      exact hu
    obtain ⟨l, hll, hp⟩ := collect len hw
    refine ⟨some a, len, cap, l, rfl, hll.symm, ⟨by rw [flat_len hk, hll], fun hn => ?_⟩, hl, by simp, fun x hx => ?_⟩
    · obtain ⟨b, o, spot⟩ := a
      have hcell : ∀ j u, (l.flatMap f)[j]? = some u → w.cell? ((⟨b, o, spot⟩ : Addr).add j) = some u := by
        intro j u hu
        obtain ⟨i, r, hi, rfl, hu'⟩ := flat_at hk l j u hu
        exact (hp i hi).2 r u hu'
      have h0 : (l.flatMap f).length = len * k := by rw [flat_len hk, hll]
      have hpos : 0 < (l.flatMap f).length := by rw [h0]; exact Nat.mul_pos hn hk0
      have hc0 := hcell 0 _ (List.getElem?_eq_getElem hpos)
      have hb := World.block_lt_of_cell? w _ hc0
      have hs : spot = none := by simpa [Addr.add] using World.cell?_spot hc0
      subst hs
      exact ⟨b, o, rfl, by simpa [Addr.add] using hb, trivial, fun j u hu => by rw [← add_mk]; exact hcell j u hu⟩
    · obtain ⟨i, hi, rfl⟩ := List.getElem_of_mem hx
      exact (hp i hi).1
end

theorem list6 {α : Type} (l : List α) (h : l.length = 6) : ∃ a b c d e f, l = [a, b, c, d, e, f] := by
  match l, h with
  | [a, b, c, d, e, f], _ => exact ⟨a, b, c, d, e, f, rfl⟩
theorem list4 {α : Type} (l : List α) (h : l.length = 4) : ∃ a b c d, l = [a, b, c, d] := by
  match l, h with
  | [a, b, c, d], _ => exact ⟨a, b, c, d, rfl⟩
theorem list3 {α : Type} (l : List α) (h : l.length = 3) : ∃ a b c, l = [a, b, c] := by
  match l, h with
  | [a, b, c], _ => exact ⟨a, b, c, rfl⟩
theorem bounds_i64 {n : Int} (h : (Lit.int .i64 n).wf = true) : -9223372036854775808 ≤ n ∧ n ≤ 9223372036854775807 := by
  simp [Lit.wf, IntKind.min, IntKind.max, IntKind.bits, IntKind.signed] at h
  omega
set_option maxRecDepth 100000 in
theorem trod_word {H : Type} {enc : TypeId × Value → H} {w : World} {base : Nat} {spare : Nat → Bool} {held : Bool} (n : Nat) (cs : List Value) (y : DataW H × List MemPlace) (hl : cs.length = 3)
    (h : DataW.trod enc Tryd.prog w base spare held n 37 cs = some y) : ∃ a : Int × Int × Int, cs = [.int .i64 a.1, .int .u32 a.2.1, .int .u32 a.2.2] ∧ (Lit.int .i64 a.1).wf = true ∧ (Lit.int .u32 a.2.1).wf = true ∧ (Lit.int .u32 a.2.2).wf = true := by
  obtain ⟨ys, m, _, _, _, hyl, hf⟩ := DataW.trod_struct Tryd.underlying37 h
  have c2 : Tryd.prog.cellsOf 2 = 1 := by kernel_rfl
  have c4 : Tryd.prog.cellsOf 35 = 1 := by kernel_rfl
  obtain ⟨u0, u1, u2, rfl⟩ := list3 cs hl
  obtain ⟨y0, y1, y2, rfl⟩ := list3 ys hyl
  have h0 := hf 0 _ rfl
  have h1 := hf 1 _ rfl
  have h2 := hf 2 _ rfl
  simp only [c2, c4, List.drop_zero, List.drop_succ_cons, List.take_succ_cons, List.take_zero, List.getElem?_cons_zero, List.getElem?_cons_succ] at h0 h1 h2
  obtain ⟨a, ha, _, w0⟩ := DataW.trod_int Tryd.underlying2 h0
  obtain ⟨b, hb, _, w1⟩ := DataW.trod_int Tryd.underlying35 h1
  obtain ⟨c, hc, _, w2⟩ := DataW.trod_int Tryd.underlying35 h2
  injection ha with ha; injection hb with hb; injection hc with hc
  subst ha hb hc
  exact ⟨(a, b, c), rfl, w0, w1, w2⟩
set_option maxRecDepth 100000 in
theorem trod_entry {H : Type} {enc : TypeId × Value → H} {w : World} {base : Nat} {spare : Nat → Bool} {held : Bool} (n : Nat) (cs : List Value) (y : DataW H × List MemPlace) (hl : cs.length = 6)
    (h : DataW.trod enc Tryd.prog w base spare held n 46 cs = some y) : ∃ e : Ent, cs = entC e ∧ EntWf e := by
  obtain ⟨ys, m, _, _, _, hyl, hf⟩ := DataW.trod_struct Tryd.underlying46 h
  have c1 : Tryd.prog.cellsOf 44 = 1 := by kernel_rfl
  have c2 : Tryd.prog.cellsOf 37 = 3 := by kernel_rfl
  have c3 : Tryd.prog.cellsOf 2 = 1 := by kernel_rfl
  have c4 : Tryd.prog.cellsOf 4 = 1 := by kernel_rfl
  obtain ⟨u0, u1, u2, u3, u4, u5, rfl⟩ := list6 cs hl
  obtain ⟨y0, y1, y2, y3, rfl⟩ := list4 ys hyl
  have h0 := hf 0 _ rfl
  have h1 := hf 1 _ rfl
  have h2 := hf 2 _ rfl
  have h3 := hf 3 _ rfl
  simp only [c1, c2, c3, c4, List.drop_zero, List.drop_succ_cons, List.take_succ_cons, List.take_zero, List.getElem?_cons_zero, List.getElem?_cons_succ] at h0 h1 h2 h3
  obtain ⟨a, ha, _, w0⟩ := DataW.trod_int Tryd.underlying44 h0
  obtain ⟨v, hv, w1, w2, w3⟩ := trod_word _ _ _ rfl h1
  obtain ⟨b, hb, _, w4⟩ := DataW.trod_int Tryd.underlying2 h2
  obtain ⟨c, hc, _⟩ := DataW.trod_bool Tryd.underlying4 h3
  have d0 := bounds_i64 w0
  have d1 := bounds_i64 w1
  have d2 := bounds_u32 w2
  have d3 := bounds_u32 w3
  have d4 := bounds_i64 w4
  refine ⟨⟨a, v.1, v.2.1, v.2.2, b, c⟩, ?_, ⟨⟨by dsimp only; omega, by dsimp only; omega⟩, ⟨d0.1, d0.2⟩, ⟨d1.1, d1.2⟩, ⟨d4.1, d4.2⟩⟩⟩
  injection ha with ha
  injection hv with hv1 hv
  injection hv with hv2 hv
  injection hv with hv3 hv
  injection hb with hb
  injection hc with hc
  subst ha hv1 hv2 hv3 hb hc
  rfl
set_option maxRecDepth 100000 in
theorem ents_arg {H : Type} {enc : TypeId × Value → H} {w : World} {A : Option Addr} {n c : Nat} {d : DataW H} {p : List MemPlace} (h : DataW.Trod enc Tryd.prog w 0 (fun _ => true) true 22 (.slice A n c) d p) :
    ∃ l : List Ent, Ents w (fun _ => True) A n l ∧ (∀ e ∈ l, EntWf e) ∧ n ≤ c ∧ (A = none → n = 0 ∧ c = 0) := by
  obtain ⟨fuel, hf⟩ := h
  obtain ⟨A', n', c', l, hcs, hn, hR, hnc, hA, hG⟩ := open_rows (f := entC) (k := 6) entC_len (by omega) EntWf Tryd.underlying22 (by kernel_rfl) (fun m cs' y hl ht => trod_entry m cs' y hl ht) hf
  injection hcs with hcs _
  injection hcs with e1 e2 e3
  subst e1 e2 e3
  exact ⟨l, ⟨hn, hR⟩, hG, hnc, fun h => by have := hA h; omega⟩
theorem gPowT : (Tryd.prog.globals[0]?).map (·.type) = some 108 := by kernel_rfl
theorem pow_of {W : World} (h : laidMetH Tryd.prog Rows.entryChecksRow.laid W) : Pow W := by
  rw [MakeChecks.laidMetH_plain _ _ _ (by kernel_rfl)] at h
  exact Lib.tabIs_of_head gPow gPowT Tryd.underlying108 Tryd.underlying77 (by kernel_rfl) (by kernel_rfl) h.tail.tail
end Go.Proofs.YtilapnejkdgomaaDoor
