/- How the arguments of law28's laws are opened: acts with their writes and their raw entries. -/
import Derived.Test.YtpejhgkcofilmaaOpenC
import Derived.Test.YtpejhgkcofilmaaRk
set_option linter.unusedVariables false
set_option linter.unusedSimpArgs false
namespace Go.Proofs.Ytpejhgkcofilmaa
open Go.ChangeShapes Go.WideShapes Go.ChangeAt Go.RowKit Go.Deep Go.OpenShut

theorem list4' {α : Type} (l : List α) (h : l.length = 4) : ∃ a b c d, l = [a, b, c, d] := by
  match l, h with
  | [a, b, c, d], _ => exact ⟨a, b, c, d, rfl⟩
theorem list6' {α : Type} (l : List α) (h : l.length = 6) : ∃ a b c d e f, l = [a, b, c, d, e, f] := by
  match l, h with
  | [a, b, c, d, e, f], _ => exact ⟨a, b, c, d, e, f, rfl⟩
set_option maxRecDepth 100000 in
theorem trod_wr {H : Type} {enc : TypeId × Value → H} {w : World} {base : Nat} {spare : Nat → Bool} {held : Bool} (n : Nat) (cs : List Value) (y : DataW H × List MemPlace) (hl : cs.length = 4)
    (h : DataW.trod enc Try.prog w base spare held n 156 cs = some y) : ∃ x : Wr, cs = wrC x ∧ (0 ≤ x.pl ∧ x.pl ≤ 255) := by
  obtain ⟨ys, m, _, _, _, hyl, hf⟩ := DataW.trod_struct Try.underlying156 h
  have c1 : Try.prog.cellsOf 5 = 1 := by kernel_rfl
  have c2 : Try.prog.cellsOf 2 = 1 := by kernel_rfl
  have c3 : Try.prog.cellsOf 4 = 1 := by kernel_rfl
  obtain ⟨u0, u1, u2, u3, rfl⟩ := list4' cs hl
  obtain ⟨y0, y1, y2, y3, rfl⟩ := list4' ys hyl
  have h0 := hf 0 _ rfl
  have h1 := hf 1 _ rfl
  have h2 := hf 2 _ rfl
  have h3 := hf 3 _ rfl
  simp only [c1, c2, c3, List.drop_zero, List.drop_succ_cons, List.take_succ_cons, List.take_zero, List.getElem?_cons_zero, List.getElem?_cons_succ] at h0 h1 h2 h3
  obtain ⟨a, ha, _, w0⟩ := DataW.trod_int Try.underlying5 h0
  obtain ⟨b, hb, _, w1⟩ := DataW.trod_int Try.underlying2 h1
  obtain ⟨c, hc, _⟩ := DataW.trod_bool Try.underlying4 h2
  obtain ⟨d, hd, _⟩ := DataW.trod_bool Try.underlying4 h3
  injection ha with ha; injection hb with hb; injection hc with hc; injection hd with hd
  subst ha hb hc hd
  exact ⟨⟨a, b, c, d⟩, rfl, bounds_u8 w0⟩
set_option maxRecDepth 100000 in
theorem trod_ent {H : Type} {enc : TypeId × Value → H} {w : World} {base : Nat} {spare : Nat → Bool} {held : Bool} (n : Nat) (cs : List Value) (y : DataW H × List MemPlace) (hl : cs.length = 6)
    (h : DataW.trod enc Try.prog w base spare held n 69 cs = some y) : ∃ x : Ent, cs = entC x ∧ EntOk x := by
  obtain ⟨ys, m, _, _, _, hyl, hf⟩ := DataW.trod_struct Try.underlying69 h
  have c1 : Try.prog.cellsOf 67 = 1 := by kernel_rfl
  have c2 : Try.prog.cellsOf 62 = 3 := by kernel_rfl
  have c3 : Try.prog.cellsOf 2 = 1 := by kernel_rfl
  have c4 : Try.prog.cellsOf 4 = 1 := by kernel_rfl
  have c5 : Try.prog.cellsOf 60 = 1 := by kernel_rfl
  obtain ⟨u0, u1, u2, u3, u4, u5, rfl⟩ := list6' cs hl
  obtain ⟨y0, y1, y2, y3, rfl⟩ := list4' ys hyl
  have h0 := hf 0 _ rfl
  have h1 := hf 1 _ rfl
  have h2 := hf 2 _ rfl
  have h3 := hf 3 _ rfl
  simp only [c1, c2, c3, c4, Nat.add_zero, Nat.reduceAdd, List.drop_zero, List.drop_succ_cons, List.take_succ_cons, List.take_zero, List.getElem?_cons_zero, List.getElem?_cons_succ] at h0 h1 h2 h3
  obtain ⟨a, ha, _, w0⟩ := DataW.trod_int Try.underlying67 h0
  obtain ⟨ys2, m2, _, _, _, hyl2, hf2⟩ := DataW.trod_struct Try.underlying62 h1
  obtain ⟨z0, z1, z2, rfl⟩ := list3 ys2 hyl2
  have g0 := hf2 0 _ rfl
  have g1 := hf2 1 _ rfl
  have g2 := hf2 2 _ rfl
  simp only [c3, c5, List.drop_zero, List.drop_succ_cons, List.take_succ_cons, List.take_zero, List.getElem?_cons_zero, List.getElem?_cons_succ] at g0 g1 g2
  obtain ⟨v, hv, _, w1⟩ := DataW.trod_int Try.underlying2 g0
  obtain ⟨ve, hve, _, w2⟩ := DataW.trod_int Try.underlying60 g1
  obtain ⟨re, hre, _, w3⟩ := DataW.trod_int Try.underlying60 g2
  obtain ⟨ne, hne, _, w4⟩ := DataW.trod_int Try.underlying2 h2
  obtain ⟨b, hb, _⟩ := DataW.trod_bool Try.underlying4 h3
  injection ha with ha; injection hv with hv; injection hve with hve; injection hre with hre; injection hne with hne; injection hb with hb
  subst ha hv hve hre hne hb
  have := bounds_u32 w2
  have := bounds_u32 w3
  exact ⟨⟨a, v, ve, re, ne, b⟩, rfl, by unfold EntOk; dsimp only; omega⟩
set_option maxRecDepth 100000 in
theorem trod_sact {H : Type} {enc : TypeId × Value → H} {w : World} {base : Nat} {spare : Nat → Bool} {held : Bool} (n : Nat) (cs : List Value) (y : DataW H × List MemPlace) (hl : cs.length = 4)
    (h : DataW.trod enc Try.prog w base spare held n 93 cs = some y) : ∃ a : SA, cs = saL a ∧ a.ok w (fun _ => True) := by
  obtain ⟨ys, m, _, _, _, hyl, hf⟩ := DataW.trod_struct Try.underlying93 h
  have c1 : Try.prog.cellsOf 5 = 1 := by kernel_rfl
  have c2 : Try.prog.cellsOf 90 = 1 := by kernel_rfl
  have c3 : Try.prog.cellsOf 3 = 1 := by kernel_rfl
  have c4 : Try.prog.cellsOf 91 = 1 := by kernel_rfl
  obtain ⟨u0, u1, u2, u3, rfl⟩ := list4' cs hl
  obtain ⟨y0, y1, y2, y3, rfl⟩ := list4' ys hyl
  have h0 := hf 0 _ rfl
  have h1 := hf 1 _ rfl
  have h2 := hf 2 _ rfl
  have h3 := hf 3 _ rfl
  simp only [c1, c2, c3, c4, List.drop_zero, List.drop_succ_cons, List.take_succ_cons, List.take_zero, List.getElem?_cons_zero, List.getElem?_cons_succ] at h0 h1 h2 h3
  obtain ⟨a, ha, _, w0⟩ := DataW.trod_int Try.underlying5 h0
  obtain ⟨b, hb, _, w1⟩ := DataW.trod_int Try.underlying3 h2
  injection ha with ha; injection hb with hb
  subst ha hb
  obtain ⟨A, k, c, l, e3, e4, e5, e6, e7, e8⟩ := open_rows (f := wrC) (k := 4) (fun _ => rfl) (by omega) (fun x => 0 ≤ x.pl ∧ x.pl ≤ 255)
    Try.underlying90 (show Try.prog.cellsOf 156 = 4 by kernel_rfl) (fun n cs' y hl h => trod_wr n cs' y hl h) h1
  obtain ⟨A2, k2, c2', l2, f3, f4, f5, f6, f7, f8⟩ := open_rows (f := entC) (k := 6) (fun _ => rfl) (by omega) EntOk
    Try.underlying91 (show Try.prog.cellsOf 69 = 6 by kernel_rfl) (fun n cs' y hl h => trod_ent n cs' y hl h) h3
  injection e3 with e3; injection f3 with f3
  subst e3 f3
  exact ⟨⟨a, b, A, k, c, l, A2, k2, c2', l2⟩, rfl, bounds_u8 w0, ⟨⟨e4, e8⟩, e5⟩, ⟨f4, f5⟩, f6, f8⟩
set_option maxRecDepth 100000 in
/-- A slice's length, as the claim's inputs have it. -/
theorem slice_len {w : World} {r : Reach} {base : Nat} {t e : TypeId} {a : Option Addr} {len cap : Nat} (ht : Try.prog.underlying t = some (.slice e)) (h : Value.okWide Try.prog w r base t (.slice a len cap)) : len ≤ 9223372036854775807 := by
  simp only [Value.okWide, ht, Cell.okWide] at h
  cases a with
  | none =>
    cases len with
    | zero => omega
    | succ k => simp_all [Cell.ok]
  | some b =>
    simp only [Cell.ok, ht] at h
    have h2 : (cap : Int) ≤ 9223372036854775807 := by simpa [IntKind.max, IntKind.bits, IntKind.signed] using h.2.1
    omega
/-- The argument's slice of acts. -/
theorem sacts_arg {H : Type} {enc : TypeId × Value → H} {w : World} {A : Option Addr} {n c : Nat} {d : DataW H} {p : List MemPlace} (h : DataW.Trod enc Try.prog w 0 (fun _ => true) true 74 (.slice A n c) d p) :
    ∃ l : List SA, SAs w (fun _ => True) A n l := by
  obtain ⟨fuel, hf⟩ := h
  obtain ⟨A', n', c', l, h1, h2, h3, h4, h5, h6⟩ := open_rows (f := saL) (k := 4) (fun _ => rfl) (by omega) (fun a => a.ok w (fun _ => True))
    Try.underlying74 (show Try.prog.cellsOf 93 = 4 by kernel_rfl) (fun n cs' y hl h => trod_sact n cs' y hl h) hf
  simp [Value.cells] at h1
  obtain ⟨rfl, rfl, rfl⟩ := h1
  exact ⟨l, h2, h3, h6⟩
theorem bytes_arg {H : Type} {enc : TypeId × Value → H} {w : World} {A : Option Addr} {n c : Nat} {d : DataW H} {p : List MemPlace} (h : DataW.Trod enc Try.prog w 0 (fun _ => true) true 86 (.slice A n c) d p) :
    ∃ l : List Int, n = l.length ∧ Reads w (fun _ => True) 1 A n (l.flatMap fun a => [Value.int .u8 a]) ∧ ∀ x ∈ l, 0 ≤ x ∧ x ≤ 255 := by
  obtain ⟨fuel, hf⟩ := h
  obtain ⟨A', n', c', l, h1, h2, h3, h4, h5, h6⟩ := open_rows (f := fun a : Int => [.int .u8 a]) (k := 1) (fun _ => rfl) (by omega) (fun x => 0 ≤ x ∧ x ≤ 255)
    Try.underlying86 (show Try.prog.cellsOf 5 = 1 by kernel_rfl) (fun n cs' y hl h => by obtain ⟨a, ha, _, w0⟩ := DataW.trod_int Try.underlying5 h; exact ⟨a, ha, bounds_u8 w0⟩) hf
  simp [Value.cells] at h1
  obtain ⟨rfl, rfl, rfl⟩ := h1
  exact ⟨l, h2, h3, h6⟩
end Go.Proofs.Ytpejhgkcofilmaa
