/- How a law's argument that is a program is opened. No condition. -/
import Derived.Test.YthfjkdgaiaokdaaDoorSyK
import Derived.Test.YthfjkdgaiaokdaaDoorSyF
import Derived.ShutString
import Derived.ChangeOld
import Derived.Below
import Derived.Deep.Slices
import Derived.Deep.Fields
import Derived.ChangeSame
import Derived.ChangeArms
import Derived.Lib.LaidTab
import Derived.ProofKit
import Derived.OpenShut
import Derived.RowKit
set_option linter.unusedVariables false
set_option linter.unusedSimpArgs false
namespace Go.Proofs.YthfjkdgaiaokdaaDoor
open Go.ChangeShapes Go.WideShapes Go.ChangeAt Go.RowKit Go.Deep Go.OpenShut

theorem laidOut : laidOutB Tryd.prog = true := by kernel_rfl
theorem collect {α : Type} {P : Nat → α → Prop} (n : Nat) (h : ∀ i, i < n → ∃ x, P i x) : ∃ l : List α, l.length = n ∧ ∀ i x, l[i]? = some x → P i x := by
  induction n with
  | zero => exact ⟨[], rfl, fun i x hi => by simp at hi⟩
  | succ n ih =>
    obtain ⟨l, hl, hp⟩ := ih fun i hi => h i (by omega)
    obtain ⟨x, hx⟩ := h n (by omega)
    refine ⟨l ++ [x], by simp [hl], fun i y hi => ?_⟩
    rcases Nat.lt_or_ge i l.length with h1 | h1
    · rw [List.getElem?_append_left h1] at hi; exact hp i y hi
    · have h3 := (List.getElem?_eq_some_iff.1 hi).1
      have h2 : i = l.length := by simp at h3; omega
      subst h2
      obtain rfl : x = y := by simpa using hi
      rwa [hl]
theorem all_app {α : Type} {f : α → Bool} {a b : List α} (h : (a ++ b).all f = true) : a.all f = true ∧ b.all f = true := by simpa using h
section
variable {H : Type} {enc : TypeId × Value → H} {P : Program} {w : World} {base : Nat} {spare : Nat → Bool} {held : Bool}
theorem open_any {α : Type} {k : Nat} (hk0 : 0 < k) (R : α → List Value → DataW H → Prop) {t e : TypeId} {fuel : Nat} {cs : List Value} {x : DataW H × List MemPlace} (ht : P.underlying t = some (.slice e)) (hC : P.cellsOf e = k)
    (hel : ∀ n, n < fuel → ∀ cs' y, cs'.length = k → DataW.trod enc P w base spare held n e cs' = some y → ∃ x, R x cs' y.1)
    (h : DataW.trod enc P w base spare held fuel t cs = some x) :
    ∃ (A : Option Addr) (n c : Nat) (l : List α), cs = [.slice A n c] ∧ n = l.length ∧ n ≤ c ∧ (A = none → c = 0) ∧
      ((n = 0 ∧ l = []) ∨ ∃ (elems spares : List (DataW H)), x.1 = .slice elems spares ∧ elems.length = n ∧ ∀ (i : Nat) (y : α), l[i]? = some y → ∃ cs' d, elems[i]? = some d ∧ R y cs' d) ∧
      (0 < n → ∃ b q, A = some ⟨b, q, none⟩ ∧ b < w.heap.size ∧ ∀ (i : Nat) (y : α), l[i]? = some y → ∃ cs' d, R y cs' d ∧ w.rangeAt b (q + i * k) cs') := by
  rcases DataW.trod_slice ht h with ⟨rfl, _⟩ | ⟨a, len, cap, elems, rest, n, hn, rfl, rfl, _, hl, hm, hlen, hi, _⟩
  · exact ⟨none, 0, 0, [], rfl, rfl, Nat.le_refl _, fun _ => rfl, .inl ⟨rfl, rfl⟩, fun h => absurd h (by omega)⟩
  · rw [hC] at hi
    obtain ⟨l, hll, hp⟩ := collect (P := fun i (y : α) => ∃ cs' d, (elems.map (·.1))[i]? = some d ∧ R y cs' d ∧ cs'.length = k ∧ ∀ r, r < k → w.cell? ((a.add (i * k)).add r) = cs'[r]?) len (fun i hil => by
      have h1 := hi i hil
      rw [List.getElem?_eq_getElem (show i < elems.length by omega)] at h1
      obtain ⟨cs', hc, htr⟩ := Option.bind_eq_some_iff.1 h1
      obtain ⟨_, hcl, hat⟩ := World.cells?_some hc
      obtain ⟨y, hy⟩ := hel n (by omega) cs' _ hcl htr
      exact ⟨y, cs', elems[i].1, by rw [List.getElem?_map, List.getElem?_eq_getElem (show i < elems.length by omega)]; rfl, hy, hcl, fun r hr => hat r hr⟩)
    refine ⟨some a, len, cap, l, rfl, hll.symm, hl, by simp, .inr ⟨_, _, rfl, by simp [hlen], fun i y hy => ?_⟩, fun hn0 => ?_⟩
    · obtain ⟨cs', d, h1, h2, _⟩ := hp i y hy
      exact ⟨cs', d, h1, h2⟩
    · obtain ⟨b, o, spot⟩ := a
      obtain ⟨cs0, d0, _, _, hc0, ha0⟩ := hp 0 l[0] (List.getElem?_eq_getElem (by omega))
      have h0 := ha0 0 hk0
      rw [List.getElem?_eq_getElem (show 0 < cs0.length by omega)] at h0
      have hb := World.block_lt_of_cell? w _ h0
      have hs : spot = none := by simpa [Addr.add] using World.cell?_spot h0
      subst hs
      refine ⟨b, o, rfl, by simpa [Addr.add] using hb, fun i y hy => ?_⟩
      obtain ⟨cs', d, _, h2, h3, h4⟩ := hp i y hy
      refine ⟨cs', d, h2, fun r u hu => ?_⟩
      have hr : r < k := by have := (List.getElem?_eq_some_iff.1 hu).1; omega
      have := h4 r hr
      rw [hu, add_mk, add_mk] at this
      exact this
end
theorem list6 {α : Type} (l : List α) (h : l.length = 6) : ∃ a b c d e f, l = [a, b, c, d, e, f] := by
  match l, h with
  | [a, b, c, d, e, f], _ => exact ⟨a, b, c, d, e, f, rfl⟩
theorem list11 {α : Type} (l : List α) (h : l.length = 11) : ∃ a b c d e f a2 b2 c2 d2 e2, l = [a, b, c, d, e, f, a2, b2, c2, d2, e2] := by
  match l, h with
  | [a, b, c, d, e, f, a2, b2, c2, d2, e2], _ => exact ⟨a, b, c, d, e, f, a2, b2, c2, d2, e2, rfl⟩
theorem list3 {α : Type} (l : List α) (h : l.length = 3) : ∃ a b c, l = [a, b, c] := by
  match l, h with
  | [a, b, c], _ => exact ⟨a, b, c, rfl⟩
theorem list2 {α : Type} (l : List α) (h : l.length = 2) : ∃ a b, l = [a, b] := by
  match l, h with
  | [a, b], _ => exact ⟨a, b, rfl⟩
theorem inr_i64 {n : Int} (h : (Lit.int .i64 n).wf = true) : InR n := by
  simp [Lit.wf, IntKind.min, IntKind.max, IntKind.bits, IntKind.signed] at h
  unfold InR
  omega
theorem Ex.Wss_of : ∀ {l : List Ex}, (∀ e ∈ l, e.Ws) → Ex.Wss l
  | [], _ => by rw [Ex.Wss]; trivial
  | e :: t, h => by rw [Ex.Wss]; exact ⟨h e (by simp), Ex.Wss_of fun x hx => h x (by simp [hx])⟩
theorem St.Wss_of : ∀ {l : List St}, (∀ e ∈ l, e.Ws) → St.Wss l
  | [], _ => by rw [St.Wss]; trivial
  | e :: t, h => by rw [St.Wss]; exact ⟨h e (by simp), St.Wss_of fun x hx => h x (by simp [hx])⟩
section
variable {H : Type} {enc : TypeId × Value → H} {w : World} {base : Nat} {spare : Nat → Bool} {held : Bool}
theorem trod_str (n : Nat) (v : Value) (y : DataW H × List MemPlace) (h : DataW.trod enc Tryd.prog w base spare held n 9 [v] = some y) : ∃ s : Str, v = .string (bs s) ∧ s.length ≤ 9223372036854775807 := by
  obtain ⟨s, hs, _, hm⟩ := DataW.trod_string Tryd.underlying9 h
  injection hs with hs
  exact ⟨s.data.toList, by rw [hs, bs_eta], by have : s.size ≤ maxLen := hm; unfold maxLen at this; have e : s.data.toList.length = s.size := rfl; omega⟩
theorem trod_i64 {t : TypeId} (ht : Tryd.prog.underlying t = some (.int .i64)) (n : Nat) (v : Value) (y : DataW H × List MemPlace) (h : DataW.trod enc Tryd.prog w base spare held n t [v] = some y) : ∃ i : Int, v = .int .i64 i ∧ InR i := by
  obtain ⟨i, hi, _, hm⟩ := DataW.trod_int ht h
  injection hi with hi
  exact ⟨i, hi, inr_i64 hm⟩
theorem cell_string : Tryd.prog.cellsOf 9 = 1 := by kernel_rfl
theorem cell_int : Tryd.prog.cellsOf 3 = 1 := by kernel_rfl
theorem cell_i64 : Tryd.prog.cellsOf 2 = 1 := by kernel_rfl
theorem cell_exs : Tryd.prog.cellsOf 42 = 1 := by kernel_rfl
theorem cell_sts : Tryd.prog.cellsOf 39 = 1 := by kernel_rfl
theorem cell_ex : Tryd.prog.cellsOf 44 = 6 := by kernel_rfl
theorem cell_st : Tryd.prog.cellsOf 46 = 11 := by kernel_rfl
theorem cell_strs : Tryd.prog.cellsOf 38 = 1 := by kernel_rfl
set_option maxRecDepth 100000 in
theorem trod_expr (n : Nat) : ∀ (cs : List Value) (y : DataW H × List MemPlace), cs.length = 6 → DataW.trod enc Tryd.prog w base spare held n 44 cs = some y → ∃ e : Ex, XV w (fun _ => True) e cs ∧ e.Ws := by
  induction n using Nat.strongRecOn with
  | _ n ih =>
    intro cs y hl h
    obtain ⟨ys, m, hm, _, _, hyl, hf⟩ := DataW.trod_struct Tryd.underlying44 h
    obtain ⟨u0, u1, u2, u3, u4, u5, rfl⟩ := list6 cs hl
    obtain ⟨y0, y1, y2, y3, y4, y5, rfl⟩ := list6 ys hyl
    have h0 := hf 0 _ rfl
    have h1 := hf 1 _ rfl
    have h2 := hf 2 _ rfl
    have h3 := hf 3 _ rfl
    have h4 := hf 4 _ rfl
    have h5 := hf 5 _ rfl
    simp only [cell_string, cell_int, cell_i64, cell_exs, List.drop_zero, List.drop_succ_cons, List.take_succ_cons, List.take_zero, List.getElem?_cons_zero, List.getElem?_cons_succ] at h0 h1 h2 h3 h4 h5
    obtain ⟨k, rfl, _⟩ := trod_i64 Tryd.underlying3 _ _ _ h0
    obtain ⟨v, rfl, hv⟩ := trod_i64 Tryd.underlying2 _ _ _ h1
    obtain ⟨s, rfl, hs⟩ := trod_str _ _ _ h2
    obtain ⟨me, rfl, hme⟩ := trod_str _ _ _ h3
    have step : ∀ (u : Value) (z : DataW H × List MemPlace), DataW.trod enc Tryd.prog w base spare held m 42 [u] = some z → ∃ (A : Option Addr) (n c : Nat) (l : List Ex), u = .slice A n c ∧ XL w (fun _ => True) A n c l ∧ Ex.Wss l := fun u z hz => by
      obtain ⟨A, n', c, l, e1, e2, e3, e4, e5, e6⟩ := open_any (k := 6) (by omega) (fun (e : Ex) cs' _ => XV w (fun _ => True) e cs' ∧ e.Ws) Tryd.underlying42 cell_ex (fun n1 hn1 cs' y' hl' hy' => ih n1 (by omega) cs' y' hl' hy') hz
      injection e1 with e1
      refine ⟨A, n', c, l, e1, ⟨⟨e2, e3, e4⟩, fun hn => ?_⟩, Ex.Wss_of fun e he => ?_⟩
      · obtain ⟨b, q, g1, g2, g3⟩ := e6 hn
        refine ⟨b, q, g1, g2, trivial, XLf_of fun j x hj => ?_⟩
        obtain ⟨cs', _, ⟨r1, _⟩, r2⟩ := g3 j x hj
        exact ⟨cs', r1, by rwa [Nat.zero_add]⟩
      · obtain ⟨i, hi⟩ := List.getElem?_of_mem he
        rcases e5 with ⟨_, rfl⟩ | ⟨_, _, _, _, g⟩
        · cases he
        · obtain ⟨_, _, _, r⟩ := g i e hi
          exact r.2
    obtain ⟨A, na, ca, a, rfl, hA, wA⟩ := step _ _ h4
    obtain ⟨O, no, co, o, rfl, hO, wO⟩ := step _ _ h5
    exact ⟨.mk k v s me a o, XV.shut hv hA hO, by rw [Ex.Ws]; exact ⟨hs, hme, wA, wO⟩⟩
set_option maxRecDepth 100000 in
theorem trod_stmt (n : Nat) : ∀ (cs : List Value) (y : DataW H × List MemPlace), cs.length = 11 → DataW.trod enc Tryd.prog w base spare held n 46 cs = some y → ∃ e : St, SV w (fun _ => True) e cs ∧ e.Ws := by
  induction n using Nat.strongRecOn with
  | _ n ih =>
    intro cs y hl h
    obtain ⟨ys, m, hm, _, _, hyl, hf⟩ := DataW.trod_struct Tryd.underlying46 h
    obtain ⟨u0, u1, u2, u3, u4, u5, u6, u7, u8, u9, u10, rfl⟩ := list11 cs hl
    obtain ⟨y0, y1, y2, y3, y4, y5, rfl⟩ := list6 ys hyl
    have h0 := hf 0 _ rfl
    have h1 := hf 1 _ rfl
    have h2 := hf 2 _ rfl
    have h3 := hf 3 _ rfl
    have h4 := hf 4 _ rfl
    have h5 := hf 5 _ rfl
    simp only [cell_string, cell_int, cell_i64, cell_sts, cell_ex, List.drop_zero, List.drop_succ_cons, List.take_succ_cons, List.take_zero, List.getElem?_cons_zero, List.getElem?_cons_succ] at h0 h1 h2 h3 h4 h5
    obtain ⟨k, rfl, _⟩ := trod_i64 Tryd.underlying3 _ _ _ h0
    obtain ⟨s, rfl, hs⟩ := trod_str _ _ _ h1
    obtain ⟨v, rfl, hv⟩ := trod_i64 Tryd.underlying2 _ _ _ h2
    obtain ⟨e, he, hew⟩ := trod_expr _ _ _ rfl h3
    have step : ∀ (u : Value) (z : DataW H × List MemPlace), DataW.trod enc Tryd.prog w base spare held m 39 [u] = some z → ∃ (A : Option Addr) (n c : Nat) (l : List St), u = .slice A n c ∧ SL w (fun _ => True) A n c l ∧ St.Wss l := fun u z hz => by
      obtain ⟨A, n', c, l, e1, e2, e3, e4, e5, e6⟩ := open_any (k := 11) (by omega) (fun (e : St) cs' _ => SV w (fun _ => True) e cs' ∧ e.Ws) Tryd.underlying39 cell_st (fun n1 hn1 cs' y' hl' hy' => ih n1 (by omega) cs' y' hl' hy') hz
      injection e1 with e1
      refine ⟨A, n', c, l, e1, ⟨⟨e2, e3, e4⟩, fun hn => ?_⟩, St.Wss_of fun e he => ?_⟩
      · obtain ⟨b, q, g1, g2, g3⟩ := e6 hn
        refine ⟨b, q, g1, g2, trivial, SLf_of fun j x hj => ?_⟩
        obtain ⟨cs', _, ⟨r1, _⟩, r2⟩ := g3 j x hj
        exact ⟨cs', r1, by rwa [Nat.zero_add]⟩
      · obtain ⟨i, hi⟩ := List.getElem?_of_mem he
        rcases e5 with ⟨_, rfl⟩ | ⟨_, _, _, _, g⟩
        · cases he
        · obtain ⟨_, _, _, r⟩ := g i e hi
          exact r.2
    obtain ⟨B, nb, cb, b, rfl, hB, wB⟩ := step _ _ h4
    obtain ⟨L, nl, cl, l, rfl, hL, wL⟩ := step _ _ h5
    exact ⟨.mk k s v e b l, SV.shut hv he hB hL, by rw [St.Ws]; exact ⟨hs, hew, wB, wL⟩⟩
set_option maxRecDepth 100000 in
theorem trod_stmts (n : Nat) (u : Value) (z : DataW H × List MemPlace) (hz : DataW.trod enc Tryd.prog w base spare held n 39 [u] = some z) : ∃ (A : Option Addr) (n c : Nat) (l : List St), u = .slice A n c ∧ SL w (fun _ => True) A n c l ∧ St.Wss l := by
  obtain ⟨A, n', c, l, e1, e2, e3, e4, e5, e6⟩ := open_any (k := 11) (by omega) (fun (e : St) cs' _ => SV w (fun _ => True) e cs' ∧ e.Ws) Tryd.underlying39 cell_st (fun n1 hn1 cs' y' hl' hy' => trod_stmt n1 cs' y' hl' hy') hz
  injection e1 with e1
  refine ⟨A, n', c, l, e1, ⟨⟨e2, e3, e4⟩, fun hn => ?_⟩, St.Wss_of fun e he => ?_⟩
  · obtain ⟨b, q, g1, g2, g3⟩ := e6 hn
    refine ⟨b, q, g1, g2, trivial, SLf_of fun j x hj => ?_⟩
    obtain ⟨cs', _, ⟨r1, _⟩, r2⟩ := g3 j x hj
    exact ⟨cs', r1, by rwa [Nat.zero_add]⟩
  · obtain ⟨i, hi⟩ := List.getElem?_of_mem he
    rcases e5 with ⟨_, rfl⟩ | ⟨_, _, _, _, g⟩
    · cases he
    · obtain ⟨_, _, _, r⟩ := g i e hi
      exact r.2
/-- A list's rows, as RowOf has them. -/
theorem row_of {α : Type} {k n c : Nat} {A : Option Addr} {l : List α} {R : α → List Value → DataW H → Prop} {R' : Nat → List Value → Prop} (e2 : n = l.length) (e3 : n ≤ c) (e4 : A = none → c = 0)
    (e6 : 0 < n → ∃ b q, A = some ⟨b, q, none⟩ ∧ b < w.heap.size ∧ ∀ (i : Nat) (y : α), l[i]? = some y → ∃ cs' d, R y cs' d ∧ w.rangeAt b (q + i * k) cs') (hR : ∀ i y cs' d, l[i]? = some y → R y cs' d → R' i cs') : RowOf w (fun _ => True) k A n c R' :=
  ⟨⟨e3, e4⟩, fun hn => by
    obtain ⟨b, q, g1, g2, g3⟩ := e6 hn
    refine ⟨b, q, g1, g2, trivial, fun i hi => ?_⟩
    obtain ⟨cs', d, r1, r2⟩ := g3 i l[i] (List.getElem?_eq_getElem (by omega))
    exact ⟨cs', hR i _ _ _ (List.getElem?_eq_getElem (by omega)) r1, r2⟩⟩
set_option maxRecDepth 100000 in
theorem trod_oper (n : Nat) (cs : List Value) (y : DataW H × List MemPlace) (hl : cs.length = 3) (h : DataW.trod enc Tryd.prog w base spare held n 41 cs = some y) :
    ∃ o : Oper', OV w (fun _ => True) o cs ∧ o.name.length ≤ 9223372036854775807 ∧ (∀ s ∈ o.params, s.length ≤ 9223372036854775807) ∧ St.Wss o.body ∧ ((y.1.weights Tryd.prog 41).all (· ≤ reachBytes) = true → o.params.length ≤ 1152921504606846976) := by
  obtain ⟨ys, m, hm, hd, _, hyl, hf⟩ := DataW.trod_struct Tryd.underlying41 h
  obtain ⟨u0, u1, u2, rfl⟩ := list3 cs hl
  obtain ⟨y0, y1, y2, rfl⟩ := list3 ys hyl
  have h0 := hf 0 _ rfl
  have h1 := hf 1 _ rfl
  have h2 := hf 2 _ rfl
  simp only [cell_string, cell_strs, cell_sts, List.drop_zero, List.drop_succ_cons, List.take_succ_cons, List.take_zero, List.getElem?_cons_zero, List.getElem?_cons_succ] at h0 h1 h2
  obtain ⟨s, rfl, hs⟩ := trod_str _ _ _ h0
  obtain ⟨B, nb, cb, b, rfl, hB, wB⟩ := trod_stmts _ _ _ h2
  obtain ⟨A, na, ca, l, e1, e2, e3, e4, e5, e6⟩ := open_any (k := 1) (by omega) (fun (s : Str) cs' _ => cs' = [.string (bs s)] ∧ s.length ≤ 9223372036854775807) Tryd.underlying38 cell_string (fun n1 hn1 cs' y' hl' hy' => by
    obtain ⟨v, rfl⟩ := List.length_eq_one_iff.1 hl'
    obtain ⟨s, rfl, hs⟩ := trod_str _ _ _ hy'
    exact ⟨s, rfl, hs⟩) h1
  injection e1 with e1
  subst e1
  refine ⟨⟨s, l, b⟩, ⟨A, na, ca, B, nb, cb, rfl, ⟨e2, row_of e2 e3 e4 e6 fun i y cs' d hy hr => ⟨y, hy, hr.1⟩⟩, hB⟩, hs, fun e he => ?_, wB, fun hw => ?_⟩
  · obtain ⟨i, hi⟩ := List.getElem?_of_mem he
    rcases e5 with ⟨_, rfl⟩ | ⟨_, _, _, _, g⟩
    · cases he
    · obtain ⟨_, _, _, r⟩ := g i e hi
      exact r.2
  · rcases e5 with ⟨h5, rfl⟩ | ⟨el, sp, h5, h6, _⟩
    · simp
    · rw [hd] at hw
      simp only [DataW.weights, Tryd.underlying41, List.map_cons, List.map_nil, DataW.weightsEach] at hw
      have a0 := all_app hw
      have a1 := all_app a0.2
      have hw1 := a1.1
      rw [h5] at hw1
      have hb : Tryd.prog.bytesOf 9 = 16 := by kernel_rfl
      simp only [DataW.weights, Tryd.underlying38, List.all_cons, Bool.and_eq_true, decide_eq_true_eq, hb] at hw1
      have h7 := hw1.1
      unfold reachBytes at h7
      show l.length ≤ 1152921504606846976
      omega
set_option maxRecDepth 100000 in
theorem trod_decl (n : Nat) (cs : List Value) (y : DataW H × List MemPlace) (hl : cs.length = 2) (h : DataW.trod enc Tryd.prog w base spare held n 50 cs = some y) :
    ∃ d : Decl', cs = [.string (bs d.name), .string (bs d.kind)] ∧ d.name.length ≤ 9223372036854775807 ∧ d.kind.length ≤ 9223372036854775807 := by
  obtain ⟨ys, m, hm, hd, _, hyl, hf⟩ := DataW.trod_struct Tryd.underlying50 h
  obtain ⟨u0, u1, rfl⟩ := list2 cs hl
  obtain ⟨y0, y1, rfl⟩ := list2 ys hyl
  have h0 := hf 0 _ rfl
  have h1 := hf 1 _ rfl
  simp only [cell_string, List.drop_zero, List.drop_succ_cons, List.take_succ_cons, List.take_zero, List.getElem?_cons_zero, List.getElem?_cons_succ] at h0 h1
  obtain ⟨s, rfl, hs⟩ := trod_str _ _ _ h0
  obtain ⟨k, rfl, hk⟩ := trod_str _ _ _ h1
  exact ⟨⟨s, k⟩, rfl, hs, hk⟩
theorem all_each {P : Program} {e : TypeId} {f : Nat → Bool} : ∀ {l : List (DataW H)}, (DataW.weightsAll P e l).all f = true → ∀ d ∈ l, (d.weights P e).all f = true
  | a :: t, h, d, hd => by
    rw [DataW.weightsAll] at h
    have h2 := all_app h
    rcases List.mem_cons.1 hd with rfl | hd
    · exact h2.1
    · exact all_each h2.2 d hd
end
structure ProgX where
  D : Option Addr
  nd : Nat
  cd : Nat
  O : Option Addr
  no : Nat
  co : Nat
  p : Prog'
set_option maxRecDepth 100000 in
theorem prog_arg {H : Type} {enc : TypeId × Value → H} {w : World} {r : Reach} {b0 : Nat} {v : Value} {d : DataW H} {pl : List MemPlace} (hv : Value.okWide Tryd.prog w r b0 25 v) (h : DataW.Trod enc Tryd.prog w 0 (fun _ => true) true 25 v d pl) :
    ∃ x : ProgX, v = .agg #[.slice x.D x.nd x.cd, .slice x.O x.no x.co] ∧ PV w (fun _ => True) x.p (.agg #[.slice x.D x.nd x.cd, .slice x.O x.no x.co]) ∧ ((d.weights Tryd.prog 25).all (· ≤ reachBytes) = true → x.p.Ws) := by
  obtain ⟨cs, rfl, hs⟩ := okWide_struct Tryd.underlying25 hv
  obtain ⟨fuel, hf⟩ := h
  have hc : Tryd.prog.cellsOf 25 = 2 := by kernel_rfl
  have c1 : Tryd.prog.cellsOf 22 = 1 := by kernel_rfl
  have c2 : Tryd.prog.cellsOf 23 = 1 := by kernel_rfl
  have c3 : Tryd.prog.cellsOf 50 = 2 := by kernel_rfl
  have c4 : Tryd.prog.cellsOf 41 = 3 := by kernel_rfl
  have hf : DataW.trod enc Tryd.prog w 0 (fun _ => true) true fuel 25 cs.toList = some (d, pl) := hf
  obtain ⟨us, rfl⟩ : ∃ us, cs = us.toArray := ⟨cs.toList, by simp⟩
  obtain ⟨ys, m, _, hd, _, hyl, hg⟩ := DataW.trod_struct Tryd.underlying25 hf
  obtain ⟨u0, u1, rfl⟩ := list2 us (by rw [hc] at hs; simpa using hs)
  obtain ⟨y0, y1, rfl⟩ := list2 ys hyl
  have h0 := hg 0 _ rfl
  have h1 := hg 1 _ rfl
  simp only [c1, c2, List.drop_zero, List.drop_succ_cons, List.take_succ_cons, List.take_zero, List.getElem?_cons_zero, List.getElem?_cons_succ] at h0 h1
  obtain ⟨D, nd, cd, ds, e1, e2, e3, e4, e5, e6⟩ := open_any (k := 2) (by omega) (fun (d : Decl') cs' _ => cs' = [.string (bs d.name), .string (bs d.kind)] ∧ d.name.length ≤ 9223372036854775807 ∧ d.kind.length ≤ 9223372036854775807) Tryd.underlying22 c3 (fun n1 hn1 cs' y' hl' hy' => trod_decl n1 cs' y' hl' hy') h0
  obtain ⟨O, no, co, os, g1, g2, g3, g4, g5, g6⟩ := open_any (k := 3) (by omega) (fun (o : Oper') cs' (dd : DataW H) => OV w (fun _ => True) o cs' ∧ o.name.length ≤ 9223372036854775807 ∧ (∀ s ∈ o.params, s.length ≤ 9223372036854775807) ∧ St.Wss o.body ∧ ((dd.weights Tryd.prog 41).all (· ≤ reachBytes) = true → o.params.length ≤ 1152921504606846976)) Tryd.underlying23 c4 (fun n1 hn1 cs' y' hl' hy' => trod_oper n1 cs' y' hl' hy') h1
  injection e1 with e1
  injection g1 with g1
  subst e1 g1
  refine ⟨⟨D, nd, cd, O, no, co, ⟨ds, os⟩⟩, rfl, ⟨D, nd, cd, O, no, co, rfl, ⟨e2, row_of e2 e3 e4 e6 fun i y cs' d hy hr => ⟨y, hy, hr.1⟩⟩, ⟨g2, row_of g2 g3 g4 g6 fun i y cs' d hy hr => ⟨y, hy, hr.1⟩⟩⟩, fun hw => ⟨fun e he => ?_, fun o ho => ?_⟩⟩
  · obtain ⟨i, hi⟩ := List.getElem?_of_mem he
    rcases e5 with ⟨_, rfl⟩ | ⟨_, _, _, _, g⟩
    · cases he
    · obtain ⟨_, _, _, r⟩ := g i e hi
      exact r.2
  · obtain ⟨i, hi⟩ := List.getElem?_of_mem ho
    rcases g5 with ⟨_, rfl⟩ | ⟨el, sp, g7, g8, g⟩
    · cases ho
    · obtain ⟨cs', dd, k1, k2⟩ := g i o hi
      refine ⟨k2.2.2.2.2 ?_, k2.2.1, k2.2.2.1, k2.2.2.2.1⟩
      injection hd with hd _
      rw [hd] at hw
      simp only [DataW.weights, Tryd.underlying25, List.map_cons, List.map_nil, DataW.weightsEach] at hw
      have a0 := all_app hw
      have a1 := all_app a0.2
      have hw1 := a1.1
      rw [g7] at hw1
      simp only [DataW.weights, Tryd.underlying23, List.all_cons, Bool.and_eq_true] at hw1
      exact all_each (all_app hw1.2).1 dd (List.mem_of_getElem? k1)
end Go.Proofs.YthfjkdgaiaokdaaDoor
