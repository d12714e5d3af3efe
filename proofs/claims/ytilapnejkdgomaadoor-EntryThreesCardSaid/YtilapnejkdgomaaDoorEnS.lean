/- How the argument of EntryThrees, a run, is opened. -/
import Derived.Test.YtilapnejkdgomaaDoorEnO
import Derived.Test.YtilapnejkdgomaaDoorEnR
import Derived.ChangeArms
set_option linter.unusedVariables false
set_option linter.unusedSimpArgs false
namespace Go.Proofs.YtilapnejkdgomaaDoor
open Go.ChangeShapes Go.WideShapes Go.ChangeAt Go.RowKit Go.Deep Go.OpenShut

structure RunX where
  ws : List (Int × Int × Int)
  A : Option Addr
  na : Nat
  ca : Nat
  la : List Put
  B : Option Addr
  nb : Nat
  cb : Nat
  lb : List Put
  C : Option Addr
  nc : Nat
  cc : Nat
  lc : List Put
def PutsOk (w : World) (A : Option Addr) (n c : Nat) (l : List Put) : Prop := Puts w (fun _ => True) A n l ∧ n ≤ c ∧ ∀ p ∈ l, p.at_ < 256
section
variable {H : Type} {enc : TypeId × Value → H} {w : World} {base : Nat} {spare : Nat → Bool} {held : Bool}
set_option maxRecDepth 100000 in
theorem trod_words (n : Nat) (cs : List Value) (y : DataW H × List MemPlace) (hl : cs.length = 18) (h : DataW.trod enc Tryd.prog w base spare held n 38 cs = some y) :
    ∃ ws : List (Int × Int × Int), ws.length = 6 ∧ cs = w3C ws ∧ ∀ p ∈ ws, 0 ≤ p.2.1 := by
  obtain ⟨ys, m, _, _, _, hyl, hg⟩ := DataW.trod_array Tryd.underlying38 h
  have c3 : Tryd.prog.cellsOf 37 = 3 := by kernel_rfl
  obtain ⟨ws, hwl, hw⟩ := collect (P := fun i (p : Int × Int × Int) => (cs.drop (i * 3)).take 3 = [.int .i64 p.1, .int .u32 p.2.1, .int .u32 p.2.2] ∧ 0 ≤ p.2.1) 6 (fun i hi => by
    have h1 := hg i hi
    rw [c3, List.getElem?_eq_getElem (show i < ys.length by omega)] at h1
    obtain ⟨a, ha, _, w1, _⟩ := trod_word m _ _ (by rw [List.length_take, List.length_drop]; omega) h1
    have b1 := bounds_u32 w1
    exact ⟨a, ha, by omega⟩)
  refine ⟨ws, hwl, List.ext_getElem? fun k => ?_, fun p hp => ?_⟩
  · by_cases hk : k < 18
    · have hi : k / 3 < ws.length := by omega
      have h1 := (hw (k / 3) hi).1
      have h2 := w3C_at ws (k / 3) hi (k % 3) (by omega)
      rw [show k / 3 * 3 + k % 3 = k by omega] at h2
      rw [h2, ← h1, List.getElem?_take, if_pos (by omega), List.getElem?_drop, show k / 3 * 3 + k % 3 = k by omega]
    · rw [List.getElem?_eq_none (by omega), List.getElem?_eq_none (by rw [w3C_len, hwl]; omega)]
  · obtain ⟨i, hi, rfl⟩ := List.getElem_of_mem hp
    exact (hw i hi).2
set_option maxRecDepth 100000 in
theorem trod_put (n : Nat) (cs : List Value) (y : DataW H × List MemPlace) (hl : cs.length = 3) (h : DataW.trod enc Tryd.prog w base spare held n 71 cs = some y) : ∃ p : Put, cs = pC p ∧ p.at_ < 256 := by
  obtain ⟨ys, m, _, _, _, hyl, hf⟩ := DataW.trod_struct Tryd.underlying71 h
  have c1 : Tryd.prog.cellsOf 5 = 1 := by kernel_rfl
  have c2 : Tryd.prog.cellsOf 2 = 1 := by kernel_rfl
  have c3 : Tryd.prog.cellsOf 4 = 1 := by kernel_rfl
  obtain ⟨u0, u1, u2, rfl⟩ := list3 cs hl
  obtain ⟨y0, y1, y2, rfl⟩ := list3 ys hyl
  have h0 := hf 0 _ rfl
  have h1 := hf 1 _ rfl
  have h2 := hf 2 _ rfl
  simp only [c1, c2, c3, List.drop_zero, List.drop_succ_cons, List.take_succ_cons, List.take_zero, List.getElem?_cons_zero, List.getElem?_cons_succ] at h0 h1 h2
  obtain ⟨a, ha, _, w0⟩ := DataW.trod_int Tryd.underlying5 h0
  obtain ⟨b, hb, _, w1⟩ := DataW.trod_int Tryd.underlying2 h1
  obtain ⟨c, hc, _⟩ := DataW.trod_bool Tryd.underlying4 h2
  have d0 := bounds_u8 w0
  injection ha with ha
  injection hb with hb
  injection hc with hc
  subst ha hb hc
  refine ⟨⟨a.toNat, b, c⟩, ?_, by dsimp only; omega⟩
  unfold pC
  dsimp only
  rw [show ((a.toNat : Nat) : Int) = a by omega]
set_option maxRecDepth 100000 in
theorem trod_puts (n : Nat) (v : Value) (y : DataW H × List MemPlace) (h : DataW.trod enc Tryd.prog w base spare held n 39 [v] = some y) :
    ∃ (A : Option Addr) (m c : Nat) (l : List Put), v = .slice A m c ∧ PutsOk w A m c l ∧ ((y.1.weights Tryd.prog 39).all (· ≤ reachBytes) = true → m ≤ 8796093022208) := by
  obtain ⟨A, m, c, l, hcs, hn, hR, hnc, hA, hG⟩ := open_rows (f := pC) (k := 3) (fun _ => rfl) (by omega) (fun p => p.at_ < 256) Tryd.underlying39 (by kernel_rfl) (fun m cs' y hl ht => trod_put m cs' y hl ht) h
  injection hcs with hcs _
  subst hcs
  refine ⟨A, m, c, l, rfl, ⟨⟨hn, hR⟩, hnc, hG⟩, fun hw => ?_⟩
  rcases DataW.trod_slice Tryd.underlying39 h with ⟨h1, _⟩ | ⟨a, len, cap, elems, rest, n', _, h1, rfl, _, _, _, hel, _, _⟩
  · injection h1 with h1 _
    injection h1 with _ h1 _
    omega
  · injection h1 with h1 _
    injection h1 with _ h1 _
    have hb : Tryd.prog.bytesOf 71 = 24 := by kernel_rfl
    simp only [DataW.weights, Tryd.underlying39, List.all_cons, Bool.and_eq_true, decide_eq_true_eq, List.length_map, hb] at hw
    have h2 := hw.1
    unfold reachBytes at h2
    omega
end
theorem all_app {α : Type} {f : α → Bool} {a b : List α} (h : (a ++ b).all f = true) : a.all f = true ∧ b.all f = true := by simpa using h
set_option maxRecDepth 100000 in
theorem run_arg {H : Type} {enc : TypeId × Value → H} {w : World} {r : Reach} {b0 : Nat} {v : Value} {d : DataW H} {p : List MemPlace} (hv : Value.okWide Tryd.prog w r b0 41 v) (h : DataW.Trod enc Tryd.prog w 0 (fun _ => true) true 41 v d p) :
    ∃ x : RunX, v = rV x.ws [.slice x.A x.na x.ca, .slice x.B x.nb x.cb, .slice x.C x.nc x.cc] ∧ (x.ws.length = 6 ∧ ∀ q ∈ x.ws, 0 ≤ q.2.1) ∧ PutsOk w x.A x.na x.ca x.la ∧ PutsOk w x.B x.nb x.cb x.lb ∧ PutsOk w x.C x.nc x.cc x.lc ∧
      ((d.weights Tryd.prog 41).all (· ≤ reachBytes) = true → x.na ≤ 8796093022208 ∧ x.nb ≤ 8796093022208 ∧ x.nc ≤ 8796093022208) := by
  obtain ⟨cs, rfl, hs⟩ := okWide_struct Tryd.underlying41 hv
  obtain ⟨fuel, hf⟩ := h
  have hc : Tryd.prog.cellsOf 41 = 21 := by kernel_rfl
  have c1 : Tryd.prog.cellsOf 38 = 18 := by kernel_rfl
  have c2 : Tryd.prog.cellsOf 39 = 1 := by kernel_rfl
  obtain ⟨ys, m, _, hd, _, hyl, hg⟩ := DataW.trod_struct Tryd.underlying41 hf
  obtain ⟨y0, y1, y2, y3, rfl⟩ := list4 ys hyl
  have hl : cs.toList.length = 21 := by rw [Array.length_toList, hs, hc]
  have h0 : DataW.trod enc Tryd.prog w 0 (fun _ => true) true m 38 ((cs.toList.drop 0).take (Tryd.prog.cellsOf 38)) = some y0 := hg 0 _ rfl
  have h1 : DataW.trod enc Tryd.prog w 0 (fun _ => true) true m 39 ((cs.toList.drop 18).take (Tryd.prog.cellsOf 39)) = some y1 := hg 1 _ rfl
  have h2 : DataW.trod enc Tryd.prog w 0 (fun _ => true) true m 39 ((cs.toList.drop 19).take (Tryd.prog.cellsOf 39)) = some y2 := hg 2 _ rfl
  have h3 : DataW.trod enc Tryd.prog w 0 (fun _ => true) true m 39 ((cs.toList.drop 20).take (Tryd.prog.cellsOf 39)) = some y3 := hg 3 _ rfl
  rw [c1, List.drop_zero] at h0
  rw [c2] at h1 h2 h3
  obtain ⟨ws, hw6, hw, hwp⟩ := trod_words m _ _ (by rw [List.length_take]; omega) h0
  have one : ∀ k, k < 21 → ∃ u, (cs.toList.drop k).take 1 = [u] ∧ cs.toList[k]? = some u := fun k hk => by
    refine ⟨cs.toList[k]'(by omega), ?_, List.getElem?_eq_getElem (by omega)⟩
    rw [List.drop_eq_getElem_cons (by omega)]
    rfl
  obtain ⟨u1, e1, g1⟩ := one 18 (by omega)
  obtain ⟨u2, e2, g2⟩ := one 19 (by omega)
  obtain ⟨u3, e3, g3⟩ := one 20 (by omega)
  rw [e1] at h1
  rw [e2] at h2
  rw [e3] at h3
  obtain ⟨A, na, ca, la, rfl, okA, wA⟩ := trod_puts m _ _ h1
  obtain ⟨B, nb, cb, lb, rfl, okB, wB⟩ := trod_puts m _ _ h2
  obtain ⟨C, nc, cc, lc, rfl, okC, wC'⟩ := trod_puts m _ _ h3
  refine ⟨⟨ws, A, na, ca, la, B, nb, cb, lb, C, nc, cc, lc⟩, ?_, ⟨hw6, hwp⟩, okA, okB, okC, fun hwt => ?_⟩
  · unfold rV
    congr 1
    refine Array.toList_inj.1 ?_
    show cs.toList = w3C ws ++ [.slice A na ca, .slice B nb cb, .slice C nc cc]
    rw [← hw]
    refine List.ext_getElem? fun k => ?_
    by_cases hk : k < 18
    · rw [List.getElem?_append_left (by rw [List.length_take]; omega), List.getElem?_take, if_pos hk]
    · rw [List.getElem?_append_right (by rw [List.length_take]; omega), List.length_take, Nat.min_eq_left (by omega)]
      by_cases hk2 : k < 21
      · obtain rfl | rfl | rfl : k = 18 ∨ k = 19 ∨ k = 20 := by omega
        · rw [g1]; rfl
        · rw [g2]; rfl
        · rw [g3]; rfl
      · rw [List.getElem?_eq_none (by omega), List.getElem?_eq_none (by simp; omega)]
  · injection hd with hd _
    subst hd
    simp only [DataW.weights, Tryd.underlying41, List.map_cons, List.map_nil, DataW.weightsEach] at hwt
    have a0 := all_app hwt
    have a1 := all_app a0.2
    have a2 := all_app a1.2
    have a3 := all_app a2.2
    exact ⟨wA a1.1, wB a2.1, wC' a3.1⟩
end Go.Proofs.YtilapnejkdgomaaDoor
