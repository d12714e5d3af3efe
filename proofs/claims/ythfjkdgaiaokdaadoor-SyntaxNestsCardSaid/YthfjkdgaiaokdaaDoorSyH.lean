/- The document's example and awake (by gensyh.py). Condition: the library's tables are laid (SxW). -/
import Derived.Test.YthfjkdgaiaokdaaDoorSyG
import Derived.Test.YthfjkdgaiaokdaaDoorSxY
set_option linter.unusedVariables false
set_option linter.unusedSimpArgs false
namespace Go.Proofs.YthfjkdgaiaokdaaDoor
open Go.RowKit

theorem range_in {w : World} {b : Nat} {t : TypeId} {fr : Nat × Nat} (pre cs post : List Value) (h : w.heap[b]? = some (.cells (pre ++ cs ++ post).toArray t fr)) : w.rangeAt b pre.length cs := fun j v hv => by
  rw [cell_of_row _ _ _ _ _ _ h, List.getElem?_toArray, List.append_assoc, List.getElem?_append_right (by omega), Nat.add_sub_cancel_left, List.getElem?_append_left (List.getElem?_eq_some_iff.1 hv).1, hv]
theorem XL.zero (w : World) (S : Nat → Prop) : XL w S none 0 0 [] := ⟨⟨rfl, Nat.le_refl _, fun _ => rfl⟩, fun h => absurd h (by omega)⟩
theorem SL.zero (w : World) (S : Nat → Prop) : SL w S none 0 0 [] := ⟨⟨rfl, Nat.le_refl _, fun _ => rfl⟩, fun h => absurd h (by omega)⟩
theorem XL.of1 {w : World} {S : Nat → Prop} {b : Nat} {t : TypeId} {fr : Nat × Nat} {e : Ex} {c : List Value} (hS : S b) (h : w.heap[b]? = some (.cells c.toArray t fr)) (he : XV w S e c) : XL w S (some ⟨b, 0, none⟩) 1 1 [e] :=
  ⟨⟨rfl, Nat.le_refl _, fun h => by cases h⟩, fun _ => ⟨b, 0, rfl, lt_of_block h, hS, by rw [XLf, XLf]; exact ⟨⟨c, he, range_in [] c [] (by simpa using h)⟩, trivial⟩⟩⟩
theorem XL.of2 {w : World} {S : Nat → Prop} {b : Nat} {t : TypeId} {fr : Nat × Nat} {e f : Ex} {c d : List Value} (hS : S b) (h : w.heap[b]? = some (.cells (c ++ d).toArray t fr)) (he : XV w S e c) (hf : XV w S f d) : XL w S (some ⟨b, 0, none⟩) 2 2 [e, f] :=
  ⟨⟨rfl, Nat.le_refl _, fun h => by cases h⟩, fun _ => ⟨b, 0, rfl, lt_of_block h, hS, by
    rw [XLf, XLf, XLf]
    have h2 := range_in c d [] (by simpa using h)
    rw [he.len] at h2
    exact ⟨⟨c, he, range_in [] c d (by simpa using h)⟩, ⟨d, hf, h2⟩, trivial⟩⟩⟩
theorem SL.of1 {w : World} {S : Nat → Prop} {b : Nat} {t : TypeId} {fr : Nat × Nat} {e : St} {c : List Value} (hS : S b) (h : w.heap[b]? = some (.cells c.toArray t fr)) (he : SV w S e c) : SL w S (some ⟨b, 0, none⟩) 1 1 [e] :=
  ⟨⟨rfl, Nat.le_refl _, fun h => by cases h⟩, fun _ => ⟨b, 0, rfl, lt_of_block h, hS, by rw [SLf, SLf]; exact ⟨⟨c, he, range_in [] c [] (by simpa using h)⟩, trivial⟩⟩⟩
theorem SL.of2 {w : World} {S : Nat → Prop} {b : Nat} {t : TypeId} {fr : Nat × Nat} {e f : St} {c d : List Value} (hS : S b) (h : w.heap[b]? = some (.cells (c ++ d).toArray t fr)) (he : SV w S e c) (hf : SV w S f d) : SL w S (some ⟨b, 0, none⟩) 2 2 [e, f] :=
  ⟨⟨rfl, Nat.le_refl _, fun h => by cases h⟩, fun _ => ⟨b, 0, rfl, lt_of_block h, hS, by
    rw [SLf, SLf, SLf]
    have h2 := range_in c d [] (by simpa using h)
    rw [he.len] at h2
    exact ⟨⟨c, he, range_in [] c d (by simpa using h)⟩, ⟨d, hf, h2⟩, trivial⟩⟩⟩
/-- Blocks laid one after the other. -/
def lays : World → List Obj → World
  | w, [] => w
  | w, o :: t => lays (w.alloc o) t
theorem lays_below : ∀ (l : List Obj) (w w0 : World), Below w0.heap.size w0 w → Below w0.heap.size w0 (lays w l)
  | [], _, _, h => h
  | o :: t, w, w0, h => lays_below t _ w0 (h.alloc h.size o)
theorem lays_keep : ∀ (l : List Obj) (w : World) (b : Nat) (_ : b < w.heap.size), (lays w l).heap[b]? = w.heap[b]?
  | [], _, _, _ => rfl
  | o :: t, w, b, h => (lays_keep t (w.alloc o) b (Nat.lt_of_lt_of_le h (by simp))).trans (heap_alloc_old _ _ h)
theorem lays_at : ∀ (l : List Obj) (w : World) (i : Nat) (o : Obj), l[i]? = some o → (lays w l).heap[w.heap.size + i]? = some o
  | [], _, _, _, h => by simp at h
  | x :: t, w, 0, o, h => by
    obtain rfl : x = o := by simpa using h
    exact (lays_keep t (w.alloc x) w.heap.size (by simp)).trans (heap_alloc_new w x)
  | x :: t, w, i + 1, o, h => by
    have h2 := lays_at t (w.alloc x) i o (by simpa using h)
    rwa [show (w.alloc x).heap.size + i = w.heap.size + (i + 1) by simp; omega] at h2
def exK : Ex := .mk 2 0 [107] [] [] []
def exN (v : Int) : Ex := .mk 0 v [] [] [] []
def exFive : Ex := .mk 5 0 [] [61, 61] [exK, exN 5] []
def exCond : Ex := .mk 5 0 [] [97, 110, 100] [.mk 5 0 [] [62] [exK, exN 0] [], .mk 3 0 [] [] [exFive] []] []
def exMore : Ex := .mk 5 0 [] [42] [exK, .mk 5 0 [] [43] [exK, exN 1] []] []
def exAdd : St := .mk 2 [] 0 (.mk 6 0 [110] [97, 100, 100] [exMore] []) [] []
def exGet : Ex := .mk 6 0 [110] [103, 101, 116] [] [exN 0]
def exP : Prog' := ⟨[⟨[110], [99, 111, 117, 110, 116, 101, 114]⟩], [⟨[117, 112], [[107]], [.mk 3 [] 0 exCond [exAdd] [], .mk 5 [] 0 exGet [] []]⟩]⟩
def exB (n : Nat) : List Obj := [.cells ([.slice (some ⟨n + 15, 0, none⟩) 1 1, .slice (some ⟨n + 19, 0, none⟩) 1 1]).toArray 25,
  .cells (exC 2 0 [107] [] none 0 0 none 0 0).toArray 44,
  .cells ((exC 2 0 [107] [] none 0 0 none 0 0) ++ (exC 0 5 [] [] none 0 0 none 0 0)).toArray 44,
  .cells (exC 5 0 [] [61, 61] (some ⟨n + 2, 0, none⟩) 2 2 none 0 0).toArray 44,
  .cells ((exC 2 0 [107] [] none 0 0 none 0 0) ++ (exC 0 0 [] [] none 0 0 none 0 0)).toArray 44,
  .cells (exC 5 0 [] [61, 61] (some ⟨n + 2, 0, none⟩) 2 2 none 0 0).toArray 44,
  .cells ((exC 5 0 [] [62] (some ⟨n + 4, 0, none⟩) 2 2 none 0 0) ++ (exC 3 0 [] [] (some ⟨n + 5, 0, none⟩) 1 1 none 0 0)).toArray 44,
  .cells (exC 5 0 [] [97, 110, 100] (some ⟨n + 6, 0, none⟩) 2 2 none 0 0).toArray 44,
  .cells ((exC 2 0 [107] [] none 0 0 none 0 0) ++ (exC 0 1 [] [] none 0 0 none 0 0)).toArray 44,
  .cells ((exC 2 0 [107] [] none 0 0 none 0 0) ++ (exC 5 0 [] [43] (some ⟨n + 8, 0, none⟩) 2 2 none 0 0)).toArray 44,
  .cells (exC 5 0 [] [42] (some ⟨n + 9, 0, none⟩) 2 2 none 0 0).toArray 44,
  .cells (exC 5 0 [] [42] (some ⟨n + 9, 0, none⟩) 2 2 none 0 0).toArray 44,
  .cells (stC 2 [] 0 (exC 6 0 [110] [97, 100, 100] (some ⟨n + 11, 0, none⟩) 1 1 none 0 0) none 0 0 none 0 0).toArray 46,
  .cells (exC 0 0 [] [] none 0 0 none 0 0).toArray 44,
  .cells (exC 6 0 [110] [103, 101, 116] none 0 0 (some ⟨n + 13, 0, none⟩) 1 1).toArray 44,
  .cells ([.string (bs [110]), .string (bs [99, 111, 117, 110, 116, 101, 114])]).toArray 50,
  .cells ([.string (bs [107])]).toArray 9,
  .cells (stC 2 [] 0 (exC 6 0 [110] [97, 100, 100] (some ⟨n + 11, 0, none⟩) 1 1 none 0 0) none 0 0 none 0 0).toArray 46,
  .cells ((stC 3 [] 0 (exC 5 0 [] [97, 110, 100] (some ⟨n + 6, 0, none⟩) 2 2 none 0 0) (some ⟨n + 17, 0, none⟩) 1 1 none 0 0) ++ (stC 5 [] 0 (exC 6 0 [110] [103, 101, 116] none 0 0 (some ⟨n + 13, 0, none⟩) 1 1) none 0 0 none 0 0)).toArray 46,
  .cells ([.string (bs [117, 112]), .slice (some ⟨n + 16, 0, none⟩) 1 1, .slice (some ⟨n + 18, 0, none⟩) 2 2]).toArray 41]
def exA (n : Nat) : Value := .agg ([.slice (some ⟨n + 15, 0, none⟩) 1 1, .slice (some ⟨n + 19, 0, none⟩) 1 1] : List Value).toArray
theorem ex_pv (W : World) (n : Nat) (h : ∀ i o, (exB n)[i]? = some o → W.heap[n + i]? = some o) : PV W (fun _ => True) exP (exA n) := by
  have i0 : ∀ v : Int, v = 0 ∨ v = 1 ∨ v = 5 → InR v := fun v h => by unfold InR; rcases h with rfl | rfl | rfl <;> decide
  have hk : XV W (fun _ => True) exK (exC 2 0 [107] [] none 0 0 none 0 0) := XV.shut (i0 0 (by simp)) (XL.zero _ _) (XL.zero _ _)
  have hn : ∀ v : Int, v = 0 ∨ v = 1 ∨ v = 5 → XV W (fun _ => True) (exN v) (exC 0 v [] [] none 0 0 none 0 0) := fun v hv => XV.shut (i0 v hv) (XL.zero _ _) (XL.zero _ _)
  have hfive := XV.shut (k := 5) (s := []) (m := [61, 61]) (i0 0 (by simp)) (XL.of2 trivial (h 2 _ rfl) hk (hn 5 (by simp))) (XL.zero _ _)
  have hgt := XV.shut (k := 5) (s := []) (m := [62]) (i0 0 (by simp)) (XL.of2 trivial (h 4 _ rfl) hk (hn 0 (by simp))) (XL.zero _ _)
  have hnot := XV.shut (k := 3) (s := []) (m := []) (i0 0 (by simp)) (XL.of1 trivial (h 5 _ rfl) hfive) (XL.zero _ _)
  have hcond := XV.shut (k := 5) (s := []) (m := [97, 110, 100]) (i0 0 (by simp)) (XL.of2 trivial (h 6 _ rfl) hgt hnot) (XL.zero _ _)
  have hplus := XV.shut (k := 5) (s := []) (m := [43]) (i0 0 (by simp)) (XL.of2 trivial (h 8 _ rfl) hk (hn 1 (by simp))) (XL.zero _ _)
  have hmore := XV.shut (k := 5) (s := []) (m := [42]) (i0 0 (by simp)) (XL.of2 trivial (h 9 _ rfl) hk hplus) (XL.zero _ _)
  have hcall := XV.shut (k := 6) (s := [110]) (m := [97, 100, 100]) (i0 0 (by simp)) (XL.of1 trivial (h 11 _ rfl) hmore) (XL.zero _ _)
  have hget := XV.shut (k := 6) (s := [110]) (m := [103, 101, 116]) (i0 0 (by simp)) (XL.zero _ _) (XL.of1 trivial (h 13 _ rfl) (hn 0 (by simp)))
  have hadd := SV.shut (k := 2) (s := []) (i0 0 (by simp)) hcall (SL.zero _ _) (SL.zero _ _)
  have hif := SV.shut (k := 3) (s := []) (i0 0 (by simp)) hcond (SL.of1 trivial (h 17 _ rfl) hadd) (SL.zero _ _)
  have hret := SV.shut (k := 5) (s := []) (i0 0 (by simp)) hget (SL.zero _ _) (SL.zero _ _)
  have hb := SL.of2 trivial (h 18 _ rfl) hif hret
  have h15 := h 15 _ rfl
  have h16 := h 16 _ rfl
  have h19 := h 19 _ rfl
  refine ⟨_, 1, 1, _, 1, 1, rfl, ⟨rfl, ⟨Nat.le_refl _, fun h => by cases h⟩, fun _ => ⟨_, 0, rfl, lt_of_block h15, trivial, fun i hi => ?_⟩⟩, ⟨rfl, ⟨Nat.le_refl _, fun h => by cases h⟩, fun _ => ⟨_, 0, rfl, lt_of_block h19, trivial, fun i hi => ?_⟩⟩⟩
  · obtain rfl : i = 0 := by omega
    exact ⟨_, ⟨_, rfl, rfl⟩, range_in [] _ [] (by simpa using h15)⟩
  · obtain rfl : i = 0 := by omega
    refine ⟨_, ⟨_, rfl, _, 1, 1, _, 2, 2, rfl, ⟨rfl, ⟨Nat.le_refl _, fun h => by cases h⟩, fun _ => ⟨_, 0, rfl, lt_of_block h16, trivial, fun i hi => ?_⟩⟩, hb⟩, range_in [] _ [] (by simpa using h19)⟩
    obtain rfl : i = 0 := by omega
    exact ⟨_, ⟨_, rfl, rfl⟩, range_in [] _ [] (by simpa using h16)⟩
def exT : Str := [115, 116, 111, 114, 101, 32, 110, 32, 99, 111, 117, 110, 116, 101, 114, 59, 10, 111, 112, 32, 117, 112, 40, 107, 41, 32, 123, 10, 32, 32, 105, 102, 32, 40, 107, 32, 62, 32, 48, 41, 32, 97, 110, 100, 32, 40, 110, 111, 116, 32, 40, 107, 32, 61, 61, 32, 53, 41, 41, 32, 123, 10, 32, 32, 32, 32, 110, 46, 97, 100, 100, 40, 107, 32, 42, 32, 40, 107, 32, 43, 32, 49, 41, 41, 59, 10, 32, 32, 125, 10, 32, 32, 114, 101, 116, 117, 114, 110, 32, 110, 46, 103, 101, 116, 40, 41, 32, 101, 108, 115, 101, 32, 48, 59, 10, 125, 10]
theorem ex_chk : chkP exP = 0 := by decide +kernel
theorem ex_txt : txP exP = exT := by decide +kernel
theorem ex_printS : printS exP = exT := by rw [printS, ex_chk, ex_txt]; decide +kernel
theorem ex_printE : printE exP = 0 := by rw [printE, ex_chk, ex_txt]; decide +kernel
theorem ex_few : exP.Few2 := by
  refine ⟨by decide, by decide, fun o ho => ?_⟩
  obtain rfl := List.mem_singleton.1 ho
  decide +kernel
end Go.Proofs.YthfjkdgaiaokdaaDoor
