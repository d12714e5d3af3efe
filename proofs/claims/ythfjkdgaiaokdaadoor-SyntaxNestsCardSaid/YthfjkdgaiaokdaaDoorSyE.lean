/- The law's conversions of expressions (printed by wip/gensye.py). Condition: at most 1000000 parts. -/
import Derived.Test.YthfjkdgaiaokdaaDoorSyD
set_option linter.unusedVariables false
set_option linter.unusedSimpArgs false
namespace Go.Proofs.YthfjkdgaiaokdaaDoor
open Go.RowKit

theorem flat6 (n : Nat) : ∀ (css : List (List Value)), (∀ cs ∈ css, cs.length = n) → ∀ (j : Nat) (cs : List Value), css[j]? = some cs → ∀ (r : Nat) (u : Value), cs[r]? = some u → css.flatten[j * n + r]? = some u
  | [], _, j, cs, h, _, _, _ => by simp at h
  | c :: t, hl, 0, cs, h, r, u, hu => by
    obtain rfl : c = cs := by simpa using h
    rw [List.flatten_cons, List.getElem?_append_left (by have := (List.getElem?_eq_some_iff.1 hu).1; omega)]
    simpa using hu
  | c :: t, hl, j + 1, cs, h, r, u, hu => by
    have hc := hl c (by simp)
    rw [List.flatten_cons, List.getElem?_append_right (by rw [hc, Nat.succ_mul]; omega), hc, show (j + 1) * n + r - n = j * n + r by rw [Nat.succ_mul]; omega]
    exact flat6 n t (fun x hx => hl x (by simp [hx])) j cs (by simpa using h) r u hu

theorem XLf_of {w : World} {S : Nat → Prop} {b q : Nat} : ∀ {l : List Ex} {i : Nat}, (∀ (j : Nat) (x : Ex), l[j]? = some x → ∃ cs, XV w S x cs ∧ w.rangeAt b (q + (i + j) * 6) cs) → XLf w S b q i l
  | [], _, _ => by rw [XLf]; trivial
  | e :: t, i, h => by
    rw [XLf]
    refine ⟨h 0 e rfl, XLf_of fun j x hj => ?_⟩
    obtain ⟨cs, h1, h2⟩ := h (j + 1) x (by simpa using hj)
    exact ⟨cs, h1, by rwa [show i + 1 + j = i + (j + 1) by omega]⟩
/-- A row of the call's own that holds these. -/
def OwnX (w : World) (base : Nat) (v : Value) (l : List Ex) : Prop := ∃ css : List (List Value), css.length = l.length ∧ w.ownsRow base 83 6 v l.length css.flatten ∧ (∀ cs ∈ css, cs.length = 6) ∧ ∀ (i : Nat) (x : Ex), l[i]? = some x → ∃ cs, css[i]? = some cs ∧ XV w (fun b => base ≤ b ∧ v.ownBlock ≠ some b) x cs
theorem OwnX.nil (w : World) (base : Nat) : OwnX w base (.slice none 0 0) [] := by
  refine ⟨[], rfl, ?_, ?_, ?_⟩
  · exact World.ownsRow_nil _ _ _ _
  · intro cs h
    cases h
  · intro i x h
    simp at h
theorem OwnX.below {w w' : World} {base : Nat} {v : Value} {l : List Ex} (h : OwnX w base v l) (hb : Below w.heap.size w w') : OwnX w' base v l := by
  obtain ⟨css, h1, h2, h3, h4⟩ := h
  refine ⟨css, h1, World.ownsRow.kept (row := none) h2 ⟨hb.os, hb.tape, hb.output, hb.size, fun k hk _ => hb.block k hk⟩ (by cases hv : v.ownBlock <;> simp), h3, fun i x hx => ?_⟩
  obtain ⟨cs, e1, e2⟩ := h4 i x hx
  exact ⟨cs, e1, e2.below hb⟩
theorem OwnX.lt {w : World} {base : Nat} {v : Value} {l : List Ex} (h : OwnX w base v l) : ∀ k, v.ownBlock = some k → base ≤ k ∧ k < w.heap.size := by
  obtain ⟨css, h1, h2, h3, h4⟩ := h
  exact fun k hk => h2.lt k hk
theorem OwnX.list {w : World} {base : Nat} {v : Value} {l : List Ex} (h : OwnX w base v l) : ∃ A c, v = .slice A l.length c ∧ XL w (fun b => base ≤ b) A l.length c l := by
  obtain ⟨css, h1, h2, h3, h4⟩ := h
  have hlt := h2.lt
  obtain ⟨A, c, rfl, hc, hA, hR⟩ := own_reads (S := fun b => base ≤ b) h2 (fun _ h => h)
  refine ⟨A, c, rfl, ⟨rfl, hc, hA⟩, fun hn => ?_⟩
  obtain ⟨b, o, rfl, hb, hS, hcell⟩ := hR.2 hn
  refine ⟨b, o, rfl, hb, hS, XLf_of fun j x hj => ?_⟩
  obtain ⟨cs, e1, e2⟩ := h4 j x hj
  refine ⟨cs, e2.more fun b _ h => h.1, fun r u hu => ?_⟩
  have hf := flat6 6 css h3 j cs e1 r u hu
  have := hcell _ _ hf
  rw [Nat.zero_add, show o + j * 6 + r = o + (j * 6 + r) by omega]
  exact this
theorem OwnX.push {w1 w2 : World} {base lo : Nat} {v v' : Value} {l : List Ex} {x : Ex} {cs : List Value} (h : ∃ css : List (List Value), css.length = l.length ∧ (∀ cs ∈ css, cs.length = 6) ∧ (∀ (i : Nat) (x : Ex), l[i]? = some x → ∃ cs, css[i]? = some cs ∧ XV w1 (fun b => base ≤ b ∧ v.ownBlock ≠ some b) x cs) ∧ w2.ownsRow base 83 6 v' (l.length + 1) (css.flatten ++ cs))
    (hv : ∀ k, v.ownBlock = some k → k < lo) (hlo : base ≤ lo) (hx : XV w1 (fun b => lo ≤ b) x cs) (hg : w1.grownBy w2 v.ownBlock) (ho : v'.ownBlock = v.ownBlock ∨ v'.ownBlock = some w1.heap.size) : OwnX w2 base v' (l ++ [x]) := by
  obtain ⟨css, h1, h3, h4, h2⟩ := h
  have keep : ∀ {y : Ex} {ds : List Value}, XV w1 (fun b => base ≤ b ∧ v.ownBlock ≠ some b) y ds → XV w2 (fun b => base ≤ b ∧ v'.ownBlock ≠ some b) y ds := fun hy =>
    XV.keep hg.size (fun b hb hS => hg.block b hb (fun e => hS.2 e.symm)) (fun b hb hS => ⟨hS.1, by
      rcases ho with e | e
      · rw [e]; exact hS.2
      · rw [e]; intro e2; injection e2 with e2; omega⟩) hy
  refine ⟨css ++ [cs], by simp [h1], by rw [List.length_append, List.flatten_append]; simpa using h2, fun ds hd => ?_, fun i y hy => ?_⟩
  · rcases List.mem_append.1 hd with h | h
    · exact h3 ds h
    · rw [List.mem_singleton.1 h]; exact hx.len
  · by_cases hi : i < l.length
    · rw [List.getElem?_append_left hi] at hy
      obtain ⟨ds, e1, e2⟩ := h4 i y hy
      exact ⟨ds, by rw [List.getElem?_append_left (by omega)]; exact e1, keep e2⟩
    · have hil : i = l.length := by have := (List.getElem?_eq_some_iff.1 hy).1; simp at this; omega
      subst hil
      obtain rfl : x = y := by simpa using hy
      refine ⟨cs, by rw [← h1]; simp, keep (XV.more hx fun b _ h => ⟨Nat.le_trans hlo h, fun e => by have := hv b e; omega⟩)⟩

theorem infoX3 : (Tryd.prog.info? 83).map (fun i => (i.zero, i.size, i.bytes)) = some (some (.agg #[.int .i64 0, .int .i64 0, .string ⟨#[]⟩, .string ⟨#[]⟩, .slice none 0 0, .slice none 0 0]), 6, 96) := by kernel_rfl
theorem infoX : ∃ i, Tryd.prog.info? 83 = some i ∧ i.zero = some (.agg #[.int .i64 0, .int .i64 0, .string ⟨#[]⟩, .string ⟨#[]⟩, .slice none 0 0, .slice none 0 0]) ∧ i.size = 6 ∧ i.bytes = 96 := by
  obtain ⟨i, h1, h2⟩ := Option.map_eq_some_iff.1 infoX3
  injection h2 with h2 h3
  injection h3 with h3 h4
  exact ⟨i, h1, h2, h3, h4⟩
set_option maxRecDepth 100000 in
theorem apX {w : World} {ops : Array Oper} {rest : List Oper} {o : Oper} {a : Act} {Q : Exit → Act → World → Prop} (hgd : o.guard = none) (s x : Operand)
    (ho : o.op = .call { callee := .builtin .append, args := #[s, x], argTypes := #[81, 81] }) (base lo : Nat) (v : Value) (l : List Ex) (hs : a.eval s = v) (hO : OwnX w base v l)
    (q : Nat) (y : Ex) (cs : List Value) (hx : a.eval x = .slice (some ⟨q, 0, none⟩) 1 1) (hq : q < w.heap.size) (hc : w.rangeAt q 0 cs) (hy : XV w (fun b => lo ≤ b) y cs) (h1 : l.length + 1 ≤ 1000000) (hb : base ≤ w.heap.size) (hv : ∀ k, v.ownBlock = some k → k < lo) (hlo : base ≤ lo)
    (h : ∀ v' w', OwnX w' base v' (l ++ [y]) → w.grownBy w' v.ownBlock → wpList Tryd.prog ops Q rest (a.put o.dst v') w') : wpList Tryd.prog ops Q (o :: rest) a w := by
  obtain ⟨ie, hie0, hie1, hie2, hie3⟩ := infoX
  obtain ⟨css, c1, c2, c3, c4⟩ := hO
  have hR : Reads w (fun _ => True) 6 (some ⟨q, 0, none⟩) 1 cs := ⟨by rw [hy.len], fun _ => ⟨q, 0, rfl, hq, trivial, fun j y hy => by have := hc j y hy; simpa using this⟩⟩
  refine wpList_append_any hgd s x 81 ho base 83 ie _ 6 96 Tryd.underlying81 hie0 hie1 hie2 hie3 rfl (by omega) v l.length _ hs c2 (fun _ => True) _ 1 1 _ hx hR hy.one (by simp only [maxLen]; omega) (by omega) hb ?_
  intro v' w' h2 h3 h4
  exact h v' w' (OwnX.push ⟨css, c1, c3, c4, h2⟩ hv hlo hy h3 h4) h3

/-- One expression's copy, as a call. -/
def ConvE (e : Ex) : Prop := ∀ (w : World) (S : Nat → Prop) (cs : List Value), e.size ≤ 1000000 → XV w S e cs → Calls Tryd.prog 41 #[.agg cs.toArray] w fun e' w' => ∃ cs', e' = .returned (.agg cs'.toArray) ∧ XV w' (fun b => w.heap.size ≤ b) e cs' ∧ Below w.heap.size w w'
def ConvL (l : List Ex) : Prop := ∀ (w : World) (S : Nat → Prop) (A : Option Addr) (n c : Nat), Ex.sizes l ≤ 1000000 → XL w S A n c l → Calls Tryd.prog 61 #[.slice A n c] w fun e' w' => ∃ A' c', e' = .returned (.slice A' n c') ∧ XL w' (fun b => w.heap.size ≤ b) A' n c' l ∧ Below w.heap.size w w'
theorem rx_size : (Tryd.prog.info? 83).map (·.size) = some 6 := by kernel_rfl
set_option maxRecDepth 100000 in
set_option maxHeartbeats 12800000 in
theorem convE_of (k n : Int) (s m : Str) (a o : List Ex) (iha : ConvL a) (iho : ConvL o) : ConvE (.mk k n s m a o) := by
  intro w S cs hz hx
  have hn := hx.num
  obtain ⟨A, na, ca, O, no, co, rfl, hA, hO⟩ := hx.open_
  rw [Ex.size] at hz
  obtain ⟨W0, hW0⟩ : ∃ W0 : World, W0 = (w.alloc (.cells (exC k n s m A na ca O no co).toArray 44)).alloc (.cells #[.int .i64 0, .int .i64 0, .string ⟨#[]⟩, .string ⟨#[]⟩, .slice none 0 0, .slice none 0 0] 83) := ⟨_, rfl⟩
  have hs0 : W0.heap.size = w.heap.size + 2 := by rw [hW0]; simp
  have hb0 : Below w.heap.size w W0 := by rw [hW0]; exact ((Below.refl _ _).alloc (Nat.le_refl _) _).alloc (by simp) _
  have HG := Lib.hid (show ∀ W, Bz W0 W → Below w.heap.size w W from fun W h => hb0.trans (h.b.mono hb0.size))
  have HQ := Lib.hid (show ∀ W, Bz W0 W → W.heap[w.heap.size + 1]? = some (.cells #[.int .i64 0, .int .i64 0, .string ⟨#[]⟩, .string ⟨#[]⟩, .slice none 0 0, .slice none 0 0] 83 (0, 0)) from fun W h => (h.b.block _ (by omega)).trans (by rw [hW0]; exact heap_alloc2_new w _ _))
  have HF := Lib.hid (show ∀ W, Bz W0 W → (W.cell? ⟨w.heap.size, 0, none⟩ = some (.int .i64 k) ∧ W.cell? ⟨w.heap.size, 1, none⟩ = some (.int .i64 n) ∧ W.cell? ⟨w.heap.size, 2, none⟩ = some (.string (bs s)) ∧ W.cell? ⟨w.heap.size, 3, none⟩ = some (.string (bs m)) ∧ W.cell? ⟨w.heap.size, 4, none⟩ = some (.slice A na ca) ∧ W.cell? ⟨w.heap.size, 5, none⟩ = some (.slice O no co)) from fun W h => by
    subst hW0
    have hq : ((w.alloc (.cells (exC k n s m A na ca O no co).toArray 44)).alloc (.cells #[.int .i64 0, .int .i64 0, .string ⟨#[]⟩, .string ⟨#[]⟩, .slice none 0 0, .slice none 0 0] 83)).heap[w.heap.size]? = some (.cells (exC k n s m A na ca O no co).toArray 44 (0, 0)) := (heap_alloc_old _ _ (by simp)).trans (heap_alloc_new w _)
    have h2 := fun j v (hv : (exC k n s m A na ca O no co).toArray[j]? = some v) => cell_of_Bz h (g := w.heap.size) (j := j) (v := v) (by rw [cell_of_row _ _ _ _ _ _ hq]; exact hv) (lt_of_block hq)
    exact ⟨h2 0 _ rfl, h2 1 _ rfl, h2 2 _ rfl, h2 3 _ rfl, h2 4 _ rfl, h2 5 _ rfl⟩)
  have HKA := Lib.hid (show ∀ W, Bz W0 W → Calls Tryd.prog 61 #[.slice A na ca] W fun e' w' => ∃ A' c', e' = .returned (.slice A' na c') ∧ XL w' (fun b => W.heap.size ≤ b) A' na c' a ∧ Below W.heap.size W w' from fun W h => iha W S A na ca (by omega) (hA.below (HG.out W h)))
  have HKO := Lib.hid (show ∀ W, Bz W0 W → Calls Tryd.prog 61 #[.slice O no co] W fun e' w' => ∃ A' c', e' = .returned (.slice A' no c') ∧ XL w' (fun b => W.heap.size ≤ b) A' no c' o ∧ Below W.heap.size W w' from fun W h => iho W S O no co (by omega) (hO.below (HG.out W h)))
  have HN := Lib.hid hn
  have HS0 := Lib.hid hs0
  have z0 : Bz W0 W0 := ⟨Below.refl _ _⟩
  have z1 := z0.drew
  have HS1 := Lib.hid (show w.heap.size ≤ W0.drew.heap.size from by show w.heap.size ≤ W0.heap.size; omega)
  clear hx hA hO hz hb0 hs0 hn iha iho
  unfold exC at hW0
  unfold exC
  go_enter Tryd.func41, Tryd.ntmps41
  go_upto_region 1 with fail
  rw [← hW0]
  clear hW0
  refine wp_region_held_drew (S := fun W => W.cell? ⟨w.heap.size, 0, none⟩ = some (.int .i64 k) ∧ W.cell? ⟨w.heap.size, 1, none⟩ = some (.int .i64 n) ∧ W.cell? ⟨w.heap.size, 2, none⟩ = some (.string (bs s)) ∧ W.cell? ⟨w.heap.size, 3, none⟩ = some (.string (bs m)) ∧ W.cell? ⟨w.heap.size, 4, none⟩ = some (.slice A na ca) ∧ W.cell? ⟨w.heap.size, 5, none⟩ = some (.slice O no co)) (by kernel_rfl) (HF.out _ z1) (fun hHeld => ?_)
  refine wpAnyH_take (i := 0) (oi := ⟨some 3, _, _, _, _, _⟩) (v := .pointer (some ⟨w.heap.size, 0, none⟩)) rfl (by kernel_rfl) (by kernel_rfl) (by kernel_rfl) (fun _ _ _ h => h) (Or.inl ⟨by rfl, ?_⟩) hHeld ?_
  · intro W hW
    obtain ⟨h0, h1, h2, h3, h4, h5⟩ := hW
    go_simp
  try simp only [Act.put, List.setIfInBounds_toArray, List.set_cons_zero, List.set_cons_succ]
  refine wpAnyH_take (i := 1) (oi := ⟨some 4, _, _, _, _, _⟩) (v := .int .i64 k) rfl (by kernel_rfl) (by kernel_rfl) (by kernel_rfl) (fun _ _ _ h => h) (Or.inl ⟨by rfl, ?_⟩) hHeld ?_
  · intro W hW
    obtain ⟨h0, h1, h2, h3, h4, h5⟩ := hW
    go_simp
  try simp only [Act.put, List.setIfInBounds_toArray, List.set_cons_zero, List.set_cons_succ]
  refine wpAnyH_take (i := 2) (oi := ⟨some 5, _, _, _, _, _⟩) (v := .pointer (some ⟨w.heap.size, 1, none⟩)) rfl (by kernel_rfl) (by kernel_rfl) (by kernel_rfl) (fun _ _ _ h => h) (Or.inl ⟨by rfl, ?_⟩) hHeld ?_
  · intro W hW
    obtain ⟨h0, h1, h2, h3, h4, h5⟩ := hW
    go_simp
  try simp only [Act.put, List.setIfInBounds_toArray, List.set_cons_zero, List.set_cons_succ]
  refine wpAnyH_take (i := 3) (oi := ⟨some 6, _, _, _, _, _⟩) (v := .int .i64 n) rfl (by kernel_rfl) (by kernel_rfl) (by kernel_rfl) (fun _ _ _ h => h) (Or.inl ⟨by rfl, ?_⟩) hHeld ?_
  · intro W hW
    obtain ⟨h0, h1, h2, h3, h4, h5⟩ := hW
    go_simp
  try simp only [Act.put, List.setIfInBounds_toArray, List.set_cons_zero, List.set_cons_succ]
  refine wpAnyH_take (i := 4) (oi := ⟨some 7, _, _, _, _, _⟩) (v := .pointer (some ⟨w.heap.size, 2, none⟩)) rfl (by kernel_rfl) (by kernel_rfl) (by kernel_rfl) (fun _ _ _ h => h) (Or.inl ⟨by rfl, ?_⟩) hHeld ?_
  · intro W hW
    obtain ⟨h0, h1, h2, h3, h4, h5⟩ := hW
    go_simp
  try simp only [Act.put, List.setIfInBounds_toArray, List.set_cons_zero, List.set_cons_succ]
  refine wpAnyH_take (i := 5) (oi := ⟨some 8, _, _, _, _, _⟩) (v := .string (bs s)) rfl (by kernel_rfl) (by kernel_rfl) (by kernel_rfl) (fun _ _ _ h => h) (Or.inl ⟨by rfl, ?_⟩) hHeld ?_
  · intro W hW
    obtain ⟨h0, h1, h2, h3, h4, h5⟩ := hW
    go_simp
  try simp only [Act.put, List.setIfInBounds_toArray, List.set_cons_zero, List.set_cons_succ]
  refine wpAnyH_take (i := 6) (oi := ⟨some 9, _, _, _, _, _⟩) (v := .pointer (some ⟨w.heap.size, 3, none⟩)) rfl (by kernel_rfl) (by kernel_rfl) (by kernel_rfl) (fun _ _ _ h => h) (Or.inl ⟨by rfl, ?_⟩) hHeld ?_
  · intro W hW
    obtain ⟨h0, h1, h2, h3, h4, h5⟩ := hW
    go_simp
  try simp only [Act.put, List.setIfInBounds_toArray, List.set_cons_zero, List.set_cons_succ]
  refine wpAnyH_take (i := 7) (oi := ⟨some 10, _, _, _, _, _⟩) (v := .string (bs m)) rfl (by kernel_rfl) (by kernel_rfl) (by kernel_rfl) (fun _ _ _ h => h) (Or.inl ⟨by rfl, ?_⟩) hHeld ?_
  · intro W hW
    obtain ⟨h0, h1, h2, h3, h4, h5⟩ := hW
    go_simp
  try simp only [Act.put, List.setIfInBounds_toArray, List.set_cons_zero, List.set_cons_succ]
  refine wpAnyH_take (i := 8) (oi := ⟨some 11, _, _, _, _, _⟩) (v := .pointer (some ⟨w.heap.size, 4, none⟩)) rfl (by kernel_rfl) (by kernel_rfl) (by kernel_rfl) (fun _ _ _ h => h) (Or.inl ⟨by rfl, ?_⟩) hHeld ?_
  · intro W hW
    obtain ⟨h0, h1, h2, h3, h4, h5⟩ := hW
    go_simp
  try simp only [Act.put, List.setIfInBounds_toArray, List.set_cons_zero, List.set_cons_succ]
  refine wpAnyH_take (i := 9) (oi := ⟨some 12, _, _, _, _, _⟩) (v := .slice A na ca) rfl (by kernel_rfl) (by kernel_rfl) (by kernel_rfl) (fun _ _ _ h => h) (Or.inl ⟨by rfl, ?_⟩) hHeld ?_
  · intro W hW
    obtain ⟨h0, h1, h2, h3, h4, h5⟩ := hW
    go_simp
  try simp only [Act.put, List.setIfInBounds_toArray, List.set_cons_zero, List.set_cons_succ]
  refine wpAnyH_take (i := 11) (oi := ⟨some 14, _, _, _, _, _⟩) (v := .pointer (some ⟨w.heap.size, 5, none⟩)) rfl (by kernel_rfl) (by kernel_rfl) (by kernel_rfl) (fun _ _ _ h => h) (Or.inl ⟨by rfl, ?_⟩) hHeld ?_
  · intro W hW
    obtain ⟨h0, h1, h2, h3, h4, h5⟩ := hW
    go_simp
  try simp only [Act.put, List.setIfInBounds_toArray, List.set_cons_zero, List.set_cons_succ]
  refine wpAnyH_take (i := 12) (oi := ⟨some 15, _, _, _, _, _⟩) (v := .slice O no co) rfl (by kernel_rfl) (by kernel_rfl) (by kernel_rfl) (fun _ _ _ h => h) (Or.inl ⟨by rfl, ?_⟩) hHeld ?_
  · intro W hW
    obtain ⟨h0, h1, h2, h3, h4, h5⟩ := hW
    go_simp
  try simp only [Act.put, List.setIfInBounds_toArray, List.set_cons_zero, List.set_cons_succ]
  refine wpAnyH_ready (rs := [10]) (by kernel_rfl) (by simp) ?_
  refine AllReadyH.cons (o := ⟨some 13, _, _, _, _, _⟩) rfl (fun K hK => ?_) AllReadyH.nil
  · skip
    refine Eq.mpr (if_pos (by kernel_rfl)) ?_
    go_simp
    refine (HKA.out _ z1).mono ?_
    rintro e w3 ⟨A1, c1, rfl, hx1, hb1⟩
    have z3 := z1.next hb1
    refine hK.out _ _ (HF.out _ z3) (fun hHeld2 => ?_)
    clear hK
    try simp only [Act.put, List.setIfInBounds_toArray, List.set_cons_zero, List.set_cons_succ]
    refine wpAnyH_ready (rs := [13]) (by kernel_rfl) (by simp) ?_
    refine AllReadyH.cons (o := ⟨some 16, _, _, _, _, _⟩) rfl (fun K hK => ?_) AllReadyH.nil
    refine Eq.mpr (if_pos (by kernel_rfl)) ?_
    go_simp
    refine (HKO.out _ z3).mono ?_
    rintro e w4 ⟨A2, c2, rfl, hx2, hb2⟩
    have z4 := z3.next hb2
    refine hK.out _ _ (HF.out _ z4) (fun hHeld3 => ?_)
    clear hK
    try simp only [Act.put, List.setIfInBounds_toArray, List.set_cons_zero, List.set_cons_succ]
    refine wpAnyH_take (i := 14) (oi := ⟨some 17, _, _, _, _, _⟩) (v := .agg #[.int .i64 k, .int .i64 n, .string (bs s), .string (bs m), .slice A1 na c1, .slice A2 no c2]) rfl (by kernel_rfl) (by kernel_rfl) (by kernel_rfl) (fun _ _ _ h => h) (Or.inl ⟨by rfl, ?_⟩) hHeld3 ?_
    · intro W hW
      obtain ⟨h0, h1, h2, h3, h4, h5⟩ := hW
      go_simp
    try simp only [Act.put, List.setIfInBounds_toArray, List.set_cons_zero, List.set_cons_succ]
    refine wpAnyH_ready (rs := [15]) (by kernel_rfl) (by simp) ?_
    refine AllReadyH.cons (o := ⟨none, _, _, _, _, _⟩) rfl (fun K hK => ?_) AllReadyH.nil
    refine Eq.mpr (if_pos (by kernel_rfl)) ?_
    refine wp_store_row 83 (.tmp 2) (.tmp 17) rfl (w.heap.size + 1) #[.int .i64 k, .int .i64 n, .string (bs s), .string (bs m), .slice A1 na c1, .slice A2 no c2] rfl rfl 83 _ (HQ.out _ z4) rx_size rfl (by simp [Value.oneCell']) ?_
    have HROW := Lib.hid (setRow_heap _ _ _ #[.int .i64 k, .int .i64 n, .string (bs s), .string (bs m), .slice A1 na c1, .slice A2 no c2] _ _ (HQ.out _ z4))
    have HBF := Lib.hid (below_setRow (HG.out _ z4) (Nat.le_succ w.heap.size) #[.int .i64 k, .int .i64 n, .string (bs s), .string (bs m), .slice A1 na c1, .slice A2 no c2])
    have HXV := Lib.hid (show XV (w4.setRow (w.heap.size + 1) #[.int .i64 k, .int .i64 n, .string (bs s), .string (bs m), .slice A1 na c1, .slice A2 no c2]) (fun b => w.heap.size ≤ b) (.mk k n s m a o) (exC k n s m A1 na c1 A2 no c2) from by
      have hw2 : w.heap.size + 2 ≤ w3.heap.size := by have h1 := HS0.out; have h2 := z3.b.size; omega
      have hS1 : w.heap.size + 2 ≤ W0.drew.heap.size := by have h1 := HS0.out; show w.heap.size + 2 ≤ W0.heap.size; omega
      have keep : ∀ {A' : Option Addr} {n' c' : Nat} {l' : List Ex}, XL w4 (fun b => w.heap.size + 2 ≤ b) A' n' c' l' → XL (w4.setRow (w.heap.size + 1) #[.int .i64 k, .int .i64 n, .string (bs s), .string (bs m), .slice A1 na c1, .slice A2 no c2]) (fun b => w.heap.size ≤ b) A' n' c' l' := fun h => XL.keep (by simp [World.setRow]) (fun b _ hS => setRow_other _ _ _ _ (by omega)) (fun b _ hS => by omega) h
      exact XV.shut HN.out (keep (XL.more (hx1.below hb2) (fun b _ h => Nat.le_trans hS1 h))) (keep (XL.more hx2 (fun b _ h => Nat.le_trans hw2 h))))
    have HZ9 := Lib.hid (show ((w4.setRow (w.heap.size + 1) #[.int .i64 k, .int .i64 n, .string (bs s), .string (bs m), .slice A1 na c1, .slice A2 no c2]).cell? ⟨w.heap.size, 0, none⟩ = some (.int .i64 k) ∧ (w4.setRow (w.heap.size + 1) #[.int .i64 k, .int .i64 n, .string (bs s), .string (bs m), .slice A1 na c1, .slice A2 no c2]).cell? ⟨w.heap.size, 1, none⟩ = some (.int .i64 n) ∧ (w4.setRow (w.heap.size + 1) #[.int .i64 k, .int .i64 n, .string (bs s), .string (bs m), .slice A1 na c1, .slice A2 no c2]).cell? ⟨w.heap.size, 2, none⟩ = some (.string (bs s)) ∧ (w4.setRow (w.heap.size + 1) #[.int .i64 k, .int .i64 n, .string (bs s), .string (bs m), .slice A1 na c1, .slice A2 no c2]).cell? ⟨w.heap.size, 3, none⟩ = some (.string (bs m)) ∧ (w4.setRow (w.heap.size + 1) #[.int .i64 k, .int .i64 n, .string (bs s), .string (bs m), .slice A1 na c1, .slice A2 no c2]).cell? ⟨w.heap.size, 4, none⟩ = some (.slice A na ca) ∧ (w4.setRow (w.heap.size + 1) #[.int .i64 k, .int .i64 n, .string (bs s), .string (bs m), .slice A1 na c1, .slice A2 no c2]).cell? ⟨w.heap.size, 5, none⟩ = some (.slice O no co)) from by
      obtain ⟨g0, g1, g2, g3, g4, g5⟩ := HF.out _ z4
      refine ⟨?_, ?_, ?_, ?_, ?_, ?_⟩ <;> (rw [cell_setRow_other _ _ _ _ (by show w.heap.size ≠ w.heap.size + 1; omega)]; assumption))
    generalize w4.setRow (w.heap.size + 1) #[.int .i64 k, .int .i64 n, .string (bs s), .string (bs m), .slice A1 na c1, .slice A2 no c2] = w9 at *
    refine hK.out _ _ HZ9.out (fun hHeld9 => ?_)
    clear hK
    try simp only [Act.put, List.setIfInBounds_toArray, List.set_cons_zero, List.set_cons_succ]
    refine wpAnyH_done (by kernel_rfl) ?_ _
    go_wp2_with fail
    refine bodyPost_ret (results_cell_row rfl _ _ (w.heap.size + 1) _ _ _ _ rfl HROW.out Tryd.underlying83 rfl rx_size) rfl ⟨_, rfl, HXV.out, HBF.out⟩
set_option maxRecDepth 100000 in
set_option maxHeartbeats 12800000 in
theorem convL_of {l : List Ex} (h : ∀ e ∈ l, ConvE e) : ConvL l := by
  intro w S A n c hz hl
  have HIN := Lib.hid h
  have HL := Lib.hid hl
  have HLN := Lib.hid hl.1.1
  have HZ := Lib.hid hz
  have hn6 : (n : Int) ≤ 1000000 := by have := hl.1.1; have := Ex.len_sizes l; omega
  have HO0 := Lib.hid (show OwnX w w.heap.size (.slice none 0 0) (l.take 0) from OwnX.nil w _)
  have HB0 := Lib.hid (Below.refl w.heap.size w)
  clear h hl hz
  go_enter Tryd.func61, Tryd.ntmps61
  go_wp2_with fail
  go_loopw [3, 4] (fun vv i wr => ∃ k : Nat, k ≤ l.length ∧ i = .int .i64 k ∧ Hid (OwnX wr w.heap.size vv (l.take k)) ∧ Hid (Below w.heap.size w wr)) (fun _ i _ => l.length - (intOf i).toNat)
  case atStart => exact ⟨0, Nat.zero_le _, rfl, HO0, HB0⟩
  case round =>
    clear HO0 HB0
    obtain ⟨k, hk, rfl, HO, HB⟩ := hrel
    by_cases hlt : k < l.length
    · have hi2 : (k : Int) < (n : Int) := by have := HLN.out; omega
      obtain ⟨x, b, off, cs, hx, rfl, hb, hS, hxv, hrow⟩ := HL.out.at k (by have := HLN.out; omega)
      have HQL := Lib.hid hlt
      have hmem := List.mem_of_getElem? hx
      have HTX := Lib.hid (HIN.out x hmem wr S cs (by have := Ex.sizes_mem hmem; have := HZ.out; omega) (hxv.below HB.out))
      have HSN := Lib.hid (show l.take (k + 1) = l.take k ++ [x] by rw [List.take_add_one, hx]; rfl)
      have hrow2 := rangeAt_keep hrow (HB.out.block b hb)
      have HM := Lib.hid (show (l.take k).length + 1 ≤ 1000000 by rw [List.length_take]; have := Ex.len_sizes l; have := HZ.out; omega)
      obtain ⟨xk, xn, xs, xm, xa, xo⟩ := x
      obtain ⟨A2, na2, ca2, O2, no2, co2, rfl, -, -⟩ := hxv.open_
      obtain ⟨e0, e1, e2, e3, e4, e5⟩ := exC_at hrow2
      clear hx hb hS hxv hrow hrow2 hlt hmem
      unfold exC at HTX
      go_wp2_with fail
      refine HTX.out.mono ?_
      rintro e wo ⟨cs', rfl, hxo, hbo⟩
      obtain ⟨A3, na3, ca3, O3, no3, co3, rfl, -, -⟩ := hxo.open_
      have HXO := Lib.hid hxo
      have HBO := Lib.hid hbo
      unfold exC
      clear hxo hbo e0 e1 e2 e3 e4 e5 HTX
      go_wp2_with ((at_builtin; refine apX rfl (.tmp 11) (.tmp 17) rfl w.heap.size wr.heap.size _ (l.take k) rfl ?_ wo.heap.size (.mk xk xn xs xm xa xo) (exC xk xn xs xm A3 na3 ca3 O3 no3 co3) rfl (lt_new _ _) ?_ (HXO.out.below ((Below.refl _ _).alloc (Nat.le_refl _) _)) HM.out ?_ (fun q hq => (HO.out.lt q hq).2) HB.out.size ?_))
      rotate_left
      rotate_left
      rotate_left
      intro v3 w4 ho hg
      have hba : Below w.heap.size w (wo.alloc (.cells (exC xk xn xs xm A3 na3 ca3 O3 no3 co3).toArray 83)) := (HB.out.trans (HBO.out.mono HB.out.size)).alloc (Nat.le_trans HB.out.size HBO.out.size) _
      have HO4 := Lib.hid ho
      have HB4 := Lib.hid (hba.grown hg hba.size (fun q hq => (HO.out.lt q hq).1))
      clear ho hg hba
      go_wp2
      go_roundw
      case rel => exact ⟨k + 1, HQL.out, by go_num, by rw [HSN.out]; exact HO4, HB4⟩
      case measure => exact meas_up _ _ HQL.out
      · exact (HO.out.below HBO.out).below ((Below.refl _ _).alloc (Nat.le_refl _) _)
      · exact fun j v hv => by rw [cell_of_row _ _ _ _ _ _ (heap_alloc_new wo _), Nat.zero_add, List.getElem?_toArray]; exact hv
      · exact Nat.le_trans (Nat.le_trans HB.out.size HBO.out.size) (by simp)
    · have hi2 : ¬ (k : Int) < (n : Int) := by have := HLN.out; omega
      have HF := Lib.hid (show l.take k = l from List.take_of_length_le (by omega))
      rw [HF.out] at HO
      clear hlt hk
      obtain ⟨A3, c3, hv3, hl3⟩ := HO.out.list
      have HL3 := Lib.hid hl3
      have HV3 := Lib.hid hv3
      clear hl3
      subst hv3
      go_wp2
      go_ret
      exact ⟨A3, c3, by rw [HLN.out]; rfl, by rw [HLN.out]; exact HL3.out, HB.out⟩
theorem convE_any (e : Ex) : ConvE e := by
  obtain ⟨N, hN⟩ : ∃ N, N = e.size := ⟨_, rfl⟩
  induction N using Nat.strongRecOn generalizing e with
  | _ N ih =>
    obtain ⟨k, n, s, m, a, o⟩ := e
    exact convE_of k n s m a o (convL_of fun x hx => ih x.size (by have := Ex.sizes_mem hx; rw [hN, Ex.size]; omega) x rfl) (convL_of fun x hx => ih x.size (by have := Ex.sizes_mem hx; rw [hN, Ex.size]; omega) x rfl)
theorem convL_any (l : List Ex) : ConvL l := convL_of fun e _ => convE_any e
end Go.Proofs.YthfjkdgaiaokdaaDoor
