/- The law's conversion of statements (printed by wip/gensyf.py). Condition: at most 1000000 parts. -/
import Derived.Test.YthfjkdgaiaokdaaDoorSyE
set_option linter.unusedVariables false
set_option linter.unusedSimpArgs false
namespace Go.Proofs.YthfjkdgaiaokdaaDoor
open Go.RowKit

theorem SLf_of {w : World} {S : Nat → Prop} {b q : Nat} : ∀ {l : List St} {i : Nat}, (∀ (j : Nat) (x : St), l[j]? = some x → ∃ cs, SV w S x cs ∧ w.rangeAt b (q + (i + j) * 11) cs) → SLf w S b q i l
  | [], _, _ => by rw [SLf]; trivial
  | e :: t, i, h => by
    rw [SLf]
    refine ⟨h 0 e rfl, SLf_of fun j x hj => ?_⟩
    obtain ⟨cs, h1, h2⟩ := h (j + 1) x (by simpa using hj)
    exact ⟨cs, h1, by rwa [show i + 1 + j = i + (j + 1) by omega]⟩
/-- A row of the call's own that holds these. -/
def OwnT (w : World) (base : Nat) (v : Value) (l : List St) : Prop := ∃ css : List (List Value), css.length = l.length ∧ w.ownsRow base 85 11 v l.length css.flatten ∧ (∀ cs ∈ css, cs.length = 11) ∧ ∀ (i : Nat) (x : St), l[i]? = some x → ∃ cs, css[i]? = some cs ∧ SV w (fun b => base ≤ b ∧ v.ownBlock ≠ some b) x cs
theorem OwnT.nil (w : World) (base : Nat) : OwnT w base (.slice none 0 0) [] := by
  refine ⟨[], rfl, ?_, ?_, ?_⟩
  · exact World.ownsRow_nil _ _ _ _
  · intro cs h
    cases h
  · intro i x h
    simp at h
theorem OwnT.below {w w' : World} {base : Nat} {v : Value} {l : List St} (h : OwnT w base v l) (hb : Below w.heap.size w w') : OwnT w' base v l := by
  obtain ⟨css, h1, h2, h3, h4⟩ := h
  refine ⟨css, h1, World.ownsRow.kept (row := none) h2 ⟨hb.os, hb.tape, hb.output, hb.size, fun k hk _ => hb.block k hk⟩ (by cases hv : v.ownBlock <;> simp), h3, fun i x hx => ?_⟩
  obtain ⟨cs, e1, e2⟩ := h4 i x hx
  exact ⟨cs, e1, e2.below hb⟩
theorem OwnT.lt {w : World} {base : Nat} {v : Value} {l : List St} (h : OwnT w base v l) : ∀ k, v.ownBlock = some k → base ≤ k ∧ k < w.heap.size := by
  obtain ⟨css, h1, h2, h3, h4⟩ := h
  exact fun k hk => h2.lt k hk
theorem OwnT.list {w : World} {base : Nat} {v : Value} {l : List St} (h : OwnT w base v l) : ∃ A c, v = .slice A l.length c ∧ SL w (fun b => base ≤ b) A l.length c l := by
  obtain ⟨css, h1, h2, h3, h4⟩ := h
  have hlt := h2.lt
  obtain ⟨A, c, rfl, hc, hA, hR⟩ := own_reads (S := fun b => base ≤ b) h2 (fun _ h => h)
  refine ⟨A, c, rfl, ⟨rfl, hc, hA⟩, fun hn => ?_⟩
  obtain ⟨b, o, rfl, hb, hS, hcell⟩ := hR.2 hn
  refine ⟨b, o, rfl, hb, hS, SLf_of fun j x hj => ?_⟩
  obtain ⟨cs, e1, e2⟩ := h4 j x hj
  refine ⟨cs, e2.more fun b _ h => h.1, fun r u hu => ?_⟩
  have hf := flat6 11 css h3 j cs e1 r u hu
  have := hcell _ _ hf
  rw [Nat.zero_add, show o + j * 11 + r = o + (j * 11 + r) by omega]
  exact this
theorem OwnT.push {w1 w2 : World} {base lo : Nat} {v v' : Value} {l : List St} {x : St} {cs : List Value} (h : ∃ css : List (List Value), css.length = l.length ∧ (∀ cs ∈ css, cs.length = 11) ∧ (∀ (i : Nat) (x : St), l[i]? = some x → ∃ cs, css[i]? = some cs ∧ SV w1 (fun b => base ≤ b ∧ v.ownBlock ≠ some b) x cs) ∧ w2.ownsRow base 85 11 v' (l.length + 1) (css.flatten ++ cs))
    (hv : ∀ k, v.ownBlock = some k → k < lo) (hlo : base ≤ lo) (hx : SV w1 (fun b => lo ≤ b) x cs) (hg : w1.grownBy w2 v.ownBlock) (ho : v'.ownBlock = v.ownBlock ∨ v'.ownBlock = some w1.heap.size) : OwnT w2 base v' (l ++ [x]) := by
  obtain ⟨css, h1, h3, h4, h2⟩ := h
  have keep : ∀ {y : St} {ds : List Value}, SV w1 (fun b => base ≤ b ∧ v.ownBlock ≠ some b) y ds → SV w2 (fun b => base ≤ b ∧ v'.ownBlock ≠ some b) y ds := fun hy =>
    SV.keep hg.size (fun b hb hS => hg.block b hb (fun e => hS.2 e.symm)) (fun b hb hS => ⟨hS.1, by
      rcases ho with e | e
      · rw [e]; exact hS.2
      · rw [e]; intro e2; injection e2 with e2; omega⟩) hy
  refine ⟨css ++ [cs], by simp [h1], by rw [List.length_append, List.flatten_append]; simpa using h2, fun ds hd => ?_, fun i y hy => ?_⟩
  · rcases List.mem_append.1 hd with h | h
    · exact h3 ds h
    · rw [List.mem_singleton.1 h]; exact hx.len
  · by_cases hi : i < l.length
    · rw [List.getElem?_append_left hi] at hy
      obtain ⟨ds, e1, e2⟩ := h4 i y hy
      exact ⟨ds, by rw [List.getElem?_append_left (by omega)]; exact e1, keep e2⟩
    · have hil : i = l.length := by have := (List.getElem?_eq_some_iff.1 hy).1; simp at this; omega
      subst hil
      obtain rfl : x = y := by simpa using hy
      refine ⟨cs, by rw [← h1]; simp, keep (SV.more hx fun b _ h => ⟨Nat.le_trans hlo h, fun e => by have := hv b e; omega⟩)⟩

theorem infoT3 : (Tryd.prog.info? 85).map (fun i => (i.zero, i.size, i.bytes)) = some (some (.agg #[.int .i64 0, .string ⟨#[]⟩, .int .i64 0, .int .i64 0, .int .i64 0, .string ⟨#[]⟩, .string ⟨#[]⟩, .slice none 0 0, .slice none 0 0, .slice none 0 0, .slice none 0 0]), 11, 176) := by kernel_rfl
theorem infoT : ∃ i, Tryd.prog.info? 85 = some i ∧ i.zero = some (.agg #[.int .i64 0, .string ⟨#[]⟩, .int .i64 0, .int .i64 0, .int .i64 0, .string ⟨#[]⟩, .string ⟨#[]⟩, .slice none 0 0, .slice none 0 0, .slice none 0 0, .slice none 0 0]) ∧ i.size = 11 ∧ i.bytes = 176 := by
  obtain ⟨i, h1, h2⟩ := Option.map_eq_some_iff.1 infoT3
  injection h2 with h2 h3
  injection h3 with h3 h4
  exact ⟨i, h1, h2, h3, h4⟩
set_option maxRecDepth 100000 in
theorem apT {w : World} {K : Act → World → Prop} {o : Oper} {a : Act} {Q : Exit → Act → World → Prop} (s x : Operand)
    (ho : o.op = .call { callee := .builtin .append, args := #[s, x], argTypes := #[58, 58] }) (base lo : Nat) (v : Value) (l : List St) (hs : a.eval s = v) (hO : OwnT w base v l)
    (q : Nat) (y : St) (cs : List Value) (hx : a.eval x = .slice (some ⟨q, 0, none⟩) 1 1) (hq : q < w.heap.size) (hc : w.rangeAt q 0 cs) (hy : SV w (fun b => lo ≤ b) y cs) (h1 : l.length + 1 ≤ 1000000) (hb : base ≤ w.heap.size) (hv : ∀ k, v.ownBlock = some k → k < lo) (hlo : base ≤ lo)
    (h : ∀ v' w', OwnT w' base v' (l ++ [y]) → w.grownBy w' v.ownBlock → K (a.put o.dst v') w') : o.wp Tryd.prog a w K Q := by
  obtain ⟨ie, hie0, hie1, hie2, hie3⟩ := infoT
  obtain ⟨css, c1, c2, c3, c4⟩ := hO
  have hR : Reads w (fun _ => True) 11 (some ⟨q, 0, none⟩) 1 cs := ⟨by rw [hy.len], fun _ => ⟨q, 0, rfl, hq, trivial, fun j y hy => by have := hc j y hy; simpa using this⟩⟩
  obtain ⟨v', w', hrun, h2, h3, h4⟩ := run_append_any (P := Tryd.prog) w base 58 o.type 85 ie _ 11 176 Tryd.underlying58 hie0 hie1 hie2 hie3 rfl (by omega) v l.length _ c2 (fun _ => True) _ 1 1 _ hR hy.one (by simp only [maxLen]; omega) (by omega) hb
  unfold Oper.wp execOp
  simp only [ho, resolve, invoke, builtin, Sem.run_bind, Sem.run_pure, Result.andThen_ok, List.map_toArray, List.map_cons, List.map_nil, hs, hx, hrun]
  exact h v' w' (OwnT.push ⟨css, c1, c3, c4, h2⟩ hv hlo hy h3 h4) h3

def ConvS (l : List St) : Prop := ∀ (w : World) (S : Nat → Prop) (A : Option Addr) (n c : Nat), St.sizes l ≤ 1000000 → SL w S A n c l → Calls Tryd.prog 23 #[.slice A n c] w fun e' w' => ∃ A' c', e' = .returned (.slice A' n c') ∧ SL w' (fun b => w.heap.size ≤ b) A' n c' l ∧ Below w.heap.size w w'
set_option maxRecDepth 100000 in
set_option maxHeartbeats 12800000 in
theorem convS_of {l : List St} (h : ∀ e ∈ l, ConvS e.body ∧ ConvS e.els) : ConvS l := by
  intro w S A n c hz hl
  have HIN := Lib.hid h
  have HL := Lib.hid hl
  have HLN := Lib.hid hl.1.1
  have HZ := Lib.hid hz
  have hn6 : (n : Int) ≤ 1000000 := by have := hl.1.1; have := St.len_sizes l; omega
  have HO0 := Lib.hid (show OwnT w w.heap.size (.slice none 0 0) (l.take 0) from OwnT.nil w _)
  have HB0 := Lib.hid (Below.refl w.heap.size w)
  clear h hl hz
  go_enter Tryd.func23, Tryd.ntmps23
  go_wp2_with fail
  go_loopw [3, 4] (fun vv i wr => ∃ k : Nat, k ≤ l.length ∧ i = .int .i64 k ∧ Hid (OwnT wr w.heap.size vv (l.take k)) ∧ Hid (Below w.heap.size w wr)) (fun _ i _ => l.length - (intOf i).toNat)
  case atStart => exact ⟨0, Nat.zero_le _, rfl, HO0, HB0⟩
  case round =>
    clear HO0 HB0
    obtain ⟨k, hk, rfl, HO, HB⟩ := hrel
    obtain ⟨vv, hvv⟩ : ∃ vv, vv = u3 := ⟨_, rfl⟩
    subst hvv
    by_cases hlt : k < l.length
    · have hi2 : (k : Int) < (n : Int) := by have := HLN.out; omega
      obtain ⟨x, b, off, cs, hx, rfl, hb, hS, hxv, hrow⟩ := HL.out.at k (by have := HLN.out; omega)
      have HQL := Lib.hid hlt
      have hmem := List.mem_of_getElem? hx
      have HSN := Lib.hid (show l.take (k + 1) = l.take k ++ [x] by rw [List.take_add_one, hx]; rfl)
      have hrow2 := rangeAt_keep hrow (HB.out.block b hb)
      have HM := Lib.hid (show (l.take k).length + 1 ≤ 1000000 by rw [List.length_take]; have := St.len_sizes l; have := HZ.out; omega)
      have hxz : x.size ≤ 1000000 := by have := St.sizes_mem hmem; have := HZ.out; omega
      have hih := HIN.out x hmem
      obtain ⟨xk, xs, xn, xe, xb, xl⟩ := x
      have HNR := Lib.hid hxv.num
      obtain ⟨ex, B2, nb2, cb2, L2, nl2, cl2, rfl, hex, hxb, hxl⟩ := hxv.open_
      rw [St.size] at hxz
      obtain ⟨ek, en, es, em, ea, eo⟩ := xe
      obtain ⟨A2, na2, ca2, O2, no2, co2, rfl, hxa, hxo⟩ := hex.open_
      have HLA := Lib.hid (And.intro hxa.1.1 hxo.1.1)
      obtain ⟨e0, e1, e2, e3, e4, e5, e6, e7, e8, e9, e10⟩ := stC_at hrow2
      obtain ⟨W0, hW0⟩ : ∃ W0 : World, W0 = wr.alloc (.cells #[.int .i64 xk, .string (bs xs), .int .i64 xn, .int .i64 ek, .int .i64 en, .string (bs es), .string (bs em), .slice A2 na2 ca2, .slice O2 no2 co2, .slice B2 nb2 cb2, .slice L2 nl2 cl2] 46) := ⟨_, rfl⟩
      have HROW := Lib.hid (show W0.heap[wr.heap.size]? = some (.cells #[.int .i64 xk, .string (bs xs), .int .i64 xn, .int .i64 ek, .int .i64 en, .string (bs es), .string (bs em), .slice A2 na2 ca2, .slice O2 no2 co2, .slice B2 nb2 cb2, .slice L2 nl2 cl2] 46 (0, 0)) from by rw [hW0]; exact heap_alloc_new wr _)
      have HLT := Lib.hid (show wr.heap.size < W0.heap.size from by rw [hW0]; exact lt_new _ _)
      have HAL := Lib.hid (show Below wr.heap.size wr W0 from by rw [hW0]; exact (Below.refl _ _).alloc (Nat.le_refl _) _)
      have HF := Lib.hid (show ∀ W, Bz W0 W → (W.cell? ⟨wr.heap.size, 0, none⟩ = some (.int .i64 xk) ∧ W.cell? ⟨wr.heap.size, 1, none⟩ = some (.string (bs xs)) ∧ W.cell? ⟨wr.heap.size, 2, none⟩ = some (.int .i64 xn) ∧ W.cell? ⟨wr.heap.size, 3, none⟩ = some (.int .i64 ek) ∧ W.cell? ⟨wr.heap.size, 4, none⟩ = some (.int .i64 en) ∧ W.cell? ⟨wr.heap.size, 5, none⟩ = some (.string (bs es)) ∧ W.cell? ⟨wr.heap.size, 6, none⟩ = some (.string (bs em)) ∧ W.cell? ⟨wr.heap.size, 7, none⟩ = some (.slice A2 na2 ca2) ∧ W.cell? ⟨wr.heap.size, 8, none⟩ = some (.slice O2 no2 co2) ∧ W.cell? ⟨wr.heap.size, 9, none⟩ = some (.slice B2 nb2 cb2) ∧ W.cell? ⟨wr.heap.size, 10, none⟩ = some (.slice L2 nl2 cl2)) from fun W h => st_cells ((h.b.block _ HLT.out).trans HROW.out))
      have HG := Lib.hid (show ∀ W, Bz W0 W → Below w.heap.size w W from fun W h => (HB.out.trans (HAL.out.mono HB.out.size)).trans (h.b.mono (Nat.le_trans HB.out.size HAL.out.size)))
      have KE := Lib.hid (show ∀ W, Bz W0 W → Calls Tryd.prog 41 #[.agg #[.int .i64 ek, .int .i64 en, .string (bs es), .string (bs em), .slice A2 na2 ca2, .slice O2 no2 co2]] W fun e' w' => ∃ cs', e' = .returned (.agg cs'.toArray) ∧ XV w' (fun b => W0.heap.size ≤ b) (.mk ek en es em ea eo) cs' ∧ Below W.heap.size W w' from fun W h => (convE_any _ W S _ (by omega) (hex.below (HG.out W h))).mono (by
        rintro e w' ⟨cs', h1, h2, h3⟩
        exact ⟨cs', h1, h2.more fun b _ hb => Nat.le_trans h.b.size hb, h3⟩))
      have KB := Lib.hid (show ∀ W, Bz W0 W → Calls Tryd.prog 23 #[.slice B2 nb2 cb2] W fun e' w' => ∃ A' c', e' = .returned (.slice A' nb2 c') ∧ SL w' (fun b => W.heap.size ≤ b) A' nb2 c' xb ∧ Below W.heap.size W w' from fun W h => hih.1 W S B2 nb2 cb2 (by show St.sizes xb ≤ _; omega) (hxb.below (HG.out W h)))
      have KL := Lib.hid (show ∀ W, Bz W0 W → Calls Tryd.prog 23 #[.slice L2 nl2 cl2] W fun e' w' => ∃ A' c', e' = .returned (.slice A' nl2 c') ∧ SL w' (fun b => W.heap.size ≤ b) A' nl2 c' xl ∧ Below W.heap.size W w' from fun W h => hih.2 W S L2 nl2 cl2 (by show St.sizes xl ≤ _; omega) (hxl.below (HG.out W h)))
      clear hx hb hS hxv hrow hrow2 hlt hmem hex hxb hxl hxa hxo hih hxz
      go_upto_region 6 with fail
      rw [← hW0]
      clear hW0 e0 e1 e2 e3 e4 e5 e6 e7 e8 e9 e10
      have z0 : Bz W0 W0 := ⟨Below.refl _ _⟩
      have z1 := z0.drew
      refine wp_region_held_drew (S := fun W => W.cell? ⟨wr.heap.size, 0, none⟩ = some (.int .i64 xk) ∧ W.cell? ⟨wr.heap.size, 1, none⟩ = some (.string (bs xs)) ∧ W.cell? ⟨wr.heap.size, 2, none⟩ = some (.int .i64 xn) ∧ W.cell? ⟨wr.heap.size, 3, none⟩ = some (.int .i64 ek) ∧ W.cell? ⟨wr.heap.size, 4, none⟩ = some (.int .i64 en) ∧ W.cell? ⟨wr.heap.size, 5, none⟩ = some (.string (bs es)) ∧ W.cell? ⟨wr.heap.size, 6, none⟩ = some (.string (bs em)) ∧ W.cell? ⟨wr.heap.size, 7, none⟩ = some (.slice A2 na2 ca2) ∧ W.cell? ⟨wr.heap.size, 8, none⟩ = some (.slice O2 no2 co2) ∧ W.cell? ⟨wr.heap.size, 9, none⟩ = some (.slice B2 nb2 cb2) ∧ W.cell? ⟨wr.heap.size, 10, none⟩ = some (.slice L2 nl2 cl2)) (by kernel_rfl) (HF.out _ z1) (fun hHeld => ?_)
      refine wpAnyH_take (i := 0) (oi := ⟨some 16, _, _, _, _, _⟩) (v := vv) rfl (by kernel_rfl) (by kernel_rfl) (by kernel_rfl) (fun _ _ _ h => h) (Or.inl ⟨by rfl, ?_⟩) hHeld ?_
      · intro W hW
        obtain ⟨h0, h1, h2, h3, h4, h5, h6, h7, h8, h9, h10⟩ := hW
        go_simp
      try simp only [Act.put, List.setIfInBounds_toArray, List.set_cons_zero, List.set_cons_succ]
      refine wpAnyH_take (i := 1) (oi := ⟨some 17, _, _, _, _, _⟩) (v := .pointer (some ⟨wr.heap.size, 0, none⟩)) rfl (by kernel_rfl) (by kernel_rfl) (by kernel_rfl) (fun _ _ _ h => h) (Or.inl ⟨by rfl, ?_⟩) hHeld ?_
      · intro W hW
        obtain ⟨h0, h1, h2, h3, h4, h5, h6, h7, h8, h9, h10⟩ := hW
        go_simp
      try simp only [Act.put, List.setIfInBounds_toArray, List.set_cons_zero, List.set_cons_succ]
      refine wpAnyH_take (i := 2) (oi := ⟨some 18, _, _, _, _, _⟩) (v := .int .i64 xk) rfl (by kernel_rfl) (by kernel_rfl) (by kernel_rfl) (fun _ _ _ h => h) (Or.inl ⟨by rfl, ?_⟩) hHeld ?_
      · intro W hW
        obtain ⟨h0, h1, h2, h3, h4, h5, h6, h7, h8, h9, h10⟩ := hW
        go_simp
      try simp only [Act.put, List.setIfInBounds_toArray, List.set_cons_zero, List.set_cons_succ]
      refine wpAnyH_take (i := 3) (oi := ⟨some 19, _, _, _, _, _⟩) (v := .pointer (some ⟨wr.heap.size, 1, none⟩)) rfl (by kernel_rfl) (by kernel_rfl) (by kernel_rfl) (fun _ _ _ h => h) (Or.inl ⟨by rfl, ?_⟩) hHeld ?_
      · intro W hW
        obtain ⟨h0, h1, h2, h3, h4, h5, h6, h7, h8, h9, h10⟩ := hW
        go_simp
      try simp only [Act.put, List.setIfInBounds_toArray, List.set_cons_zero, List.set_cons_succ]
      refine wpAnyH_take (i := 4) (oi := ⟨some 20, _, _, _, _, _⟩) (v := .string (bs xs)) rfl (by kernel_rfl) (by kernel_rfl) (by kernel_rfl) (fun _ _ _ h => h) (Or.inl ⟨by rfl, ?_⟩) hHeld ?_
      · intro W hW
        obtain ⟨h0, h1, h2, h3, h4, h5, h6, h7, h8, h9, h10⟩ := hW
        go_simp
      try simp only [Act.put, List.setIfInBounds_toArray, List.set_cons_zero, List.set_cons_succ]
      refine wpAnyH_take (i := 5) (oi := ⟨some 21, _, _, _, _, _⟩) (v := .pointer (some ⟨wr.heap.size, 2, none⟩)) rfl (by kernel_rfl) (by kernel_rfl) (by kernel_rfl) (fun _ _ _ h => h) (Or.inl ⟨by rfl, ?_⟩) hHeld ?_
      · intro W hW
        obtain ⟨h0, h1, h2, h3, h4, h5, h6, h7, h8, h9, h10⟩ := hW
        go_simp
      try simp only [Act.put, List.setIfInBounds_toArray, List.set_cons_zero, List.set_cons_succ]
      refine wpAnyH_take (i := 6) (oi := ⟨some 22, _, _, _, _, _⟩) (v := .int .i64 xn) rfl (by kernel_rfl) (by kernel_rfl) (by kernel_rfl) (fun _ _ _ h => h) (Or.inl ⟨by rfl, ?_⟩) hHeld ?_
      · intro W hW
        obtain ⟨h0, h1, h2, h3, h4, h5, h6, h7, h8, h9, h10⟩ := hW
        go_simp
      try simp only [Act.put, List.setIfInBounds_toArray, List.set_cons_zero, List.set_cons_succ]
      refine wpAnyH_take (i := 7) (oi := ⟨some 23, _, _, _, _, _⟩) (v := .pointer (some ⟨wr.heap.size, 3, none⟩)) rfl (by kernel_rfl) (by kernel_rfl) (by kernel_rfl) (fun _ _ _ h => h) (Or.inl ⟨by rfl, ?_⟩) hHeld ?_
      · intro W hW
        obtain ⟨h0, h1, h2, h3, h4, h5, h6, h7, h8, h9, h10⟩ := hW
        go_simp
      try simp only [Act.put, List.setIfInBounds_toArray, List.set_cons_zero, List.set_cons_succ]
      refine wpAnyH_take (i := 8) (oi := ⟨some 24, _, _, _, _, _⟩) (v := .agg #[.int .i64 ek, .int .i64 en, .string (bs es), .string (bs em), .slice A2 na2 ca2, .slice O2 no2 co2]) rfl (by kernel_rfl) (by kernel_rfl) (by kernel_rfl) (fun _ _ _ h => h) (Or.inl ⟨by rfl, ?_⟩) hHeld ?_
      · intro W hW
        obtain ⟨h0, h1, h2, h3, h4, h5, h6, h7, h8, h9, h10⟩ := hW
        go_simp
      try simp only [Act.put, List.setIfInBounds_toArray, List.set_cons_zero, List.set_cons_succ]
      refine wpAnyH_take (i := 10) (oi := ⟨some 26, _, _, _, _, _⟩) (v := .pointer (some ⟨wr.heap.size, 9, none⟩)) rfl (by kernel_rfl) (by kernel_rfl) (by kernel_rfl) (fun _ _ _ h => h) (Or.inl ⟨by rfl, ?_⟩) hHeld ?_
      · intro W hW
        obtain ⟨h0, h1, h2, h3, h4, h5, h6, h7, h8, h9, h10⟩ := hW
        go_simp
      try simp only [Act.put, List.setIfInBounds_toArray, List.set_cons_zero, List.set_cons_succ]
      refine wpAnyH_take (i := 11) (oi := ⟨some 27, _, _, _, _, _⟩) (v := .slice B2 nb2 cb2) rfl (by kernel_rfl) (by kernel_rfl) (by kernel_rfl) (fun _ _ _ h => h) (Or.inl ⟨by rfl, ?_⟩) hHeld ?_
      · intro W hW
        obtain ⟨h0, h1, h2, h3, h4, h5, h6, h7, h8, h9, h10⟩ := hW
        go_simp
      try simp only [Act.put, List.setIfInBounds_toArray, List.set_cons_zero, List.set_cons_succ]
      refine wpAnyH_take (i := 13) (oi := ⟨some 29, _, _, _, _, _⟩) (v := .pointer (some ⟨wr.heap.size, 10, none⟩)) rfl (by kernel_rfl) (by kernel_rfl) (by kernel_rfl) (fun _ _ _ h => h) (Or.inl ⟨by rfl, ?_⟩) hHeld ?_
      · intro W hW
        obtain ⟨h0, h1, h2, h3, h4, h5, h6, h7, h8, h9, h10⟩ := hW
        go_simp
      try simp only [Act.put, List.setIfInBounds_toArray, List.set_cons_zero, List.set_cons_succ]
      refine wpAnyH_take (i := 14) (oi := ⟨some 30, _, _, _, _, _⟩) (v := .slice L2 nl2 cl2) rfl (by kernel_rfl) (by kernel_rfl) (by kernel_rfl) (fun _ _ _ h => h) (Or.inl ⟨by rfl, ?_⟩) hHeld ?_
      · intro W hW
        obtain ⟨h0, h1, h2, h3, h4, h5, h6, h7, h8, h9, h10⟩ := hW
        go_simp
      try simp only [Act.put, List.setIfInBounds_toArray, List.set_cons_zero, List.set_cons_succ]
      refine wpAnyH_ready (rs := [9]) (by kernel_rfl) (by simp) ?_
      refine AllReadyH.cons (o := ⟨some 25, _, _, _, _, _⟩) rfl (fun K hK => ?_) AllReadyH.nil
      refine Eq.mpr (if_pos (by kernel_rfl)) ?_
      go_simp
      refine (KE.out _ z1).mono ?_
      rintro e w2 ⟨cs3, rfl, hx3, hbz2⟩
      obtain ⟨A3, na3, ca3, O3, no3, co3, rfl, ha3, ho3⟩ := hx3.open_
      obtain rfl : na3 = na2 := ha3.1.1.trans HLA.out.1.symm
      obtain rfl : no3 = no2 := ho3.1.1.trans HLA.out.2.symm
      unfold exC
      have z2 := z1.next hbz2
      refine hK.out _ _ (HF.out _ z2) (fun hHeld2 => ?_)
      clear hK
      try simp only [Act.put, List.setIfInBounds_toArray, List.set_cons_zero, List.set_cons_succ]
      refine wpAnyH_ready (rs := [12]) (by kernel_rfl) (by simp) ?_
      refine AllReadyH.cons (o := ⟨some 28, _, _, _, _, _⟩) rfl (fun K hK => ?_) AllReadyH.nil
      refine Eq.mpr (if_pos (by kernel_rfl)) ?_
      go_simp
      refine (KB.out _ z2).mono ?_
      rintro e w3 ⟨B3, cb3, rfl, hB3, hbz3⟩
      have z3 := z2.next hbz3
      refine hK.out _ _ (HF.out _ z3) (fun hHeld3 => ?_)
      clear hK
      try simp only [Act.put, List.setIfInBounds_toArray, List.set_cons_zero, List.set_cons_succ]
      refine wpAnyH_ready (rs := [15]) (by kernel_rfl) (by simp) ?_
      refine AllReadyH.cons (o := ⟨some 31, _, _, _, _, _⟩) rfl (fun K hK => ?_) AllReadyH.nil
      refine Eq.mpr (if_pos (by kernel_rfl)) ?_
      go_simp
      refine (KL.out _ z3).mono ?_
      rintro e w4 ⟨L3, cl3, rfl, hL3, hbz4⟩
      have z4 := z3.next hbz4
      refine hK.out _ _ (HF.out _ z4) (fun hHeld4 => ?_)
      clear hK
      try simp only [Act.put, List.setIfInBounds_toArray, List.set_cons_zero, List.set_cons_succ]
      refine wpAnyH_take (i := 16) (oi := ⟨some 32, _, _, _, _, _⟩) (v := .agg #[.int .i64 xk, .string (bs xs), .int .i64 xn, .int .i64 ek, .int .i64 en, .string (bs es), .string (bs em), .slice A3 na3 ca3, .slice O3 no3 co3, .slice B3 nb2 cb3, .slice L3 nl2 cl3]) rfl (by kernel_rfl) (by kernel_rfl) (by kernel_rfl) (fun _ _ _ h => h) (Or.inl ⟨by rfl, ?_⟩) hHeld4 ?_
      · intro W hW
        obtain ⟨h0, h1, h2, h3, h4, h5, h6, h7, h8, h9, h10⟩ := hW
        go_simp
      try simp only [Act.put, List.setIfInBounds_toArray, List.set_cons_zero, List.set_cons_succ]
      refine wpAnyH_ready (rs := [17]) (by kernel_rfl) (by simp) ?_
      refine AllReadyH.cons (o := ⟨some 33, _, _, _, _, _⟩) rfl (fun K hK => ?_) AllReadyH.nil
      refine Eq.mpr (if_pos (by kernel_rfl)) ?_
      go_simp
      have z5 := Bz.alloc z4 (.cells #[.int .i64 xk, .string (bs xs), .int .i64 xn, .int .i64 ek, .int .i64 en, .string (bs es), .string (bs em), .slice A3 na3 ca3, .slice O3 no3 co3, .slice B3 nb2 cb3, .slice L3 nl2 cl3] 85)
      refine hK.out _ _ (HF.out _ z5) (fun hHeld5 => ?_)
      clear hK
      try simp only [Act.put, List.setIfInBounds_toArray, List.set_cons_zero, List.set_cons_succ]
      refine wpAnyH_ready (rs := [18]) (by kernel_rfl) (by simp) ?_
      refine AllReadyH.cons (o := ⟨some 34, _, _, _, _, _⟩) rfl (fun K hK => ?_) AllReadyH.nil
      refine Eq.mpr (if_pos (by kernel_rfl)) ?_
      have hb5 : Below wr.heap.size wr (w4.alloc (.cells #[.int .i64 xk, .string (bs xs), .int .i64 xn, .int .i64 ek, .int .i64 en, .string (bs es), .string (bs em), .slice A3 na3 ca3, .slice O3 no3 co3, .slice B3 nb2 cb3, .slice L3 nl2 cl3] 85)) := HAL.out.trans (z5.b.mono HAL.out.size)
      have hxs : SV (w4.alloc (.cells #[.int .i64 xk, .string (bs xs), .int .i64 xn, .int .i64 ek, .int .i64 en, .string (bs es), .string (bs em), .slice A3 na3 ca3, .slice O3 no3 co3, .slice B3 nb2 cb3, .slice L3 nl2 cl3] 85)) (fun b => wr.heap.size ≤ b) (.mk xk xs xn (.mk ek en es em ea eo) xb xl) (stC xk xs xn (exC ek en es em A3 na3 ca3 O3 no3 co3) B3 nb2 cb3 L3 nl2 cl3) := by
        have hal : Below w4.heap.size w4 (w4.alloc (.cells #[.int .i64 xk, .string (bs xs), .int .i64 xn, .int .i64 ek, .int .i64 en, .string (bs es), .string (bs em), .slice A3 na3 ca3, .slice O3 no3 co3, .slice B3 nb2 cb3, .slice L3 nl2 cl3] 85)) := (Below.refl _ _).alloc (Nat.le_refl _) _
        have s1 : wr.heap.size ≤ W0.heap.size := HAL.out.size
        have s2 : wr.heap.size ≤ w2.heap.size := Nat.le_trans s1 z2.b.size
        have s3 : wr.heap.size ≤ w3.heap.size := Nat.le_trans s1 z3.b.size
        exact SV.shut HNR.out ((XV.more ((hx3.below hbz3).below hbz4) (fun b _ h => Nat.le_trans s1 h)).below hal) ((SL.more (hB3.below hbz4) (fun b _ h => Nat.le_trans s2 h)).below hal) ((SL.more hL3 (fun b _ h => Nat.le_trans s3 h)).below hal)
      refine apT (.tmp 16) (.tmp 33) rfl w.heap.size wr.heap.size vv (l.take k) rfl (HO.out.below hb5) w4.heap.size _ _ rfl (lt_new _ _) ?_ hxs HM.out (Nat.le_trans HB.out.size hb5.size) (fun q hq => (HO.out.lt q hq).2) HB.out.size ?_
      · exact fun j v hv => by rw [cell_of_row _ _ _ _ _ _ (heap_alloc_new w4 _), Nat.zero_add, List.getElem?_toArray]; exact hv
      intro v6 w6 ho6 hg6
      have z6 : (w6.cell? ⟨wr.heap.size, 0, none⟩ = some (.int .i64 xk) ∧ w6.cell? ⟨wr.heap.size, 1, none⟩ = some (.string (bs xs)) ∧ w6.cell? ⟨wr.heap.size, 2, none⟩ = some (.int .i64 xn) ∧ w6.cell? ⟨wr.heap.size, 3, none⟩ = some (.int .i64 ek) ∧ w6.cell? ⟨wr.heap.size, 4, none⟩ = some (.int .i64 en) ∧ w6.cell? ⟨wr.heap.size, 5, none⟩ = some (.string (bs es)) ∧ w6.cell? ⟨wr.heap.size, 6, none⟩ = some (.string (bs em)) ∧ w6.cell? ⟨wr.heap.size, 7, none⟩ = some (.slice A2 na3 ca2) ∧ w6.cell? ⟨wr.heap.size, 8, none⟩ = some (.slice O2 no3 co2) ∧ w6.cell? ⟨wr.heap.size, 9, none⟩ = some (.slice B2 nb2 cb2) ∧ w6.cell? ⟨wr.heap.size, 10, none⟩ = some (.slice L2 nl2 cl2)) := by
        have hq : w6.heap[wr.heap.size]? = some (.cells #[.int .i64 xk, .string (bs xs), .int .i64 xn, .int .i64 ek, .int .i64 en, .string (bs es), .string (bs em), .slice A2 na3 ca2, .slice O2 no3 co2, .slice B2 nb2 cb2, .slice L2 nl2 cl2] 46 (0, 0)) := (hg6.block _ (Nat.lt_of_lt_of_le HLT.out z5.b.size) (by intro e; have := (HO.out.lt _ e.symm).2; omega)).trans ((z5.b.block _ HLT.out).trans HROW.out)
        exact st_cells hq
      have HO6 := Lib.hid (show OwnT w6 w.heap.size v6 (l.take (k + 1)) by rw [HSN.out]; exact ho6)
      have HB6 := Lib.hid ((HB.out.trans (hb5.mono HB.out.size)).grown hg6 (Nat.le_trans HB.out.size hb5.size) (fun q hq => (HO.out.lt q hq).1))
      refine hK.out _ _ z6 (fun hHeld6 => ?_)
      clear hK
      try simp only [Act.put, List.setIfInBounds_toArray, List.set_cons_zero, List.set_cons_succ]
      refine wpAnyH_take (i := 19) (oi := ⟨some 3, _, _, _, _, _⟩) (v := v6) rfl (by kernel_rfl) (by kernel_rfl) (by kernel_rfl) (fun _ _ _ h => h) (Or.inl ⟨by rfl, ?_⟩) hHeld6 ?_
      · intro W hW
        obtain ⟨h0, h1, h2, h3, h4, h5, h6, h7, h8, h9, h10⟩ := hW
        go_simp
      try simp only [Act.put, List.setIfInBounds_toArray, List.set_cons_zero, List.set_cons_succ]
      refine wpAnyH_done (by kernel_rfl) ?_ _
      go_wp2_with fail
      go_roundw
      case rel => exact ⟨k + 1, HQL.out, by go_num, HO6, HB6⟩
      case measure => exact meas_up _ _ HQL.out
    · have hi2 : ¬ (k : Int) < (n : Int) := by have := HLN.out; omega
      have HF := Lib.hid (show l.take k = l from List.take_of_length_le (by omega))
      rw [HF.out] at HO
      clear hlt hk
      obtain ⟨A3, c3, hv3, hl3⟩ := HO.out.list
      have HL3 := Lib.hid hl3
      have HV3 := Lib.hid hv3
      clear hl3
      subst hv3
      go_wp2
      go_ret
      exact ⟨A3, c3, by rw [HLN.out]; rfl, by rw [HLN.out]; exact HL3.out, HB.out⟩
theorem convS_size (N : Nat) : ∀ l : List St, St.sizes l ≤ N → ConvS l := by
  induction N using Nat.strongRecOn with
  | _ N ih =>
    intro l hl
    refine convS_of fun e he => ?_
    have h1 := St.sizes_mem he
    obtain ⟨k, s, n, x, b, l'⟩ := e
    rw [St.size] at h1
    exact ⟨ih (St.sizes b) (by omega) b (Nat.le_refl _), ih (St.sizes l') (by omega) l' (Nat.le_refl _)⟩
theorem convS_any (l : List St) : ConvS l := convS_size _ l (Nat.le_refl _)
end Go.Proofs.YthfjkdgaiaokdaaDoor
