/- The space in memory: its known words, its read set and its buffered writes. No condition. -/
import Derived.Test.YtkloaopjlbinpaaGreatMap
import Derived.Test.YtkloaopjlbinpaaGreatQA
import Derived.Defers
import Derived.Deep.Cut
import Derived.Deep.RegionHeld3
set_option linter.unusedVariables false
set_option linter.unusedSimpArgs false
namespace Go.Proofs.YtkloaopjlbinpaaGreat
open Go.RowKit Go.MapKept

/-- Block r holds these cells. -/
def HB (t : TypeId) (w : World) (r : Nat) (u : Array Value) : Prop := w.heap[r]? = some (.cells u t (0, 0))
/-- What has changed lies in blocks that meet X, or is new. -/
structure KX (X : Nat → Prop) (w w' : World) : Prop where
  os : w'.os = w.os
  tape : w'.tape = w.tape
  output : w'.output = w.output
  size : w.heap.size ≤ w'.heap.size
  block : ∀ k, k < w.heap.size → ¬ X k → w'.heap[k]? = w.heap[k]?
section
variable {X Y : Nat → Prop} {w w' w'' : World} {t : TypeId} {r : Nat} {u : Array Value}
theorem KX.refl (X : Nat → Prop) (w : World) : KX X w w := ⟨rfl, rfl, rfl, Nat.le_refl _, fun _ _ _ => rfl⟩
theorem KX.trans (h : KX X w w') (k : KX X w' w'') : KX X w w'' :=
  ⟨k.os.trans h.os, k.tape.trans h.tape, k.output.trans h.output, Nat.le_trans h.size k.size, fun b hb hx => (k.block b (Nat.lt_of_lt_of_le hb h.size) hx).trans (h.block b hb hx)⟩
theorem KX.mono (h : KX X w w') (hs : ∀ b, b < w.heap.size → X b → Y b) : KX Y w w' := ⟨h.os, h.tape, h.output, h.size, fun b hb hy => h.block b hb (fun hx => hy (hs b hb hx))⟩
theorem KX.of_below (h : Below w.heap.size w w') : KX X w w' := ⟨h.os, h.tape, h.output, h.size, fun b hb _ => h.block b hb⟩
theorem KX.of_grown {row : Option Nat} (h : w.grownBy w' row) (hr : ∀ k, row = some k → X k) : KX X w w' := ⟨h.os, h.tape, h.output, h.size, fun b hb hx => h.block b hb (fun e => hx (hr b e.symm))⟩
theorem KX.below {B : Nat} (h : KX X w w') (hB : B ≤ w.heap.size) (hx : ∀ b, b < B → ¬ X b) : Below B w w' := ⟨h.os, h.tape, h.output, h.size, fun b hb => h.block b (by omega) (hx b hb)⟩
theorem below_alloc (w : World) (o : Obj) : Below w.heap.size w (w.alloc o) := (Below.refl _ _).alloc (Nat.le_refl _) _
theorem HB.lt (h : HB t w r u) : r < w.heap.size := lt_of_block h
theorem HB.kx (h : HB t w r u) (hk : KX X w w') (hx : ¬ X r) : HB t w' r u := (hk.block r h.lt hx).trans h
theorem HB.below (h : HB t w r u) (hb : Below w.heap.size w w') : HB t w' r u := (hb.block r h.lt).trans h
theorem HB.cell (h : HB t w r u) (j : Nat) : w.cell? ⟨r, j, none⟩ = u[j]? := by rw [cell_of_row _ _ _ _ _ _ h]
theorem HB.free (h : HB t w r u) (j : Nat) : w.frozen? ⟨r, j, none⟩ = false := by simp [World.frozen?, show w.heap[r]? = _ from h]
theorem HB.set (h : HB t w r u) (j : Nat) (v : Value) : HB t (w.setCell ⟨r, j, none⟩ v) r (u.setIfInBounds j v) := by
  unfold HB
  rw [setCell_eq_setRow w r j _ _ _ _ h]
  exact setRow_heap _ _ _ _ _ _ h
theorem HB.new (w : World) (t : TypeId) (u : Array Value) : HB t (w.alloc (.cells u t)) w.heap.size u := heap_alloc_new _ _
theorem setCell_same {t : TypeId} {w : World} {r : Nat} {u : Array Value} (h : HB t w r u) (j : Nat) (v : Value) (hv : u[j]? = some v) : w.setCell ⟨r, j, none⟩ v = w := by
  have hlt := h.lt
  have he : w.heap[r] = .cells u t (0, 0) := (Array.getElem?_eq_some_iff.1 h).2
  rw [setCell_eq_setRow w r j _ _ _ _ h]
  have e1 : u.setIfInBounds j v = u := by
    apply Array.ext_getElem?
    intro i
    rw [Array.getElem?_setIfInBounds]
    split
    · rename_i e
      subst e
      split
      · exact hv.symm
      · rename_i hn
        rw [Array.getElem?_eq_none (by omega)]
    · rfl
  rw [e1]
  have e2 : ∀ f : Obj → Obj, f (.cells u t (0, 0)) = .cells u t (0, 0) → w.heap.modify r f = w.heap := fun f hf => by
    apply Array.ext
    · simp
    · intro i h1 h2
      rw [Array.getElem_modify]
      split
      · rename_i e
        subst e
        rw [he, hf]
      · rfl
  unfold World.setRow
  rw [e2 _ rfl]
theorem gr_put (W : World) (b j : Nat) (v : Value) : W.grownBy (W.setCell ⟨b, j, none⟩ v) (some b) :=
  ⟨rfl, rfl, rfl, by simp, fun k hk hne => Below.heap_setCell _ _ _ k (fun e => hne (by rw [e]))⟩
end

/-- The values and the versions of the 1120 words. -/
structure Mem where
  val : Int → Int
  ver : Int → Int
def inM (k : Int) : Prop := 0 ≤ k ∧ k < 1120
instance (k : Int) : Decidable (inM k) := by unfold inM; infer_instance
def wdV (v n : Int) : Value := .agg #[.int .i64 v, .int .u32 n, .int .u32 0]
def Mem.at (g : Mem) (k : Int) : Option Value := if inM k then some (wdV (g.val k) (g.ver k)) else none
/-- The words' versions fit. -/
def Mem.Fits (g : Mem) (n : Int) : Prop := ∀ k, inM k → 0 ≤ g.ver k ∧ g.ver k ≤ n
def setI (f : Int → Int) (a v : Int) : Int → Int := fun i => if i = a then v else f i
/-- The values behind the buffered writes. -/
def cur (g : Mem) (P : List (Int × Int)) : Int → Int := P.foldl (fun f p => setI f p.1 p.2) g.val
theorem cur_push (g : Mem) (P : List (Int × Int)) (a v : Int) : cur g (P ++ [(a, v)]) = setI (cur g P) a v := by unfold cur; rw [List.foldl_append]; rfl
theorem fold_skip (P : List (Int × Int)) (a : Int) : ∀ f : Int → Int, (∀ p ∈ P, p.1 ≠ a) → (P.foldl (fun f p => setI f p.1 p.2) f) a = f a := by
  induction P with
  | nil => intro f _; rfl
  | cons p t ih =>
    intro f h
    rw [List.foldl_cons, ih _ (fun q hq => h q (List.mem_cons_of_mem _ hq))]
    exact if_neg (fun e => h p List.mem_cons_self e.symm)
theorem cur_none (g : Mem) {P : List (Int × Int)} {a : Int} (h : ∀ p ∈ P, p.1 ≠ a) : cur g P a = g.val a := fold_skip P a _ h
theorem cur_at (g : Mem) {P : List (Int × Int)} {a v : Int} {i : Nat} (h : P[i]? = some (a, v)) (hl : ∀ j p, i < j → P[j]? = some p → p.1 ≠ a) : cur g P a = v := by
  obtain ⟨hi, he⟩ := List.getElem?_eq_some_iff.1 h
  have e : P = P.take i ++ (a, v) :: P.drop (i + 1) := by rw [← he, ← List.drop_eq_getElem_cons hi, List.take_append_drop]
  rw [e]
  unfold cur
  rw [List.foldl_append, List.foldl_cons, fold_skip _ a _ (fun p hp => ?_)]
  · exact if_pos rfl
  · obtain ⟨j, hj⟩ := List.mem_iff_getElem?.1 hp
    rw [List.getElem?_drop] at hj
    exact hl _ p (by omega) hj
/-- Whether a location is written. -/
def wrt (P : List (Int × Int)) (a : Int) : Bool := P.any fun p => decide (p.1 = a)
theorem wrt_none {P : List (Int × Int)} {a : Int} (h : ∀ p ∈ P, p.1 ≠ a) : wrt P a = false := by
  unfold wrt
  rw [List.any_eq_false]
  exact fun p hp => by simpa using h p hp
theorem wrt_some {P : List (Int × Int)} {a v : Int} (h : (a, v) ∈ P) : wrt P a = true := by
  unfold wrt
  rw [List.any_eq_true]
  exact ⟨_, h, by simp⟩

def putC (p : Int × Int) : List Value := [.int .i64 p.1, .int .i64 p.2]
def rdF (R : Int → Bool) (k : Int) : Option Value := if R k = true then some (.bool true) else none
def rdU (R : Int → Bool) (a : Int) : Int → Bool := fun k => R k || decide (k = a)
theorem rd_upd (R : Int → Bool) (a : Int) : upd (rdF R) a (.bool true) = rdF (rdU R a) := by
  funext k
  unfold upd rdF rdU
  by_cases h : k = a
  · simp [h]
  · simp [h]
def spU (kb rb : Nat) (pv : Value) : Array Value := #[.map (some kb), .map (some rb), pv, .int .i64 0, .bool false]
/-- The space at the block sb: known words g, read set R, writes P; its blocks meet X. -/
structure Sp (w : World) (X : Nat → Prop) (base sb : Nat) (g : Mem) (R : Int → Bool) (P : List (Int × Int)) : Prop where
  ex : ∃ kb rb pv, HB 147 w sb (spU kb rb pv) ∧ IntMap w kb g.at ∧ IntMap w rb (rdF R) ∧ w.ownsRow base 151 2 pv P.length (P.flatMap putC) ∧
    (kb ≠ rb ∧ sb ≠ rb ∧ sb ≠ kb) ∧ (X kb ∧ X rb ∧ X sb) ∧ (base ≤ w.heap.size ∧ (P = [] → pv = .slice none 0 0)) ∧ ∀ k, pv.ownBlock = some k → X k ∧ k ≠ kb ∧ k ≠ rb ∧ k ≠ sb
  puts : ∀ p ∈ P, inM p.1 ∧ R p.1 = true
  reads : ∀ k, R k = true → inM k
section
variable {X Y : Nat → Prop} {w w' : World} {base sb : Nat} {g : Mem} {R : Int → Bool} {P : List (Int × Int)}
theorem Sp.kx (h : Sp w X base sb g R P) (hk : KX Y w w') (hx : ∀ b, b < w.heap.size → X b → ¬ Y b) : Sp w' X base sb g R P := by
  obtain ⟨⟨kb, rb, pv, h1, h2, h3, h4, h5, h6, h7, h8⟩, hp, hr⟩ := h
  have k1 := h1.lt
  have k2 := h2.lt
  have k3 := h3.lt
  refine ⟨⟨kb, rb, pv, h1.kx hk (hx _ k1 h6.2.2), h2.keep (hk.block _ k2 (hx _ k2 h6.1)), h3.keep (hk.block _ k3 (hx _ k3 h6.2.1)), ?_, h5, h6, ⟨Nat.le_trans h7.1 hk.size, h7.2⟩, h8⟩, hp, hr⟩
  refine ⟨h4.1, ?_⟩
  rcases h4.2 with e | ⟨b, cap, c0, rfl, hb, hc, hn, hm, hs, ht⟩
  · exact .inl e
  · exact .inr ⟨b, cap, c0, rfl, hb, (hk.block b (lt_of_block hc) (hx b (lt_of_block hc) (h8 b rfl).1)).trans hc, hn, hm, hs, ht⟩
theorem Sp.below (h : Sp w X base sb g R P) (hb : Below w.heap.size w w') : Sp w' X base sb g R P := h.kx (Y := fun _ => False) (KX.of_below hb) (fun _ _ _ h => h)
theorem Sp.more (h : Sp w X base sb g R P) (hx : ∀ b, b < w.heap.size → X b → Y b) : Sp w Y base sb g R P := by
  obtain ⟨⟨kb, rb, pv, h1, h2, h3, h4, h5, h6, h7, h8⟩, hp, hr⟩ := h
  exact ⟨⟨kb, rb, pv, h1, h2, h3, h4, h5, ⟨hx _ h2.lt h6.1, hx _ h3.lt h6.2.1, hx _ h1.lt h6.2.2⟩, h7, fun k hk => ⟨hx _ (h4.lt k hk).2 (h8 k hk).1, (h8 k hk).2⟩⟩, hp, hr⟩
theorem Sp.lt (h : Sp w X base sb g R P) : sb < w.heap.size := by
  obtain ⟨⟨kb, rb, pv, h1, -⟩, -⟩ := h
  exact h1.lt
theorem Sp.xs (h : Sp w X base sb g R P) : X sb := by
  obtain ⟨⟨kb, rb, pv, h1, h2, h3, h4, h5, h6, -⟩, -⟩ := h
  exact h6.2.2
end

section
variable {Pr : Program} {w : World} {ops : Array Oper} {rest : List Oper} {o : Oper} {a : Act} {Q : Exit → Act → World → Prop}
theorem look_ok (hg : o.guard = none) (m x : Operand) (t : TypeId) (hop : o.op = Op.lookup t m x true) (k e : TypeId) (ht : Pr.underlying t = some (.map k e)) (hk : Pr.underlying k = some (.int .i64)) (z : Value) (hz : ∀ w, (zeroValue e).run Pr w = .ok z w)
    (b : Nat) (f : Int → Option Value) (h : IntMap w b f) (hm : a.eval m = .map (some b)) (i : Int) (hx : a.eval x = .int .i64 i) (u : Value) (hf : f i = some u)
    (hK : wpList Pr ops Q rest (a.put o.dst (.tuple #[u, .bool true])) w) : wpList Pr ops Q (o :: rest) a w := by
  refine wpList_lookup_mine hg m x t true hop k e ht hk z hz (fun _ => True) (.map (some b)) f (.inr ⟨b, rfl, trivial, h.lt, h⟩) hm i hx ?_
  rw [hf]
  exact hK
theorem look_val (hg : o.guard = none) (m x : Operand) (t : TypeId) (hop : o.op = Op.lookup t m x false) (k e : TypeId) (ht : Pr.underlying t = some (.map k e)) (hk : Pr.underlying k = some (.int .i64)) (z : Value) (hz : ∀ w, (zeroValue e).run Pr w = .ok z w)
    (b : Nat) (f : Int → Option Value) (h : IntMap w b f) (hm : a.eval m = .map (some b)) (i : Int) (hx : a.eval x = .int .i64 i) (u : Value) (hf : (f i).getD z = u)
    (hK : wpList Pr ops Q rest (a.put o.dst u) w) : wpList Pr ops Q (o :: rest) a w := by
  refine wpList_lookup_mine hg m x t false hop k e ht hk z hz (fun _ => True) (.map (some b)) f (.inr ⟨b, rfl, trivial, h.lt, h⟩) hm i hx ?_
  rw [if_neg (by simp), hf]
  exact hK
end
set_option maxRecDepth 100000 in
theorem ended_any {X : Nat → Prop} {w : World} {base sb : Nat} {g : Mem} {R : Int → Bool} {P : List (Int × Int)} (h : Sp w X base sb g R P) :
    Calls Tryz.prog 36 #[.pointer (some ⟨sb, 0, none⟩)] w fun e w' => e = .returned (.bool false) ∧ w' = w := by
  obtain ⟨⟨kb, rb, pv, h1, -⟩, -⟩ := h
  have c4 : w.cell? ⟨sb, 4, none⟩ = some (.bool false) := h1.cell 4
  clear h1
  go_enter Tryz.func36, Tryz.ntmps36
  go_wp2
  go_ret
  exact ⟨rfl, rfl⟩
theorem word_zero (w : World) : (zeroValue 96).run Tryz.prog w = .ok (wdV 0 0) w := by kernel_rfl
set_option maxRecDepth 100000 in
set_option maxHeartbeats 6400000 in
theorem reads_any {X : Nat → Prop} {w : World} {base sb : Nat} {g : Mem} {R : Int → Bool} {P : List (Int × Int)} (h : Sp w X base sb g R P) (a : Int) (ha : inM a) :
    Calls Tryz.prog 67 #[.pointer (some ⟨sb, 0, none⟩), .int .i64 a] w fun e w' => e = .returned (.bool true) ∧ Sp w' X base sb g (rdU R a) P ∧ KX X w w' := by
  have HE := Lib.hid (ended_any h)
  have HS := Lib.hid h
  obtain ⟨⟨kb, rb, pv, h1, h2, h3, h4, h5, h6, h7, h8⟩, hp, hr⟩ := h
  have HG := Lib.hid (show g.at a = some (wdV (g.val a) (g.ver a)) from if_pos ha)
  have HA := Lib.hid ha
  have c0 : w.cell? ⟨sb, 0, none⟩ = some (.map (some kb)) := h1.cell 0
  have H1 := Lib.hid h1
  have H2 := Lib.hid h2
  have H3 := Lib.hid h3
  have H4 := Lib.hid h4
  have H5 := Lib.hid h5
  have H6 := Lib.hid h6
  have H7 := Lib.hid h7
  have H8 := Lib.hid h8
  have HP := Lib.hid hp
  have HR := Lib.hid hr
  clear h1 h2 h3 h4 h5 h6 h7 h8 hp hr ha
  go_enter Tryz.func67, Tryz.ntmps67
  go_wp2_with fail
  refine HE.out.mono ?_
  rintro e w1 ⟨rfl, hw⟩
  subst hw
  obtain ⟨W0, hW0⟩ : ∃ W, W = w1.alloc (.cells #[.int .i64 (g.val a), .int .u32 (g.ver a), .int .u32 0] 96) := ⟨_, rfl⟩
  have hb0 : Below w1.heap.size w1 W0 := by rw [hW0]; exact below_alloc _ _
  have c1 : W0.cell? ⟨sb, 1, none⟩ = some (.map (some rb)) := (H1.out.below hb0).cell 1
  have H31 := Lib.hid (H3.out.below hb0)
  have HB0 := Lib.hid hb0
  clear hb0
  go_upto_region 4 with (at_lookup; refine look_ok rfl _ _ 34 rfl 51 96 Tryz.underlying34 Tryz.underlying51 (wdV 0 0) word_zero kb g.at H2.out rfl a rfl (.agg #[.int .i64 (g.val a), .int .u32 (g.ver a), .int .u32 0]) HG.out ?_)
  rw [← hW0]
  clear hW0 c0
  go_wp2_with (at_mapUpdate; refine wpList_mapUpdate_mine rfl _ _ _ 144 rfl 51 4 Tryz.underlying144 Tryz.underlying51 rb (rdF R) H31.out rfl a rfl (.bool true) rfl ?_; intro w2 hm2 hg2 hs2; clear hs2; have HM2 := Lib.hid hm2; have HG2 := Lib.hid hg2; clear hm2 hg2)
  go_ret
  have hk1 : KX (fun b => b = rb) W0 w2 := KX.of_grown HG2.out (fun k e => (Option.some.inj e).symm)
  have hkx : KX X w1 w2 := (KX.of_below HB0.out).trans (hk1.mono fun b _ e => by rw [e]; exact H6.out.2.1)
  have hk : KX (fun b => b = rb) w1 w2 := (KX.of_below HB0.out).trans hk1
  refine ⟨rfl, ⟨⟨kb, rb, pv, H1.out.kx hk H5.out.2.1, H2.out.keep (hk.block _ H2.out.lt H5.out.1), by rw [← rd_upd]; exact HM2.out, ?_, H5.out, H6.out, ⟨Nat.le_trans H7.out.1 hk.size, H7.out.2⟩, H8.out⟩, fun p hp => ⟨(HP.out p hp).1, by unfold rdU; rw [(HP.out p hp).2]; rfl⟩, fun k hk => ?_⟩, hkx⟩
  · refine ⟨H4.out.1, ?_⟩
    rcases H4.out.2 with e | ⟨b, cap, c0, e, hb, hc, hn, hm, hs, ht⟩
    · exact .inl e
    · exact .inr ⟨b, cap, c0, e, hb, (hk.block b (lt_of_block hc) (fun e2 => (H8.out b (by rw [e]; rfl)).2.2.1 e2)).trans hc, hn, hm, hs, ht⟩
  · unfold rdU at hk
    rcases Bool.or_eq_true_iff.1 hk with h | h
    · exact HR.out k h
    · rw [of_decide_eq_true h]; exact HA.out
end Go.Proofs.YtkloaopjlbinpaaGreat
