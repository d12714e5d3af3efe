/- A row of the call's own in the frame of the trie's walks: append. No condition. The walk of the trie's walk: the pairs below a cell. Condition: at most 80000 writes; depth at most 2; at most 128 nodes. slices.SortFunc on pairs by their keys, on a row of the call's own. Condition: at most twelve pairs. -/
import Derived.Test.YtkloaopjlbinpaaGreatTbN
import Derived.Test.YtkloaopjlbinpaaGreatTeS
import Derived.Sort.OwnSortedInts
set_option linter.unusedVariables false
set_option linter.unusedSimpArgs false
namespace Go.Proofs.YtkloaopjlbinpaaGreat
open Go.RowKit Go.MapKept

/-- Elements of sz words of eight bytes. -/
def ElE (E ST : TypeId) (sz bt : Nat) : Prop := Tryz.prog.underlying ST = some (.slice E) ∧ 0 < sz ∧ bt ≤ 64 ∧ ∃ i z, Tryz.prog.info? E = some i ∧ i.zero = some z ∧ i.size = sz ∧ i.bytes = bt ∧ z.cells.size = sz
theorem ele_of {E ST : TypeId} {sz bt : Nat} {z : Value} (ht : Tryz.prog.underlying ST = some (.slice E)) (h0 : 0 < sz) (hb : bt ≤ 64) (hi : (Tryz.prog.info? E).map (fun i => (i.zero, i.size, i.bytes)) = some (some z, sz, bt)) (hz : z.cells.size = sz) : ElE E ST sz bt := by
  obtain ⟨i, h1, h2⟩ := Option.map_eq_some_iff.1 hi
  injection h2 with h2 h3
  injection h3 with h3 h4
  exact ⟨ht, h0, hb, i, z, h1, h2, h3, h4, hz⟩
structure Ro (E : TypeId) (sz : Nat) (X Y : Nat → Prop) (w : World) (base : Nat) (v : Value) (n : Nat) (xs : List Value) : Prop where
  o : w.ownsRow base E sz v n xs
  bk : ∀ b, v.ownBlock = some b → X b ∧ ¬ Y b
  hb : base ≤ w.heap.size
section
variable {E ST : TypeId} {sz bt : Nat} {X Y : Nat → Prop} {w0 w w' : World} {base n s b : Nat} {v : Value} {xs : List Value} {t : TypeId} {u : Array Value} {sb : Nat} {g : Mem} {P : List (Int × Int)}
theorem Ro.step (h : Ro E sz X Y w base v n xs) (hk : KX Y w w') : Ro E sz X Y w' base v n xs := ⟨own_kx h.o hk fun b hb => (h.bk b hb).2, h.bk, Nat.le_trans h.hb hk.size⟩
theorem Ro.below (h : Ro E sz X Y w base v n xs) (hb : Below w.heap.size w w') : Ro E sz X Y w' base v n xs := h.step (KX.of_below hb)
theorem Ro.old (h : Ro E sz X Y w base v n xs) (o : Obj) : Ro E sz X (fun b => Y b ∧ b ≠ w.heap.size) (w.alloc o) base v n xs :=
  ⟨own_kx h.o (KX.of_below (X := fun _ => False) (below_alloc w o)) fun _ _ h => h, fun b hb => ⟨(h.bk b hb).1, fun hy => (h.bk b hb).2 hy.1⟩, Nat.le_trans h.hb (below_alloc w o).size⟩
theorem ro_none (hb : base ≤ w.heap.size) : Ro E sz X Y w base (.slice none 0 0) 0 [] := ⟨World.ownsRow_nil _ _ _ _, fun b h => (by cases h), hb⟩
theorem Ro.other (h : Ro E sz X Y w base v n xs) (hne : v.ownBlock ≠ some b) (j : Nat) (x : Value) : Ro E sz X Y (w.setCell ⟨b, j, none⟩ x) base v n xs :=
  ⟨own_kx h.o (KX.of_grown (X := fun k => k = b) (gr_put w b j x) fun k e => (Option.some.inj e).symm) fun k hk e => hne (by rw [hk, e]), h.bk, Nat.le_trans h.hb (gr_put w b j x).size⟩
theorem own_ne2 (ho : w.ownsRow base E sz v n xs) (hb : HB t w b u) (ht : t ≠ E) : v.ownBlock ≠ some b := by
  intro e
  rcases ho.2 with ⟨rfl, -⟩ | ⟨b', cap, c0, rfl, -, hc, -⟩
  · cases e
  · obtain rfl : b' = b := Option.some.inj e
    have := (show w.heap[b']? = _ from hb).symm.trans hc
    injection this with this
    injection this with _ this
    exact ht this
/-- append onto a row of the call's own. -/
theorem row_app (hE : ElE E ST sz bt) (hF : Fr X Y w0 w) (h : Ro E sz X Y w base v n xs) {S : Nat → Prop} {A : Option Addr} {m c : Nat} {news : List Value} (hr : Reads w S sz A m news) (h1 : ∀ u ∈ news, u.oneCell' = true) (hn : n + m ≤ 100000) (ty : TypeId) :
    ∃ A' c' W, (Builtin.append_ #[ST, ST] ty #[v, .slice A m c]).run Tryz.prog w = .ok (.slice A' (n + m) c') W ∧ ∃ Y', Fr X Y' w0 W ∧ Ro E sz X Y' W base (.slice A' (n + m) c') (n + m) (xs ++ news) ∧
      (∀ base sb g P, SpE w Y base sb g P → SpE W Y' base sb g P) ∧ (∀ t b u, v.ownBlock ≠ some b → Bx t X Y w b u → Bx t X Y' W b u) ∧ KX (fun b => v.ownBlock = some b) w W ∧ (∀ b, Y' b → Y b) ∧
      ((Value.slice A' (n + m) c').ownBlock = v.ownBlock ∨ (Value.slice A' (n + m) c').ownBlock = some w.heap.size) := by
  obtain ⟨ht, h0, hb64, i, z, i1, i2, i3, i4, i5⟩ := hE
  have hby : (n + m) * bt ≤ 140737488355328 := Nat.le_trans (Nat.mul_le_mul hn hb64) (by omega)
  obtain ⟨v', W, run, e2, e3, e4⟩ := run_append_any (P := Tryz.prog) w base ST ty E i z sz bt ht i1 i2 i3 i4 i5 h0 v n xs h.o S A m c news hr h1 (by unfold maxLen; omega) hby h.hb
  obtain ⟨A', c', rfl, -, -, -⟩ := own_reads (S := fun _ => True) e2 (fun _ _ => trivial)
  have hk : KX (fun b => v.ownBlock = some b) w W := KX.of_grown e3 fun k h => h
  refine ⟨A', c', W, run, fun b => Y b ∧ (Value.slice A' (n + m) c').ownBlock ≠ some b, ?_, ?_, ?_, ?_, hk, fun b hb => hb.1, e4⟩
  · exact ⟨hF.k.trans (hk.mono fun b _ e => (h.bk b e).1), fun b hb => hF.yx b hb.1, fun b hb => ⟨hF.yn b (Nat.le_trans hk.size hb), fun e => by have := (e2.lt b e).2; omega⟩⟩
  · refine ⟨e2, fun b hb => ⟨?_, fun hy => hy.2 hb⟩, Nat.le_trans h.hb hk.size⟩
    rcases e4 with e | e
    · rw [e] at hb; exact (h.bk b hb).1
    · rw [e] at hb; injection hb with hb; exact hF.yx b (hF.yn b (by omega))
  · intro base sb g P hS
    refine (hS.more (Y := fun b => Y b ∧ (Value.slice A' (n + m) c').ownBlock ≠ some b) fun b hb hy => ⟨hy, fun e => ?_⟩).kx hk fun b hb hy e => (h.bk b e).2 hy.1
    rcases e4 with f | f
    · rw [f] at e; exact (h.bk b e).2 hy
    · rw [f] at e; injection e with e; omega
  · intro t b u hne hb
    exact ⟨hb.hb.kx hk hne, hb.xb, fun hy => hb.ny hy.1⟩
theorem own_new (w : World) {base : Nat} (hb : base ≤ w.heap.size) (E : TypeId) (sz : Nat) (u : Array Value) (hu : u.size = sz) : (w.alloc (.cells u E)).ownsRow base E sz (.slice (some ⟨w.heap.size, 0, none⟩) 1 1) 1 u.toList := by
  refine ⟨by rw [Nat.one_mul, Array.length_toList, hu], .inr ⟨w.heap.size, 1, u, rfl, hb, heap_alloc_new _ _, Nat.le_refl _, ?_, ?_, ?_⟩⟩
  · unfold maxLen; omega
  · rw [hu, Nat.one_mul]
  · rw [List.take_of_length_le (by rw [Array.length_toList, hu, Nat.one_mul]; exact Nat.le_refl _)]
end
end Go.Proofs.YtkloaopjlbinpaaGreat
namespace Go.Proofs.YtkloaopjlbinpaaGreat
open Go.RowKit Go.MapKept

theorem flat_le {α β : Type} {f : Nat → List α} {h : Nat → List β} (hf : ∀ i, (f i).length ≤ (h i).length) : ∀ l : List Nat, (l.flatMap f).length ≤ (l.flatMap h).length
  | [] => Nat.le_refl _
  | a :: l => by rw [List.flatMap_cons, List.flatMap_cons, List.length_append, List.length_append]; exact Nat.add_le_add (hf a) (flat_le hf l)
theorem Tr.pairs_le : ∀ t : Tr, t.pairs.length ≤ t.nodes.length
  | .e => Nat.le_refl _
  | .l _ _ _ => Nat.le_refl _
  | .b a s => by
    show ((List.range 8).flatMap fun i => (s i).pairs).length ≤ (a :: (List.range 8).flatMap fun i => (s i).nodes).length
    rw [List.length_cons]
    exact Nat.le_succ_of_le (flat_le (fun i => (s i).pairs_le) _)
def accP (s : Nat → Tr) (j : Nat) : List (Int × Int) := (List.range j).flatMap fun i => (s i).pairs
def accN (s : Nat → Tr) (j : Nat) : List Nat := (List.range j).flatMap fun i => (s i).nodes
theorem accP_succ (s : Nat → Tr) (j : Nat) : accP s (j + 1) = accP s j ++ (s j).pairs := by unfold accP; rw [List.range_succ, List.flatMap_append]; simp
theorem accN_succ (s : Nat → Tr) (j : Nat) : accN s (j + 1) = accN s j ++ (s j).nodes := by unfold accN; rw [List.range_succ, List.flatMap_append]; simp
theorem acc_le (s : Nat → Tr) (j : Nat) : (accP s j).length ≤ (accN s j).length := flat_le (fun i => (s i).pairs_le) _
theorem accN_le (s : Nat → Tr) : ∀ {j k : Nat}, j ≤ k → (accN s j).length ≤ (accN s k).length := by
  intro j k h
  induction h with
  | refl => exact Nat.le_refl _
  | step _ ih => rw [accN_succ, List.length_append]; omega
theorem putC_one (l : List (Int × Int)) : ∀ u ∈ l.flatMap putC, u.oneCell' = true := by
  intro u hu
  obtain ⟨p, _, hu⟩ := List.mem_flatMap.1 hu
  unfold putC at hu
  simp only [List.mem_cons, List.not_mem_nil, or_false] at hu
  rcases hu with rfl | rfl <;> rfl
theorem ele_pair : ElE 130 124 2 16 := ele_of Tryz.underlying124 (by decide) (by decide) (z := .agg #[.int .i64 0, .int .i64 0]) (by kernel_rfl) rfl
def WalkS (g : Mem) (P : List (Int × Int)) (t' : Tr) : Prop := ∀ (d : Nat) (X : Nat → Prop) (w : World) (base sb lb l : Nat) (c0 : Int), SpE w X base sb g P → (∀ b, w.heap.size ≤ b → X b) → HB 3 w lb #[.int .i64 l] → ¬ X lb →
    t'.at (cur g P) c0 → inM c0 → t'.ok d → (∀ n ∈ t'.nodes, n < 128) → t'.nodes.length ≤ l → l ≤ 128 → d ≤ 2 → P.length ≤ 80000 →
  Calls Tryz.prog 47 #[.agg #[.iface 50 (.agg #[]), .int .i64 1, .int .i64 96, .int .i64 128, .int .i64 40], .pointer (some ⟨sb, 0, none⟩), .int .i64 c0, .int .i64 (d : Int), .pointer (some ⟨lb, 0, none⟩)] w fun e w' => ∃ v, e = .returned (.tuple #[v, .bool true]) ∧ SpE w' (fun b => X b ∧ v.ownBlock ≠ some b) base sb g P ∧ KX (fun b => X b ∨ b = lb) w w' ∧
    HB 3 w' lb #[.int .i64 ((l - t'.nodes.length : Nat) : Int)] ∧ w'.ownsRow w.heap.size 130 2 v t'.pairs.length (t'.pairs.flatMap putC)
set_option maxRecDepth 100000 in
set_option maxHeartbeats 6400000 in
theorem walk_e (g : Mem) (P : List (Int × Int)) : WalkS g P .e := by
  intro d X w base sb lb l c0 h hX hL hnl hat hin hok hlt hl hl2 hd hn
  obtain ⟨XL, hXL⟩ : ∃ Z : Nat → Prop, Z = fun b => X b ∨ b = lb := ⟨_, rfl⟩
  have F := Lib.hid (show Fr XL X w w from by rw [hXL]; exact ⟨KX.refl _ _, fun _ h => .inl h, hX⟩)
  have S := Lib.hid h
  have L := Lib.hid (show Bx 3 XL X w lb #[.int .i64 l] from by rw [hXL]; exact ⟨hL, .inr rfl, hnl⟩)
  obtain ⟨tb, htb⟩ : ∃ n, n = w.heap.size := ⟨_, rfl⟩
  obtain ⟨W0, hW0⟩ : ∃ W, W = w.alloc (.cells #[.iface 50 (.agg #[]), .int .i64 1, .int .i64 96, .int .i64 128, .int .i64 40] 61) := ⟨_, rfl⟩
  obtain ⟨Y0, hY0⟩ : ∃ Y' : Nat → Prop, Y' = fun b => X b ∧ b ≠ w.heap.size := ⟨_, rfl⟩
  have T := Lib.hid (show Bx 61 XL Y0 W0 tb #[.iface 50 (.agg #[]), .int .i64 1, .int .i64 96, .int .i64 128, .int .i64 40] from by rw [hW0, hY0, htb]; exact Bx.new F.out _ _)
  obtain h0 := L.out
  clear L
  have L := Lib.hid (show Bx 3 XL Y0 W0 lb #[.int .i64 l] from by rw [hW0, hY0]; exact h0.old _)
  clear h0
  obtain h0 := F.out
  clear F
  have F := Lib.hid (show Fr XL Y0 w W0 from by rw [hW0, hY0]; exact h0.new _)
  clear h0
  obtain h0 := S.out
  clear S
  have S := Lib.hid (show SpE W0 Y0 base sb g P from by rw [hW0, hY0]; exact h0.new _)
  clear h0
  clear hY0
  rw [← hXL]
  have HXL := Lib.hid (And.intro hXL hnl)
  have HN := Lib.hid hn
  have HIN := Lib.hid hin
  have HLE := Lib.hid (And.intro hl (And.intro hl2 hd))
  have HLT := Lib.hid hlt
  have HOK := Lib.hid hok
  have HAT := Lib.hid hat
  have htl : tb ≠ lb := by have := hL.lt; omega
  have HTL := Lib.hid htl
  clear h hX hL hnl hat hin hok hlt hl hl2 hd hn hXL htl
  go_enter Tryz.func47, Tryz.ntmps47
  go_upto_region 1 with fail
  rw [← hW0, ← htb]
  clear hW0 htb
  go_wp2_with fail
  refine (sget S.out (by have := HN.out; omega) c0 0 HIN.out HAT.out).mono ?_
  rintro e w1 ⟨rfl, hs, hk⟩
  clear S
  have S := Lib.hid hs
  obtain h0 := F.out
  clear F
  have F := Lib.hid (h0.step hk)
  clear h0
  obtain h0 := T.out
  clear T
  have T := Lib.hid (h0.step hk)
  clear h0
  obtain h0 := L.out
  clear L
  have L := Lib.hid (h0.step hk)
  clear h0
  clear hs hk
  go_wp2
  go_ret2
  have yx : ∀ b, Y0 b → X b := fun b hb => by
    have h0 := F.out.yx b hb
    rw [HXL.out.1] at h0
    exact h0.resolve_right (fun e => L.out.ny (by rw [← e]; exact hb))
  exact ⟨.slice none 0 0, rfl, S.out.more fun b _ hb => ⟨yx b hb, fun e => by cases e⟩, F.out.k, L.out.hb, World.ownsRow_nil _ _ _ _⟩
set_option maxRecDepth 100000 in
set_option maxHeartbeats 6400000 in
theorem walk_l (g : Mem) (P : List (Int × Int)) (a : Nat) (k v : Int) : WalkS g P (.l a k v) := by
  intro d X w base sb lb l c0 h hX hL hnl hat hin hok hlt hl hl2 hd hn
  obtain ⟨XL, hXL⟩ : ∃ Z : Nat → Prop, Z = fun b => X b ∨ b = lb := ⟨_, rfl⟩
  have F := Lib.hid (show Fr XL X w w from by rw [hXL]; exact ⟨KX.refl _ _, fun _ h => .inl h, hX⟩)
  have S := Lib.hid h
  have L := Lib.hid (show Bx 3 XL X w lb #[.int .i64 l] from by rw [hXL]; exact ⟨hL, .inr rfl, hnl⟩)
  obtain ⟨tb, htb⟩ : ∃ n, n = w.heap.size := ⟨_, rfl⟩
  obtain ⟨W0, hW0⟩ : ∃ W, W = w.alloc (.cells #[.iface 50 (.agg #[]), .int .i64 1, .int .i64 96, .int .i64 128, .int .i64 40] 61) := ⟨_, rfl⟩
  obtain ⟨Y0, hY0⟩ : ∃ Y' : Nat → Prop, Y' = fun b => X b ∧ b ≠ w.heap.size := ⟨_, rfl⟩
  have T := Lib.hid (show Bx 61 XL Y0 W0 tb #[.iface 50 (.agg #[]), .int .i64 1, .int .i64 96, .int .i64 128, .int .i64 40] from by rw [hW0, hY0, htb]; exact Bx.new F.out _ _)
  obtain h0 := L.out
  clear L
  have L := Lib.hid (show Bx 3 XL Y0 W0 lb #[.int .i64 l] from by rw [hW0, hY0]; exact h0.old _)
  clear h0
  obtain h0 := F.out
  clear F
  have F := Lib.hid (show Fr XL Y0 w W0 from by rw [hW0, hY0]; exact h0.new _)
  clear h0
  obtain h0 := S.out
  clear S
  have S := Lib.hid (show SpE W0 Y0 base sb g P from by rw [hW0, hY0]; exact h0.new _)
  clear h0
  clear hY0
  rw [← hXL]
  have HXL := Lib.hid (And.intro hXL hnl)
  have HN := Lib.hid hn
  have HIN := Lib.hid hin
  have HLE := Lib.hid (And.intro hl (And.intro hl2 hd))
  have HLT := Lib.hid hlt
  have HOK := Lib.hid hok
  have HAT := Lib.hid hat
  have htl : tb ≠ lb := by have := hL.lt; omega
  have HTL := Lib.hid htl
  clear h hX hL hnl hat hin hok hlt hl hl2 hd hn hXL htl
  go_enter Tryz.func47, Tryz.ntmps47
  go_upto_region 1 with fail
  rw [← hW0, ← htb]
  clear hW0 htb
  obtain ⟨x, hx⟩ : ∃ z, z = adr a := ⟨_, rfl⟩
  have hal : a < 128 := HLT.out a List.mem_cons_self
  have HX := Lib.hid (show x = adr a ∧ a < 128 ∧ 96 ≤ x ∧ x ≤ 1112 from ⟨hx, hal, by rw [hx]; unfold adr; omega⟩)
  have HL1 := Lib.hid (show 1 ≤ l from by have h := HLE.out.1; simp only [Tr.nodes, List.length_cons] at h; omega)
  clear hal
  have HV := Lib.hid (show cur g P c0 = x ∧ cur g P x = k ∧ cur g P (x + 1) = v ∧ ¬ x < 0 ∧ ¬ x = 0 from ⟨by rw [hx]; exact HAT.out.1, by rw [hx]; exact HAT.out.2.1, by rw [hx]; exact HAT.out.2.2.1, by rw [hx]; unfold adr; omega, by rw [hx]; unfold adr; omega⟩)
  have W1 : IntKind.i64.wrap (x + 1) = x + 1 := wrap_i64 _ (by rw [hx]; unfold adr; omega) (by have := HX.out; omega)
  have q1 : ¬ x < 0 := HV.out.2.2.2.1
  have q2 : ¬ x = 0 := HV.out.2.2.2.2
  have hd4 : (d : Int) < 4 := by have := HLE.out; omega
  clear hx
  go_wp2_with fail
  refine (sget S.out (by have := HN.out; omega) c0 x HIN.out HV.out.1).mono ?_
  rintro e w1 ⟨rfl, hs, hk⟩
  clear S
  have S := Lib.hid hs
  obtain h0 := F.out
  clear F
  have F := Lib.hid (h0.step hk)
  clear h0
  obtain h0 := T.out
  clear T
  have T := Lib.hid (h0.step hk)
  clear h0
  obtain h0 := L.out
  clear L
  have L := Lib.hid (h0.step hk)
  clear h0
  clear hs hk
  have pT0 : _ = some (Value.iface 50 (.agg #[])) := T.out.hb.cell 0
  have pT1 : _ = some (Value.int .i64 1) := T.out.hb.cell 1
  have pT2 : _ = some (Value.int .i64 96) := T.out.hb.cell 2
  have pT3 : _ = some (Value.int .i64 128) := T.out.hb.cell 3
  have pT4 : _ = some (Value.int .i64 40) := T.out.hb.cell 4
  go_wp2_with fail
  refine (tnode_any a HX.out.2.1 x HX.out.1 _).mono ?_
  rintro e w2 ⟨rfl, hb⟩
  clear pT0 pT1 pT2 pT3 pT4
  obtain h0 := S.out
  clear S
  have S := Lib.hid (h0.below hb)
  clear h0
  obtain h0 := F.out
  clear F
  have F := Lib.hid (h0.below hb)
  clear h0
  obtain h0 := T.out
  clear T
  have T := Lib.hid (h0.below hb)
  clear h0
  obtain h0 := L.out
  clear L
  have L := Lib.hid (h0.below hb)
  clear h0
  clear hb
  have pL0 : _ = some (Value.int .i64 (l : Int)) := L.out.hb.cell 0
  have fl0 := L.out.hb.free 0
  have W7 : IntKind.i64.wrap ((l : Int) - 1) = ((l - 1 : Nat) : Int) := by rw [wrap_i64 _ (by omega) (by have := HLE.out; omega)]; have := HL1.out; omega
  have q7 : ¬ ((l - 1 : Nat) : Int) < 0 := by omega
  obtain ⟨w3, hw3⟩ : ∃ W, W = w2.setCell ⟨lb, 0, none⟩ (.int .i64 ((l - 1 : Nat) : Int)) := ⟨_, rfl⟩
  have F3 := Lib.hid (show Fr XL Y0 w w3 from by rw [hw3]; exact F.out.set L.out 0 _)
  have S3 := Lib.hid (show SpE w3 Y0 base sb g P from by rw [hw3]; exact S.out.set L.out.ny 0 _)
  have T3 := Lib.hid (show Bx 61 XL Y0 w3 tb #[.iface 50 (.agg #[]), .int .i64 1, .int .i64 96, .int .i64 128, .int .i64 40] from by rw [hw3]; exact T.out.other HTL.out 0 _)
  have L3 := Lib.hid (show Bx 3 XL Y0 w3 lb #[.int .i64 ((l - 1 : Nat) : Int)] from by rw [hw3]; exact L.out.set 0 _)
  go_upto_region 9 with fail
  rw [← hw3]
  clear hw3 F S T L fl0 W7
  have F := F3
  have S := S3
  have T := T3
  have L := L3
  clear F3 S3 T3 L3
  clear pL0
  have pL0 : _ = some (Value.int .i64 ((l - 1 : Nat) : Int)) := L.out.hb.cell 0
  go_wp2_with fail
  refine (sget S.out (by have := HN.out; omega) x k (by unfold inM; have := HX.out; omega) HV.out.2.1).mono ?_
  rintro e w4 ⟨rfl, hs, hk⟩
  clear S
  have S := Lib.hid hs
  clear pL0
  obtain h0 := F.out
  clear F
  have F := Lib.hid (h0.step hk)
  clear h0
  obtain h0 := T.out
  clear T
  have T := Lib.hid (h0.step hk)
  clear h0
  obtain h0 := L.out
  clear L
  have L := Lib.hid (h0.step hk)
  clear h0
  clear hs hk
  go_wp2_with fail
  refine (sget S.out (by have := HN.out; omega) (x + 1) v (by unfold inM; have := HX.out; omega) HV.out.2.2.1).mono ?_
  rintro e w5 ⟨rfl, hs, hk⟩
  clear S
  have S := Lib.hid hs
  obtain h0 := F.out
  clear F
  have F := Lib.hid (h0.step hk)
  clear h0
  obtain h0 := T.out
  clear T
  have T := Lib.hid (h0.step hk)
  clear h0
  obtain h0 := L.out
  clear L
  have L := Lib.hid (h0.step hk)
  clear h0
  clear hs hk
  obtain ⟨nb, hnb⟩ : ∃ n, n = w5.heap.size := ⟨_, rfl⟩
  obtain ⟨w6, hw6⟩ : ∃ W, W = w5.alloc (.cells #[.int .i64 k, .int .i64 v] 130) := ⟨_, rfl⟩
  have OW := Lib.hid (show w6.ownsRow w.heap.size 130 2 (.slice (some ⟨nb, 0, none⟩) 1 1) 1 [.int .i64 k, .int .i64 v] from by rw [hw6, hnb]; exact own_new w5 F.out.k.size 130 2 #[.int .i64 k, .int .i64 v] rfl)
  have F6 := Lib.hid (show KX XL w w6 from by rw [hw6]; exact F.out.k.trans (KX.of_below (below_alloc _ _)))
  have S6 := Lib.hid (show SpE w6 (fun b => Y0 b ∧ b ≠ nb) base sb g P from by rw [hw6, hnb]; exact S.out.new _)
  have L6 := Lib.hid (show HB 3 w6 lb #[.int .i64 ((l - 1 : Nat) : Int)] from by rw [hw6]; exact L.out.hb.below (below_alloc _ _))
  go_upto_region 13 with fail
  rw [← hw6, ← hnb]
  clear hw6 hnb
  go_wp2
  go_ret2
  have yx : ∀ b, Y0 b → X b := fun b hb => by
    have h0 := F.out.yx b hb
    rw [HXL.out.1] at h0
    exact h0.resolve_right (fun e => L.out.ny (by rw [← e]; exact hb))
  exact ⟨_, rfl, S6.out.more fun b _ hb => ⟨yx b hb.1, fun e => hb.2 (Option.some.inj e).symm⟩, F6.out, L6.out, OW.out⟩
set_option maxRecDepth 100000 in
set_option maxHeartbeats 6400000 in
theorem walk_b (g : Mem) (P : List (Int × Int)) (a : Nat) (s : Nat → Tr) (ih : ∀ i, i < 8 → WalkS g P (s i)) : WalkS g P (.b a s) := by
  intro d X w base sb lb l c0 h hX hL hnl hat hin hok hlt hl hl2 hd hn
  obtain ⟨XL, hXL⟩ : ∃ Z : Nat → Prop, Z = fun b => X b ∨ b = lb := ⟨_, rfl⟩
  have F := Lib.hid (show Fr XL X w w from by rw [hXL]; exact ⟨KX.refl _ _, fun _ h => .inl h, hX⟩)
  have S := Lib.hid h
  have L := Lib.hid (show Bx 3 XL X w lb #[.int .i64 l] from by rw [hXL]; exact ⟨hL, .inr rfl, hnl⟩)
  obtain ⟨tb, htb⟩ : ∃ n, n = w.heap.size := ⟨_, rfl⟩
  obtain ⟨W0, hW0⟩ : ∃ W, W = w.alloc (.cells #[.iface 50 (.agg #[]), .int .i64 1, .int .i64 96, .int .i64 128, .int .i64 40] 61) := ⟨_, rfl⟩
  obtain ⟨Y0, hY0⟩ : ∃ Y' : Nat → Prop, Y' = fun b => X b ∧ b ≠ w.heap.size := ⟨_, rfl⟩
  have T := Lib.hid (show Bx 61 XL Y0 W0 tb #[.iface 50 (.agg #[]), .int .i64 1, .int .i64 96, .int .i64 128, .int .i64 40] from by rw [hW0, hY0, htb]; exact Bx.new F.out _ _)
  obtain h0 := L.out
  clear L
  have L := Lib.hid (show Bx 3 XL Y0 W0 lb #[.int .i64 l] from by rw [hW0, hY0]; exact h0.old _)
  clear h0
  obtain h0 := F.out
  clear F
  have F := Lib.hid (show Fr XL Y0 w W0 from by rw [hW0, hY0]; exact h0.new _)
  clear h0
  obtain h0 := S.out
  clear S
  have S := Lib.hid (show SpE W0 Y0 base sb g P from by rw [hW0, hY0]; exact h0.new _)
  clear h0
  clear hY0
  rw [← hXL]
  have HXL := Lib.hid (And.intro hXL hnl)
  have HN := Lib.hid hn
  have HIN := Lib.hid hin
  have HLE := Lib.hid (And.intro hl (And.intro hl2 hd))
  have HLT := Lib.hid hlt
  have HOK := Lib.hid hok
  have HAT := Lib.hid hat
  have htl : tb ≠ lb := by have := hL.lt; omega
  have HTL := Lib.hid htl
  have HIH := Lib.hid ih
  clear ih
  clear h hX hL hnl hat hin hok hlt hl hl2 hd hn hXL htl
  go_enter Tryz.func47, Tryz.ntmps47
  go_upto_region 1 with fail
  rw [← hW0, ← htb]
  clear hW0 htb
  obtain ⟨x, hx⟩ : ∃ z, z = adr a := ⟨_, rfl⟩
  have hal : a < 128 := HLT.out a List.mem_cons_self
  have HX := Lib.hid (show x = adr a ∧ a < 128 ∧ 96 ≤ x ∧ x ≤ 1112 from ⟨hx, hal, by rw [hx]; unfold adr; omega⟩)
  have HL1 := Lib.hid (show 1 ≤ l from by have h := HLE.out.1; simp only [Tr.nodes, List.length_cons] at h; omega)
  clear hal
  have HV := Lib.hid (show cur g P c0 = -x from by rw [hx]; exact HAT.out.1)
  have q1 : -x < 0 := by have := HX.out; omega
  have q2 : ¬ -x = 0 := by omega
  have W1 : IntKind.i64.wrap x = x := wrap_i64 _ (by have := HX.out; omega) (by have := HX.out; omega)
  have W10 : wrap64 x = x := by unfold wrap64; have := HX.out; omega
  have HD := Lib.hid (show d < 2 from HOK.out.1)
  have hd4 : ¬ (d : Int) = 4 := by have := HD.out; omega
  have hd5 : ((d : Int) == 4) = false := by simpa using hd4
  have hd6 : decide ((d : Int) = 4) = false := by simpa using hd4
  have hd7 : ¬ d = 4 := by have := HD.out; omega
  have W8 : IntKind.i64.wrap ((d : Int) + 1) = ((d + 1 : Nat) : Int) := by rw [wrap_i64 _ (by omega) (by have := HD.out; omega)]; omega
  clear hx
  go_wp2_with fail
  refine (sget S.out (by have := HN.out; omega) c0 (-x) HIN.out HV.out).mono ?_
  rintro e w1 ⟨rfl, hs, hk⟩
  clear S
  have S := Lib.hid hs
  obtain h0 := F.out
  clear F
  have F := Lib.hid (h0.step hk)
  clear h0
  obtain h0 := T.out
  clear T
  have T := Lib.hid (h0.step hk)
  clear h0
  obtain h0 := L.out
  clear L
  have L := Lib.hid (h0.step hk)
  clear h0
  clear hs hk
  have pT0 : _ = some (Value.iface 50 (.agg #[])) := T.out.hb.cell 0
  have pT1 : _ = some (Value.int .i64 1) := T.out.hb.cell 1
  have pT2 : _ = some (Value.int .i64 96) := T.out.hb.cell 2
  have pT3 : _ = some (Value.int .i64 128) := T.out.hb.cell 3
  have pT4 : _ = some (Value.int .i64 40) := T.out.hb.cell 4
  go_wp2_with fail
  refine (tnode_any a HX.out.2.1 x HX.out.1 _).mono ?_
  rintro e w2 ⟨rfl, hb⟩
  clear pT0 pT1 pT2 pT3 pT4
  obtain h0 := S.out
  clear S
  have S := Lib.hid (h0.below hb)
  clear h0
  obtain h0 := F.out
  clear F
  have F := Lib.hid (h0.below hb)
  clear h0
  obtain h0 := T.out
  clear T
  have T := Lib.hid (h0.below hb)
  clear h0
  obtain h0 := L.out
  clear L
  have L := Lib.hid (h0.below hb)
  clear h0
  clear hb
  have pL0 : _ = some (Value.int .i64 (l : Int)) := L.out.hb.cell 0
  have fl0 := L.out.hb.free 0
  have W7 : IntKind.i64.wrap ((l : Int) - 1) = ((l - 1 : Nat) : Int) := by rw [wrap_i64 _ (by omega) (by have := HLE.out; omega)]; have := HL1.out; omega
  have q7 : ¬ ((l - 1 : Nat) : Int) < 0 := by omega
  obtain ⟨w3, hw3⟩ : ∃ W, W = w2.setCell ⟨lb, 0, none⟩ (.int .i64 ((l - 1 : Nat) : Int)) := ⟨_, rfl⟩
  have F3 := Lib.hid (show Fr XL Y0 w w3 from by rw [hw3]; exact F.out.set L.out 0 _)
  have S3 := Lib.hid (show SpE w3 Y0 base sb g P from by rw [hw3]; exact S.out.set L.out.ny 0 _)
  have T3 := Lib.hid (show Bx 61 XL Y0 w3 tb #[.iface 50 (.agg #[]), .int .i64 1, .int .i64 96, .int .i64 128, .int .i64 40] from by rw [hw3]; exact T.out.other HTL.out 0 _)
  have L3 := Lib.hid (show Bx 3 XL Y0 w3 lb #[.int .i64 ((l - 1 : Nat) : Int)] from by rw [hw3]; exact L.out.set 0 _)
  go_upto_region 9 with fail
  rw [← hw3]
  clear hw3 F S T L fl0 W7
  have F := F3
  have S := S3
  have T := T3
  have L := L3
  clear F3 S3 T3 L3
  clear pL0
  have pL0 : _ = some (Value.int .i64 ((l - 1 : Nat) : Int)) := L.out.hb.cell 0
  go_wp2_with fail
  clear pL0
  go_loopw [19, 92] (fun v19 v92 wr => ∃ (j lj c : Nat) (Y : Nat → Prop) (A : Option Addr), v92 = .int .i64 j ∧ v19 = .slice A (accP s j).length c ∧ j ≤ 8 ∧ Fr XL Y w wr ∧ SpE wr Y base sb g P ∧ Bx 61 XL Y wr tb #[.iface 50 (.agg #[]), .int .i64 1, .int .i64 96, .int .i64 128, .int .i64 40] ∧ Bx 3 XL Y wr lb #[.int .i64 (lj : Int)] ∧ Ro 130 2 XL Y wr w.heap.size (.slice A (accP s j).length c) (accP s j).length ((accP s j).flatMap putC) ∧ lj + 1 + (accN s j).length = l) (fun _ v92 _ => 8 - (intOf v92).toNat)
  case atStart => exact ⟨0, l - 1, 0, Y0, none, rfl, rfl, Nat.zero_le _, F.out, S.out, T.out, L.out, ro_none F.out.k.size, by have := HL1.out; simp only [accN, List.range_zero, List.flatMap_nil, List.length_nil]; omega⟩
  case round =>
    obtain ⟨j, lj, c, Y, A, rfl, rfl, hj, hF, hS, hTb, hLb, hR, hlj⟩ := hrel
    clear F S T L
    have F := Lib.hid hF
    have S := Lib.hid hS
    have T := Lib.hid hTb
    have L := Lib.hid hLb
    have R := Lib.hid hR
    have HLJ := Lib.hid hlj
    have HJ := Lib.hid hj
    clear hF hS hTb hLb hR hlj hj
    by_cases hlt : j < 8
    · have hj8 : (j : Int) < 8 := by omega
      have HJL := Lib.hid hlt
      have W9 : IntKind.i64.wrap (x + (j : Int)) = x + (j : Int) := wrap_i64 _ (by have := HX.out; omega) (by have := HX.out; omega)
      have hsub : ∀ n ∈ (s j).nodes, n ∈ (Tr.b a s).nodes := fun n hn => nodes_sub hlt hn
      have hcnt : (accN s j).length + (s j).nodes.length ≤ (accN s 8).length := by
        have := accN_le s (show j + 1 ≤ 8 from hlt)
        rw [accN_succ, List.length_append] at this
        exact this
      have hl8 : (accN s 8).length + 1 ≤ l := HLE.out.1
      have HC := Lib.hid (show (s j).nodes.length ≤ lj ∧ lj ≤ 128 ∧ (accN s j).length + (s j).nodes.length ≤ 128 from by have := HLJ.out; have := HLE.out; omega)
      have KW := Lib.hid (HIH.out j hlt (d + 1) Y wr base sb lb lj (x + (j : Int)) S.out F.out.yn L.out.hb L.out.ny (by rw [HX.out.1]; exact HAT.out.2 j hlt) (by unfold inM; have := HX.out; omega) (HOK.out.2 j hlt).1 (fun n hn => HLT.out n (hsub n hn)) HC.out.1 HC.out.2.1 (by have := HD.out; omega) HN.out)
      clear hlt hsub hcnt hl8
      have pT0 : _ = some (Value.iface 50 (.agg #[])) := T.out.hb.cell 0
      have pT1 : _ = some (Value.int .i64 1) := T.out.hb.cell 1
      have pT2 : _ = some (Value.int .i64 96) := T.out.hb.cell 2
      have pT3 : _ = some (Value.int .i64 128) := T.out.hb.cell 3
      have pT4 : _ = some (Value.int .i64 40) := T.out.hb.cell 4
      go_wp2_with fail
      refine KW.out.mono ?_
      rintro e w5 ⟨v, rfl, hs, hk, hl, ho⟩
      clear KW
      clear pT0 pT1 pT2 pT3 pT4
      obtain ⟨A2, c2, rfl, -, -, hR2⟩ := own_reads (S := fun _ => True) ho (fun _ _ => trivial)
      obtain ⟨m, hm⟩ : ∃ z, z = (s j).pairs.length := ⟨_, rfl⟩
      rw [← hm] at ho hs hR2 ⊢
      have HM := Lib.hid hm
      clear hm
      obtain ⟨Y1, hY1⟩ : ∃ Z : Nat → Prop, Z = fun b => Y b ∧ (Value.slice A2 m c2).ownBlock ≠ some b := ⟨_, rfl⟩
      have hlo : ∀ b, (Value.slice A2 m c2).ownBlock = some b → wr.heap.size ≤ b ∧ b < w5.heap.size := fun b hb => ho.lt b hb
      have F5 := Lib.hid (show Fr XL Y1 w w5 from by
        rw [hY1]
        exact ⟨F.out.k.trans (hk.mono fun b _ hb => hb.elim (F.out.yx b) fun e => by rw [e]; exact L.out.xb), fun b hb => F.out.yx b hb.1, fun b hb => ⟨F.out.yn b (Nat.le_trans hk.size hb), fun e => by have := (hlo b e).2; omega⟩⟩)
      have S5 := Lib.hid (show SpE w5 Y1 base sb g P from by rw [hY1]; exact hs)
      have T5 := Lib.hid (show Bx 61 XL Y1 w5 tb #[.iface 50 (.agg #[]), .int .i64 1, .int .i64 96, .int .i64 128, .int .i64 40] from by rw [hY1]; exact ⟨T.out.hb.kx hk fun h => h.elim T.out.ny HTL.out, T.out.xb, fun hy => T.out.ny hy.1⟩)
      have L5 := Lib.hid (show Bx 3 XL Y1 w5 lb #[.int .i64 ((lj - (s j).nodes.length : Nat) : Int)] from by rw [hY1]; exact ⟨hl, L.out.xb, fun hy => L.out.ny hy.1⟩)
      have R5 := Lib.hid (show Ro 130 2 XL Y1 w5 w.heap.size (.slice A (accP s j).length c) (accP s j).length ((accP s j).flatMap putC) from by
        rw [hY1]
        refine ⟨own_kx R.out.o hk fun b hb h => h.elim (R.out.bk b hb).2 fun e => own_ne2 R.out.o L.out.hb (by decide) (by rw [hb, e]), fun b hb => ⟨(R.out.bk b hb).1, fun hy => (R.out.bk b hb).2 hy.1⟩, Nat.le_trans R.out.hb hk.size⟩)
      have RR := Lib.hid hR2
      clear F S T L R hs hk hl ho hR2 hY1 hlo
      have F := F5
      have S := S5
      have T := T5
      have L := L5
      have R := R5
      clear F5 S5 T5 L5 R5
      obtain ⟨A', c', w6, run, Y', hF, hR, hSS, hBB, -, -, -⟩ := row_app (c := c2) ele_pair F.out R.out RR.out (putC_one _) (by have := HC.out; have := acc_le s j; have := (s j).pairs_le; have := HM.out; omega) 124
      have hT6 := hBB _ _ _ (own_ne2 R.out.o T.out.hb (by decide)) T.out
      have hL6 := hBB _ _ _ (own_ne2 R.out.o L.out.hb (by decide)) L.out
      have hS6 := hSS _ _ _ _ S.out
      have hcc : (accP s j).length + m = (accP s (j + 1)).length := by rw [accP_succ, List.length_append, HM.out]
      rw [← List.flatMap_append, ← accP_succ, hcc] at hR
      rw [hcc] at run
      have F6 := Lib.hid hF
      have S6 := Lib.hid hS6
      have T6 := Lib.hid hT6
      have L6 := Lib.hid hL6
      have R6 := Lib.hid hR
      clear hF hR hSS hBB hT6 hL6 hS6 hcc F S T L R RR
      have RUN := Lib.hid run
      clear run
      go_wp2_with (at_builtin; refine wpList_app_run rfl _ _ 124 rfl (.slice A (accP s j).length c) _ _ w6 rfl rfl RUN.out ?_)
      go_roundw
      case rel => exact ⟨j + 1, lj - (s j).nodes.length, c', Y', A', by go_num, rfl, HJL.out, F6.out, S6.out, T6.out, L6.out, R6.out, by rw [accN_succ, List.length_append]; have := HLJ.out; have := HC.out; omega⟩
      case measure =>
        have := HJL.out
        show 8 - ((j + 1 : Nat) : Int).toNat < 8 - (j : Int).toNat
        omega
    · have hj8 : ¬ (j : Int) < 8 := by omega
      have e8 : j = 8 := by have := HJ.out; omega
      subst e8
      clear hlt
      go_wp2
      go_ret2
      have yx : ∀ b, Y b → X b := fun b hb => by
        have h0 := F.out.yx b hb
        rw [HXL.out.1] at h0
        exact h0.resolve_right (fun e => L.out.ny (by rw [← e]; exact hb))
      refine ⟨_, rfl, S.out.more fun b _ hb => ⟨yx b hb, fun e => (R.out.bk b e).2 hb⟩, F.out.k, ?_, R.out.o⟩
      have e : lj = l - (Tr.b a s).nodes.length := by
        show lj = l - ((accN s 8).length + 1)
        have := HLJ.out
        omega
      rw [← e]
      exact L.out.hb
theorem twalk_any (g : Mem) (P : List (Int × Int)) : ∀ t : Tr, WalkS g P t
  | .e => walk_e g P
  | .l a k v => walk_l g P a k v
  | .b a s => walk_b g P a s fun i _ => twalk_any g P (s i)
end Go.Proofs.YtkloaopjlbinpaaGreat
namespace Go.Proofs.YtkloaopjlbinpaaGreat
open Go.RowKit Go.MapKept Go.Lib Go.Sort

def cfP (x y : Int × Int) : Int := Lib.compareInt x.1 y.1
theorem lt_cfP (x y : Int × Int) : ltOf cfP x y = decide (x.1 < y.1) := by
  unfold ltOf cfP Lib.compareInt
  by_cases h : x.1 < y.1
  · simp [h]
  · by_cases h2 : x.1 > y.1 <;> simp [h, h2]
theorem swoP : SWO (ltOf cfP) where
  irrefl x := by rw [lt_cfP]; simp
  trans x y z h1 h2 := by rw [lt_cfP] at *; simp at *; omega
  ntrans x y z h1 h2 := by rw [lt_cfP] at *; simp at *; omega
set_option maxRecDepth 100000 in
theorem walkcmp (x y : Int × Int) (W : World) : Calls Tryz.prog 49 #[.agg #[.int .i64 x.1, .int .i64 x.2], .agg #[.int .i64 y.1, .int .i64 y.2]] W fun e w' => e = .returned (.int .i64 (cfP x y)) ∧ ∃ q os', w' = grow (W.drewN q) os' := by
  have hcon := fun W' => AnyG.cmp_Compare_int Tryz.laysCmp x.1 y.1 W'
  change ∀ W', Calls Tryz.prog 50 _ _ _ at hcon
  unfold cfP
  generalize Lib.compareInt x.1 y.1 = r at hcon ⊢
  go_enter Tryz.func49, Tryz.ntmps49
  go_wp2_with (go_at_call 50; refine (hcon _).mono ?_; rintro e w' ⟨rfl, rfl⟩)
  go_ret
  exact ⟨rfl, 0, _, by rw [alloc_eq_grow, alloc_eq_grow, grow_grow]; rfl⟩
theorem walkcmpLays (blk off size : Nat) (w : World) : CmpLays Tryz.prog 49 #[] putC 2 cfP blk off size w := fun _ _ _ _ x y => walkcmp x y _
theorem walkhlen (n : Nat) (W : World) (h : n ≤ 12) : Calls Tryz.prog 70 #[.int .u64 n] W fun e w' => (∃ l : Int, e = .returned (.int .i64 l)) ∧ w' = W :=
  (Tryz.bits_Len n W (by omega) (by omega)).mono fun _ _ ⟨he, hw⟩ => ⟨⟨_, he⟩, hw⟩

theorem flat_pair (l : List (Int × Int)) : flatK putC 2 l.toArray = (l.flatMap putC).toArray := by
  have hlen : (l.flatMap putC).length = l.length * 2 := flat_len 2 putC (fun _ => rfl) l
  refine ext_get! (by rw [size_flatK]; simp [hlen]) fun t ht => ?_
  rw [size_flatK] at ht
  have ht' : t < l.length * 2 := by simpa using ht
  rw [get_flatK _ _ _ _ ht]
  have hi : t / 2 < l.length := by omega
  have hg := flat_get 2 putC (fun _ => rfl) l (t / 2) _ (List.getElem?_eq_getElem hi) (t % 2) (Nat.mod_lt _ (by omega))
  have e : t / 2 * 2 + t % 2 = t := by omega
  rw [e] at hg
  have h1 : (l.toArray)[t / 2]! = l[t / 2] := by simp [hi]
  rw [h1]
  have h2 : ((l.flatMap putC).toArray)[t]! = ((l.flatMap putC)[t]?).getD default := by simp
  rw [h2, hg]
  have h3 : (putC l[t / 2])[t % 2]! = ((putC l[t / 2])[t % 2]?).getD default := by simp
  exact h3
theorem holds_pair {w : World} {g : Nat} {cur : Array Value} {e : TypeId} {l : List (Int × Int)} (hb : w.heap[g]? = some (.cells cur e (0, 0))) (ht : cur.toList.take (l.length * 2) = l.flatMap putC) : HoldsK putC 2 w g 0 l.toArray := by
  unfold HoldsK
  rw [flat_pair]
  have hlen : (l.flatMap putC).length = l.length * 2 := flat_len 2 putC (fun _ => rfl) l
  intro j hj
  have hj' : j < l.length * 2 := by rw [← hlen]; simpa using hj
  refine ⟨?_, by simp [World.frozen?, hb]⟩
  have h1 : (cur.toList.take (l.length * 2))[j]? = (l.flatMap putC)[j]? := by rw [ht]
  rw [List.getElem?_take_of_lt hj'] at h1
  simp only [World.cell?, hb, Nat.zero_add]
  simp only [Option.isSome_none, Bool.false_eq_true, if_false]
  rw [← Array.getElem?_toList, h1]
  have : j < (l.flatMap putC).length := by rw [hlen]; exact hj'
  simp
  rw [List.getElem?_eq_getElem this]
  rfl
theorem heap_put {w : World} {g n : Nat} {os : Array Obj} {cur : Array Value} {e : TypeId} {fr : Nat × Nat} (d : Array Value) (hb : w.heap[g]? = some (.cells cur e fr)) :
    (grow (putRow id (Sort.ahead w n) g 0 d) os).heap[g]? = some (.cells (putCells id 0 d cur) e fr) := by
  have hg : g < w.heap.size := (Array.getElem?_eq_some_iff.1 hb).1
  rw [heap_grow_old _ _ (by simpa using hg)]
  simp [putRow, mapBlock, Sort.ahead, Array.getElem?_modify, hb, onCells]
theorem grown_put {w : World} {g n : Nat} {os : Array Obj} (d : Array Value) : w.grownBy (grow (putRow id (Sort.ahead w n) g 0 d) os) (some g) := by
  refine ⟨rfl, rfl, rfl, by simp, fun k hk hne => ?_⟩
  rw [heap_grow_old _ _ (by simpa using hk)]
  have : g ≠ k := fun e => hne (by rw [e])
  simp [putRow, mapBlock, Sort.ahead, Array.getElem?_modify, this]
theorem take_put (cur : Array Value) (ts : List Value) (h : ts.length ≤ cur.size) : (putCells id 0 ts.toArray cur).toList.take ts.length = ts := by
  apply List.ext_getElem?
  intro j
  by_cases hj : j < ts.length
  · rw [List.getElem?_take_of_lt hj, Array.getElem?_toList]
    simp [putCells, hj, show j < cur.size by omega]
  · rw [List.getElem?_take_eq_none (by omega), List.getElem?_eq_none (by omega)]
/-- Sorting a row of pairs of the call's own. -/
theorem sortP_any {w : World} {base : Nat} {v : Value} {l : List (Int × Int)} (h : w.ownsRow base 130 2 v l.length (l.flatMap putC)) (hl : l.length ≤ 12) :
    Calls Tryz.prog 48 #[v, .func (.func 49) #[] #[]] w fun e w' => e = .returned (.tuple #[]) ∧ ∃ l' : List (Int × Int), l'.Perm l ∧ (l'.Pairwise fun p q => p.1 ≤ q.1) ∧
      w'.ownsRow base 130 2 v l.length (l'.flatMap putC) ∧ KX (fun b => v.ownBlock = some b) w w' := by
  rcases h.2 with ⟨rfl, h0⟩ | ⟨g, cap, cur, rfl, hb, hg, hn, hm, hs, ht⟩
  · have hl0 : l = [] := List.eq_nil_of_length_eq_zero h0
    subst hl0
    refine (AnyF.slices_SortFunc_none Tryz.laysSortFunc none 0 _ w).mono fun e w' he => ⟨he.1, [], List.Perm.nil, List.Pairwise.nil, ?_, ?_⟩
    · rw [he.2]; exact World.ownsRow_nil _ _ _ _
    · rw [he.2]; exact KX.refl _ _
  · have eg : ∀ args w, (callFunc 49 args).run Tryz.prog w = .ok (.enter 49 args) w := enters_of Tryz.func49 (by kernel_rfl) rfl
    have hcon := AnyQ.slices_SortFunc_small_sorted Tryz.laysSortFunc 2 Tryz.isAgg130 Tryz.sizeOf130 putC (fun _ => rfl) (fun x u hu => by
      unfold putC at hu
      simp only [List.mem_cons, List.not_mem_nil, or_false] at hu
      rcases hu with rfl | rfl <;> rfl) cfP 49 #[] swoP g 0 cap l.toArray w eg (walkcmpLays g 0 l.toArray.size w) (holds_pair hg ht) (lt_of_block hg) (by simpa using hl) walkhlen
    have hsz : l.toArray.size = l.length := by simp
    rw [hsz] at hcon
    refine Calls.mono hcon fun e w' he => ?_
    obtain ⟨rfl, d', n, os, hp, hso, rfl⟩ := he
    have hd : d'.size = l.length := hp.1.trans hsz
    have hlen' : (d'.toList.flatMap putC).length = l.length * 2 := by rw [flat_len 2 putC (fun _ => rfl)]; simp [hd]
    have hfl : flatK putC 2 d' = (d'.toList.flatMap putC).toArray := by
      have := flat_pair d'.toList
      simpa using this
    have hw : sortWorldK putC 2 w g 0 n d' os = grow (putRow id (Sort.ahead w n) g 0 (d'.toList.flatMap putC).toArray) os := by
      unfold sortWorldK putRowK
      rw [hfl]
    refine ⟨rfl, d'.toList, ?_, ?_, ?_, ?_⟩
    · have h3 := hp.2.2
      have e1 : d'.extract 0 l.length = d' := by rw [← hd]; simp
      have e2 : l.toArray.extract 0 l.length = l.toArray := by simp
      rw [e1, e2] at h3
      simpa using h3
    · rw [List.pairwise_iff_getElem]
      intro i j hi hj hij
      have hi' : i < d'.size := by simpa using hi
      have hj' : j < d'.size := by simpa using hj
      have := hso i j (Nat.zero_le _) hij (by omega)
      rw [lt_cfP] at this
      have e1 : d'[j]! = d'[j] := by simp [hj']
      have e2 : d'[i]! = d'[i] := by simp [hi']
      rw [e1, e2] at this
      simp at this
      simpa using this
    · rw [hw]
      refine ⟨hlen', .inr ⟨g, cap, _, rfl, hb, heap_put _ hg, hn, hm, by simp [putCells, hs], ?_⟩⟩
      rw [← hlen']
      exact take_put cur _ (by rw [hlen', hs]; exact Nat.mul_le_mul_right 2 hn)
    · rw [hw]
      exact KX.of_grown (grown_put _) fun k h => h
end Go.Proofs.YtkloaopjlbinpaaGreat
