/- A drawn region's reads may be carried out first where what writes their cells waits for them; and the frame in which the trie's walks are told. No condition. The walks of the trie's node and add. Condition: at most 90000 writes. -/
import Derived.Test.YtkloaopjlbinpaaGreatTbD
import Derived.Deep.RegionHeld3
set_option linter.unusedVariables false
set_option linter.unusedSimpArgs false
namespace Go.Proofs.YtkloaopjlbinpaaGreat
open Go.RowKit Go.MapKept

section
variable {P : Program} {ops : Array Oper} {Q : Exit → Act → World → Prop} {md : Region.Mode} {S : World → Prop} {L : List Nat}
/-- May operation j come up ahead of one of L? -/
def ahead (md : Region.Mode) (ops : Array Oper) (L : List Nat) (j : Nat) : Bool :=
  L.any fun l => l != j && (ops[j]?).any fun o => o.after.all fun e => !(Region.binds md e && e.on == l)
theorem ahead_of {i j : Nat} {oj : Oper} (hL : i ∈ L) (hj : ops[j]? = some oj) (hne : j ≠ i) (hno : ∀ e ∈ oj.after, Region.binds md e = true → e.on ≠ i) : ahead md ops L j = true := by
  unfold ahead
  rw [List.any_eq_true]
  refine ⟨i, hL, ?_⟩
  rw [Bool.and_eq_true, hj]
  refine ⟨by simpa using fun e => hne e.symm, ?_⟩
  simp only [Option.any_some, Array.all_eq_true_iff_forall_mem]
  intro e he
  cases hb : Region.binds md e with
  | false => rfl
  | true => simpa using hno e he hb
/-- Whatever order is picked; S holds behind each operation that may come up ahead of one of L. -/
def OrdL (P : Program) (md : Region.Mode) (ops : Array Oper) (Q : Exit → Act → World → Prop) (S : World → Prop) (L : List Nat) : Nat → Array Bool → Act → World → Prop
  | 0, listed, a, w => Region.ready md ops listed = [] ∧ Q .normal a w
  | n + 1, listed, a, w => (Region.ready md ops listed = [] → Q .normal a w) ∧
    ∀ i ∈ Region.ready md ops listed, wpOp P ops Q i (fun a' w' => (ahead md ops L i = true → S w') ∧ OrdL P md ops Q S L n (listed.setIfInBounds i true) a' w') a w
theorem OrdL.any : ∀ (n : Nat) (listed : Array Bool) (a : Act) (w : World), OrdL P md ops Q S L n listed a w → wpAny P md ops Q n listed a w
  | 0, _, _, _, h => h
  | n + 1, _, _, _, h => ⟨h.1, fun i hi => wpOp_mono (fun a' w' h' => OrdL.any n _ a' w' h'.2) (h.2 i hi)⟩
theorem OrdL.first {i : Nat} {oi : Oper} {v : Value} (hi : ops[i]? = some oi) (hL : i ∈ L) (hsel : ∀ (j : Nat) (o : Oper) cs b, ops[j]? = some o → o.op ≠ .select cs b)
    (hQ : ∀ c a w, Q (.panic c) (a.put oi.dst v) w → Q (.panic c) a w) (n : Nat) : ∀ (listed : Array Bool) (a : Act) (w : World),
      (∀ j oj, ops[j]? = some oj → j ≠ i → listed.getD j true = false → (∀ e ∈ oj.after, Region.binds md e = true → e.on ≠ i) → oi.apart ops oj = true) →
      i ∈ Region.ready md ops listed → YieldsIf P ops S oi v a → S w → OrdL P md ops Q S L n (listed.setIfInBounds i true) (a.put oi.dst v) w → OrdL P md ops Q S L (n + 1) listed a w := by
  induction n with
  | zero =>
    intro listed a w _ hr hy hS H
    refine ⟨fun h => absurd hr (by rw [h]; exact List.not_mem_nil), fun j hj => ?_⟩
    rcases Decidable.em (j = i) with rfl | hne
    · exact hy.wpOp hi hS ⟨fun _ => hS, H⟩
    · exact absurd (ready_mono hj hne) (by rw [H.1]; exact List.not_mem_nil)
  | succ n ih =>
    intro listed a w hfree hr hy hS H
    refine ⟨fun h => absurd hr (by rw [h]; exact List.not_mem_nil), fun j hj => ?_⟩
    rcases Decidable.em (j = i) with rfl | hne
    · exact hy.wpOp hi hS ⟨fun _ => hS, H⟩
    obtain ⟨hun, oj, hoj, hall⟩ := mem_ready.1 hj
    have hnot : ∀ e ∈ oj.after, Region.binds md e = true → e.on ≠ i := by
      intro e he hb heq
      have h1 := hall e he hb
      have h0 := (mem_ready.1 hr).1
      rw [heq] at h1
      rcases Nat.lt_or_ge i listed.size with h' | h'
      · simp [h'] at h0 h1; rw [h0] at h1; cases h1
      · simp [Array.getElem?_eq_none h'] at h1
    have hA : ahead md ops L j = true := ahead_of hL hoj hne hnot
    have h2 := wpOp_putIf hoj (hfree j oj hoj hne hun hnot) (fun cs b => hsel i oi cs b hi) (fun cs b => hsel j oj cs b hoj) hQ hy (H.2 j (ready_mono hj hne))
    refine wpOp_mono (fun a' w' h3 => ⟨fun _ => h3.2.1 hA, ih _ a' w' (fun k ok hk hki hu hno => hfree k ok hk hki ?_ hno) (ready_mono hr fun e => hne e.symm) h3.1 (h3.2.1 hA) ?_⟩) h2
    · rcases Decidable.em (j = k) with rfl | hjk
      · exact hun
      · rwa [getD_set_ne true hjk] at hu
    · rw [Array.setIfInBounds_comm _ _ hne]
      exact h3.2.2
theorem OrdL.take {i : Nat} {oi : Oper} {v : Value} {n : Nat} {listed : Array Bool} {a : Act} {w : World} (hi : ops[i]? = some oi) (hL : i ∈ L)
    (hs : Region.noSelect ops = true) (hf : Region.free md ops listed i = true) (hr : (Region.ready md ops listed).contains i = true)
    (hQ : ∀ c a w, Q (.panic c) (a.put oi.dst v) w → Q (.panic c) a w) (hy : YieldsIf P ops S oi v a) (hS : S w)
    (h : OrdL P md ops Q S L n (listed.setIfInBounds i true) (a.put oi.dst v) w) : OrdL P md ops Q S L (n + 1) listed a w :=
  OrdL.first hi hL (Region.noSelect_spec hs) hQ n listed a w (Region.free_spec hi hf) (by simpa using hr) hy hS h
def AllL (P : Program) (md : Region.Mode) (ops : Array Oper) (Q : Exit → Act → World → Prop) (S : World → Prop) (L : List Nat) (n : Nat) (listed : Array Bool) (a : Act) (w : World) (rs : List Nat) : Prop :=
  ∀ i ∈ rs, wpOp P ops Q i (fun a' w' => (ahead md ops L i = true → S w') ∧ OrdL P md ops Q S L n (listed.setIfInBounds i true) a' w') a w
theorem AllL.nil {n : Nat} {listed : Array Bool} {a : Act} {w : World} : AllL P md ops Q S L n listed a w [] := fun _ h => (List.not_mem_nil h).elim
theorem AllL.cons {n : Nat} {listed : Array Bool} {a : Act} {w : World} {i : Nat} {o : Oper} {rs : List Nat} (ho : ops[i]? = some o)
    (h : ∀ K' : Act → World → Prop, Shut (∀ a w, (ahead md ops L i = true → S w) → (OrdL P md ops Q S L n (listed.setIfInBounds i true) a w) → K' a w) → if Region.wanted o (yielded ops a.tmps) = true then Oper.wp P o a w K' Q else K' (a.put o.dst undef) w)
    (hs : AllL P md ops Q S L n listed a w rs) : AllL P md ops Q S L n listed a w (i :: rs) := fun j hj => by
  rcases List.mem_cons.1 hj with rfl | hj
  · exact wpOp_step ho fun K' hK => h K' fun a w hS hW => hK a w ⟨hS, hW⟩
  · exact hs j hj
theorem OrdL.ready {rs : List Nat} {n : Nat} {listed : Array Bool} {a : Act} {w : World} (hr : Region.ready md ops listed = rs) (hne : rs ≠ [])
    (h : AllL P md ops Q S L n listed a w rs) : OrdL P md ops Q S L (n + 1) listed a w := ⟨fun h0 => absurd (hr ▸ h0) hne, hr ▸ h⟩
theorem OrdL.done {listed : Array Bool} {a : Act} {w : World} (hr : Region.ready md ops listed = []) (h : Q .normal a w) : ∀ n, OrdL P md ops Q S L n listed a w
  | 0 => ⟨hr, h⟩
  | _ + 1 => ⟨fun _ => h, by rw [hr]; exact fun _ h => (List.not_mem_nil h).elim⟩
theorem wp_region_L (S : World → Prop) (L : List Nat) {id : Nat} {a : Act} {w : World} (hm : P.follows .mixedOrders = true) (h : OrdL P .any ops Q S L ops.size (Array.replicate ops.size false) a w.drew) : (Code.region id ops true).wp P Q a w :=
  wp_region_any hm (OrdL.any _ _ _ _ h)
end

/-! The frame: X may change or is new; Y is X but for the walk's own boxes. -/
structure Fr (X Y : Nat → Prop) (w0 w : World) : Prop where
  k : KX X w0 w
  yx : ∀ b, Y b → X b
  yn : ∀ b, w.heap.size ≤ b → Y b
/-- A box of the walk's own. -/
structure Bx (t : TypeId) (X Y : Nat → Prop) (w : World) (b : Nat) (u : Array Value) : Prop where
  hb : HB t w b u
  xb : X b
  ny : ¬ Y b
section
variable {X Y : Nat → Prop} {w0 w w' : World} {t : TypeId} {b j : Nat} {u : Array Value} {base sb : Nat} {g : Mem} {P : List (Int × Int)}
theorem kx_drew (X : Nat → Prop) (w : World) : KX X w w.drew := ⟨rfl, rfl, rfl, Nat.le_refl _, fun _ _ _ => rfl⟩
theorem Fr.start (hX : ∀ b, w.heap.size ≤ b → X b) : Fr X X w w := ⟨KX.refl _ _, fun _ h => h, hX⟩
theorem Fr.step (h : Fr X Y w0 w) (hk : KX Y w w') : Fr X Y w0 w' := ⟨h.k.trans (hk.mono fun b _ hb => h.yx b hb), h.yx, fun b hb => h.yn b (Nat.le_trans hk.size hb)⟩
theorem Fr.below (h : Fr X Y w0 w) (hb : Below w.heap.size w w') : Fr X Y w0 w' := h.step (KX.of_below hb)
theorem Fr.drew (h : Fr X Y w0 w) : Fr X Y w0 w.drew := h.step (kx_drew _ _)
theorem Fr.new (h : Fr X Y w0 w) (o : Obj) : Fr X (fun b => Y b ∧ b ≠ w.heap.size) w0 (w.alloc o) := by
  have e : (w.alloc o).heap.size = w.heap.size + 1 := World.size_alloc ..
  exact ⟨h.k.trans (KX.of_below (below_alloc _ _)), fun b hb => h.yx b hb.1, fun b hb => ⟨h.yn b (by omega), by omega⟩⟩
theorem Fr.set (h : Fr X Y w0 w) (hb : Bx t X Y w b u) (j : Nat) (v : Value) : Fr X Y w0 (w.setCell ⟨b, j, none⟩ v) := by
  have hk := KX.of_grown (X := fun k => k = b) (gr_put w b j v) fun k e => (Option.some.inj e).symm
  exact ⟨h.k.trans (hk.mono fun k _ e => by rw [e]; exact hb.xb), h.yx, fun k hk' => h.yn k (Nat.le_trans hk.size hk')⟩
theorem Bx.step (h : Bx t X Y w b u) (hk : KX Y w w') : Bx t X Y w' b u := ⟨h.hb.kx hk h.ny, h.xb, h.ny⟩
theorem Bx.below (h : Bx t X Y w b u) (hb : Below w.heap.size w w') : Bx t X Y w' b u := h.step (KX.of_below hb)
theorem Bx.drew (h : Bx t X Y w b u) : Bx t X Y w.drew b u := h.step (kx_drew _ _)
theorem Bx.new (h : Fr X Y w0 w) (t : TypeId) (u : Array Value) : Bx t X (fun b => Y b ∧ b ≠ w.heap.size) (w.alloc (.cells u t)) w.heap.size u := ⟨HB.new _ _ _, h.yx _ (h.yn _ (Nat.le_refl _)), fun hb => hb.2 rfl⟩
theorem Bx.old (h : Bx t X Y w b u) (o : Obj) : Bx t X (fun b => Y b ∧ b ≠ w.heap.size) (w.alloc o) b u := ⟨h.hb.below (below_alloc _ _), h.xb, fun hb => h.ny hb.1⟩
theorem Bx.set (h : Bx t X Y w b u) (j : Nat) (v : Value) : Bx t X Y (w.setCell ⟨b, j, none⟩ v) b (u.setIfInBounds j v) := ⟨h.hb.set j v, h.xb, h.ny⟩
theorem Bx.other (h : Bx t X Y w b u) {b' : Nat} (hne : b ≠ b') (j : Nat) (v : Value) : Bx t X Y (w.setCell ⟨b', j, none⟩ v) b u :=
  ⟨h.hb.kx (KX.of_grown (X := fun k => k = b') (gr_put w b' j v) fun k e => (Option.some.inj e).symm) hne, h.xb, h.ny⟩
theorem SpE.new (h : SpE w Y base sb g P) (o : Obj) : SpE (w.alloc o) (fun b => Y b ∧ b ≠ w.heap.size) base sb g P :=
  (h.more fun b hb hx => ⟨hx, by omega⟩).below (below_alloc _ _)
theorem SpE.set (h : SpE w Y base sb g P) (hb : ¬ Y b) (j : Nat) (v : Value) : SpE (w.setCell ⟨b, j, none⟩ v) Y base sb g P :=
  h.kx (KX.of_grown (X := fun k => k = b) (gr_put w b j v) fun k e => (Option.some.inj e).symm) fun k _ hk e => hb (by rw [← e]; exact hk)
theorem SpE.drew (h : SpE w Y base sb g P) : SpE w.drew Y base sb g P := h.kx (kx_drew (fun _ => False) w) fun _ _ _ h => h
theorem SpE.back (h : SpE w Y base sb g P) (hf : Fr X Y w0 w) : SpE w X base sb g P := h.more fun b _ hb => hf.yx b hb
end
end Go.Proofs.YtkloaopjlbinpaaGreat
namespace Go.Proofs.YtkloaopjlbinpaaGreat
open Go.RowKit Go.MapKept

set_option maxRecDepth 100000 in
set_option maxHeartbeats 6400000 in
theorem tnode_any (n : Nat) (hn : n < 128) (a : Int) (ha : a = adr n) (w : World) : Calls Tryz.prog 68 #[.agg #[.iface 50 (.agg #[]), .int .i64 1, .int .i64 96, .int .i64 128, .int .i64 40], .int .i64 a] w fun e w' => e = .returned (.tuple #[.int .i64 a, .bool true]) ∧ Below w.heap.size w w' := by
  obtain ⟨W0, hW0⟩ : ∃ W, W = w.alloc (.cells #[.iface 50 (.agg #[]), .int .i64 1, .int .i64 96, .int .i64 128, .int .i64 40] 61) := ⟨_, rfl⟩
  have B := Lib.hid (show Below w.heap.size w W0 from by rw [hW0]; exact below_alloc _ _)
  have T := Lib.hid (show HB 61 W0 w.heap.size #[.iface 50 (.agg #[]), .int .i64 1, .int .i64 96, .int .i64 128, .int .i64 40] from by rw [hW0]; exact HB.new _ _ _)
  unfold adr at ha
  have h1 : ¬ a ≤ 0 := by omega
  have h2 : ¬ (4096 : Int) < a := by omega
  have h3 : IntKind.i64.wrap a = a := wrap_i64 _ (by omega) (by omega)
  have HA := Lib.hid ha
  clear ha
  go_enter Tryz.func68, Tryz.ntmps68
  go_upto_region 1 with fail
  rw [← hW0]
  clear hW0
  have p0 : _ = some (Value.iface 50 (.agg #[])) := T.out.cell 0
  have p1 : _ = some (Value.int .i64 1) := T.out.cell 1
  have p2 : _ = some (Value.int .i64 96) := T.out.cell 2
  have p3 : _ = some (Value.int .i64 128) := T.out.cell 3
  have p4 : _ = some (Value.int .i64 40) := T.out.cell 4
  go_wp2_with fail
  refine (node_any n hn a HA.out _).mono ?_
  rintro e w1 ⟨rfl, hb⟩
  have B1 := Lib.hid (B.out.trans (hb.mono B.out.size))
  clear hb p0 p1 p2 p3 p4 B T
  go_wp2
  go_ret2
  exact ⟨rfl, B1.out⟩
set_option maxRecDepth 100000 in
set_option maxHeartbeats 6400000 in
theorem tadd_any {X : Nat → Prop} {w : World} {base sb : Nat} {g : Mem} {P : List (Int × Int)} (h : SpE w X base sb g P) (hX : ∀ b, w.heap.size ≤ b → X b) (hn : P.length ≤ 99000) (c n v a : Int) (hc : 40 + c = a) (ha : inM a) (hv : cur g P a = v) :
    Calls Tryz.prog 46 #[.agg #[.iface 50 (.agg #[]), .int .i64 1, .int .i64 96, .int .i64 128, .int .i64 40], .pointer (some ⟨sb, 0, none⟩), .int .i64 c, .int .i64 n] w fun e w' => e = .returned (.tuple #[]) ∧ SpE w' X base sb g (P ++ [(a, IntKind.i64.wrap (v + n))]) ∧ KX X w w' := by
  obtain ⟨W0, hW0⟩ : ∃ W, W = w.alloc (.cells #[.iface 50 (.agg #[]), .int .i64 1, .int .i64 96, .int .i64 128, .int .i64 40] 61) := ⟨_, rfl⟩
  obtain ⟨Y0, hY0⟩ : ∃ Y : Nat → Prop, Y = fun b => X b ∧ b ≠ w.heap.size := ⟨_, rfl⟩
  have e0 : W0.heap.size = w.heap.size + 1 := by rw [hW0, World.size_alloc]
  have F0 : Fr X Y0 w W0 := by rw [hW0, hY0]; exact (Fr.start hX).new _
  have S0 : SpE W0 Y0 base sb g P := by rw [hW0, hY0]; exact h.new _
  have T0 : Bx 61 X Y0 W0 (w.heap.size) #[.iface 50 (.agg #[]), .int .i64 1, .int .i64 96, .int .i64 128, .int .i64 40] := by rw [hW0, hY0]; exact Bx.new (Fr.start hX) _ _
  have F := Lib.hid F0
  have S := Lib.hid S0
  have T := Lib.hid T0
  clear hY0 F0 S0 T0 e0
  have WA : IntKind.i64.wrap (40 + c) = a := by rw [wrap_i64 _ (by have := ha.1; omega) (by have := ha.2; omega)]; exact hc
  have HN := Lib.hid hn
  have HA := Lib.hid ha
  have HV := Lib.hid hv
  obtain ⟨r, hr⟩ : ∃ r, r = IntKind.i64.wrap (v + n) := ⟨_, rfl⟩
  rw [← hr]
  have WR : IntKind.i64.wrap (v + n) = r := hr.symm
  clear h hX hn hc ha hv hr
  go_enter Tryz.func46, Tryz.ntmps46
  go_upto_region 1 with fail
  rw [← hW0]
  clear hW0
  refine wp_region_held_drew (S := fun W => HB 61 W w.heap.size #[.iface 50 (.agg #[]), .int .i64 1, .int .i64 96, .int .i64 128, .int .i64 40]) (by kernel_rfl) (show HB 61 W0.drew w.heap.size #[.iface 50 (.agg #[]), .int .i64 1, .int .i64 96, .int .i64 128, .int .i64 40] from T.out.hb) (fun hHeld => ?_)
  have SW := Lib.hid hHeld
  clear hHeld
  obtain h0 := F.out
  clear F
  have F := Lib.hid (h0.drew)
  clear h0
  obtain h0 := S.out
  clear S
  have S := Lib.hid (h0.drew)
  clear h0
  obtain h0 := T.out
  clear T
  have T := Lib.hid (h0.drew)
  clear h0
  generalize W0.drew = wq at *
  refine wpAnyH_take (i := 0) (oi := ⟨some 8, _, _, _, _, _⟩) (v := .pointer (some ⟨sb, 0, none⟩)) rfl (by kernel_rfl) (by kernel_rfl) (by kernel_rfl) (fun _ _ _ h => h) (Or.inl ⟨by rfl, ?_⟩) SW.out ?_
  · intro W' hW
    go_simp
  try simp only [Act.put, List.setIfInBounds_toArray, List.set_cons_zero, List.set_cons_succ]
  refine wpAnyH_take (i := 1) (oi := ⟨some 9, _, _, _, _, _⟩) (v := .pointer (some ⟨w.heap.size, 4, none⟩)) rfl (by kernel_rfl) (by kernel_rfl) (by kernel_rfl) (fun _ _ _ h => h) (Or.inl ⟨by rfl, ?_⟩) SW.out ?_
  · intro W' hW
    go_simp
  try simp only [Act.put, List.setIfInBounds_toArray, List.set_cons_zero, List.set_cons_succ]
  refine wpAnyH_take (i := 2) (oi := ⟨some 10, _, _, _, _, _⟩) (v := .int .i64 40) rfl (by kernel_rfl) (by kernel_rfl) (by kernel_rfl) (fun _ _ _ h => h) (Or.inl ⟨by rfl, ?_⟩) SW.out ?_
  · intro W' hW
    have c9 : _ = some (Value.int .i64 40) := HB.cell hW 4
    go_simp
  try simp only [Act.put, List.setIfInBounds_toArray, List.set_cons_zero, List.set_cons_succ]
  refine wpAnyH_take (i := 3) (oi := ⟨some 11, _, _, _, _, _⟩) (v := .int .i64 c) rfl (by kernel_rfl) (by kernel_rfl) (by kernel_rfl) (fun _ _ _ h => h) (Or.inl ⟨by rfl, ?_⟩) SW.out ?_
  · intro W' hW
    go_simp
  try simp only [Act.put, List.setIfInBounds_toArray, List.set_cons_zero, List.set_cons_succ]
  refine wpAnyH_take (i := 4) (oi := ⟨some 12, _, _, _, _, _⟩) (v := .int .i64 a) rfl (by kernel_rfl) (by kernel_rfl) (by kernel_rfl) (fun _ _ _ h => h) (Or.inl ⟨by rfl, ?_⟩) SW.out ?_
  · intro W' hW
    go_simp
  try simp only [Act.put, List.setIfInBounds_toArray, List.set_cons_zero, List.set_cons_succ]
  refine wpAnyH_take (i := 5) (oi := ⟨some 13, _, _, _, _, _⟩) (v := .pointer (some ⟨sb, 0, none⟩)) rfl (by kernel_rfl) (by kernel_rfl) (by kernel_rfl) (fun _ _ _ h => h) (Or.inl ⟨by rfl, ?_⟩) SW.out ?_
  · intro W' hW
    go_simp
  try simp only [Act.put, List.setIfInBounds_toArray, List.set_cons_zero, List.set_cons_succ]
  refine wpAnyH_take (i := 6) (oi := ⟨some 14, _, _, _, _, _⟩) (v := .pointer (some ⟨w.heap.size, 4, none⟩)) rfl (by kernel_rfl) (by kernel_rfl) (by kernel_rfl) (fun _ _ _ h => h) (Or.inl ⟨by rfl, ?_⟩) SW.out ?_
  · intro W' hW
    go_simp
  try simp only [Act.put, List.setIfInBounds_toArray, List.set_cons_zero, List.set_cons_succ]
  refine wpAnyH_take (i := 7) (oi := ⟨some 15, _, _, _, _, _⟩) (v := .int .i64 40) rfl (by kernel_rfl) (by kernel_rfl) (by kernel_rfl) (fun _ _ _ h => h) (Or.inl ⟨by rfl, ?_⟩) SW.out ?_
  · intro W' hW
    have c9 : _ = some (Value.int .i64 40) := HB.cell hW 4
    go_simp
  try simp only [Act.put, List.setIfInBounds_toArray, List.set_cons_zero, List.set_cons_succ]
  refine wpAnyH_take (i := 8) (oi := ⟨some 16, _, _, _, _, _⟩) (v := .int .i64 c) rfl (by kernel_rfl) (by kernel_rfl) (by kernel_rfl) (fun _ _ _ h => h) (Or.inl ⟨by rfl, ?_⟩) SW.out ?_
  · intro W' hW
    go_simp
  try simp only [Act.put, List.setIfInBounds_toArray, List.set_cons_zero, List.set_cons_succ]
  refine wpAnyH_take (i := 9) (oi := ⟨some 17, _, _, _, _, _⟩) (v := .int .i64 a) rfl (by kernel_rfl) (by kernel_rfl) (by kernel_rfl) (fun _ _ _ h => h) (Or.inl ⟨by rfl, ?_⟩) SW.out ?_
  · intro W' hW
    go_simp
  try simp only [Act.put, List.setIfInBounds_toArray, List.set_cons_zero, List.set_cons_succ]
  refine wpAnyH_take (i := 11) (oi := ⟨some 19, _, _, _, _, _⟩) (v := .int .i64 n) rfl (by kernel_rfl) (by kernel_rfl) (by kernel_rfl) (fun _ _ _ h => h) (Or.inl ⟨by rfl, ?_⟩) SW.out ?_
  · intro W' hW
    go_simp
  try simp only [Act.put, List.setIfInBounds_toArray, List.set_cons_zero, List.set_cons_succ]
  refine wpAnyH_ready (rs := [10]) (by kernel_rfl) (by simp) ?_
  refine AllReadyH.cons (o := ⟨some 18, _, _, _, _, _⟩) rfl (fun K hK => ?_) AllReadyH.nil
  go_simp
  refine (sget S.out (by have := HN.out; omega) a v HA.out HV.out).mono ?_
  rintro e w1 ⟨rfl, hs, hk⟩
  clear S SW
  have S := Lib.hid hs
  obtain h0 := F.out
  clear F
  have F := Lib.hid (h0.step hk)
  clear h0
  obtain h0 := T.out
  clear T
  have T := Lib.hid (h0.step hk)
  clear h0
  clear hs hk
  have SW := Lib.hid T.out.hb
  refine hK.out _ _ SW.out (fun hHeld => ?_)
  clear hK hHeld
  try simp only [Act.put, List.setIfInBounds_toArray, List.set_cons_zero, List.set_cons_succ]
  refine wpAnyH_take (i := 12) (oi := ⟨some 20, _, _, _, _, _⟩) (v := .int .i64 r) rfl (by kernel_rfl) (by kernel_rfl) (by kernel_rfl) (fun _ _ _ h => h) (Or.inl ⟨by rfl, ?_⟩) SW.out ?_
  · intro W' hW
    go_simp
  try simp only [Act.put, List.setIfInBounds_toArray, List.set_cons_zero, List.set_cons_succ]
  refine wpAnyH_ready (rs := [13]) (by kernel_rfl) (by simp) ?_
  refine AllReadyH.cons (o := ⟨some 21, _, _, _, _, _⟩) rfl (fun K hK => ?_) AllReadyH.nil
  go_simp
  refine (sput S.out F.out.yn (by have := HN.out; omega) a r HA.out).mono ?_
  rintro e w2 ⟨rfl, hs, hk⟩
  clear S SW
  have S := Lib.hid hs
  obtain h0 := F.out
  clear F
  have F := Lib.hid (h0.step hk)
  clear h0
  obtain h0 := T.out
  clear T
  have T := Lib.hid (h0.step hk)
  clear h0
  clear hs hk
  have SW := Lib.hid T.out.hb
  refine hK.out _ _ SW.out (fun hHeld => ?_)
  clear hK hHeld
  try simp only [Act.put, List.setIfInBounds_toArray, List.set_cons_zero, List.set_cons_succ]
  refine wpAnyH_done (by kernel_rfl) ?_ _
  go_wp2
  go_end0
  exact ⟨rfl, S.out.back F.out, F.out.k⟩
end Go.Proofs.YtkloaopjlbinpaaGreat
