/- Two rows of the call's own, each grown by one value in one region. No condition. -/
import Derived.Test.YtkloaopjlbinpaaGreatQF
import Derived.Deep.LoopGhost
set_option linter.unusedVariables false
set_option linter.unusedSimpArgs false
namespace Go.Proofs.YtkloaopjlbinpaaGreat
open Go.RowKit Go.MapKept

/-- Elements of one word of eight bytes. -/
def OneW (E ST : TypeId) : Prop := Tryz.prog.underlying ST = some (.slice E) ∧ ∃ i z, Tryz.prog.info? E = some i ∧ i.zero = some z ∧ i.size = 1 ∧ i.bytes = 8 ∧ z.cells.size = 1
theorem one_of {E ST : TypeId} (ht : Tryz.prog.underlying ST = some (.slice E)) (hi : (Tryz.prog.info? E).map (fun i => (i.zero, i.size, i.bytes)) = some (some (.int .i64 0), 1, 8)) : OneW E ST := by
  obtain ⟨i, h1, h2⟩ := Option.map_eq_some_iff.1 hi
  injection h2 with h2 h3
  injection h3 with h3 h4
  exact ⟨ht, i, _, h1, h2, h3, h4, rfl⟩
theorem one_loc : OneW 51 103 := one_of Tryz.underlying103 (by kernel_rfl)
theorem one_i64 : OneW 2 26 := one_of Tryz.underlying26 (by kernel_rfl)
/-- append of one word that lies in a block of its own onto a row of the call's own. -/
theorem app_one {E ST : TypeId} (hE : OneW E ST) {w : World} {base n s : Nat} {v : Value} {xs : List Value} {x : Value} (h : w.ownsRow base E 1 v n xs) (hn : n ≤ 100000) (hb : base ≤ w.heap.size) (hx : x.oneCell' = true) (hs : HB E w s #[x]) (ty : TypeId) :
    ∃ A c w', (Builtin.append_ #[ST, ST] ty #[v, .slice (some ⟨s, 0, none⟩) 1 1]).run Tryz.prog w = .ok (.slice A (n + 1) c) w' ∧ w'.ownsRow base E 1 (.slice A (n + 1) c) (n + 1) (xs ++ [x]) ∧ KX (fun b => v.ownBlock = some b) w w' ∧
      ((Value.slice A (n + 1) c).ownBlock = v.ownBlock ∨ ∃ q, (Value.slice A (n + 1) c).ownBlock = some q ∧ w.heap.size ≤ q) := by
  obtain ⟨ht, i, z, i1, i2, i3, i4, i5⟩ := hE
  have hR : Reads w (fun _ => True) 1 (some ⟨s, 0, none⟩) 1 [x] := ⟨rfl, fun _ => ⟨s, 0, rfl, hs.lt, trivial, fun j u hu => by rw [Nat.zero_add, hs.cell j, ← hu]; simp⟩⟩
  obtain ⟨v', w', run, e2, e3, e4⟩ := run_append_any (P := Tryz.prog) w base ST ty E i z 1 8 ht i1 i2 i3 i4 i5 (by omega) v n xs h (fun _ => True) _ 1 1 _ hR (by simpa using hx) (by unfold maxLen; omega) (by omega) hb
  obtain ⟨A, c, rfl, -, -, -⟩ := own_reads (S := fun _ => True) e2 (fun _ _ => trivial)
  refine ⟨A, c, w', run, e2, KX.of_grown e3 fun k h => h, ?_⟩
  rcases e4 with e | e
  · exact .inl e
  · exact .inr ⟨_, e, Nat.le_refl _⟩
structure Two (E : TypeId) (X Y : Nat → Prop) (w : World) (base : Nat) (v1 v2 : Value) (n : Nat) (xs1 xs2 : List Value) : Prop where
  o1 : w.ownsRow base E 1 v1 n xs1
  o2 : w.ownsRow base E 1 v2 n xs2
  b1 : ∀ b, v1.ownBlock = some b → X b ∧ ¬ Y b
  b2 : ∀ b, v2.ownBlock = some b → X b ∧ ¬ Y b
  ne : ∀ b, v1.ownBlock = some b → v2.ownBlock ≠ some b
  hb : base ≤ w.heap.size
section
variable {E ST : TypeId} {X Y : Nat → Prop} {w0 w w' W1 W2 : World} {base n s b : Nat} {v1 v2 : Value} {xs1 xs2 : List Value} {t : TypeId} {u : Array Value} {sb : Nat} {g : Mem} {P : List (Int × Int)}
theorem Two.step (h : Two E X Y w base v1 v2 n xs1 xs2) (hk : KX Y w w') : Two E X Y w' base v1 v2 n xs1 xs2 :=
  ⟨own_kx h.o1 hk fun b hb => (h.b1 b hb).2, own_kx h.o2 hk fun b hb => (h.b2 b hb).2, h.b1, h.b2, h.ne, Nat.le_trans h.hb hk.size⟩
theorem Two.drew (h : Two E X Y w base v1 v2 n xs1 xs2) : Two E X Y w.drew base v1 v2 n xs1 xs2 := h.step (kx_drew _ _)
theorem two_none (hb : base ≤ w.heap.size) : Two E X Y w base (.slice none 0 0) (.slice none 0 0) 0 [] [] :=
  ⟨World.ownsRow_nil _ _ _ _, World.ownsRow_nil _ _ _ _, fun b h => (by cases h), fun b h => (by cases h), fun b h => (by cases h), hb⟩
theorem own_ne {n : Nat} {v : Value} {xs : List Value} (ho : w.ownsRow base E 1 v n xs) (hb : HB t w b u) (ht : t ≠ E) : v.ownBlock ≠ some b := by
  intro e
  rcases ho.2 with ⟨rfl, -⟩ | ⟨b', cap, c0, rfl, -, hc, -⟩
  · cases e
  · obtain rfl : b' = b := Option.some.inj e
    have := (show w.heap[b']? = _ from hb).symm.trans hc
    injection this with this
    injection this with _ this
    exact ht this
theorem Two.set (h : Two E X Y w base v1 v2 n xs1 xs2) (hb : HB t w b u) (ht : t ≠ E) (j : Nat) (v : Value) : Two E X Y (w.setCell ⟨b, j, none⟩ v) base v1 v2 n xs1 xs2 := by
  have hk := KX.of_grown (X := fun k => k = b) (gr_put w b j v) fun k e => (Option.some.inj e).symm
  exact ⟨own_kx h.o1 hk fun k hk' e => own_ne h.o1 hb ht (by rw [hk', e]), own_kx h.o2 hk fun k hk' e => own_ne h.o2 hb ht (by rw [hk', e]), h.b1, h.b2, h.ne, Nat.le_trans h.hb hk.size⟩
theorem Two.old (h : Two E X Y w base v1 v2 n xs1 xs2) (o : Obj) : Two E X (fun b => Y b ∧ b ≠ w.heap.size) (w.alloc o) base v1 v2 n xs1 xs2 :=
  ⟨own_kx h.o1 (KX.of_below (X := fun _ => False) (below_alloc w o)) fun _ _ h => h, own_kx h.o2 (KX.of_below (X := fun _ => False) (below_alloc w o)) fun _ _ h => h, fun b hb => ⟨(h.b1 b hb).1, fun hy => (h.b1 b hb).2 hy.1⟩, fun b hb => ⟨(h.b2 b hb).1, fun hy => (h.b2 b hb).2 hy.1⟩, h.ne, Nat.le_trans h.hb (below_alloc w o).size⟩
/-- The first row has grown. -/
structure Mid (E : TypeId) (w W1 : World) (base : Nat) (v1 v1' v2 : Value) (n : Nat) (ys1 xs2 : List Value) : Prop where
  o1 : W1.ownsRow base E 1 v1' (n + 1) ys1
  o2 : W1.ownsRow base E 1 v2 n xs2
  k : KX (fun b => v1.ownBlock = some b) w W1
  own : v1'.ownBlock = v1.ownBlock ∨ ∃ q, v1'.ownBlock = some q ∧ w.heap.size ≤ q
theorem two_first (hE : OneW E ST) (h : Two E X Y w base v1 v2 n xs1 xs2) (hn : n ≤ 100000) (h1 : Below w.heap.size w W1) {x : Value} (hx : x.oneCell' = true) (hs : HB E W1 s #[x]) (ty : TypeId) :
    ∃ A c W, (Builtin.append_ #[ST, ST] ty #[v1, .slice (some ⟨s, 0, none⟩) 1 1]).run Tryz.prog W1 = .ok (.slice A (n + 1) c) W ∧ Mid E w W base v1 (.slice A (n + 1) c) v2 n (xs1 ++ [x]) xs2 ∧ KX (fun b => v1.ownBlock = some b) W1 W := by
  have hk1 : KX (fun b => v1.ownBlock = some b) w W1 := KX.of_below h1
  obtain ⟨A, c, W, run, o1, hk, ow⟩ := app_one hE (own_kx h.o1 (KX.of_below (X := fun _ => False) h1) fun _ _ h => h) hn (Nat.le_trans h.hb h1.size) hx hs ty
  refine ⟨A, c, W, run, ⟨o1, own_kx (own_kx h.o2 (KX.of_below (X := fun _ => False) h1) fun _ _ h => h) hk (fun b hb e => h.ne b e hb), hk1.trans hk, ?_⟩, hk⟩
  rcases ow with e | ⟨q, e, hq⟩
  · exact .inl e
  · exact .inr ⟨q, e, Nat.le_trans h1.size hq⟩
/-- Both rows have grown. -/
structure End (E : TypeId) (X Y : Nat → Prop) (w0 w W2 : World) (base : Nat) (v1 v2 v1' v2' : Value) (n : Nat) (ys1 ys2 : List Value) : Prop where
  ex : ∃ Y', Fr X Y' w0 W2 ∧ Two E X Y' W2 base v1' v2' (n + 1) ys1 ys2 ∧ (∀ base sb g P, SpE w Y base sb g P → SpE W2 Y' base sb g P) ∧ (∀ t b u, t ≠ E → Bx t X Y w b u → Bx t X Y' W2 b u) ∧ KX (fun b => v1.ownBlock = some b ∨ v2.ownBlock = some b) w W2 ∧ ∀ b, Y' b → Y b
theorem two_second (hE : OneW E ST) (hF : Fr X Y w0 w) (h : Two E X Y w base v1 v2 n xs1 xs2) {A1 : Option Addr} {c1 : Nat} {ys1 : List Value} (hm : Mid E w W1 base v1 (.slice A1 (n + 1) c1) v2 n ys1 xs2) (hn : n ≤ 100000) (h2 : Below W1.heap.size W1 W2) {x : Value} (hx : x.oneCell' = true) (hs : HB E W2 s #[x]) (ty : TypeId) :
    ∃ A c W, (Builtin.append_ #[ST, ST] ty #[v2, .slice (some ⟨s, 0, none⟩) 1 1]).run Tryz.prog W2 = .ok (.slice A (n + 1) c) W ∧ End E X Y w0 w W base v1 v2 (.slice A1 (n + 1) c1) (.slice A (n + 1) c) n ys1 (xs2 ++ [x]) ∧ KX (fun b => v2.ownBlock = some b) W2 W := by
  have hlo : ∀ {v : Value} {n : Nat} {xs : List Value}, w.ownsRow base E 1 v n xs → ∀ b, v.ownBlock = some b → b < w.heap.size := fun ho b hb => (ho.lt b hb).2
  obtain ⟨A, c, W, run, o2, hk, ow⟩ := app_one hE (own_kx hm.o2 (KX.of_below (X := fun _ => False) h2) fun _ _ h => h) hn (Nat.le_trans h.hb (Nat.le_trans hm.k.size h2.size)) hx hs ty
  have hsz2 : w.heap.size ≤ W2.heap.size := Nat.le_trans hm.k.size h2.size
  have hown2 : (Value.slice A (n + 1) c).ownBlock = v2.ownBlock ∨ ∃ q, (Value.slice A (n + 1) c).ownBlock = some q ∧ W1.heap.size ≤ q := by
    rcases ow with e | ⟨q, e, hq⟩
    · exact .inl e
    · exact .inr ⟨q, e, Nat.le_trans h2.size hq⟩
  have hl1 : ∀ b, (Value.slice A1 (n + 1) c1).ownBlock = some b → b < W1.heap.size := fun b hb => (hm.o1.lt b hb).2
  have hne : ∀ b, (Value.slice A1 (n + 1) c1).ownBlock = some b → (Value.slice A (n + 1) c).ownBlock ≠ some b := by
    intro b h1 e2
    rcases hown2 with e | ⟨q, e, hq⟩
    · rw [e] at e2
      rcases hm.own with f | ⟨q, f, hq⟩
      · rw [f] at h1; exact h.ne b h1 e2
      · rw [f] at h1; injection h1 with h1; have := hlo h.o2 b e2; omega
    · rw [e] at e2; injection e2 with e2; have := hl1 b h1; omega
  have o1 : W.ownsRow base E 1 (.slice A1 (n + 1) c1) (n + 1) ys1 := by
    refine own_kx (own_kx hm.o1 (KX.of_below (X := fun _ => False) h2) fun _ _ h => h) hk fun b hb e => ?_
    rcases hm.own with f | ⟨q, f, hq⟩
    · rw [f] at hb; exact h.ne b hb e
    · rw [f] at hb; injection hb with hb; have := hlo h.o2 b e; omega
  have kz : KX (fun b => v1.ownBlock = some b ∨ v2.ownBlock = some b) w W := ((hm.k.mono fun _ _ h => .inl h).trans (KX.of_below h2)).trans (hk.mono fun _ _ h => .inr h)
  refine ⟨A, c, W, run, ⟨fun b => Y b ∧ (Value.slice A1 (n + 1) c1).ownBlock ≠ some b ∧ (Value.slice A (n + 1) c).ownBlock ≠ some b, ?_, ?_, ?_, ?_, kz, fun b hb => hb.1⟩, hk⟩
  · refine ⟨hF.k.trans (kz.mono fun b _ e => e.elim (fun e => (h.b1 b e).1) fun e => (h.b2 b e).1), fun b hb => hF.yx b hb.1, fun b hb => ⟨hF.yn b (Nat.le_trans kz.size hb), fun e => ?_, fun e => ?_⟩⟩
    · have := (o1.lt b e).2; omega
    · have := (o2.lt b e).2; omega
  · refine ⟨o1, o2, fun b hb => ⟨?_, fun hy => hy.2.1 hb⟩, fun b hb => ⟨?_, fun hy => hy.2.2 hb⟩, hne, Nat.le_trans h.hb kz.size⟩
    · rcases hm.own with f | ⟨q, f, hq⟩
      · rw [f] at hb; exact (h.b1 b hb).1
      · rw [f] at hb; injection hb with hb; exact hF.yx b (hF.yn b (by omega))
    · rcases hown2 with f | ⟨q, f, hq⟩
      · rw [f] at hb; exact (h.b2 b hb).1
      · rw [f] at hb; injection hb with hb; exact hF.yx b (hF.yn b (by have := hm.k.size; omega))
  · intro base sb g P hS
    refine (hS.more (Y := fun b => Y b ∧ (Value.slice A1 (n + 1) c1).ownBlock ≠ some b ∧ (Value.slice A (n + 1) c).ownBlock ≠ some b) fun b hb hy => ⟨hy, fun e => ?_, fun e => ?_⟩).kx kz fun b hb hy e => e.elim (fun e => (h.b1 b e).2 hy.1) fun e => (h.b2 b e).2 hy.1
    · rcases hm.own with f | ⟨q, f, hq⟩
      · rw [f] at e; exact (h.b1 b e).2 hy
      · rw [f] at e; injection e with e; omega
    · rcases hown2 with f | ⟨q, f, hq⟩
      · rw [f] at e; exact (h.b2 b e).2 hy
      · rw [f] at e; injection e with e; have := hm.k.size; omega
  · intro t b u ht hb
    exact ⟨hb.hb.kx kz fun e => e.elim (own_ne h.o1 hb.hb ht) (own_ne h.o2 hb.hb ht), hb.xb, fun hy => hb.ny hy.1⟩
end
end Go.Proofs.YtkloaopjlbinpaaGreat
