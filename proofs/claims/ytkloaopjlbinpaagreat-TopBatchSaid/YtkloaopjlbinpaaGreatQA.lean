/- Entries of a commit in memory; the walk of entry.wrong. Condition: the numbers are of their kinds. The walks of entry.Check and of slices.ContainsFunc, slices.IndexFunc as it calls them. Conditions: the entries' numbers are of their kinds; fewer than 2^40 entries. The walk of entry.Check. Conditions: the entries' numbers are of their kinds; fewer than 2^40 entries. -/
import Derived.Test.YtkloaopjlbinpaaGreatQB
import Derived.Laws.Rows
set_option linter.unusedVariables false
namespace Go.Proofs.YtkloaopjlbinpaaGreat
open Go.RowKit

structure Ent where
  loc : Int
  val : Int
  ver : Int
  ref : Int
  new : Int
  wr : Bool
/-- An entry's cells. -/
def entC (e : Ent) : List Value := [.int .i64 e.loc, .int .i64 e.val, .int .u32 e.ver, .int .u32 e.ref, .int .i64 e.new, .bool e.wr]
/-- An entry's value. -/
def entV (e : Ent) : Value := .agg #[.int .i64 e.loc, .int .i64 e.val, .int .u32 e.ver, .int .u32 e.ref, .int .i64 e.new, .bool e.wr]
/-- An entry in a block of its own. -/
def entO (e : Ent) : Obj := .cells #[.int .i64 e.loc, .int .i64 e.val, .int .u32 e.ver, .int .u32 e.ref, .int .i64 e.new, .bool e.wr] 101
def EBox (w : World) (b : Nat) (e : Ent) : Prop := w.heap[b]? = some (entO e)
section
variable {w w' : World} {b : Nat} {e : Ent}
theorem EBox.lt (h : EBox w b e) : b < w.heap.size := by
  unfold EBox at h
  exact (Array.getElem?_eq_some_iff.1 h).1
theorem EBox.below (h : EBox w b e) (hb : Below w.heap.size w w') : EBox w' b e := (hb.block _ h.lt).trans h
theorem EBox.alloc (h : EBox w b e) (o : Obj) : EBox (w.alloc o) b e := by
  have := h.lt
  unfold EBox at *
  unfold World.alloc
  rw [Array.getElem?_push_lt this, ← h, Array.getElem?_eq_getElem this]
theorem EBox.new : EBox (w.alloc (entO e)) w.heap.size e := heap_alloc_new _ _
theorem EBox.all (h : EBox w b e) : w.cell? ⟨b, 0, none⟩ = some (.int .i64 e.loc) ∧ w.cell? ⟨b, 1, none⟩ = some (.int .i64 e.val) ∧ w.cell? ⟨b, 2, none⟩ = some (.int .u32 e.ver) ∧ w.cell? ⟨b, 3, none⟩ = some (.int .u32 e.ref) ∧ w.cell? ⟨b, 4, none⟩ = some (.int .i64 e.new) ∧ w.cell? ⟨b, 5, none⟩ = some (.bool e.wr) := by
  refine ⟨?_, ?_, ?_, ?_, ?_, ?_⟩ <;> (unfold World.cell?; simp [show w.heap[b]? = _ from h, entO])
end
theorem of_allocs2 {w w' : World} {o p : Obj} (h : w' = (w.alloc o).alloc p) : Below w.heap.size w w' := by
  rw [h]
  exact ((Below.refl _ _).alloc (Nat.le_refl _) _).alloc (by simp) _

/-- The cells of a list of entries. -/
def flatE (l : List Ent) : List Value := l.flatMap entC
theorem flatE_length (l : List Ent) : (flatE l).length = l.length * 6 := by
  induction l with
  | nil => rfl
  | cons a t ih => simp only [flatE, List.flatMap_cons, List.length_append, List.length_cons, entC, List.length_nil] at *; omega
theorem flatE_get (l : List Ent) (i : Nat) (h : i < l.length) (j : Nat) (hj : j < 6) : (flatE l)[6 * i + j]? = (entC l[i])[j]? := by
  induction l generalizing i with
  | nil => simp at h
  | cons a t ih =>
    cases i with
    | zero =>
      simp only [flatE, List.flatMap_cons, Nat.mul_zero, Nat.zero_add, List.getElem_cons_zero]
      rw [List.getElem?_append_left (by simpa [entC] using hj)]
    | succ k =>
      have := ih k (by simpa using h)
      simp only [flatE, List.flatMap_cons, List.getElem_cons_succ] at *
      rw [List.getElem?_append_right (by simp [entC]; omega), ← this]
      congr 1
      simp [entC]; omega
/-- The slice (A, n) holds the entries l, in a block that meets S. -/
def Ents (w : World) (S : Nat → Prop) (A : Option Addr) (n : Nat) (l : List Ent) : Prop := n = l.length ∧ Reads w S 6 A n (flatE l)
theorem Ents.below {w w' : World} {S : Nat → Prop} {A : Option Addr} {n : Nat} {l : List Ent} (h : Ents w S A n l) (hb : Below w.heap.size w w') : Ents w' S A n l := ⟨h.1, h.2.below hb⟩
theorem Ents.more {w : World} {S S' : Nat → Prop} {A : Option Addr} {n : Nat} {l : List Ent} (h : Ents w S A n l) (hS : ∀ b, b < w.heap.size → S b → S' b) : Ents w S' A n l := ⟨h.1, h.2.more hS⟩
theorem Ents.cell {w : World} {S : Nat → Prop} {n : Nat} {A : Option Addr} {l : List Ent} (h : Ents w S A n l) (i : Nat) (hi : i < l.length) :
    ∃ b o, A = some ⟨b, o, none⟩ ∧ b < w.heap.size ∧ S b ∧ ∀ w', Below w.heap.size w w' → w'.cell? ⟨b, o + i * 6, none⟩ = some (.int .i64 l[i].loc) ∧ w'.cell? ⟨b, o + i * 6 + 1, none⟩ = some (.int .i64 l[i].val) ∧ w'.cell? ⟨b, o + i * 6 + 2, none⟩ = some (.int .u32 l[i].ver) ∧ w'.cell? ⟨b, o + i * 6 + 3, none⟩ = some (.int .u32 l[i].ref) ∧ w'.cell? ⟨b, o + i * 6 + 4, none⟩ = some (.int .i64 l[i].new) ∧ w'.cell? ⟨b, o + i * 6 + 5, none⟩ = some (.bool l[i].wr) := by
  obtain ⟨rfl, h1, h2⟩ := h
  obtain ⟨b, o, e, hb, hS, hc⟩ := h2 (by omega)
  refine ⟨b, o, e, hb, hS, fun w' hb' => ?_⟩
  have g := fun (j : Nat) (u : Value) (hj : j < 6) (hu : (entC l[i])[j]? = some u) => (hb'.cell (p := ⟨b, o + (6 * i + j), none⟩) hb).trans (hc (6 * i + j) u ((flatE_get l i hi j hj).trans hu))
  have e1 : ∀ j, o + (6 * i + j) = o + i * 6 + j := fun j => by omega
  refine ⟨?_, ?_, ?_, ?_, ?_, ?_⟩
  · have := g 0 _ (by omega) rfl; rwa [e1] at this
  · have := g 1 _ (by omega) rfl; rwa [e1] at this
  · have := g 2 _ (by omega) rfl; rwa [e1] at this
  · have := g 3 _ (by omega) rfl; rwa [e1] at this
  · have := g 4 _ (by omega) rfl; rwa [e1] at this
  · have := g 5 _ (by omega) rfl; rwa [e1] at this

theorem Ents.at {w : World} {S : Nat → Prop} {n : Nat} {A : Option Addr} {l : List Ent} (h : Ents w S A n l) (i : Nat) (hi : i < n) :
    ∃ y b o, l[i]? = some y ∧ A = some ⟨b, o, none⟩ ∧ b < w.heap.size ∧ S b ∧ ∀ w', Below w.heap.size w w' → w'.cell? ⟨b, o + i * 6, none⟩ = some (.int .i64 y.loc) ∧ w'.cell? ⟨b, o + i * 6 + 1, none⟩ = some (.int .i64 y.val) ∧ w'.cell? ⟨b, o + i * 6 + 2, none⟩ = some (.int .u32 y.ver) ∧ w'.cell? ⟨b, o + i * 6 + 3, none⟩ = some (.int .u32 y.ref) ∧ w'.cell? ⟨b, o + i * 6 + 4, none⟩ = some (.int .i64 y.new) ∧ w'.cell? ⟨b, o + i * 6 + 5, none⟩ = some (.bool y.wr) := by
  have hil : i < l.length := by have := h.1; omega
  obtain ⟨b, o, h1, h2, h3, h4⟩ := h.cell i hil
  exact ⟨l[i], b, o, List.getElem?_eq_getElem hil, h1, h2, h3, h4⟩
theorem Ents.take {w : World} {S : Nat → Prop} {n : Nat} {A : Option Addr} {l : List Ent} (h : Ents w S A n l) (k : Nat) (hk : k ≤ n) : Ents w S A k (l.take k) := by
  have h1 := h.1
  refine ⟨by rw [List.length_take]; omega, ⟨by rw [flatE_length, List.length_take]; congr 1; omega, fun hk0 => ?_⟩⟩
  obtain ⟨b, o, e, hb, hS, hc⟩ := h.2.2 (by omega)
  refine ⟨b, o, e, hb, hS, fun j u hu => hc j u ?_⟩
  have e2 : flatE l = flatE (l.take k) ++ flatE (l.drop k) := by
    unfold flatE
    rw [← List.flatMap_append, List.take_append_drop]
  rw [e2, List.getElem?_append_left (by have := List.getElem?_eq_some_iff.1 hu; exact this.1)]
  exact hu

/-- entry.wrong's answer. -/
def entE (e : Ent) : Int := if e.loc < 0 ∨ 4096 ≤ e.loc then 3 else if e.ref ≠ 0 then 13 else if e.wr = true ∧ e.ver = 4294967295 then 9 else if e.wr = false ∧ e.new ≠ e.val then 4 else 0
/-- The entry's numbers are of their kinds. -/
def EntOk (e : Ent) : Prop := (0 ≤ e.ver ∧ e.ver < 4294967296) ∧ (0 ≤ e.ref ∧ e.ref < 4294967296)

set_option maxRecDepth 100000 in
set_option maxHeartbeats 3200000 in
theorem ewrong_a (lo va ve re ne : Int) (b : Bool) (w : World) (h0 : 0 ≤ re) (h1 : re < 4294967296) (h : lo < 0) :
    Calls Tryz.prog 76 #[.agg #[.int .i64 lo, .int .i64 va, .int .u32 ve, .int .u32 re, .int .i64 ne, .bool b]] w fun e w' => e = .returned (.int .i64 3) ∧ Below w.heap.size w w' := by
  clear h0 h1
  go_enter Tryz.func76, Tryz.ntmps76
  go_wp2
  go_ret
  exact ⟨rfl, (Below.refl _ _).alloc (Nat.le_refl _) _⟩


set_option maxRecDepth 100000 in
set_option maxHeartbeats 3200000 in
theorem ewrong_b (lo va ve re ne : Int) (b : Bool) (w : World) (h0 : 0 ≤ re) (h1 : re < 4294967296) (h : 0 ≤ lo) (h2 : 4096 ≤ lo) :
    Calls Tryz.prog 76 #[.agg #[.int .i64 lo, .int .i64 va, .int .u32 ve, .int .u32 re, .int .i64 ne, .bool b]] w fun e w' => e = .returned (.int .i64 3) ∧ Below w.heap.size w w' := by
  clear h0 h1
  go_enter Tryz.func76, Tryz.ntmps76
  go_wp2
  go_ret
  exact ⟨rfl, (Below.refl _ _).alloc (Nat.le_refl _) _⟩


set_option maxRecDepth 100000 in
set_option maxHeartbeats 3200000 in
theorem ewrong_c (lo va ve re ne : Int) (b : Bool) (w : World) (h0 : 0 ≤ re) (h1 : re < 4294967296) (h : 0 ≤ lo) (h2 : lo < 4096) (h3 : re ≠ 0) :
    Calls Tryz.prog 76 #[.agg #[.int .i64 lo, .int .i64 va, .int .u32 ve, .int .u32 re, .int .i64 ne, .bool b]] w fun e w' => e = .returned (.int .i64 13) ∧ Below w.heap.size w w' := by
  have cp := fun w => plain_any va ve re w h0 h1
  rw [show decide (re = 0) = false by simp [h3]] at cp
  have CP := Lib.hid cp
  clear cp h3
  clear h0 h1
  have B0 := Lib.hid (EBox.new (w := w) (e := ⟨lo, va, ve, re, ne, b⟩))
  go_enter Tryz.func76, Tryz.ntmps76
  go_wp2_with fail
  refine (CP.out _).mono ?_
  rintro e w1 ⟨rfl, hx⟩
  have hb := of_allocs2 hx
  have HW := Lib.hid (below_new hb)
  obtain ⟨f0, f1, f2, f3, f4, f5⟩ := (B0.out.below hb).all
  clear hx hb B0 CP
  dsimp only at f0 f1 f2 f3 f4 f5
  go_wp2
  go_ret
  exact ⟨rfl, HW.out⟩


set_option maxRecDepth 100000 in
set_option maxHeartbeats 3200000 in
theorem ewrong_d (lo va ve re ne : Int) (b : Bool) (w : World) (h0 : 0 ≤ re) (h1 : re < 4294967296) (h : 0 ≤ lo) (h2 : lo < 4096) :
    Calls Tryz.prog 76 #[.agg #[.int .i64 lo, .int .i64 va, .int .u32 4294967295, .int .u32 0, .int .i64 ne, .bool true]] w fun e w' => e = .returned (.int .i64 9) ∧ Below w.heap.size w w' := by
  have cp := fun w => plain_any va 4294967295 0 w (by decide) (by decide)
  rw [show decide ((0 : Int) = 0) = true by decide] at cp
  have CP := Lib.hid cp
  clear cp
  clear h0 h1
  have B0 := Lib.hid (EBox.new (w := w) (e := ⟨lo, va, 4294967295, 0, ne, true⟩))
  go_enter Tryz.func76, Tryz.ntmps76
  go_wp2_with fail
  refine (CP.out _).mono ?_
  rintro e w1 ⟨rfl, hx⟩
  have hb := of_allocs2 hx
  have HW := Lib.hid (below_new hb)
  obtain ⟨f0, f1, f2, f3, f4, f5⟩ := (B0.out.below hb).all
  clear hx hb B0 CP
  dsimp only at f0 f1 f2 f3 f4 f5
  go_wp2
  go_ret
  exact ⟨rfl, HW.out⟩


set_option maxRecDepth 100000 in
set_option maxHeartbeats 3200000 in
theorem ewrong_e (lo va ve re ne : Int) (b : Bool) (w : World) (h0 : 0 ≤ re) (h1 : re < 4294967296) (h : 0 ≤ lo) (h2 : lo < 4096) (h3 : ve ≠ 4294967295) :
    Calls Tryz.prog 76 #[.agg #[.int .i64 lo, .int .i64 va, .int .u32 ve, .int .u32 0, .int .i64 ne, .bool true]] w fun e w' => e = .returned (.int .i64 0) ∧ Below w.heap.size w w' := by
  have cp := fun w => plain_any va ve 0 w (by decide) (by decide)
  rw [show decide ((0 : Int) = 0) = true by decide] at cp
  have CP := Lib.hid cp
  clear cp
  have hv : (ve == 4294967295) = false := beq_eq_false_iff_ne.2 h3
  clear h3
  clear h0 h1
  have B0 := Lib.hid (EBox.new (w := w) (e := ⟨lo, va, ve, 0, ne, true⟩))
  go_enter Tryz.func76, Tryz.ntmps76
  go_wp2_with fail
  refine (CP.out _).mono ?_
  rintro e w1 ⟨rfl, hx⟩
  have hb := of_allocs2 hx
  have HW := Lib.hid (below_new hb)
  obtain ⟨f0, f1, f2, f3, f4, f5⟩ := (B0.out.below hb).all
  clear hx hb B0 CP
  dsimp only at f0 f1 f2 f3 f4 f5
  go_wp2
  go_ret
  exact ⟨rfl, HW.out⟩


set_option maxRecDepth 100000 in
set_option maxHeartbeats 3200000 in
theorem ewrong_f (lo va ve re ne : Int) (b : Bool) (w : World) (h0 : 0 ≤ re) (h1 : re < 4294967296) (h : 0 ≤ lo) (h2 : lo < 4096) (h3 : ne ≠ va) :
    Calls Tryz.prog 76 #[.agg #[.int .i64 lo, .int .i64 va, .int .u32 ve, .int .u32 0, .int .i64 ne, .bool false]] w fun e w' => e = .returned (.int .i64 4) ∧ Below w.heap.size w w' := by
  have cp := fun w => plain_any va ve 0 w (by decide) (by decide)
  rw [show decide ((0 : Int) = 0) = true by decide] at cp
  have CP := Lib.hid cp
  clear cp
  have hv : (ne == va) = false := beq_eq_false_iff_ne.2 h3
  have hv2 : (ne != va) = true := by rw [bne, hv]; rfl
  clear h3
  clear h0 h1
  have B0 := Lib.hid (EBox.new (w := w) (e := ⟨lo, va, ve, 0, ne, false⟩))
  go_enter Tryz.func76, Tryz.ntmps76
  go_wp2_with fail
  refine (CP.out _).mono ?_
  rintro e w1 ⟨rfl, hx⟩
  have hb := of_allocs2 hx
  have HW := Lib.hid (below_new hb)
  obtain ⟨f0, f1, f2, f3, f4, f5⟩ := (B0.out.below hb).all
  clear hx hb B0 CP
  dsimp only at f0 f1 f2 f3 f4 f5
  go_wp2
  go_ret
  exact ⟨rfl, HW.out⟩


set_option maxRecDepth 100000 in
set_option maxHeartbeats 3200000 in
theorem ewrong_g (lo va ve re ne : Int) (b : Bool) (w : World) (h0 : 0 ≤ re) (h1 : re < 4294967296) (h : 0 ≤ lo) (h2 : lo < 4096) :
    Calls Tryz.prog 76 #[.agg #[.int .i64 lo, .int .i64 va, .int .u32 ve, .int .u32 0, .int .i64 va, .bool false]] w fun e w' => e = .returned (.int .i64 0) ∧ Below w.heap.size w w' := by
  have cp := fun w => plain_any va ve 0 w (by decide) (by decide)
  rw [show decide ((0 : Int) = 0) = true by decide] at cp
  have CP := Lib.hid cp
  clear cp
  clear h0 h1
  have B0 := Lib.hid (EBox.new (w := w) (e := ⟨lo, va, ve, 0, va, false⟩))
  go_enter Tryz.func76, Tryz.ntmps76
  go_wp2_with fail
  refine (CP.out _).mono ?_
  rintro e w1 ⟨rfl, hx⟩
  have hb := of_allocs2 hx
  have HW := Lib.hid (below_new hb)
  obtain ⟨f0, f1, f2, f3, f4, f5⟩ := (B0.out.below hb).all
  clear hx hb B0 CP
  dsimp only at f0 f1 f2 f3 f4 f5
  go_wp2
  go_ret
  exact ⟨rfl, HW.out⟩


theorem ewrong_any (e : Ent) (w : World) (h : EntOk e) :
    Calls Tryz.prog 76 #[entV e] w fun x w' => x = .returned (.int .i64 (entE e)) ∧ Below w.heap.size w w' := by
  obtain ⟨lo, va, ve, re, ne, b⟩ := e
  obtain ⟨_, h0, h1⟩ := h
  dsimp only at h0 h1
  unfold entV entE
  dsimp only
  by_cases k1 : lo < 0
  · rw [if_pos (.inl k1)]; exact ewrong_a lo va ve re ne b w h0 h1 k1
  by_cases k2 : 4096 ≤ lo
  · rw [if_pos (.inr k2)]; exact ewrong_b lo va ve re ne b w h0 h1 (by omega) k2
  rw [if_neg (by omega)]
  by_cases k3 : re = 0
  · subst k3
    rw [if_neg (by simp)]
    cases b with
    | true =>
      by_cases k4 : ve = 4294967295
      · subst k4; rw [if_pos ⟨rfl, rfl⟩]; exact ewrong_d lo va 0 0 ne true w h0 h1 (by omega) (by omega)
      · rw [if_neg (fun h => k4 h.2), if_neg (by simp)]; exact ewrong_e lo va ve 0 ne true w h0 h1 (by omega) (by omega) k4
    | false =>
      rw [if_neg (by simp)]
      by_cases k4 : ne = va
      · subst k4; rw [if_neg (by simp)]; exact ewrong_g lo ne ve 0 ne false w h0 h1 (by omega) (by omega)
      · rw [if_pos ⟨rfl, k4⟩]; exact ewrong_f lo va ve 0 ne false w h0 h1 (by omega) (by omega) k4
  · rw [if_pos k3]; exact ewrong_c lo va ve re ne b w h0 h1 (by omega) (by omega) k3
end Go.Proofs.YtkloaopjlbinpaaGreat
namespace Go.Proofs.YtkloaopjlbinpaaGreat
open Go.RowKit

set_option maxRecDepth 100000 in
set_option maxHeartbeats 1600000 in
theorem same_any (y x : Ent) (bx : Nat) (w : World) (hx : EBox w bx x) :
    Calls Tryz.prog 78 #[entV y, .pointer (some ⟨bx, 0, none⟩)] w fun e w' => e = .returned (.bool (y.loc == x.loc)) ∧ Below w.heap.size w w' := by
  have f0 := hx.all.1
  have g0 := fun o => (hx.alloc o).all.1
  obtain ⟨y0, y1, y2, y3, y4, y5⟩ := y
  obtain ⟨x0, x1, x2, x3, x4, x5⟩ := x
  unfold entV
  dsimp only at f0 g0 ⊢
  clear hx
  go_enter Tryz.func78, Tryz.ntmps78
  go_wp2
  go_ret
  exact ⟨rfl, (Below.refl _ _).alloc (Nat.le_refl _) _⟩

set_option maxRecDepth 100000 in
set_option maxHeartbeats 1600000 in
theorem idx_any {S : Nat → Prop} (A : Option Addr) (n c : Nat) (l : List Ent) (x : Ent) (bx : Nat) (w : World) (hl : Ents w S A n l) (hx : EBox w bx x) (hn : n ≤ 1099511627776) :
    Calls Tryz.prog 91 #[.slice A n c, .func (.func 78) #[] #[.pointer (some ⟨bx, 0, none⟩)]] w fun e w' =>
      ∃ r : Int, e = .returned (.int .i64 r) ∧ decide (0 ≤ r) = (l.any fun y => y.loc == x.loc) ∧ Below w.heap.size w w' := by
  have HLN := Lib.hid hl.1
  have HL := Lib.hid fun k hk => hl.at k hk
  have HX := Lib.hid hx
  clear hl hx
  go_enter Tryz.func91, Tryz.ntmps91
  go_wp2
  go_loopw [8] (fun i wr => ∃ k : Nat, k ≤ n ∧ i = .int .i64 k ∧ (∀ j y, l[j]? = some y → j < k → (y.loc == x.loc) = false) ∧ Below w.heap.size w wr) (fun i _ => n - (intOf i).toNat)
  case atStart => exact ⟨0, by omega, rfl, fun j _ _ h => absurd h (by omega), Below.refl _ _⟩
  case round =>
    obtain ⟨k, hk, rfl, hno, hb⟩ := hrel
    by_cases hlt : k < n
    · obtain ⟨y, b, o, hy, rfl, hbb, hSb, hcell⟩ := HL.out k hlt
      obtain ⟨f0, f1, f2, f3, f4, f5⟩ := hcell wr hb
      have C := Lib.hid (same_any y x bx wr (HX.out.below hb))
      have HN := Lib.hid hno
      have HB := Lib.hid hb
      have hi0 : (0 : Int) ≤ (k : Int) := by omega
      have hi1 : (k : Int) < (n : Int) := by omega
      have HY := Lib.hid hy
      unfold entV at C
      clear hy hcell hno hb
      cases hq : (y.loc == x.loc) with
      | false =>
        rw [hq] at C
        have HQ := Lib.hid hq
        clear hq
        go_wp2_with fail
        refine C.out.mono ?_
        rintro e w1 ⟨rfl, hb1⟩
        go_wp2
        go_roundw
        case rel =>
          refine ⟨k + 1, by omega, by go_num, fun j z hj h => ?_, HB.out.trans (hb1.mono HB.out.size)⟩
          by_cases hjk : j = k
          · subst hjk; rw [HY.out] at hj; cases hj; exact HQ.out
          · exact HN.out j z hj (by omega)
        case measure => simp [intOf]; omega
      | true =>
        rw [hq] at C
        have HQ := Lib.hid hq
        clear hq
        go_wp2_with fail
        refine C.out.mono ?_
        rintro e w1 ⟨rfl, hb1⟩
        go_wp2
        go_ret
        refine ⟨k, rfl, ?_, HB.out.trans (hb1.mono HB.out.size)⟩
        rw [decide_eq_true (by omega : (0 : Int) ≤ (k : Int))]
        symm
        rw [List.any_eq_true]
        exact ⟨y, List.mem_of_getElem? HY.out, HQ.out⟩
    · have hkn : ¬ ((k : Int) < (n : Int)) := by omega
      go_wp2
      go_ret
      refine ⟨-1, rfl, ?_, hb⟩
      rw [decide_eq_false (by omega : ¬ (0 : Int) ≤ -1)]
      symm
      rw [List.any_eq_false]
      intro y hy
      obtain ⟨j, hj, hjy⟩ := List.getElem_of_mem hy
      rw [hno j y (by rw [List.getElem?_eq_getElem hj, hjy]) (by have := HLN.out; omega)]
      simp

set_option maxRecDepth 100000 in
set_option maxHeartbeats 1600000 in
theorem has_any {S : Nat → Prop} (A : Option Addr) (n c : Nat) (l : List Ent) (x : Ent) (bx : Nat) (w : World) (hl : Ents w S A n l) (hx : EBox w bx x) (hn : n ≤ 1099511627776) :
    Calls Tryz.prog 77 #[.slice A n c, .func (.func 78) #[] #[.pointer (some ⟨bx, 0, none⟩)]] w fun e w' =>
      e = .returned (.bool (l.any fun y => y.loc == x.loc)) ∧ Below w.heap.size w w' := by
  have C := Lib.hid (idx_any A n c l x bx w hl hx hn)
  clear hl hx hn
  go_enter Tryz.func77, Tryz.ntmps77
  go_wp2_with fail
  refine C.out.mono ?_
  rintro e w1 ⟨r, rfl, hr, hb⟩
  have HR := Lib.hid hr
  clear hr
  go_wp2
  go_ret
  exact ⟨by rw [← HR.out]; rfl, hb⟩
end Go.Proofs.YtkloaopjlbinpaaGreat
namespace Go.Proofs.YtkloaopjlbinpaaGreat
open Go.RowKit

/-- entry.Check's answer, behind the entries done. -/
def chkL : List Ent → List Ent → Int
  | _, [] => 0
  | done, x :: r => if entE x ≠ 0 then entE x else if (done.any fun y => y.loc == x.loc) = true then 11 else chkL (done ++ [x]) r
def chk (l : List Ent) : Int := if l.length = 0 then 8 else if 32 < l.length then 15 else chkL [] l
theorem chk_step {l : List Ent} {k : Nat} {y : Ent} (h : l[k]? = some y) :
    chkL (l.take k) (l.drop k) = if entE y ≠ 0 then entE y else if ((l.take k).any fun z => z.loc == y.loc) = true then 11 else chkL (l.take (k + 1)) (l.drop (k + 1)) := by
  obtain ⟨hk, hy⟩ := List.getElem?_eq_some_iff.1 h
  rw [List.drop_eq_getElem_cons hk, hy, chkL, List.take_add_one, h]
  rfl

set_option maxRecDepth 100000 in
set_option maxHeartbeats 3200000 in
theorem check_any {S : Nat → Prop} (A : Option Addr) (n c : Nat) (l : List Ent) (w : World) (hl : Ents w S A n l) (hok : ∀ e ∈ l, EntOk e) (hn : n ≤ 1099511627776) (hc : n ≤ c) :
    Calls Tryz.prog 64 #[.slice A n c] w fun e w' => e = .returned (.int .i64 (chk l)) ∧ Below w.heap.size w w' := by
  have HLN := Lib.hid hl.1
  obtain ⟨r, hr⟩ : ∃ r, r = chk l := ⟨_, rfl⟩
  rw [← hr]
  by_cases h0 : n = 0
  · obtain rfl : r = 8 := by rw [hr]; unfold chk; rw [if_pos (by have := HLN.out; omega)]
    subst h0
    clear hl hok hr HLN
    go_enter Tryz.func64, Tryz.ntmps64
    go_wp2
    go_ret
    exact ⟨rfl, Below.refl _ _⟩
  by_cases h1 : 32 < n
  · obtain rfl : r = 15 := by rw [hr]; unfold chk; rw [if_neg (by have := HLN.out; omega), if_pos (by have := HLN.out; omega)]
    have k0 : ((n : Int) == 0) = false := beq_eq_false_iff_ne.2 (by omega)
    have k1 : (32 : Int) < (n : Int) := by omega
    clear hl hok hr HLN h0 h1
    go_enter Tryz.func64, Tryz.ntmps64
    go_wp2
    go_ret
    exact ⟨rfl, Below.refl _ _⟩
  · have e1 : r = chkL [] l := by rw [hr]; unfold chk; rw [if_neg (by have := HLN.out; omega), if_neg (by have := HLN.out; omega)]
    have k0 : ((n : Int) == 0) = false := beq_eq_false_iff_ne.2 (by omega)
    have k1 : ¬ (32 : Int) < (n : Int) := by omega
    have HR := Lib.hid e1
    have HL := Lib.hid hl
    have HOK := Lib.hid hok
    clear hl hok hr h1 e1
    go_enter Tryz.func64, Tryz.ntmps64
    go_wp2
    go_loopw [16] (fun i wr => ∃ k : Nat, k ≤ n ∧ i = .int .i64 k ∧ Hid (r = chkL (l.take k) (l.drop k)) ∧ Below w.heap.size w wr) (fun i _ => n - (intOf i).toNat)
    case atStart => exact ⟨0, by omega, rfl, HR, Below.refl _ _⟩
    case round =>
      clear HR
      obtain ⟨k, hk, rfl, HR, hb⟩ := hrel
      by_cases hlt : k < n
      · obtain ⟨y, b, o, hy, rfl, hbb, hSb, hcell⟩ := HL.out.at k hlt
        obtain ⟨f0, f1, f2, f3, f4, f5⟩ := hcell wr hb
        have HY := Lib.hid hy
        have HB := Lib.hid hb
        have C1 := Lib.hid (ewrong_any y (wr.alloc (entO y)) (HOK.out y (List.mem_of_getElem? hy)))
        have HS := Lib.hid (chk_step hy)
        have hi0 : (0 : Int) ≤ (k : Int) := by omega
        have hi1 : (k : Int) < (n : Int) := by omega
        have hi2 : (k : Int) ≤ (c : Int) := by omega
        clear hy hb hcell
        unfold entV entO at C1
        generalize entE y = E at *
        cases hE : (E == 0) with
        | false =>
          have hE2 : (E != 0) = true := by rw [bne, hE]; rfl
          have hE3 : E ≠ 0 := beq_eq_false_iff_ne.1 hE
          have HF := Lib.hid (show r = E by rw [HR.out, HS.out, if_pos hE3])
          clear hE3 HS HR
          go_wp2_with fail
          refine C1.out.mono ?_
          rintro e w1 ⟨rfl, hb1⟩
          have HB1 := Lib.hid (HB.out.trans ((below_new hb1).mono HB.out.size))
          clear hb1
          go_wp2
          go_ret
          exact ⟨by rw [HF.out]; rfl, HB1.out⟩
        | true =>
          obtain rfl : E = 0 := by simpa using hE
          clear hE
          have HT := Lib.hid (show r = if ((l.take k).any fun z => z.loc == y.loc) = true then 11 else chkL (l.take (k + 1)) (l.drop (k + 1)) by rw [HR.out, HS.out, if_neg (by simp)])
          clear HR HS
          go_wp2_with fail
          refine C1.out.mono ?_
          rintro e w1 ⟨rfl, hb1⟩
          have HB1 := Lib.hid (HB.out.trans ((below_new hb1).mono HB.out.size))
          have C2 := Lib.hid (has_any (some ⟨b, o, none⟩) k c (l.take k) y wr.heap.size w1 ((HL.out.below HB1.out).take k (by omega)) ((EBox.new (w := wr) (e := y)).below hb1) (by omega))
          generalize ((l.take k).any fun z => z.loc == y.loc) = q at *
          clear hb1 C1
          go_wp2_with fail
          refine C2.out.mono ?_
          rintro e w2 ⟨rfl, hb2⟩
          have HB2 := Lib.hid (HB1.out.trans (hb2.mono HB1.out.size))
          clear C2 hb2
          cases q with
          | true =>
            have HF := Lib.hid (show r = 11 by rw [HT.out, if_pos rfl])
            clear HT
            go_wp2
            go_ret
            exact ⟨by rw [HF.out]; rfl, HB2.out⟩
          | false =>
            have HF := Lib.hid (show r = chkL (l.take (k + 1)) (l.drop (k + 1)) by rw [HT.out, if_neg (by simp)])
            clear HT
            go_wp2
            go_roundw
            case rel => exact ⟨k + 1, by omega, by go_num, HF, HB2.out⟩
            case measure => simp [intOf]; omega
      · have hkn : ¬ ((k : Int) < (n : Int)) := by omega
        have HF := Lib.hid (show r = 0 by
          have h1 := HLN.out
          rw [HR.out, List.drop_eq_nil_of_le (by omega)]
          cases l.take k <;> rfl)
        clear HR
        go_wp2
        go_ret
        exact ⟨by rw [HF.out]; rfl, hb⟩
end Go.Proofs.YtkloaopjlbinpaaGreat
