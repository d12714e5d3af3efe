/- General facts on memory that all walks of this seat use: a slice that reads as a list of cells, kept over growth of memory. No condition. -/
import Derived.WalkKit
import Derived.WalkSpells
import Derived.WalkLawsBesides
import Derived.Deep.AppendLies
import Derived.Deep.Draws
import Derived.Maps.AppendAt
import Derived.Lib.Hide
import Derived.Deep.QuietTactic
import Derived.BigQuiet
set_option linter.unusedVariables false
namespace Go.Proofs.YtkloaopjlbinpaaGreat
open Go.RowKit

theorem block_of_add (a : Addr) (n : Nat) : (a.add n).block = a.block := by unfold Addr.add; split <;> rfl
theorem add_of_add (a : Addr) (i j : Nat) : (a.add i).add j = a.add (i + j) := by
  unfold Addr.add
  by_cases hi : i = 0 <;> by_cases hj : j = 0 <;> simp [hi, hj, Nat.add_assoc]

/-- The slice with address A and n elements of 'size' cells holds the cells xs, in a block that meets S. -/
def Reads (w : World) (S : Nat → Prop) (size : Nat) (A : Option Addr) (n : Nat) (xs : List Value) : Prop :=
  xs.length = n * size ∧ (0 < n → ∃ b o, A = some ⟨b, o, none⟩ ∧ b < w.heap.size ∧ S b ∧ ∀ j u, xs[j]? = some u → w.cell? ⟨b, o + j, none⟩ = some u)

section
variable {w w' : World} {S S' : Nat → Prop} {size n : Nat} {A : Option Addr} {xs : List Value}
theorem Reads.none_ : Reads w S size A 0 [] := ⟨by simp, fun h => absurd h (by omega)⟩
theorem Reads.keep (h : Reads w S size A n xs) (hs : w.heap.size ≤ w'.heap.size) (hk : ∀ p : Addr, p.block < w.heap.size → S p.block → w'.cell? p = w.cell? p) : Reads w' S size A n xs :=
  ⟨h.1, fun hn => by
    obtain ⟨b, o, e, hb, hS, hc⟩ := h.2 hn
    exact ⟨b, o, e, by omega, hS, fun j u hu => (hk _ hb hS).trans (hc j u hu)⟩⟩
theorem Reads.more (h : Reads w S size A n xs) (hB : ∀ b, b < w.heap.size → S b → S' b) : Reads w S' size A n xs :=
  ⟨h.1, fun hn => by
    obtain ⟨b, o, e, hb, hS, hc⟩ := h.2 hn
    exact ⟨b, o, e, hb, hB b hb hS, hc⟩⟩
theorem Reads.any (h : Reads w S size A n xs) : Reads w (fun _ => True) size A n xs := h.more fun _ _ _ => trivial
theorem Reads.below (h : Reads w S size A n xs) (hb : Below w.heap.size w w') : Reads w' S size A n xs := h.keep hb.size fun _ hp _ => hb.cell hp
theorem Reads.drew (h : Reads w S size A n xs) : Reads w.drew S size A n xs := h
theorem Reads.drewN (h : Reads w S size A n xs) (k : Nat) : Reads (w.drewN k) S size A n xs := h
theorem Reads.alloc (h : Reads w S size A n xs) (o : Obj) : Reads (w.alloc o) S size A n xs := h.keep (by simp) fun p hp _ => World.cell?_alloc_lt w o p hp
theorem Reads.setCell (h : Reads w S size A n xs) {p : Addr} (hB : ¬ S p.block) (u : Value) : Reads (w.setCell p u) S size A n xs :=
  h.keep (by simp [World.setCell]) fun q _ hq => World.cell?_setCell_other w p q u (fun e => by subst e; exact hB hq)
theorem Reads.grown (h : Reads w S size A n xs) {row : Option Nat} (hg : w.grownBy w' row) (hr : ∀ g, row = some g → ¬ S g) : Reads w' S size A n xs :=
  h.keep hg.size fun p hp hS => World.cell?_of_block (hg.block p.block hp (fun e => hr _ e.symm hS))
theorem Reads.cut (h : Reads w S size A n xs) {k cap : Nat} (hk : k ≤ n) (hc : n ≤ cap) :
    Reads w S size (if cap = k then A else A.map (·.add (k * size))) (n - k) (xs.drop (k * size)) := by
  refine ⟨by rw [List.length_drop, h.1, Nat.sub_mul], fun hn => ?_⟩
  obtain ⟨b, o, rfl, hb, hS, hcell⟩ := h.2 (by omega)
  rw [if_neg (by omega)]
  refine ⟨b, o + k * size, ?_, hb, hS, fun j u hu => ?_⟩
  · show some _ = some _
    congr 1
    unfold Addr.add
    split
    · rename_i h0; simp [h0]
    · rfl
  · rw [Nat.add_assoc]
    exact hcell _ u (by rw [← hu, List.getElem?_drop])
theorem Reads.first (h : Reads w S size A n xs) {k : Nat} (hk : k ≤ n) : Reads w S size A k (xs.take (k * size)) := by
  refine ⟨by rw [List.length_take, h.1, Nat.min_eq_left (Nat.mul_le_mul_right _ hk)], fun hn => ?_⟩
  obtain ⟨b, o, rfl, hb, hS, hcell⟩ := h.2 (by omega)
  refine ⟨b, o, rfl, hb, hS, fun j u hu => hcell j u ?_⟩
  rw [List.getElem?_take] at hu
  split at hu
  · exact hu
  · cases hu
theorem add_mk (b o j : Nat) : (⟨b, o, none⟩ : Addr).add j = ⟨b, o + j, none⟩ := by
  unfold Addr.add; split
  · rename_i h; subst h; rfl
  · rfl
theorem Reads.of_own {base : Nat} {e : TypeId} {c : Nat} (h : w.ownsRow base e size (.slice A n c) n xs) (hS : ∀ b, base ≤ b → S b) : Reads w S size A n xs := by
  refine ⟨h.1, fun hn => ?_⟩
  obtain ⟨g, cap, hv, hbg, hlt⟩ := h.form hn
  have hA : A = some ⟨g, 0, none⟩ := by injection hv
  subst hA
  refine ⟨_, _, rfl, hlt, hS _ hbg, fun j u hu => ?_⟩
  rw [← add_mk]
  exact h.cells (g := g) rfl j u hu
/-- The slice value that owns a row, as a value whose cells can be read. -/
theorem own_reads {base : Nat} {e : TypeId} {v : Value} (h : w.ownsRow base e size v n xs) (hS : ∀ b, base ≤ b → S b) : ∃ A c, v = .slice A n c ∧ n ≤ c ∧ (A = none → c = 0) ∧ Reads w S size A n xs := by
  rcases h.2 with ⟨rfl, rfl⟩ | ⟨g, cap, cur, rfl, _, _, hnc, _⟩
  · exact ⟨none, 0, rfl, Nat.le_refl _, fun _ => rfl, .of_own h hS⟩
  · exact ⟨some ⟨g, 0, none⟩, cap, rfl, hnc, by simp, .of_own h hS⟩
theorem Reads.new (w : World) (cs : Array Value) (t : TypeId) (h : cs.size = n * size) (hS : S w.heap.size) : Reads (w.alloc (.cells cs t)) S size (some ⟨w.heap.size, 0, none⟩) n cs.toList := by
  refine ⟨by simpa using h, fun _ => ⟨_, _, rfl, by simp, hS, fun j u hu => ?_⟩⟩
  rw [World.cell?_alloc_at _ _ _ _ rfl]
  simpa using hu
theorem Reads.newAt (w : World) (B : Nat) (cs : Array Value) (t : TypeId) (hB : w.heap.size = B) (h : cs.size = n * size) (hS : S B) : Reads (w.alloc (.cells cs t)) S size (some ⟨B, 0, none⟩) n cs.toList := by
  subst hB; exact .new w cs t h hS
theorem Reads.holds (h : Reads w S size A n xs) (hn : 0 < n) : ∃ b, A = some b ∧ ∀ j u, xs[j]? = some u → w.cell? (b.add j) = some u := by
  obtain ⟨b, o, e, _, _, hc⟩ := h.2 hn
  exact ⟨_, e, fun j u hu => by rw [add_mk]; exact hc j u hu⟩
theorem Reads.nil_of (h : Reads w S size A 0 xs) : xs = [] := List.eq_nil_of_length_eq_zero (by simpa using h.1)
end

/-- S, but for the blocks from lo up to hi (boxes of a walk's own). -/
def Off (S : Nat → Prop) (lo hi : Nat) (b : Nat) : Prop := S b ∧ (b < lo ∨ hi ≤ b)
theorem Reads.off {w : World} {S : Nat → Prop} {size n : Nat} {A : Option Addr} {xs : List Value} (h : Reads w S size A n xs) (hi : Nat) : Reads w (Off S w.heap.size hi) size A n xs :=
  h.more fun b hb hS => ⟨hS, .inl hb⟩
theorem Reads.on {w : World} {S : Nat → Prop} {lo hi size n : Nat} {A : Option Addr} {xs : List Value} (h : Reads w (Off S lo hi) size A n xs) : Reads w S size A n xs :=
  h.more fun b hb hS => hS.1
theorem off_new {S : Nat → Prop} {lo hi k : Nat} (h : ∀ b, lo ≤ b → S b) (hlo : lo ≤ hi) (hk : hi ≤ k) : ∀ b, k ≤ b → Off S lo hi b := fun b hb => ⟨h b (by omega), .inr (by omega)⟩
theorem off_not {S : Nat → Prop} {lo hi b : Nat} (h1 : lo ≤ b) (h2 : b < hi) : ¬ Off S lo hi b := fun h => by rcases h.2 with h | h <;> omega

theorem frozen_later {w w' : World} {a : Addr} {v : Value} (hb : Below w.heap.size w w') (h : w.cell? a = some v) (hf : w.frozen? a = false) : w'.frozen? a = false :=
  (hb.frozen (World.block_lt_of_cell? w a h)).trans hf
theorem below_new {w w' : World} {o : Obj} (h : Below (w.alloc o).heap.size (w.alloc o) w') : Below w.heap.size w w' :=
  ((Below.refl _ _).alloc (Nat.le_refl _) o).trans (h.mono (by simp))

/-- append where a new array must be made: the result is a row of its own. -/
theorem wpList_append_new {P : Program} {w : World} {ops : Array Oper} {rest : List Oper} {o : Oper} {a : Act} {Q : Exit → Act → World → Prop}
    (hg : o.guard = none) (s x : Operand) (t : TypeId) (hop : o.op = Op.call { callee := Callee.builtin Builtin.append, args := #[s, x], argTypes := #[t, t] })
    (e : TypeId) (i : TypeInfo) (z : Value) (size bytes : Nat) (h1 : P.underlying t = some (.slice e)) (h2 : P.info? e = some i) (h3 : i.zero = some z) (h4 : i.size = size) (h5 : i.bytes = bytes) (h6 : z.cells.size = size) (h7 : 0 < size)
    (A : Option Addr) (n c : Nat) (S1 : Nat → Prop) (xs : List Value) (hs : a.eval s = .slice A n c) (hR : Reads w S1 size A n xs) (hA : A = none → c = 0)
    (A2 : Option Addr) (m c2 : Nat) (S2 : Nat → Prop) (ys : List Value) (hx : a.eval x = .slice A2 m c2) (hR2 : Reads w S2 size A2 m ys) (hm : 0 < m) (h1c : ∀ u ∈ ys, u.oneCell' = true)
    (hfull : c < n + m) (b1 : n + m ≤ maxLen) (b2 : (n + m) * bytes ≤ 140737488355328)
    (hK : ∀ g cap w', n + m ≤ cap → w.heap.size ≤ g → w'.ownsRow w.heap.size e size (.slice (some ⟨g, 0, none⟩) (n + m) cap) (n + m) (xs ++ ys) → Below w.heap.size w w' → wpList P ops Q rest (a.put o.dst (.slice (some ⟨g, 0, none⟩) (n + m) cap)) w') :
    wpList P ops Q (o :: rest) a w := by
  obtain ⟨ad, rfl, hc⟩ := hR2.holds hm
  have fin : ∀ v' w', w'.ownsRow w.heap.size e size v' (n + m) (xs ++ ys) → w.grownBy w' none → wpList P ops Q rest (a.put o.dst v') w' := by
    intro v' w' ho hgr
    rcases ho.2 with ⟨_, h0⟩ | ⟨g, cap, cur, rfl, hb, hgg, hnc, _⟩
    · omega
    · exact hK g cap w' hnc hb ho ((Below.refl _ _).grown hgr (Nat.le_refl _) (by simp))
  rcases Nat.eq_zero_or_pos n with rfl | hn
  · obtain rfl := hR.nil_of
    cases A with
    | none => exact wpList_append_grows w hg s x t hop e i z size bytes h1 h2 h3 h4 h5 h6 h7 none 0 c [] hs (fun _ => ⟨rfl, hA rfl⟩) (by simp) (by simp) ad m c2 ys hx hR2.1 hc h1c hfull b1 b2 fin
    | some b => exact wpList_append_grows w hg s x t hop e i z size bytes h1 h2 h3 h4 h5 h6 h7 (some b) 0 c [] hs (by simp) (by simp) (by simp) ad m c2 ys hx hR2.1 hc h1c hfull b1 b2 fin
  · obtain ⟨b, rfl, hcb⟩ := hR.holds hn
    exact wpList_append_grows w hg s x t hop e i z size bytes h1 h2 h3 h4 h5 h6 h7 (some b) n c xs hs (by simp) hR.1 (fun b' hb' => by injection hb' with hb'; subst hb'; exact hcb) ad m c2 ys hx hR2.1 hc h1c hfull b1 b2 fin

/-- append onto a row of the call's own, from whatever source. -/
theorem run_append_of_nil {P : Program} (w : World) (base : Nat) (t ty e : TypeId) (i : TypeInfo) (size : Nat) (ht : P.underlying t = some (.slice e)) (hi : P.info? e = some i)
    (v : Value) (n : Nat) (xs : List Value) (hown : w.ownsRow base e size v n xs) (c : Nat) : (Builtin.append_ #[t, t] ty #[v, .slice none 0 c]).run P w = .ok v w := by
  rcases hown.2 with ⟨rfl, rfl⟩ | ⟨g, cap, cur, rfl, _, _, hnc, _⟩
  · simp [Builtin.append_, run_underlying ht, sizeOf, typeInfo, hi, Builtin.lenOf, Builtin.firstCells]
  · simp [Builtin.append_, run_underlying ht, sizeOf, typeInfo, hi, Builtin.lenOf, Builtin.firstCells, hnc, storeCells]
theorem run_append_any {P : Program} (w : World) (base : Nat) (t ty e : TypeId) (i : TypeInfo) (z : Value) (size bytes : Nat) (ht : P.underlying t = some (.slice e)) (hi : P.info? e = some i) (hz : i.zero = some z)
    (hsize : i.size = size) (hby : i.bytes = bytes) (hzs : z.cells.size = size) (hsz : 0 < size)
    (v : Value) (n : Nat) (xs : List Value) (hown : w.ownsRow base e size v n xs)
    (S : Nat → Prop) (A : Option Addr) (m c : Nat) (news : List Value) (hr : Reads w S size A m news) (h1 : ∀ u ∈ news, u.oneCell' = true)
    (h63 : n + m ≤ maxLen) (hbytes : (n + m) * bytes ≤ 140737488355328) (hbase : base ≤ w.heap.size) :
    ∃ v' w', (Builtin.append_ #[t, t] ty #[v, .slice A m c]).run P w = .ok v' w' ∧ w'.ownsRow base e size v' (n + m) (xs ++ news) ∧ w.grownBy w' v.ownBlock ∧
      (v'.ownBlock = v.ownBlock ∨ v'.ownBlock = some w.heap.size) := by
  rcases A with _ | ad
  · have hm : m = 0 := by
      rcases Nat.eq_zero_or_pos m with h0 | h0
      · exact h0
      · obtain ⟨b, o, h, _, _⟩ := hr.2 h0
        cases h
    subst hm
    obtain rfl := hr.nil_of
    exact ⟨v, w, run_append_of_nil w base t ty e i size ht hi v n xs hown c, by simpa using hown, World.grownBy.refl w _, .inl rfl⟩
  · have hcells : ∀ j u, news[j]? = some u → w.cell? (ad.add j) = some u := by
      intro j u hu
      rcases Nat.eq_zero_or_pos m with h0 | h0
      · subst h0
        obtain rfl := hr.nil_of
        simp at hu
      · obtain ⟨ad', h, hc⟩ := hr.holds h0
        injection h with h
        subst h
        exact hc j u hu
    obtain ⟨v', w', hrun, h2, h3, _, h5⟩ := run_append_own_at (P := P) w base t ty e i z size bytes ht hi hz hsize hby hzs hsz v n xs hown ad m c news hr.1 hcells h1 h63 hbytes hbase
    exact ⟨v', w', hrun, h2, h3, h5⟩
theorem wpList_append_any {P : Program} {w : World} {ops : Array Oper} {rest : List Oper} {o : Oper} {a : Act} {Q : Exit → Act → World → Prop} (hgd : o.guard = none) (s x : Operand) (t : TypeId)
    (ho : o.op = .call { callee := .builtin .append, args := #[s, x], argTypes := #[t, t] })
    (base : Nat) (e : TypeId) (i : TypeInfo) (z : Value) (size bytes : Nat) (ht : P.underlying t = some (.slice e)) (hi : P.info? e = some i) (hz : i.zero = some z)
    (hsize : i.size = size) (hby : i.bytes = bytes) (hzs : z.cells.size = size) (hsz : 0 < size)
    (v : Value) (n : Nat) (xs : List Value) (hs : a.eval s = v) (hown : w.ownsRow base e size v n xs)
    (S : Nat → Prop) (A : Option Addr) (m c : Nat) (news : List Value) (hx : a.eval x = .slice A m c) (hr : Reads w S size A m news) (h1 : ∀ u ∈ news, u.oneCell' = true)
    (h63 : n + m ≤ maxLen) (hbytes : (n + m) * bytes ≤ 140737488355328) (hbase : base ≤ w.heap.size)
    (h : ∀ v' w', w'.ownsRow base e size v' (n + m) (xs ++ news) → w.grownBy w' v.ownBlock → (v'.ownBlock = v.ownBlock ∨ v'.ownBlock = some w.heap.size) → wpList P ops Q rest (a.put o.dst v') w') : wpList P ops Q (o :: rest) a w :=
  wpList_plain hgd fun _ hK => by
    obtain ⟨v', w', hrun, h2, h3, h4⟩ := run_append_any (P := P) w base t o.type e i z size bytes ht hi hz hsize hby hzs hsz v n xs hown S A m c news hr h1 h63 hbytes hbase
    unfold Oper.wp execOp
    simp only [ho, resolve, invoke, builtin, Sem.run_bind, Sem.run_pure, Result.andThen_ok, List.map_toArray, List.map_cons, List.map_nil, hs, hx, hrun]
    exact hK _ _ (h v' w' h2 h3 h4)
end Go.Proofs.YtkloaopjlbinpaaGreat
