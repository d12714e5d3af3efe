/- A store as a thing of numbers: what a block or a value holds of it, and the walked functions' contracts in these words. Conditions: as in the texts below it. -/
import Derived.Test.YtpejhgkcofilmaaSnapK
set_option linter.unusedVariables false
namespace Go.Proofs.Ytpejhgkcofilmaa
open Go.RowKit

/-- A store: the number of cells, the time, the lists, the numbers of writes, the readers. -/
structure Sn where
  c : Int
  n : Int
  L : Int → List (Int × Int)
  W : Int → Int
  B : Nat → Bool
  T : Nat → Int
namespace Sn
/-- The maps of a store. -/
def Maps (s : Sn) (w : World) (S : Nat → Prop) (b1 b2 : Option Nat) : Prop :=
  ∃ f g W0, IsMap w S (.map b1) f ∧ LMap w S f g ∧ IsMap w S (.map b2) (wmap W0) ∧ (∀ k, listOf s.c g k = s.L k) ∧ ∀ k, (W0 k).getD 0 = s.W k
def val (s : Sn) (b1 b2 : Option Nat) : Value := sto s.c s.n (.map b1) (.map b2) s.B s.T
/-- A block that holds a store. -/
def At (s : Sn) (w : World) (S : Nat → Prop) (q : Nat) : Prop :=
  ∃ b1 b2, w.heap[q]? = some (.cells (stoCells s.c s.n (.map b1) (.map b2) s.B s.T) 57 (0, 0)) ∧ s.Maps w S b1 b2
theorem Maps.below {s : Sn} {w w' : World} {S : Nat → Prop} {b1 b2 : Option Nat} (h : s.Maps w S b1 b2) (hb : Below w.heap.size w w') : s.Maps w' S b1 b2 := by
  obtain ⟨f, g, W0, h1, h2, h3, h4, h5⟩ := h
  exact ⟨f, g, W0, h1.below hb, h2.below hb, h3.below hb, h4, h5⟩
theorem Maps.more {s : Sn} {w : World} {S S' : Nat → Prop} {b1 b2 : Option Nat} (h : s.Maps w S b1 b2) (hS : ∀ b, b < w.heap.size → S b → S' b) : s.Maps w S' b1 b2 := by
  obtain ⟨f, g, W0, h1, h2, h3, h4, h5⟩ := h
  exact ⟨f, g, W0, h1.more hS, h2.more hS, h3.more hS, h4, h5⟩
theorem Maps.setRow {s : Sn} {w : World} {S : Nat → Prop} {b1 b2 : Option Nat} {q : Nat} (h : s.Maps w S b1 b2) (hq : ¬ S q) (cs : Array Value) : s.Maps (w.setRow q cs) S b1 b2 := by
  obtain ⟨f, g, W0, h1, h2, h3, h4, h5⟩ := h
  exact ⟨f, g, W0, h1.setRow hq cs, h2.setRow hq cs, h3.setRow hq cs, h4, h5⟩
theorem At.lt {s : Sn} {w : World} {S : Nat → Prop} {q : Nat} (h : s.At w S q) : q < w.heap.size := by
  obtain ⟨b1, b2, h1, _⟩ := h
  exact lt_of_block h1
theorem At.below {s : Sn} {w w' : World} {S : Nat → Prop} {q : Nat} (h : s.At w S q) (hb : Below w.heap.size w w') : s.At w' S q := by
  have hl := h.lt
  obtain ⟨b1, b2, h1, h2⟩ := h
  exact ⟨b1, b2, (hb.block q hl).trans h1, h2.below hb⟩
theorem At.more {s : Sn} {w : World} {S S' : Nat → Prop} {q : Nat} (h : s.At w S q) (hS : ∀ b, b < w.heap.size → S b → S' b) : s.At w S' q := by
  obtain ⟨b1, b2, h1, h2⟩ := h
  exact ⟨b1, b2, h1, h2.more hS⟩
/-- The zero store. -/
def zero (c : Int) : Sn := ⟨c, 0, fun k => listOf c noG k, fun _ => 0, Bf, T0⟩
theorem zero_maps (c : Int) (w : World) (S : Nat → Prop) : (zero c).Maps w S none none := ⟨noF, noG, noW, noMap _ _, noLMap _ _, noWMap _ _, fun _ => rfl, fun _ => rfl⟩
theorem zero_val (c : Int) : sto0 c = (zero c).val none none := rfl
end Sn

/-- A world that one block's cells tell from another. -/
def Touch (g : Nat) (w w' : World) : Prop := ∃ cs, w' = w.setRow g cs
theorem Touch.size {g : Nat} {w w' : World} (h : Touch g w w') : w'.heap.size = w.heap.size := by
  obtain ⟨cs, rfl⟩ := h
  simp [World.setRow]
theorem Touch.block {g b : Nat} {w w' : World} (h : Touch g w w') (hb : b ≠ g) : w'.heap[b]? = w.heap[b]? := by
  obtain ⟨cs, rfl⟩ := h
  exact setRow_other w g b cs hb
theorem Touch.below {g B : Nat} {w0 w w' : World} (h : Touch g w w') (hb : Below B w0 w) (hB : B ≤ g) : Below B w0 w' := by
  obtain ⟨cs, rfl⟩ := h
  exact below_setRow hb hB cs
theorem Touch.cell {g : Nat} {w w' : World} (h : Touch g w w') {p : Addr} (hp : p.block ≠ g) : w'.cell? p = w.cell? p := by
  unfold World.cell?
  rw [h.block hp]
theorem Touch.reads {g : Nat} {w w' : World} (h : Touch g w w') {S : Nat → Prop} {size n : Nat} {A : Option Addr} {xs : List Value} (hr : Reads w S size A n xs) (hS : ¬ S g) : Reads w' S size A n xs :=
  hr.keep (Nat.le_of_eq h.size.symm) fun p _ hp => h.cell (by rintro rfl; exact hS hp)
theorem Touch.at {g q : Nat} {w w' : World} {s : Sn} {S : Nat → Prop} (h : Touch g w w') (ha : s.At w S q) (hq : q ≠ g) (hS : ¬ S g) : s.At w' S q := by
  obtain ⟨b1, b2, h1, h2⟩ := ha
  refine ⟨b1, b2, (h.block hq).trans h1, ?_⟩
  obtain ⟨cs, rfl⟩ := h
  exact h2.setRow hS cs

section
variable {ops : Array Oper} {rest : List Oper} {a : Act} {w : World} {Q : Exit → Act → World → Prop} {o : Oper} {s s0 : Sn} {S S0 : Nat → Prop} {b1 b2 : Option Nat}
theorem get_at (hg : o.guard = none) (x : Operand) (ho : o.op = .load 57 x) (g : Nat) (hx : a.eval x = .pointer (some ⟨g, 0, none⟩)) (h : s.At w S g)
    (k : ∀ b1 b2, s.Maps w S b1 b2 → wpList Try.prog ops Q rest (a.put o.dst (s.val b1 b2)) w) : wpList Try.prog ops Q (o :: rest) a w := by
  obtain ⟨b1, b2, h1, h2⟩ := h
  exact get_sto hg x ho g hx h1 (k b1 b2 h2)
theorem get_at_g (hw : Region.wanted o (yielded ops a.tmps) = true) (x : Operand) (ho : o.op = .load 57 x) (g : Nat) (hx : a.eval x = .pointer (some ⟨g, 0, none⟩)) (h : s.At w S g)
    (k : ∀ b1 b2, s.Maps w S b1 b2 → wpList Try.prog ops Q rest (a.put o.dst (s.val b1 b2)) w) : wpList Try.prog ops Q (o :: rest) a w := by
  obtain ⟨b1, b2, h1, h2⟩ := h
  exact get_sto_g hw x ho g hx h1 (k b1 b2 h2)
theorem put_at (hg : o.guard = none) (x y : Operand) (ho : o.op = .store 57 x y) (hd : o.dst = none) (g : Nat) (hx : a.eval x = .pointer (some ⟨g, 0, none⟩)) (hy : a.eval y = s.val b1 b2)
    (h0 : s0.At w S0 g) (hm : s.Maps w S b1 b2) (hS : ¬ S g) (k : ∀ w', s.At w' S g → Touch g w w' → wpList Try.prog ops Q rest a w') : wpList Try.prog ops Q (o :: rest) a w := by
  obtain ⟨c1, c2, h1, _⟩ := h0
  exact put_sto hg x y ho hd g hx hy h1 rfl (k _ ⟨b1, b2, setRow_heap _ _ _ _ _ _ h1, hm.setRow hS _⟩ ⟨_, rfl⟩)
/-- A new variable of the store's type, written at once. -/
theorem new_at (hg : o.guard = none) (x y : Operand) (ho : o.op = .store 57 x y) (hd : o.dst = none) (hx : a.eval x = .pointer (some ⟨w.heap.size, 0, none⟩)) (hy : a.eval y = s.val b1 b2)
    (hm : s.Maps w S b1 b2) (k : ∀ w', s.At w' (fun b => S b ∧ b ≠ w.heap.size) w.heap.size → Below w.heap.size w w' → w'.heap.size = w.heap.size + 1 → wpList Try.prog ops Q rest a w') : wpList Try.prog ops Q (o :: rest) a (w.alloc (.cells (stoZ 0) 57)) := by
  refine put_sto hg x y ho hd w.heap.size hx hy (heap_alloc_new _ _) rfl ?_
  rw [setRow_alloc]
  refine k _ ⟨b1, b2, heap_alloc_new _ _, ?_⟩ ((Below.refl _ _).alloc (Nat.le_refl _) _) (by simp)
  exact (hm.more (fun b hb h => ⟨h, by omega⟩)).below ((Below.refl _ _).alloc (Nat.le_refl _) _)
end

section
variable {S : Nat → Prop} {s : Sn} {b1 b2 : Option Nat} {w : World}
theorem st_new_ok (c : Int) (w : World) (h : 1 ≤ c) (h' : c ≤ 2048) :
    Calls Try.prog 29 #[.int .i64 c] w fun e w' => e = .returned (.tuple #[(Sn.zero c).val none none, .int .i64 0]) ∧ Below w.heap.size w w' := snew_ok c w h h'
theorem st_now (w : World) : Calls Try.prog 34 #[s.val b1 b2] w fun e w' => e = .returned (.int .i64 s.n) ∧ Below w.heap.size w w' := snow_any s.c s.n b1 b2 s.B s.T w
theorem st_list (i : Int) (hS : ∀ b, w.heap.size ≤ b → S b) (hm : s.Maps w S b1 b2) :
    Calls Try.prog 41 #[s.val b1 b2, .int .i64 i] w fun e w' => ∃ u, e = .returned u ∧ VList w' S u (s.L i) ∧ Below w.heap.size w w' := by
  obtain ⟨f, g, W0, h1, h2, h3, h4, h5⟩ := hm
  rw [← h4]
  exact slist_any _ _ _ _ _ _ f g i w hS h1 h2
def Sn.atB (s : Sn) (t i : Int) : Bool := (decide (0 ≤ i) && decide (i < s.c)) && decide (t ≤ s.n) && seeB (s.L i) t
def Sn.atV (s : Sn) (t i : Int) : Int := if ((decide (0 ≤ i) && decide (i < s.c)) && decide (t ≤ s.n)) = true then seeV (s.L i) t else 0
theorem st_at (t i : Int) (hS : ∀ b, w.heap.size ≤ b → S b) (hm : s.Maps w S b1 b2) (ha : Asc (s.L i)) (hl : (s.L i).length ≤ 1099511627776) :
    Calls Try.prog 37 #[s.val b1 b2, .int .i64 t, .int .i64 i] w fun e w' => e = .returned (.tuple #[.int .i64 (s.atV t i), .bool (s.atB t i)]) ∧ Below w.heap.size w w' := by
  obtain ⟨f, g, W0, h1, h2, h3, h4, h5⟩ := hm
  have := sat_any s.c s.n b1 b2 s.B s.T f g t i w hS h1 h2 (by rw [h4]; exact ha) (by rw [h4]; exact hl)
  unfold satV satB at this
  rw [h4] at this
  exact this
theorem st_readers (w : World) : Calls Try.prog 32 #[s.val b1 b2] w fun e w' => ∃ v, e = .returned v ∧ w'.ownsRow w.heap.size 2 1 v (rdL s.B s.T 8).length (rdL s.B s.T 8) ∧ Below w.heap.size w w' := readers_any s.c s.n b1 b2 s.B s.T w
def Sn.readE (s : Sn) (r i : Int) : Int := if isR s.B r = true then (if (decide (0 ≤ i) && decide (i < s.c)) = true then (if seeB (s.L i) (s.T (r - 1).toNat) = true then 0 else 24) else 1) else 10
def Sn.readV (s : Sn) (r i : Int) : Int := if s.readE r i = 0 then seeV (s.L i) (s.T (r - 1).toNat) else 0
theorem st_read (r i : Int) (hS : ∀ b, w.heap.size ≤ b → S b) (hm : s.Maps w S b1 b2) (ha : Asc (s.L i)) (hl : (s.L i).length ≤ 1099511627776) :
    Calls Try.prog 33 #[s.val b1 b2, .int .i64 r, .int .i64 i] w fun e w' => e = .returned (.tuple #[.int .i64 (s.readV r i), .int .i64 (s.readE r i)]) ∧ Below w.heap.size w w' := by
  unfold Sn.readV Sn.readE
  by_cases h : isR s.B r = true
  · rw [if_pos h]
    by_cases hc : (decide (0 ≤ i) && decide (i < s.c)) = true
    · rw [if_pos hc]
      obtain ⟨f, g, W0, h1, h2, h3, h4, h5⟩ := hm
      have := sread_ok s.c s.n b1 b2 s.B s.T f g r i w hS h1 h2 (by rw [h4]; exact ha) (by rw [h4]; exact hl) h hc
      rw [h4] at this
      by_cases h6 : seeB (s.L i) (s.T (r - 1).toNat) = true
      · rw [if_pos h6] at this ⊢
        rw [if_pos rfl]
        rw [if_pos h6] at this
        exact this
      · rw [if_neg h6] at this ⊢
        rw [if_neg (by decide)]
        rw [if_neg h6] at this
        exact this
    · rw [if_neg hc, if_neg (by decide)]
      exact sread_arg (S := S) _ _ _ _ _ _ r i w h (by simpa using hc)
  · rw [if_neg h, if_neg (by decide)]
    exact sread_no (S := S) _ _ _ _ _ _ r i w (by simpa using h)
end

/-- What a commit writes into a cell. -/
def wrOf (l : List Ent) (k : Int) : Option Int := l.foldl (fun acc e => if e.wr = true then (if k = e.loc then some e.new else acc) else acc) none
theorem wr_from (l : List Ent) (k : Int) : ∀ (a : Option Int) (v : Int), l.foldl (fun acc (e : Ent) => if e.wr = true then (if k = e.loc then some e.new else acc) else acc) a = some v → a = some v ∨ ∃ e ∈ l, e.wr = true ∧ e.loc = k ∧ e.new = v := by
  induction l with
  | nil => intro a v h; exact .inl h
  | cons e t ih =>
    intro a v h
    rcases ih _ v h with h | ⟨x, hx, h1⟩
    · dsimp only at h
      split at h
      · rename_i hw
        split at h
        · rename_i hk
          injection h with h
          exact .inr ⟨e, List.mem_cons_self .., hw, hk.symm, h⟩
        · exact .inl h
      · exact .inl h
    · exact .inr ⟨x, List.mem_cons_of_mem _ hx, h1⟩
theorem wr_some {l : List Ent} {k v : Int} (h : wrOf l k = some v) : ∃ e ∈ l, e.wr = true ∧ e.loc = k ∧ e.new = v := by
  rcases wr_from l k none v h with h | h
  · cases h
  · exact h
theorem acc_wr (c n : Int) (g : Int → Option (List (Int × Int))) (l : List Ent) (k : Int) : accG c n g l k = (wrOf l k).map fun v => listOf c g k ++ [(n + 1, v)] := by
  unfold accG wrOf
  have : ∀ (l : List Ent) (a : Int → Option (List (Int × Int))) (b : Option Int), a k = b.map (fun v => listOf c g k ++ [(n + 1, v)]) →
      l.foldl (stepG c n g) a k = (l.foldl (fun acc (e : Ent) => if e.wr = true then (if k = e.loc then some e.new else acc) else acc) b).map fun v => listOf c g k ++ [(n + 1, v)] := by
    intro l
    induction l with
    | nil => intro a b h; exact h
    | cons e t ih =>
      intro a b h
      refine ih _ _ ?_
      unfold stepG
      by_cases hw : e.wr = true
      · dsimp only
        rw [if_pos hw, if_pos hw]
        by_cases hk : k = e.loc
        · rw [if_pos hk, if_pos hk, hk]; rfl
        · rw [if_neg hk, if_neg hk]; exact h
      · dsimp only
        rw [if_neg hw, if_neg hw]; exact h
  exact this l _ _ rfl
namespace Sn
def asS (s : Sn) (e : Ent) : Bool := (lastP (s.L e.loc)).2 == e.val && s.W e.loc == e.ver && (0 : Int) == e.ref
/-- The error of a commit. -/
def wrongS (s : Sn) (l : List Ent) : Int :=
  if chk l ≠ 0 then chk l else if l.any (fun e => !inC s.c e) = true then 1 else if l.any (fun e => !s.asS e) = true then 14 else 0
def commit (s : Sn) (l : List Ent) : Sn :=
  { s with n := s.n + 1, L := fun k => match wrOf l k with | some v => s.L k ++ [(s.n + 1, v)] | none => s.L k, W := fun k => if (wrOf l k).isSome = true then (s.W k + 1) % 4294967296 else s.W k }
theorem wrong_in {s : Sn} {l : List Ent} (h : s.wrongS l = 0) : ∀ e ∈ l, inC s.c e = true := by
  unfold wrongS at h
  split at h
  · contradiction
  · split at h
    · cases h
    · rename_i h1
      intro e he
      cases hc : inC s.c e with
      | true => rfl
      | false => exact absurd (List.any_eq_true.2 ⟨e, he, by rw [hc]; rfl⟩) h1
end Sn
section
variable {S : Nat → Prop} {s : Sn} {b1 b2 : Option Nat} {w : World}
theorem wrongS_eq {g : Int → Option (List (Int × Int))} {W0 : Int → Option Int} (h4 : ∀ k, listOf s.c g k = s.L k) (h5 : ∀ k, (W0 k).getD 0 = s.W k) (l : List Ent) : wrongE s.c g W0 l = s.wrongS l := by
  have e : asIs s.c g W0 = s.asS := by funext e; unfold asIs Sn.asS; rw [h4, h5]
  unfold wrongE Sn.wrongS
  rw [e]
theorem st_commit (A : Option Addr) (m cc : Nat) (l : List Ent) (hS : ∀ b, w.heap.size ≤ b → S b) (hm : s.Maps w S b1 b2) (hL : ∀ k, (s.L k).length ≤ 1099511627776) (hl : Ents w S A m l) (hok : ∀ e ∈ l, EntOk e) (hn : m ≤ 1099511627776) (hcc : m ≤ cc)
    (hw0 : s.wrongS l = 0) (hn0 : 0 ≤ s.n) (hn1 : s.n < 4611686018427387904) (hadd : ∀ e ∈ l, e.wr = true → addE (s.L e.loc) (s.n + 1) = 0) (hsome : ∃ k, wrOf l k ≠ none) :
    Calls Try.prog 31 #[s.val b1 b2, .slice A m cc] w fun e w' =>
      ∃ b5 b6, e = .returned (.tuple #[(s.commit l).val (some b5) (some b6), .int .i64 (s.n + 1), .int .i64 0]) ∧ (s.commit l).Maps w' S (some b5) (some b6) ∧ Below w.heap.size w w' := by
  obtain ⟨f, g, W0, h1, h2, h3, h4, h5⟩ := hm
  have hin := Sn.wrong_in hw0
  refine (commit_ok s.c s.n b1 b2 s.B s.T f g W0 A m cc l w hS h1 h2 h3 (fun k => by rw [h4]; exact hL k) hl hok hn hcc (by rw [wrongS_eq h4 h5]; exact hw0) hn0 hn1 (fun e he hw => by rw [h4]; exact hadd e he hw)
    (by obtain ⟨k, hk⟩ := hsome; refine ⟨k, ?_⟩; rw [acc_wr]; cases hx : wrOf l k with | none => exact absurd hx hk | some v => simp)).mono ?_
  rintro e w' ⟨b5, b6, f', rfl, hm, hg, hu, hb⟩
  refine ⟨b5, b6, rfl, ⟨f', _, _, hm, hg, hu, fun k => ?_, fun k => ?_⟩, hb⟩
  · show listOf s.c _ k = match wrOf l k with | some v => s.L k ++ [(s.n + 1, v)] | none => s.L k
    cases hx : wrOf l k with
    | none =>
      show listOf s.c _ k = s.L k
      rw [← h4]
      unfold listOf
      show (if 0 ≤ k ∧ k < s.c then ((accG s.c s.n g l k).or (g k)).getD [(0, 0)] else []) = _
      rw [acc_wr, hx]
      rfl
    | some v =>
      obtain ⟨e, he, _, hk, _⟩ := wr_some hx
      have := hin e he
      have hr : 0 ≤ k ∧ k < s.c := by
        unfold inC at this
        rw [hk] at this
        simpa using this
      show listOf s.c _ k = s.L k ++ [(s.n + 1, v)]
      rw [← h4]
      show (if 0 ≤ k ∧ k < s.c then ((accG s.c s.n g l k).or (g k)).getD [(0, 0)] else []) = _
      rw [if_pos hr, acc_wr, hx]
      rfl
  · show (if (accG s.c s.n g l k).isSome = true then some (((W0 k).getD 0 + 1) % 4294967296) else W0 k).getD 0 = if (wrOf l k).isSome = true then (s.W k + 1) % 4294967296 else s.W k
    rw [acc_wr]
    cases hx : wrOf l k with
    | none => simpa using h5 k
    | some v => simp [h5 k]
end
end Go.Proofs.Ytpejhgkcofilmaa
