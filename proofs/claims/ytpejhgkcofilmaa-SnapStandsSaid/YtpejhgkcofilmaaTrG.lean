/- Open and Close in the words of a store; what the walk of made keeps. Conditions: as in the texts below it. -/
import Derived.Test.YtpejhgkcofilmaaTrF
import Derived.Laws.OwnMore
import Derived.StillTailTactics
set_option linter.unusedVariables false
namespace Go.Proofs.Ytpejhgkcofilmaa
open Go.RowKit

theorem find_range (p : Nat → Bool) (n : Nat) : (∀ r, (List.range n).find? p = some r → r < n ∧ p r = true ∧ ∀ j, j < r → p j = false) ∧ ((List.range n).find? p = none → ∀ j, j < n → p j = false) := by
  induction n with
  | zero => exact ⟨fun r h => by simp at h, fun _ j hj => by omega⟩
  | succ n ih =>
    rw [List.range_succ, List.find?_append]
    obtain ⟨h1, h2⟩ := ih
    cases hf : (List.range n).find? p with
    | some r =>
      refine ⟨fun r' h => ?_, fun h => by simp at h⟩
      simp at h
      subst h
      obtain ⟨g1, g2, g3⟩ := h1 _ hf
      exact ⟨by omega, g2, g3⟩
    | none =>
      have g := h2 hf
      cases hp : p n with
      | true =>
        refine ⟨fun r' h => ?_, fun h => ?_⟩
        · simp [hp] at h
          subst h
          exact ⟨by omega, hp, g⟩
        · simp [hp] at h
      | false =>
        refine ⟨fun r' h => ?_, fun h j hj => ?_⟩
        · simp [hp] at h
        · rcases Nat.lt_or_ge j n with hj' | hj'
          · exact g j hj'
          · obtain rfl : j = n := by omega
            exact hp
theorem Sn.Maps.same {s s' : Sn} {w : World} {S : Nat → Prop} {b1 b2 : Option Nat} (h : s.Maps w S b1 b2) (h1 : s'.c = s.c) (h2 : s'.L = s.L) (h3 : s'.W = s.W) : s'.Maps w S b1 b2 := by
  unfold Sn.Maps
  rw [h1, h2, h3]
  exact h
theorem Sn.openS_maps {s : Sn} {w : World} {S : Nat → Prop} {b1 b2 : Option Nat} (h : s.Maps w S b1 b2) : s.openS.Maps w S b1 b2 := by
  unfold Sn.openS
  split
  · exact h.same rfl rfl rfl
  · exact h
theorem Sn.closeS_maps {s : Sn} {w : World} {S : Nat → Prop} {b1 b2 : Option Nat} (h : s.Maps w S b1 b2) (r : Int) : (s.closeS r).Maps w S b1 b2 := by
  unfold Sn.closeS
  split
  · exact h.same rfl rfl rfl
  · exact h
theorem st_open {s : Sn} {b1 b2 : Option Nat} (w : World) :
    Calls Try.prog 30 #[s.val b1 b2] w fun e w' => ∃ k E, e = .returned (.tuple #[s.openS.val b1 b2, .int .i64 k, .int .i64 E]) ∧ (E = 0 ∨ (E = 9 ∧ s.openS = s)) ∧ Below w.heap.size w w' := by
  obtain ⟨g1, g2⟩ := find_range (fun j => !s.B j) 8
  unfold Sn.openS freeR
  cases hf : (List.range 8).find? fun j => !s.B j with
  | none =>
    refine (open_full s.c s.n b1 b2 s.B s.T (fun j hj => by simpa using g2 hf j hj) w).mono ?_
    rintro e w' ⟨rfl, hb⟩
    exact ⟨_, _, rfl, .inr ⟨rfl, rfl⟩, hb⟩
  | some r =>
    obtain ⟨h1, h2, h3⟩ := g1 r hf
    refine (open_ok s.c s.n b1 b2 s.B s.T r h1 (fun j hj => by simpa using h3 j hj) (by simpa using h2) w).mono ?_
    rintro e w' ⟨rfl, hb⟩
    exact ⟨_, _, rfl, .inl rfl, hb⟩
theorem st_close {s : Sn} {b1 b2 : Option Nat} (r : Int) (w : World) :
    Calls Try.prog 49 #[s.val b1 b2, .int .i64 r] w fun e w' => ∃ E, e = .returned (.tuple #[(s.closeS r).val b1 b2, .int .i64 E]) ∧ (E = 0 ∨ (E = 10 ∧ s.closeS r = s)) ∧ Below w.heap.size w w' := by
  unfold Sn.closeS
  by_cases h : isR s.B r = true
  · rw [if_pos h]
    have hr : 1 ≤ r ∧ r ≤ 8 := by
      unfold isR at h
      simp at h
      exact ⟨h.1.1, h.1.2⟩
    obtain ⟨k, hk⟩ : ∃ k : Nat, r = (k : Int) + 1 := ⟨(r - 1).toNat, by omega⟩
    subst hk
    refine (close_ok s.c s.n b1 b2 s.B s.T k (by omega) w h).mono ?_
    rintro e w' ⟨rfl, hb⟩
    refine ⟨_, ?_, .inl rfl, hb⟩
    rw [show ((k : Int) + 1 - 1).toNat = k by omega]
    rfl
  · rw [if_neg h]
    refine (close_no s.c s.n b1 b2 s.B s.T r w (by simpa using h)).mono ?_
    rintro e w' ⟨rfl, hb⟩
    exact ⟨_, rfl, .inr ⟨rfl, rfl⟩, hb⟩

theorem Sn.Maps.grown {s : Sn} {w w1 : World} {S : Nat → Prop} {b1 b2 : Option Nat} {q : Nat} (h : s.Maps w S b1 b2) (hg : w.grownBy w1 (some q)) (hq : ¬ S q) : s.Maps w1 S b1 b2 := by
  obtain ⟨f, g, W0, h1, h2, h3, h4, h5⟩ := h
  have im : ∀ {v : Value} {f : Int → Option Value}, IsMap w S v f → IsMap w1 S v f := by
    intro v f h
    rcases h with h | ⟨b, e, hb, hl, hm⟩
    · exact .inl h
    · exact .inr ⟨b, e, hb, by have := hg.size; omega, hm.keep (hg.block b hl (by intro e2; injection e2 with e2; subst e2; exact hq hb))⟩
  exact ⟨f, g, W0, im h1, h2.grown hg hq, im h3, h4, h5⟩
theorem Sn.Maps.setCell {s : Sn} {w : World} {S : Nat → Prop} {b1 b2 : Option Nat} {p : Addr} (h : s.Maps w S b1 b2) (hq : ¬ S p.block) (u : Value) : s.Maps (w.setCell p u) S b1 b2 :=
  h.grown (q := p.block) ⟨rfl, rfl, rfl, by simp [World.setCell], fun k _ hk => heap_setCell_other w p k u (fun e => hk (by rw [e]))⟩ hq

/-- The counts of writes and the last values of the first n cells. -/
def cntV (s : Sn) (n : Nat) : List Value := (List.range n).map fun (k : Nat) => .int .u32 (s.W k)
def lastV (s : Sn) (n : Nat) : List Value := (List.range n).map fun (k : Nat) => .int .i64 (lastP (s.L k)).2
def w3C (x : W3) : List Value := [.int .i64 x.1, .int .i64 x.2.1, .int .i64 x.2.2]
/-- The blocks that a store's maps may lie in. -/
def Mx (S : Nat → Prop) (p q bc bl : Nat) (v : Value) (b : Nat) : Prop := S b ∧ b ≠ p ∧ b ≠ q ∧ b ≠ bc ∧ b ≠ bl ∧ v.ownBlock ≠ some b
structure MI (w : World) (S : Nat → Prop) (n q bc bl : Nat) (v : Value) (s : Sn) (all : List W3) (cs ls : List Value) (wr : World) : Prop where
  p4 : (Sn.zero 0).At wr (fun _ => False) w.heap.size
  p7 : s.At wr (Mx S w.heap.size q bc bl v) q
  hC : wr.ownsRow w.heap.size 60 1 (.slice (some ⟨bc, 0, none⟩) n n) n cs
  hL : wr.ownsRow w.heap.size 2 1 (.slice (some ⟨bl, 0, none⟩) n n) n ls
  hA : wr.ownsRow (bl + 1) 106 3 v all.length (all.flatMap w3C)
  hB : Below w.heap.size w wr
  lt : w.heap.size < q ∧ q < bc ∧ bc < bl ∧ bl < wr.heap.size
namespace MI
variable {w wr w' : World} {S : Nat → Prop} {n q bc bl : Nat} {v : Value} {s s' : Sn} {all all' : List W3} {cs ls cs' ls' : List Value}
theorem below (h : MI w S n q bc bl v s all cs ls wr) (hb : Below wr.heap.size wr w') : MI w S n q bc bl v s all cs ls w' where
  p4 := h.p4.below hb
  p7 := h.p7.below hb
  hC := own_below h.hC hb
  hL := own_below h.hL hb
  hA := own_below h.hA hb
  hB := h.hB.trans (hb.mono h.hB.size)
  lt := ⟨h.lt.1, h.lt.2.1, h.lt.2.2.1, by have := h.lt.2.2.2; have := hb.size; omega⟩
theorem touch (h : MI w S n q bc bl v s all cs ls wr) (t : Touch q wr w') (hp : s'.At w' (Mx S w.heap.size q bc bl v) q) : MI w S n q bc bl v s' all cs ls w' where
  p4 := t.at h.p4 (by have := h.lt; omega) (fun h => h)
  p7 := hp
  hC := own_keep h.hC fun b hb => t.block (by simp [Value.ownBlock] at hb; subst hb; have := h.lt; omega)
  hL := own_keep h.hL fun b hb => t.block (by simp [Value.ownBlock] at hb; subst hb; have := h.lt; omega)
  hA := own_keep h.hA fun b hb => t.block (by have := (h.hA.lt b hb).1; have := h.lt; omega)
  hB := t.below h.hB (by have := h.lt; omega)
  lt := ⟨h.lt.1, h.lt.2.1, h.lt.2.2.1, by have := h.lt.2.2.2; have := t.size; omega⟩
theorem at_grown {s : Sn} {S : Nat → Prop} {q g : Nat} {w w' : World} (h : s.At w S q) (hg : w.grownBy w' (some g)) (hq : q ≠ g) (hS : ¬ S g) : s.At w' S q := by
  have hl := h.lt
  obtain ⟨b1, b2, h1, h2⟩ := h
  exact ⟨b1, b2, (hg.block q hl (by intro e; injection e with e; exact hq e)).trans h1, h2.grown hg hS⟩
theorem at_grown0 {s : Sn} {S : Nat → Prop} {q : Nat} {w w' : World} (h : s.At w S q) (hg : w.grownBy w' none) : s.At w' S q :=
  h.below ((Below.refl _ _).grown hg (Nat.le_refl _) (by simp))
/-- An array of the walk's own written to. -/
theorem grown (h : MI w S n q bc bl v s all cs ls wr) {g : Nat} (hg : wr.grownBy w' (some g)) (hgb : w.heap.size ≤ g) (hgq : g ≠ w.heap.size) (hgq7 : g ≠ q) (hM : ¬ Mx S w.heap.size q bc bl v g)
    (hC : w'.ownsRow w.heap.size 60 1 (.slice (some ⟨bc, 0, none⟩) n n) n cs') (hL : w'.ownsRow w.heap.size 2 1 (.slice (some ⟨bl, 0, none⟩) n n) n ls') (hA : w'.ownsRow (bl + 1) 106 3 v all'.length (all'.flatMap w3C)) :
    MI w S n q bc bl v s all' cs' ls' w' where
  p4 := at_grown h.p4 hg (by omega) (fun h => h)
  p7 := at_grown h.p7 hg (by omega) hM
  hC := hC
  hL := hL
  hA := hA
  hB := h.hB.grown hg h.hB.size (fun r hr => by injection hr with hr; omega)
  lt := ⟨h.lt.1, h.lt.2.1, h.lt.2.2.1, by have := h.lt.2.2.2; have := hg.size; omega⟩
theorem setC (h : MI w S n q bc bl v s all cs ls wr) (j : Nat) (u : Value) : MI w S n q bc bl v s all (cs.set j u) ls (wr.setCell ⟨bc, j, none⟩ u) := by
  obtain ⟨h1, h2⟩ := h.hC.stored j u
  have := h.lt
  refine h.grown h2 (by omega) (by omega) (by omega) (fun h => h.2.2.2.1 rfl) h1 (h.hL.kept h2 (.inr ?_)) (h.hA.kept h2 (.inr ?_))
  · simp [Value.ownBlock]; omega
  · intro e; have := (h.hA.lt bc e).1; omega
theorem setL (h : MI w S n q bc bl v s all cs ls wr) (j : Nat) (u : Value) : MI w S n q bc bl v s all cs (ls.set j u) (wr.setCell ⟨bl, j, none⟩ u) := by
  obtain ⟨h1, h2⟩ := h.hL.stored j u
  have := h.lt
  refine h.grown h2 (by omega) (by omega) (by omega) (fun h => h.2.2.2.2.1 rfl) (h.hC.kept h2 (.inr ?_)) h1 (h.hA.kept h2 (.inr ?_))
  · simp [Value.ownBlock]; omega
  · intro e; have := (h.hA.lt bl e).1; omega
theorem app (h : MI w S n q bc bl v s all cs ls wr) {v' : Value} (hA : w'.ownsRow (bl + 1) 106 3 v' all'.length (all'.flatMap w3C)) (hg : wr.grownBy w' v.ownBlock) (hv : v'.ownBlock = v.ownBlock ∨ v'.ownBlock = some wr.heap.size) :
    MI w S n q bc bl v' s all' cs ls w' := by
  have hlt := h.lt
  have hno : ∀ b, b ≤ bl → v.ownBlock ≠ some b := fun b hb e => by have := (h.hA.lt b e).1; omega
  have hm : ∀ b, b < wr.heap.size → Mx S w.heap.size q bc bl v b → Mx S w.heap.size q bc bl v' b := fun b hb h => ⟨h.1, h.2.1, h.2.2.1, h.2.2.2.1, h.2.2.2.2.1, by
    rcases hv with e | e
    · rw [e]; exact h.2.2.2.2.2
    · rw [e]; intro e2; injection e2 with e2; omega⟩
  have hne : ∀ (u : Value) b, u.ownBlock = some b → b ≤ bl → u.ownBlock = none ∨ u.ownBlock ≠ v.ownBlock := fun u b e hb => .inr fun e2 => hno b hb (by rw [← e2]; exact e)
  have base := MI.mk (v := v') (s := s) (all := all') (cs := cs) (ls := ls) (wr := w') (w := w) (S := S) (n := n) (q := q) (bc := bc) (bl := bl)
  cases hvo : v.ownBlock with
  | none =>
    rw [hvo] at hg
    exact base (at_grown0 h.p4 hg) (at_grown0 (h.p7.more hm) hg) (h.hC.kept hg (.inr (by simp [Value.ownBlock]))) (h.hL.kept hg (.inr (by simp [Value.ownBlock]))) hA (h.hB.grown hg h.hB.size (by simp)) ⟨hlt.1, hlt.2.1, hlt.2.2.1, by have := hg.size; omega⟩
  | some g =>
    rw [hvo] at hg
    have hgb := h.hA.lt g hvo
    exact base (at_grown h.p4 hg (by omega) (fun h => h)) ((at_grown (h.p7.more (S' := fun b => Mx S w.heap.size q bc bl v b ∧ b < wr.heap.size) fun b hb h => ⟨h, hb⟩) hg (by omega) (fun h => h.1.2.2.2.2.2 hvo)).more fun b _ hM => hm b hM.2 hM.1) (h.hC.kept hg (.inr (by simp [Value.ownBlock]; omega))) (h.hL.kept hg (.inr (by simp [Value.ownBlock]; omega))) hA (h.hB.grown hg h.hB.size (fun r hr => by injection hr with hr; omega)) ⟨hlt.1, hlt.2.1, hlt.2.2.1, by have := hg.size; omega⟩
end MI
end Go.Proofs.Ytpejhgkcofilmaa
