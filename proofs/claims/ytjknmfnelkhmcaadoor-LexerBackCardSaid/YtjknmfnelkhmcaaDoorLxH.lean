/- What LexerParts asks of the tokens, as plain laws of the lexer's reading. No condition. -/
import Derived.Test.YtjknmfnelkhmcaaDoorLxG
set_option linter.unusedVariables false
set_option linter.unusedSimpArgs false
namespace Go.Proofs.YtjknmfnelkhmcaaDoor
open Go.RowKit

theorem blank_take (l : List UInt8) : ∀ c, blankA c (l.take (blankA c l)) = blankA c l := by
  induction l with
  | nil => intro c; cases c <;> rfl
  | cons b t ih =>
    intro c
    cases c with
    | false =>
      by_cases hw : wsB b = true
      · simp only [blankA, hw, if_true, List.take_succ_cons, ih]
      · by_cases h35 : b = 35
        · subst h35
          have e : ∀ t, blankA false (35 :: t) = blankA true t + 1 := fun t => by simp [blankA, wsB]
          rw [e, List.take_succ_cons, e, ih]
        · simp only [blankA, hw, h35, if_false, List.take_zero]
          rfl
    | true =>
      by_cases h10 : b = 10
      · simp only [blankA, h10, if_true, List.take_succ_cons, ih]
      · simp only [blankA, h10, if_false, List.take_succ_cons, ih]
/-- A text of white space and comments holds the end token alone. -/
theorem scan_blank {l : List UInt8} (h : blankA false l = l.length) (h6 : l.length ≤ 65536) : scanL l = ([⟨0, [], l.length⟩], 0, 0) := by
  have e : scanR l = .ok [] := by
    unfold scanR
    rw [h, scanG_succ, List.drop_length, if_pos rfl]
  unfold scanL
  rw [if_neg (by omega), e]
  rfl
theorem scan_gap (l : List UInt8) (a : Nat) (h6 : l.length ≤ 65536) : scanL ((l.drop a).take (blankA false (l.drop a))) = ([⟨0, [], blankA false (l.drop a)⟩], 0, 0) := by
  have h1 := blank_le (l.drop a) false
  have h2 : ((l.drop a).take (blankA false (l.drop a))).length = blankA false (l.drop a) := by rw [List.length_take]; omega
  have h3 := scan_blank (l := (l.drop a).take (blankA false (l.drop a))) (by rw [h2]; exact blank_take _ _) (by rw [h2]; rw [List.length_drop] at h1; omega)
  rw [h2] at h3
  exact h3
/-- Where the text of the tokens before the i-th ends. -/
def atB (a : Nat) (ts : List Tok) (i : Nat) : Nat := match i with
  | 0 => a
  | i + 1 => (ts.getD i ⟨0, [], 0⟩).off + (ts.getD i ⟨0, [], 0⟩).text.length
theorem atB_succ (a : Nat) (L : List Tok) (i : Nat) (hi : i < L.length) : atB a L (i + 1) = L[i].off + L[i].text.length := by
  show (L.getD i ⟨0, [], 0⟩).off + (L.getD i ⟨0, [], 0⟩).text.length = _
  rw [List.getD_eq_getElem?_getD, List.getElem?_eq_getElem hi]
  rfl
structure PartAt (l : List UInt8) (a : Nat) (t : Tok) (last : Bool) : Prop where
  le : a ≤ t.off
  fit : t.off + t.text.length ≤ l.length
  text : (l.drop t.off).take t.text.length = t.text
  ends : t.text.isEmpty = last
  gap : scanL ((l.drop a).take (t.off - a)) = ([⟨0, [], t.off - a⟩], 0, 0)
theorem parts_ok (l : List UInt8) (h6 : l.length ≤ 65536) : ∀ (f a : Nat) (ts : List Tok), a ≤ l.length → l.length - (a + blankA false (l.drop a)) < f → scanG f (a + blankA false (l.drop a)) (l.drop (a + blankA false (l.drop a))) = .ok ts →
    ∀ i (hi : i < (ts ++ [(⟨0, [], l.length⟩ : Tok)]).length), PartAt l (atB a (ts ++ [⟨0, [], l.length⟩]) i) (ts ++ [(⟨0, [], l.length⟩ : Tok)])[i] (decide (i = ts.length)) := by
  intro f
  induction f with
  | zero => intro a ts _ h; omega
  | succ f ih =>
    intro a ts ha hf hs
    have hb := blank_le (l.drop a) false
    rw [List.length_drop] at hb
    have hg := scan_gap l a h6
    generalize hbn : blankA false (l.drop a) = bn at *
    rw [scanG_succ] at hs
    by_cases hl : l.drop (a + bn) = []
    · rw [if_pos hl] at hs
      have hlen : l.length = a + bn := by have := congrArg List.length hl; simp at this; omega
      injection hs with hs
      subst hs
      intro i hi
      obtain rfl : i = 0 := by simp at hi; omega
      refine ⟨?_, ?_, ?_, ?_, ?_⟩
      · show a ≤ l.length; omega
      · show l.length + 0 ≤ l.length; omega
      · show (l.drop l.length).take 0 = []; rfl
      · rfl
      · show scanL ((l.drop a).take (l.length - a)) = ([⟨0, [], l.length - a⟩], 0, 0)
        rw [show l.length - a = bn by omega]; exact hg
    · rw [if_neg hl] at hs
      have hpos : a + bn < l.length := by
        have := List.length_pos_iff.2 hl
        rw [List.length_drop] at this
        omega
      by_cases he : (nextT (l.drop (a + bn))).2.2 ≠ 0
      · rw [if_pos he] at hs; cases hs
      · rw [if_neg he] at hs
        have h0 : (nextT (l.drop (a + bn))).2.2 = 0 := Decidable.not_not.1 he
        obtain ⟨h1, h2⟩ := next_text h0
        have h3 := h1.length_le
        have h4 : 0 < (nextT (l.drop (a + bn))).2.1.length := List.length_pos_iff.2 h2
        have h5 := List.prefix_iff_eq_take.1 h1
        generalize nextT (l.drop (a + bn)) = t at *
        obtain ⟨tk, tx, te⟩ := t
        dsimp only at h0 h1 h2 h3 h4 h5 hs
        rw [List.length_drop] at h3
        rw [List.drop_drop, List.drop_drop] at hs
        cases hr : scanG f (a + bn + tx.length + blankA false (l.drop (a + bn + tx.length))) (l.drop (a + bn + tx.length + blankA false (l.drop (a + bn + tx.length)))) with
        | error e => rw [hr] at hs; cases hs
        | ok us =>
          rw [hr] at hs
          injection hs with hs
          subst hs
          intro i hi
          cases i with
          | zero =>
            refine ⟨?_, ?_, ?_, ?_, ?_⟩
            · show a ≤ a + bn; omega
            · show a + bn + tx.length ≤ l.length; omega
            · show (l.drop (a + bn)).take tx.length = tx; exact h5.symm
            · show tx.isEmpty = decide (0 = us.length + 1)
              rw [decide_eq_false (by omega)]
              cases tx with
              | nil => exact absurd rfl h2
              | cons b t => rfl
            · show scanL ((l.drop a).take (a + bn - a)) = ([⟨0, [], a + bn - a⟩], 0, 0)
              rw [Nat.add_sub_cancel_left]; exact hg
          | succ i =>
            have := ih (a + bn + tx.length) us (by omega) (by omega) hr i (by simpa using hi)
            have e1 : atB a ((⟨tk, tx, a + bn⟩ :: us) ++ [(⟨0, [], l.length⟩ : Tok)]) (i + 1) = atB (a + bn + tx.length) (us ++ [⟨0, [], l.length⟩]) i := by
              cases i with
              | zero => rfl
              | succ i => rfl
            rw [e1]
            have e2 : decide (i + 1 = (⟨tk, tx, a + bn⟩ :: us : List Tok).length) = decide (i = us.length) := decide_eq_decide.2 (by simp)
            rw [e2]
            exact this
theorem scan_ok_parts {l : List UInt8} {ts : List Tok} (h6 : l.length ≤ 65536) (h : scanR l = .ok ts) (i : Nat) (hi : i < (ts ++ [(⟨0, [], l.length⟩ : Tok)]).length) :
    PartAt l (atB 0 (ts ++ [⟨0, [], l.length⟩]) i) (ts ++ [(⟨0, [], l.length⟩ : Tok)])[i] (decide (i = ts.length)) := by
  refine parts_ok l h6 (l.length + 1) 0 ts (by omega) (by omega) ?_ i hi
  rw [Nat.zero_add, List.drop_zero]
  exact h
/-- There are no more tokens than bytes. -/
theorem parts_count {l : List UInt8} {ts L : List Tok} (hP : ∀ (i : Nat) (hi : i < L.length), PartAt l (atB 0 L i) L[i] (decide (i = ts.length))) (hL : L.length = ts.length + 1) (h6 : l.length ≤ 2000) : ts.length ≤ 2000 := by
  have h : ∀ i, i ≤ ts.length → i ≤ atB 0 L i := by
    intro i
    induction i with
    | zero => intro _; exact Nat.zero_le _
    | succ i ih =>
      intro hi
      have hiL : i < L.length := by omega
      have h1 := hP i hiL
      have h2 := ih (by omega)
      have h3 := h1.le
      have h4 := h1.ends
      rw [decide_eq_false (by omega)] at h4
      have h5 : 0 < L[i].text.length := by
        cases hq : L[i].text with
        | nil => rw [hq] at h4; cases h4
        | cons b t => simp
      have e := atB_succ 0 L i hiL
      rw [e]
      omega
  have h1 := h ts.length (Nat.le_refl _)
  have h2 := hP ts.length (by omega)
  have h3 := h2.le
  have h4 := h2.fit
  omega
theorem scanG_err : ∀ (f k : Nat) (l : List UInt8) (p : Nat × Int), scanG f k l = .error p → p.2 ≠ 0 := by
  intro f
  induction f with
  | zero => intro k l p h; cases h
  | succ f ih =>
    intro k l p h
    rw [scanG_succ] at h
    split at h
    · cases h
    · split at h
      · next he => injection h with h; subst h; exact he
      · split at h
        · next hq => injection h with h; subst h; exact ih _ _ _ hq
        · cases h
end Go.Proofs.YtjknmfnelkhmcaaDoor
