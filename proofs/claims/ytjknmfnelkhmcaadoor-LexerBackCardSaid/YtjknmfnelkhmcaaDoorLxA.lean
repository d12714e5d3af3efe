/- The lexer's reading of a source text, as Lean functions over lists of bytes. No condition. -/
import Derived.Test.YtjknmfnelkhmcaaDoorBase
import Derived.Lib.Strings
import Derived.Lib.IndexLaws
import Derived.Lib.ParseIntB
import Derived.Laws.RangeAny
set_option linter.unusedVariables false
set_option linter.unusedSimpArgs false
namespace Go.Proofs.YtjknmfnelkhmcaaDoor
open Go.RowKit

/-- A string out of its bytes. -/
def bs (l : List UInt8) : ByteArray := ⟨⟨l⟩⟩
theorem bs_eta (s : ByteArray) : bs s.data.toList = s := by obtain ⟨⟨l⟩⟩ := s; rfl
theorem bs_list (l : List UInt8) : (bs l).data.toList = l := rfl
theorem bs_size (l : List UInt8) : (bs l).size = l.length := rfl
theorem bs_extract (l : List UInt8) (a b : Nat) : (bs l).extract a b = bs ((l.drop a).take (b - a)) := by
  rw [← bs_eta ((bs l).extract a b), ← Lib.toList_data, Lib.extract_toList, bs_list]
theorem bs_tail (l : List UInt8) (a : Nat) : (bs l).extract a (bs l).size = bs (l.drop a) := by
  rw [bs_extract, bs_size, List.take_of_length_le (by simp)]
theorem bs_head (l : List UInt8) (b : Nat) : (bs l).extract 0 b = bs (l.take b) := by
  rw [bs_extract, List.drop_zero, Nat.sub_zero]
theorem bs_inj {a b : List UInt8} (h : bs a = bs b) : a = b := by
  have := congrArg (fun s => s.data.toList) h
  exact this
def digN (n : Nat) : Bool := decide (48 ≤ n) && decide (n ≤ 57)
def letN (n : Nat) : Bool := decide (n = 95) || (decide (97 ≤ n) && decide (n ≤ 122)) || (decide (65 ≤ n) && decide (n ≤ 90))
def partN (n : Nat) : Bool := letN n || digN n
theorem part_low {n : Nat} (h : partN n = true) : n < 128 := by
  unfold partN letN digN at h
  simp at h
  omega
def partB (b : UInt8) : Bool := partN b.toNat
def digB (b : UInt8) : Bool := digN b.toNat
def wsB (b : UInt8) : Bool := b == 32 || b == 9 || b == 10 || b == 13
/-- The leading letters and digits. -/
def word (l : List UInt8) : List UInt8 := l.takeWhile partB
/-- The length of the leading white space and comments (true: within a comment). -/
def blankA : Bool → List UInt8 → Nat
  | _, [] => 0
  | false, b :: t => if wsB b = true then blankA false t + 1 else if b = 35 then blankA true t + 1 else 0
  | true, b :: t => if b = 10 then blankA false t + 1 else blankA true t + 1
def kws : List (List UInt8) := [[97, 98, 111, 114, 116], [97, 110, 100], [101, 108, 115, 101], [102, 97, 108, 115, 101], [104, 111, 115, 116], [105, 102], [108, 101, 116], [110, 111, 116], [111, 112], [111, 114], [114, 101, 112, 101, 97, 116], [114, 101, 116, 117, 114, 110], [115, 116, 111, 114, 101], [116, 114, 117, 101]]
def sgs : List (List UInt8) := [[33, 61], [61, 61], [60, 61], [62, 61], [60], [62], [61], [43], [45], [42], [47], [37], [40], [41], [123], [125], [44], [46], [59]]
def numV (l : List UInt8) : Nat := l.foldl (fun n b => 10 * n + (b.toNat - 48)) 0
def headDig : List UInt8 → Bool
  | [] => false
  | b :: _ => digB b
def numE (l : List UInt8) : Int := if l.all digB = true then (if 1 < l.length ∧ l.head? = some 48 then 5 else if numV l ≤ 9223372036854775807 then 0 else 3) else 5
structure Tok where
  kind : Int
  text : List UInt8
  off : Nat
deriving DecidableEq
/-- The token at the beginning: its kind, its text, the error. -/
def nextT (l : List UInt8) : Int × List UInt8 × Int :=
  if headDig (word l) = true then (2, word l, numE (word l))
  else if kws.contains (word l) = true then (4, word l, 0)
  else if 24 < (word l).length then (0, [], 16)
  else if word l ≠ [] then (1, word l, 0)
  else match sgs.find? (fun x => x.isPrefixOf l) with
    | some x => (3, x, 0)
    | none => (0, [], 5)
/-- The tokens of the rest l of a text, which begins at offset k with a token; or an offset and an error. -/
def scanG : Nat → Nat → List UInt8 → Except (Nat × Int) (List Tok)
  | 0, _, _ => .ok []
  | f + 1, k, l =>
    if l = [] then .ok [] else
    if (nextT l).2.2 ≠ 0 then .error (k, (nextT l).2.2) else
    match scanG f (k + (nextT l).2.1.length + blankA false (l.drop (nextT l).2.1.length)) ((l.drop (nextT l).2.1.length).drop (blankA false (l.drop (nextT l).2.1.length))) with
    | .error e => .error e
    | .ok ts => .ok (⟨(nextT l).1, (nextT l).2.1, k⟩ :: ts)
def scanR (l : List UInt8) : Except (Nat × Int) (List Tok) := scanG (l.length + 1) (blankA false l) (l.drop (blankA false l))
/-- What Scan answers: the tokens, the offset, the error. -/
def scanL (l : List UInt8) : List Tok × Nat × Int :=
  if 65536 < l.length then ([], 0, 7) else
  match scanR l with
  | .error (k, e) => ([], k, e)
  | .ok ts => (ts ++ [⟨0, [], l.length⟩], 0, 0)

theorem blank_le (l : List UInt8) : ∀ c, blankA c l ≤ l.length := by
  induction l with
  | nil => intro c; cases c <;> exact Nat.le_refl _
  | cons b t ih =>
    have h1 := ih false
    have h2 := ih true
    intro c
    cases c <;> simp only [blankA, List.length_cons] <;> repeat' split
    all_goals omega
theorem word_prefix (l : List UInt8) : word l <+: l := List.takeWhile_prefix _
theorem word_take (l : List UInt8) : l.take (word l).length = word l := (List.prefix_iff_eq_take.1 (word_prefix l)).symm
theorem sgs_ne {x : List UInt8} (h : x ∈ sgs) : x ≠ [] := by
  intro e
  subst e
  revert h
  decide
theorem headDig_ne {l : List UInt8} (h : headDig l = true) : l ≠ [] := by
  intro e
  subst e
  cases h
theorem kws_ne {x : List UInt8} (h : kws.contains x = true) : x ≠ [] := by
  intro e
  subst e
  revert h
  decide
/-- A token is a beginning of the text, and not empty. -/
theorem next_text {l : List UInt8} (h : (nextT l).2.2 = 0) : (nextT l).2.1 <+: l ∧ (nextT l).2.1 ≠ [] := by
  unfold nextT at *
  split
  · next h1 => exact ⟨word_prefix l, headDig_ne h1⟩
  · split
    · next h2 => exact ⟨word_prefix l, kws_ne h2⟩
    · split
      · next h1 h2 h3 => rw [if_neg h1, if_neg h2, if_pos h3] at h; cases h
      · split
        · next h4 => exact ⟨word_prefix l, h4⟩
        · next h1 h2 h3 h4 =>
          rw [if_neg h1, if_neg h2, if_neg h3, if_neg h4] at h
          split at h
          · next x hx =>
            have := List.find?_some hx
            exact ⟨List.isPrefixOf_iff_prefix.1 this, sgs_ne (List.mem_of_find?_eq_some hx)⟩
          · cases h
/-- With more fuel than bytes the fuel does not matter. -/
theorem scanG_fuel : ∀ (f g k : Nat) (l : List UInt8), l.length < f → l.length < g → scanG f k l = scanG g k l := by
  intro f
  induction f with
  | zero => intro g k l h; omega
  | succ f ih =>
    intro g k l hf hg
    cases g with
    | zero => omega
    | succ g =>
      unfold scanG
      by_cases hl : l = []
      · rw [if_pos hl, if_pos hl]
      · rw [if_neg hl, if_neg hl]
        by_cases he : (nextT l).2.2 ≠ 0
        · rw [if_pos he, if_pos he]
        · rw [if_neg he, if_neg he]
          have h0 : (nextT l).2.2 = 0 := Decidable.not_not.1 he
          obtain ⟨h1, h2⟩ := next_text h0
          have h3 := h1.length_le
          have h4 : 0 < (nextT l).2.1.length := List.length_pos_iff.2 h2
          rw [ih g _ _ (by simp only [List.length_drop]; omega) (by simp only [List.length_drop]; omega)]
end Go.Proofs.YtjknmfnelkhmcaaDoor
