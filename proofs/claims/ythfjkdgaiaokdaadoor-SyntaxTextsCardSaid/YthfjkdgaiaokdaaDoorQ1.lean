/- The lexer's reading of a source text, as Lean functions over lists of bytes. No condition. A parser of programs over tokens, as Lean functions with fuel; what it leaves is an end of what it was given. No condition. Decimal numerals, read back. No condition. What the parser leaves is an end of what it was given; more fuel changes no result that is one. No condition. -/
import Derived.Test.YthfjkdgaiaokdaaDoorBase
import Derived.Lib.Strings
import Derived.Lib.IndexLaws
import Derived.Lib.ParseIntB
import Derived.Laws.RangeAny
import Derived.Test.YthfjkdgaiaokdaaDoorSxA
import Derived.Lib.ItoaNum
set_option linter.unusedVariables false
set_option linter.unusedSimpArgs false
namespace Go.Proofs.YthfjkdgaiaokdaaDoor.Lx
open Go.RowKit

/-- A string out of its bytes. -/
def bs (l : List UInt8) : ByteArray := ⟨⟨l⟩⟩
theorem bs_eta (s : ByteArray) : bs s.data.toList = s := by obtain ⟨⟨l⟩⟩ := s; rfl
theorem bs_list (l : List UInt8) : (bs l).data.toList = l := rfl
theorem bs_size (l : List UInt8) : (bs l).size = l.length := rfl
theorem bs_extract (l : List UInt8) (a b : Nat) : (bs l).extract a b = bs ((l.drop a).take (b - a)) := by
  rw [← bs_eta ((bs l).extract a b), ← Lib.toList_data, Lib.extract_toList, bs_list]
theorem bs_tail (l : List UInt8) (a : Nat) : (bs l).extract a (bs l).size = bs (l.drop a) := by
  rw [bs_extract, bs_size, List.take_of_length_le (by simp)]
theorem bs_head (l : List UInt8) (b : Nat) : (bs l).extract 0 b = bs (l.take b) := by
  rw [bs_extract, List.drop_zero, Nat.sub_zero]
theorem bs_inj {a b : List UInt8} (h : bs a = bs b) : a = b := by
  have := congrArg (fun s => s.data.toList) h
  exact this
def digN (n : Nat) : Bool := decide (48 ≤ n) && decide (n ≤ 57)
def letN (n : Nat) : Bool := decide (n = 95) || (decide (97 ≤ n) && decide (n ≤ 122)) || (decide (65 ≤ n) && decide (n ≤ 90))
def partN (n : Nat) : Bool := letN n || digN n
theorem part_low {n : Nat} (h : partN n = true) : n < 128 := by
  unfold partN letN digN at h
  simp at h
  omega
def partB (b : UInt8) : Bool := partN b.toNat
def digB (b : UInt8) : Bool := digN b.toNat
def wsB (b : UInt8) : Bool := b == 32 || b == 9 || b == 10 || b == 13
/-- The leading letters and digits. -/
def word (l : List UInt8) : List UInt8 := l.takeWhile partB
/-- The length of the leading white space and comments (true: within a comment). -/
def blankA : Bool → List UInt8 → Nat
  | _, [] => 0
  | false, b :: t => if wsB b = true then blankA false t + 1 else if b = 35 then blankA true t + 1 else 0
  | true, b :: t => if b = 10 then blankA false t + 1 else blankA true t + 1
def kws : List (List UInt8) := [[97, 98, 111, 114, 116], [97, 110, 100], [101, 108, 115, 101], [102, 97, 108, 115, 101], [104, 111, 115, 116], [105, 102], [108, 101, 116], [110, 111, 116], [111, 112], [111, 114], [114, 101, 112, 101, 97, 116], [114, 101, 116, 117, 114, 110], [115, 116, 111, 114, 101], [116, 114, 117, 101]]
def sgs : List (List UInt8) := [[33, 61], [61, 61], [60, 61], [62, 61], [60], [62], [61], [43], [45], [42], [47], [37], [40], [41], [123], [125], [44], [46], [59]]
def numV (l : List UInt8) : Nat := l.foldl (fun n b => 10 * n + (b.toNat - 48)) 0
def headDig : List UInt8 → Bool
  | [] => false
  | b :: _ => digB b
def numE (l : List UInt8) : Int := if l.all digB = true then (if 1 < l.length ∧ l.head? = some 48 then 5 else if numV l ≤ 9223372036854775807 then 0 else 3) else 5
structure Tok where
  kind : Int
  text : List UInt8
  off : Nat
deriving DecidableEq
/-- The token at the beginning: its kind, its text, the error. -/
def nextT (l : List UInt8) : Int × List UInt8 × Int :=
  if headDig (word l) = true then (2, word l, numE (word l))
  else if kws.contains (word l) = true then (4, word l, 0)
  else if 24 < (word l).length then (0, [], 16)
  else if word l ≠ [] then (1, word l, 0)
  else match sgs.find? (fun x => x.isPrefixOf l) with
    | some x => (3, x, 0)
    | none => (0, [], 5)
/-- The tokens of the rest l of a text, which begins at offset k with a token; or an offset and an error. -/
def scanG : Nat → Nat → List UInt8 → Except (Nat × Int) (List Tok)
  | 0, _, _ => .ok []
  | f + 1, k, l =>
    if l = [] then .ok [] else
    if (nextT l).2.2 ≠ 0 then .error (k, (nextT l).2.2) else
    match scanG f (k + (nextT l).2.1.length + blankA false (l.drop (nextT l).2.1.length)) ((l.drop (nextT l).2.1.length).drop (blankA false (l.drop (nextT l).2.1.length))) with
    | .error e => .error e
    | .ok ts => .ok (⟨(nextT l).1, (nextT l).2.1, k⟩ :: ts)
def scanR (l : List UInt8) : Except (Nat × Int) (List Tok) := scanG (l.length + 1) (blankA false l) (l.drop (blankA false l))
/-- What Scan answers: the tokens, the offset, the error. -/
def scanL (l : List UInt8) : List Tok × Nat × Int :=
  if 65536 < l.length then ([], 0, 7) else
  match scanR l with
  | .error (k, e) => ([], k, e)
  | .ok ts => (ts ++ [⟨0, [], l.length⟩], 0, 0)

theorem blank_le (l : List UInt8) : ∀ c, blankA c l ≤ l.length := by
  induction l with
  | nil => intro c; cases c <;> exact Nat.le_refl _
  | cons b t ih =>
    have h1 := ih false
    have h2 := ih true
    intro c
    cases c <;> simp only [blankA, List.length_cons] <;> repeat' split
    all_goals omega
theorem word_prefix (l : List UInt8) : word l <+: l := List.takeWhile_prefix _
theorem word_take (l : List UInt8) : l.take (word l).length = word l := (List.prefix_iff_eq_take.1 (word_prefix l)).symm
theorem sgs_ne {x : List UInt8} (h : x ∈ sgs) : x ≠ [] := by
  intro e
  subst e
  revert h
  decide
theorem headDig_ne {l : List UInt8} (h : headDig l = true) : l ≠ [] := by
  intro e
  subst e
  cases h
theorem kws_ne {x : List UInt8} (h : kws.contains x = true) : x ≠ [] := by
  intro e
  subst e
  revert h
  decide
/-- A token is a beginning of the text, and not empty. -/
theorem next_text {l : List UInt8} (h : (nextT l).2.2 = 0) : (nextT l).2.1 <+: l ∧ (nextT l).2.1 ≠ [] := by
  unfold nextT at *
  split
  · next h1 => exact ⟨word_prefix l, headDig_ne h1⟩
  · split
    · next h2 => exact ⟨word_prefix l, kws_ne h2⟩
    · split
      · next h1 h2 h3 => rw [if_neg h1, if_neg h2, if_pos h3] at h; cases h
      · split
        · next h4 => exact ⟨word_prefix l, h4⟩
        · next h1 h2 h3 h4 =>
          rw [if_neg h1, if_neg h2, if_neg h3, if_neg h4] at h
          split at h
          · next x hx =>
            have := List.find?_some hx
            exact ⟨List.isPrefixOf_iff_prefix.1 this, sgs_ne (List.mem_of_find?_eq_some hx)⟩
          · cases h
/-- With more fuel than bytes the fuel does not matter. -/
theorem scanG_fuel : ∀ (f g k : Nat) (l : List UInt8), l.length < f → l.length < g → scanG f k l = scanG g k l := by
  intro f
  induction f with
  | zero => intro g k l h; omega
  | succ f ih =>
    intro g k l hf hg
    cases g with
    | zero => omega
    | succ g =>
      unfold scanG
      by_cases hl : l = []
      · rw [if_pos hl, if_pos hl]
      · rw [if_neg hl, if_neg hl]
        by_cases he : (nextT l).2.2 ≠ 0
        · rw [if_pos he, if_pos he]
        · rw [if_neg he, if_neg he]
          have h0 : (nextT l).2.2 = 0 := Decidable.not_not.1 he
          obtain ⟨h1, h2⟩ := next_text h0
          have h3 := h1.length_le
          have h4 : 0 < (nextT l).2.1.length := List.length_pos_iff.2 h2
          rw [ih g _ _ (by simp only [List.length_drop]; omega) (by simp only [List.length_drop]; omega)]
end Go.Proofs.YthfjkdgaiaokdaaDoor.Lx
namespace Go.Proofs.YthfjkdgaiaokdaaDoor

/-- A token: its kind and its text. -/
abbrev Tk := Int × Str
/-- What a function of the parser answers: a result and the rest, or the rest that begins with the wrong token. -/
inductive Res (α : Type) where
  | ok : α → List Tk → Res α
  | bad : List Tk → Res α
deriving DecidableEq
def tNot : Str := [110, 111, 116]
def tTrue : Str := [116, 114, 117, 101]
def tFalse : Str := [102, 97, 108, 115, 101]
def tHost : Str := [104, 111, 115, 116]
def tElse : Str := [101, 108, 115, 101]
def tIf : Str := [105, 102]
def tRep : Str := [114, 101, 112, 101, 97, 116]
def tLet : Str := [108, 101, 116]
def tRet : Str := [114, 101, 116, 117, 114, 110]
def tAbt : Str := [97, 98, 111, 114, 116]
def tSto : Str := [115, 116, 111, 114, 101]
def tOp : Str := [111, 112]
def tAnd : Str := [97, 110, 100]
def tOr : Str := [111, 114]
def isT (s : Str) : List Tk → Bool
  | [] => false
  | t :: _ => (t.1 == 3 || t.1 == 4) && t.2 == s
def kindT : List Tk → Int
  | [] => 0
  | t :: _ => t.1
def textT : List Tk → Str
  | [] => []
  | t :: _ => t.2
/-- The number that digits mean. -/
def numT (s : Str) : Int := ((s.foldl (fun n b => 10 * n + (b.toNat - 48)) 0 : Nat) : Int)
/-- The signs of a level. -/
def sgnsAt : Nat → List Str
  | 0 => [tOr]
  | 1 => [tAnd]
  | 2 => [[61, 61], [33, 61], [60], [60, 61], [62], [62, 61]]
  | 3 => [[43], [45]]
  | 4 => [[42], [47], [37]]
  | _ => []
def opAt (lv : Nat) : List Tk → Bool
  | [] => false
  | t :: _ => (t.1 == 3 || t.1 == 4) && (sgnsAt lv).contains t.2
mutual
/-- The expressions of a level. -/
def pB : Nat → Nat → List Tk → Res Ex
  | 0, _, R => .bad R
  | f + 1, lv, R => if 5 ≤ lv then pU f R else match pB f (lv + 1) R with
    | .bad r => .bad r
    | .ok a r => pC f lv a r
/-- The chain of a level's signs behind the operand a. -/
def pC : Nat → Nat → Ex → List Tk → Res Ex
  | 0, _, _, R => .bad R
  | f + 1, lv, a, R => if opAt lv R = true then match pB f (lv + 1) R.tail with
      | .bad r => .bad r
      | .ok b r => pC f lv (.mk 5 0 [] (textT R) [a, b] []) r
    else .ok a R
def pU : Nat → List Tk → Res Ex
  | 0, R => .bad R
  | f + 1, R =>
    if isT tNot R = true then match pU f R.tail with
      | .bad r => .bad r
      | .ok e r => .ok (.mk 3 0 [] [] [e] []) r
    else if isT [45] R = true then match pU f R.tail with
      | .bad r => .bad r
      | .ok e r => .ok (.mk 4 0 [] [] [e] []) r
    else if isT tTrue R = true then .ok (.mk 1 1 [] [] [] []) R.tail
    else if isT tFalse R = true then .ok (.mk 1 0 [] [] [] []) R.tail
    else if isT [40] R = true then match pB f 0 R.tail with
      | .bad r => .bad r
      | .ok e r => if isT [41] r = true then .ok e r.tail else .bad r
    else if isT tHost R = true then pH f R.tail
    else if kindT R = 2 then .ok (.mk 0 (numT (textT R)) [] [] [] []) R.tail
    else if kindT R = 1 then if isT [46] R.tail = true then pK f (textT R) R.tail else .ok (.mk 2 0 (textT R) [] [] []) R.tail
    else .bad R
/-- A host call behind its keyword. -/
def pH : Nat → List Tk → Res Ex
  | 0, R => .bad R
  | f + 1, R => if isT [46] R = true then
      if kindT R.tail = 1 then match pA f R.tail.tail with
        | .bad r => .bad r
        | .ok a r => .ok (.mk 7 0 (textT R.tail) [] a []) r
      else .bad R.tail
    else .bad R
/-- A call behind the store's name n. -/
def pK : Nat → Str → List Tk → Res Ex
  | 0, _, R => .bad R
  | f + 1, n, R => if isT [46] R = true then
      if kindT R.tail = 1 then match pA f R.tail.tail with
        | .bad r => .bad r
        | .ok a r => if isT tElse r = true then match pU f r.tail with
            | .bad r' => .bad r'
            | .ok o r' => .ok (.mk 6 0 n (textT R.tail) a [o]) r'
          else .ok (.mk 6 0 n (textT R.tail) a []) r
      else .bad R.tail
    else .bad R
/-- The arguments with their parentheses. -/
def pA : Nat → List Tk → Res (List Ex)
  | 0, R => .bad R
  | f + 1, R => if isT [40] R = true then if isT [41] R.tail = true then .ok [] R.tail.tail else pL f [] R.tail else .bad R
def pL : Nat → List Ex → List Tk → Res (List Ex)
  | 0, _, R => .bad R
  | f + 1, acc, R => match pB f 0 R with
    | .bad r => .bad r
    | .ok e r => if isT [41] r = true then .ok (acc ++ [e]) r.tail else if isT [44] r = true then pL f (acc ++ [e]) r.tail else .bad r
end
/-- An expression, with fuel enough. -/
def pE (R : List Tk) : Res Ex := pB (8 * R.length + 7) 0 R
/-- An expression and a semicolon. -/
def pN (k : Ex → St) (R : List Tk) : Res St := match pE R with
  | .bad r => .bad r
  | .ok e r => if isT [59] r = true then .ok (k e) r.tail else .bad r
def emE : Ex := .mk 0 0 [] [] [] []
mutual
def pS : Nat → List Tk → Res St
  | 0, R => .bad R
  | f + 1, R =>
    if isT tIf R = true then pI f R.tail
    else if isT tRep R = true then if kindT R.tail = 2 then match pBl f R.tail.tail with
        | .bad r => .bad r
        | .ok b r => .ok (.mk 4 [] (numT (textT R.tail)) emE b []) r
      else .bad R.tail
    else if isT tLet R = true then if kindT R.tail = 1 then if isT [61] R.tail.tail = true then pN (fun e => .mk 0 (textT R.tail) 0 e [] []) R.tail.tail.tail else .bad R.tail.tail else .bad R.tail
    else if isT tRet R = true then pN (fun e => .mk 5 [] 0 e [] []) R.tail
    else if isT tAbt R = true then if kindT R.tail = 2 then if isT [59] R.tail.tail = true then .ok (.mk 6 [] (numT (textT R.tail)) emE [] []) R.tail.tail.tail else .bad R.tail.tail else .bad R.tail
    else if isT tHost R = true then match pH (8 * R.length + 7) R.tail with
      | .bad r => .bad r
      | .ok e r => if isT [59] r = true then .ok (.mk 2 [] 0 e [] []) r.tail else .bad r
    else if kindT R = 1 then
      if isT [46] R.tail = true then match pK (8 * R.length + 7) (textT R) R.tail with
        | .bad r => .bad r
        | .ok e r => if isT [59] r = true then .ok (.mk 2 [] 0 e [] []) r.tail else .bad r
      else if isT [61] R.tail = true then pN (fun e => .mk 1 (textT R) 0 e [] []) R.tail.tail else .bad R.tail
    else .bad R
def pI : Nat → List Tk → Res St
  | 0, R => .bad R
  | f + 1, R => match pE R with
    | .bad r => .bad r
    | .ok e r => match pBl f r with
      | .bad r' => .bad r'
      | .ok b r' => if isT tElse r' = true then
          if isT tIf r'.tail = true then match pI f r'.tail.tail with
            | .bad q => .bad q
            | .ok s q => .ok (.mk 3 [] 0 e b [s]) q
          else match pBl f r'.tail with
            | .bad q => .bad q
            | .ok l q => .ok (.mk 3 [] 0 e b l) q
        else .ok (.mk 3 [] 0 e b []) r'
def pBl : Nat → List Tk → Res (List St)
  | 0, R => .bad R
  | f + 1, R => if isT [123] R = true then pM f [] R.tail else .bad R
def pM : Nat → List St → List Tk → Res (List St)
  | 0, _, R => .bad R
  | f + 1, acc, R => if isT [125] R = true then .ok acc R.tail else match pS f R with
    | .bad r => .bad r
    | .ok s r => pM f (acc ++ [s]) r
end
/-- The names of parameters, behind the parenthesis. -/
def pQ : Nat → List Str → List Tk → Res (List Str)
  | 0, _, R => .bad R
  | f + 1, acc, R => if kindT R = 1 then if isT [41] R.tail = true then .ok (acc ++ [textT R]) R.tail.tail else if isT [44] R.tail = true then pQ f (acc ++ [textT R]) R.tail.tail else .bad R.tail else .bad R
def pPs (R : List Tk) : Res (List Str) := if isT [40] R = true then if isT [41] R.tail = true then .ok [] R.tail.tail else pQ (R.length + 1) [] R.tail else .bad R
def pBk (R : List Tk) : Res (List St) := pBl (4 * R.length + 4) R
/-- An operation behind its keyword. -/
def pO (R : List Tk) : Res Oper' := if kindT R = 1 then match pPs R.tail with
    | .bad r => .bad r
    | .ok ps r => match pBk r with
      | .bad q => .bad q
      | .ok b q => .ok ⟨textT R, ps, b⟩ q
  else .bad R
/-- A store behind its keyword. -/
def pD (R : List Tk) : Res Decl' := if kindT R = 1 then if kindT R.tail = 1 then if isT [59] R.tail.tail = true then .ok ⟨textT R, textT R.tail⟩ R.tail.tail.tail else .bad R.tail.tail else .bad R.tail else .bad R
def pG : Nat → List Decl' → List Oper' → List Tk → Res Prog'
  | 0, _, _, R => .bad R
  | f + 1, ds, os, R => if kindT R = 0 then .ok ⟨ds, os⟩ R
    else if isT tSto R = true then match pD R.tail with
      | .bad r => .bad r
      | .ok d r => pG f (ds ++ [d]) os r
    else if isT tOp R = true then match pO R.tail with
      | .bad r => .bad r
      | .ok o r => pG f ds (os ++ [o]) r
    else .bad R
def pP (R : List Tk) : Res Prog' := pG (R.length + 1) [] [] R
/-- An expression and the end. -/
def pX (R : List Tk) : Res Ex := match pE R with
  | .bad r => .bad r
  | .ok e r => if kindT r = 0 then .ok e r else .bad r
end Go.Proofs.YthfjkdgaiaokdaaDoor
namespace Go.Proofs.YthfjkdgaiaokdaaDoor

theorem dn_small {n : Nat} (h : n < 10) : Lib.decDigits n = [UInt8.ofNat (48 + n)] := by rw [Lib.decDigits, dif_pos h]
theorem dn_big {n : Nat} (h : ¬ n < 10) : Lib.decDigits n = Lib.decDigits (n / 10) ++ [UInt8.ofNat (48 + n % 10)] := by rw [Lib.decDigits, dif_neg h]
theorem dn_of {r : Nat} (h : r < 10) : (UInt8.ofNat (48 + r)).toNat = 48 + r := by
  rw [UInt8.toNat_ofNat']
  omega
theorem dn_all (n : Nat) : (Lib.decDigits n).all Lx.digB = true := by
  induction n using Nat.strongRecOn with
  | ind n ih =>
    by_cases h : n < 10
    · rw [dn_small h, List.all_cons]
      unfold Lx.digB
      rw [dn_of h]
      simp [Lx.digN]
      omega
    · rw [dn_big h, List.all_append, ih (n / 10) (by omega), List.all_cons]
      unfold Lx.digB
      rw [dn_of (by omega)]
      simp [Lx.digN]
      omega
theorem dn_val (n : Nat) : Lx.numV (Lib.decDigits n) = n := by
  induction n using Nat.strongRecOn with
  | ind n ih =>
    unfold Lx.numV
    by_cases h : n < 10
    · rw [dn_small h, List.foldl_cons, List.foldl_nil, dn_of h]
      omega
    · have h1 := ih (n / 10) (by omega)
      unfold Lx.numV at h1
      rw [dn_big h, List.foldl_append, h1, List.foldl_cons, List.foldl_nil, dn_of (by omega)]
      omega
theorem dn_ne (n : Nat) : Lib.decDigits n ≠ [] := by
  by_cases h : n < 10
  · rw [dn_small h]; simp
  · rw [dn_big h]; simp
theorem dn_head (n : Nat) : 1 ≤ n → (Lib.decDigits n).head? ≠ some 48 := by
  induction n using Nat.strongRecOn with
  | ind n ih =>
    intro h1
    by_cases h : n < 10
    · rw [dn_small h, List.head?_cons]
      intro e
      have e := congrArg UInt8.toNat (Option.some.inj e)
      rw [dn_of h] at e
      have : (48 : UInt8).toNat = 48 := rfl
      omega
    · rw [dn_big h]
      have h2 := ih (n / 10) (by omega) (by omega)
      cases hq : Lib.decDigits (n / 10) with
      | nil => exact absurd hq (dn_ne _)
      | cons b u => rw [hq] at h2; exact h2
theorem dn_numE (n : Nat) : Lx.numE (Lib.decDigits n) = if n ≤ 9223372036854775807 then 0 else 3 := by
  unfold Lx.numE
  rw [if_pos (dn_all n), dn_val, if_neg]
  rintro ⟨h1, h2⟩
  by_cases h : 1 ≤ n
  · exact dn_head n h h2
  · obtain rfl : n = 0 := by omega
    rw [dn_small (by omega)] at h1
    simp at h1
theorem dn_itoa (n : Int) (h : 0 ≤ n) : Lib.itoa n = Lib.decDigits n.natAbs := by
  unfold Lib.itoa
  rw [if_neg (by omega), show n.toNat = n.natAbs by omega]
theorem numT_itoa (n : Int) (h : 0 ≤ n) : numT (Lib.itoa n) = n := by
  rw [dn_itoa n h]
  show ((Lx.numV (Lib.decDigits n.natAbs) : Nat) : Int) = n
  rw [dn_val]
  omega
end Go.Proofs.YthfjkdgaiaokdaaDoor
namespace Go.Proofs.YthfjkdgaiaokdaaDoor

def Res.rest {α : Type} : Res α → List Tk
  | .ok _ r => r
  | .bad r => r
theorem tail_suf (R : List Tk) : R.tail <:+ R := List.tail_suffix R
theorem suf_of {α : Type} {x : Res α} {R : List Tk} (h : x.rest <:+ R) : (∀ a r, x = .ok a r → r <:+ R) ∧ (∀ r, x = .bad r → r <:+ R) :=
  ⟨fun a r e => by subst e; exact h, fun r e => by subst e; exact h⟩
theorem suf_parts (f : Nat) : (∀ lv R, (pB f lv R).rest <:+ R) ∧ (∀ lv a R, (pC f lv a R).rest <:+ R) ∧ (∀ R, (pU f R).rest <:+ R) ∧ (∀ R, (pH f R).rest <:+ R) ∧ (∀ n R, (pK f n R).rest <:+ R) ∧ (∀ R, (pA f R).rest <:+ R) ∧ (∀ acc R, (pL f acc R).rest <:+ R) := by
  induction f with
  | zero => 
    refine ⟨fun lv R => ?_, fun lv a R => ?_, fun R => ?_, fun R => ?_, fun n R => ?_, fun R => ?_, fun acc R => ?_⟩
    · rw [pB]; exact List.suffix_refl _
    · rw [pC]; exact List.suffix_refl _
    · rw [pU]; exact List.suffix_refl _
    · rw [pH]; exact List.suffix_refl _
    · rw [pK]; exact List.suffix_refl _
    · rw [pA]; exact List.suffix_refl _
    · rw [pL]; exact List.suffix_refl _
  | succ f ih =>
    obtain ⟨iB, iC, iU, iH, iK, iA, iL⟩ := ih
    have t1 := tail_suf
    have t2 : ∀ R : List Tk, R.tail.tail <:+ R := fun R => (t1 _).trans (t1 R)
    refine ⟨fun lv R => ?_, fun lv a R => ?_, fun R => ?_, fun R => ?_, fun n R => ?_, fun R => ?_, fun acc R => ?_⟩
    · rw [pB]
      split
      · exact iU R
      · have h := suf_of (iB (lv + 1) R)
        split
        · next r e => exact h.2 r e
        · next a r e => exact (iC lv a r).trans (h.1 a r e)
    · rw [pC]
      split
      · have h := suf_of ((iB (lv + 1) R.tail).trans (t1 R))
        split
        · next r e => exact h.2 r e
        · next b r e => exact (iC lv _ r).trans (h.1 b r e)
      · exact List.suffix_refl _
    · rw [pU]
      have hU := suf_of ((iU R.tail).trans (t1 R))
      have hB := suf_of ((iB 0 R.tail).trans (t1 R))
      repeat' split
      all_goals first
        | exact t1 R
        | exact t2 R
        | exact List.suffix_refl _
        | exact (iH _).trans (t1 R)
        | exact (iK _ _).trans (t1 R)
        | exact hU.2 _ (by assumption)
        | exact hU.1 _ _ (by assumption)
        | exact hB.2 _ (by assumption)
        | exact hB.1 _ _ (by assumption)
        | exact (t1 _).trans (hB.1 _ _ (by assumption))
    · rw [pH]
      have hA := suf_of ((iA R.tail.tail).trans (t2 R))
      repeat' split
      all_goals first
        | exact t1 R
        | exact List.suffix_refl _
        | exact hA.2 _ (by assumption)
        | exact hA.1 _ _ (by assumption)
    · rw [pK]
      have hA := suf_of ((iA R.tail.tail).trans (t2 R))
      split
      · split
        · split
          · next r e => exact hA.2 r e
          · next a r e =>
            have hr := hA.1 a r e
            have hU := suf_of ((iU r.tail).trans ((t1 r).trans hr))
            split
            · split
              · next r' e' => exact hU.2 r' e'
              · next o r' e' => exact hU.1 o r' e'
            · exact hr
        · exact t1 R
      · exact List.suffix_refl _
    · rw [pA]
      repeat' split
      all_goals first
        | exact t2 R
        | exact (iL _ _).trans (t1 R)
        | exact List.suffix_refl _
    · rw [pL]
      have h := suf_of (iB 0 R)
      split
      · next r e => exact h.2 r e
      · next a r e =>
        have hr := h.1 a r e
        repeat' split
        all_goals first
          | exact (t1 r).trans hr
          | exact (iL _ _).trans ((t1 r).trans hr)
          | exact hr
theorem suf_pE (R : List Tk) : (pE R).rest <:+ R := (suf_parts _).1 0 R
theorem suf_pN (k : Ex → St) (R : List Tk) : (pN k R).rest <:+ R := by
  unfold pN
  have h := suf_of (suf_pE R)
  split
  · next r e => exact h.2 r e
  · next a r e =>
    have hr := h.1 a r e
    split
    · exact (tail_suf r).trans hr
    · exact hr
theorem suf_stmts (f : Nat) : (∀ R, (pS f R).rest <:+ R) ∧ (∀ R, (pI f R).rest <:+ R) ∧ (∀ R, (pBl f R).rest <:+ R) ∧ (∀ acc R, (pM f acc R).rest <:+ R) := by
  induction f with
  | zero =>
    refine ⟨fun R => ?_, fun R => ?_, fun R => ?_, fun acc R => ?_⟩
    · rw [pS]; exact List.suffix_refl _
    · rw [pI]; exact List.suffix_refl _
    · rw [pBl]; exact List.suffix_refl _
    · rw [pM]; exact List.suffix_refl _
  | succ f ih =>
    obtain ⟨iS, iI, iB, iM⟩ := ih
    have t1 := tail_suf
    have t2 : ∀ R : List Tk, R.tail.tail <:+ R := fun R => (t1 _).trans (t1 R)
    have t3 : ∀ R : List Tk, R.tail.tail.tail <:+ R := fun R => (t1 _).trans (t2 R)
    refine ⟨fun R => ?_, fun R => ?_, fun R => ?_, fun acc R => ?_⟩
    · rw [pS]
      have hB := suf_of ((iB R.tail.tail).trans (t2 R))
      have hH := suf_of (((suf_parts (8 * R.length + 7)).2.2.2.1 R.tail).trans (t1 R))
      have hK := suf_of (((suf_parts (8 * R.length + 7)).2.2.2.2.1 (textT R) R.tail).trans (t1 R))
      repeat' split
      all_goals first
        | exact List.suffix_refl _
        | exact t1 R
        | exact t2 R
        | exact t3 R
        | exact (iI _).trans (t1 R)
        | exact (suf_pN _ _).trans (t1 R)
        | exact (suf_pN _ _).trans (t2 R)
        | exact (suf_pN _ _).trans (t3 R)
        | exact hB.2 _ (by assumption)
        | exact hB.1 _ _ (by assumption)
        | exact hH.2 _ (by assumption)
        | exact hH.1 _ _ (by assumption)
        | exact (t1 _).trans (hH.1 _ _ (by assumption))
        | exact hK.2 _ (by assumption)
        | exact hK.1 _ _ (by assumption)
        | exact (t1 _).trans (hK.1 _ _ (by assumption))
    · rw [pI]
      have h := suf_of (suf_pE R)
      split
      · next r e => exact h.2 r e
      · next a r e =>
        have hr := h.1 a r e
        have hB := suf_of ((iB r).trans hr)
        split
        · next r' e' => exact hB.2 r' e'
        · next b r' e' =>
          have hr' := hB.1 b r' e'
          split
          · split
            · have hI := suf_of ((iI r'.tail.tail).trans ((t2 r').trans hr'))
              split
              · next q e => exact hI.2 q e
              · next s q e => exact hI.1 s q e
            · have hB := suf_of ((iB r'.tail).trans ((t1 r').trans hr'))
              split
              · next q e => exact hB.2 q e
              · next s q e => exact hB.1 s q e
          · exact hr'
    · rw [pBl]
      split
      · exact (iM _ _).trans (t1 R)
      · exact List.suffix_refl _
    · rw [pM]
      split
      · exact t1 R
      · have h := suf_of (iS R)
        split
        · next r e => exact h.2 r e
        · next s r e => exact (iM _ r).trans (h.1 s r e)
theorem suf_pQ (f : Nat) : ∀ acc R, (pQ f acc R).rest <:+ R := by
  induction f with
  | zero => intro acc R; rw [pQ]; exact List.suffix_refl _
  | succ f ih =>
    intro acc R
    have t1 := tail_suf
    have t2 : ∀ R : List Tk, R.tail.tail <:+ R := fun R => (t1 _).trans (t1 R)
    rw [pQ]
    repeat' split
    all_goals first
      | exact List.suffix_refl _
      | exact t1 R
      | exact t2 R
      | exact (ih _ _).trans (t2 R)
theorem suf_pPs (R : List Tk) : (pPs R).rest <:+ R := by
  unfold pPs
  have t2 : R.tail.tail <:+ R := (tail_suf _).trans (tail_suf R)
  repeat' split
  all_goals first
    | exact List.suffix_refl _
    | exact t2
    | exact (suf_pQ _ _ _).trans (tail_suf R)
theorem suf_pO (R : List Tk) : (pO R).rest <:+ R := by
  unfold pO
  have h := suf_of ((suf_pPs R.tail).trans (tail_suf R))
  split
  · split
    · next r e => exact h.2 r e
    · next ps r e =>
      have hr := h.1 ps r e
      have hB := suf_of (((suf_stmts (4 * r.length + 4)).2.2.1 r).trans hr)
      split
      · next q e => exact hB.2 q e
      · next b q e => exact hB.1 b q e
  · exact List.suffix_refl _
theorem suf_pD (R : List Tk) : (pD R).rest <:+ R := by
  unfold pD
  have t1 := tail_suf
  have t2 : ∀ R : List Tk, R.tail.tail <:+ R := fun R => (t1 _).trans (t1 R)
  have t3 : ∀ R : List Tk, R.tail.tail.tail <:+ R := fun R => (t1 _).trans (t2 R)
  repeat' split
  all_goals first
    | exact List.suffix_refl _
    | exact t1 R
    | exact t2 R
    | exact t3 R
theorem suf_len {R r : List Tk} (h : r <:+ R) : r.length ≤ R.length := h.length_le
end Go.Proofs.YthfjkdgaiaokdaaDoor
