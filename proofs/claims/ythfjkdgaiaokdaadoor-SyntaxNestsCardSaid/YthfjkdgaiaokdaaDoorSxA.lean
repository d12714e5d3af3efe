/- Syntax trees and what the checks and the printer compute of them, in plain Lean. No condition. -/
import Derived.Test.YthfjkdgaiaokdaaDoorBase
set_option linter.unusedVariables false
set_option linter.unusedSimpArgs false
namespace Go.Proofs.YthfjkdgaiaokdaaDoor

abbrev Str := List UInt8
/-- An expression. -/
inductive Ex where
  | mk (kind num : Int) (name meth : Str) (args orr : List Ex)
/-- A statement. -/
inductive St where
  | mk (kind : Int) (name : Str) (num : Int) (expr : Ex) (body els : List St)
structure Oper' where
  name : Str
  params : List Str
  body : List St
structure Decl' where
  name : Str
  kind : Str
structure Prog' where
  stores : List Decl'
  opers : List Oper'
namespace Ex
def kind : Ex → Int | mk k _ _ _ _ _ => k
def num : Ex → Int | mk _ n _ _ _ _ => n
def name : Ex → Str | mk _ _ s _ _ _ => s
def meth : Ex → Str | mk _ _ _ m _ _ => m
def args : Ex → List Ex | mk _ _ _ _ a _ => a
def orr : Ex → List Ex | mk _ _ _ _ _ o => o
end Ex
namespace St
def kind : St → Int | mk k _ _ _ _ _ => k
def name : St → Str | mk _ s _ _ _ _ => s
def num : St → Int | mk _ _ n _ _ _ => n
def expr : St → Ex | mk _ _ _ e _ _ => e
def body : St → List St | mk _ _ _ _ b _ => b
def els : St → List St | mk _ _ _ _ _ e => e
end St
mutual
/-- The number of parts. -/
def Ex.size : Ex → Nat
  | .mk _ _ _ _ a o => 1 + Ex.sizes a + Ex.sizes o
def Ex.sizes : List Ex → Nat
  | [] => 0
  | e :: t => e.size + Ex.sizes t
end
mutual
def St.size : St → Nat
  | .mk _ _ _ e b l => 1 + e.size + St.sizes b + St.sizes l
def St.sizes : List St → Nat
  | [] => 0
  | s :: t => s.size + St.sizes t
end
theorem Ex.sizes_mem {l : List Ex} {e : Ex} (h : e ∈ l) : e.size ≤ Ex.sizes l := by
  induction l with
  | nil => cases h
  | cons a t ih =>
    rw [Ex.sizes]
    rcases List.mem_cons.1 h with rfl | h
    · omega
    · have := ih h; omega
theorem St.sizes_mem {l : List St} {e : St} (h : e ∈ l) : e.size ≤ St.sizes l := by
  induction l with
  | nil => cases h
  | cons a t ih =>
    rw [St.sizes]
    rcases List.mem_cons.1 h with rfl | h
    · omega
    · have := ih h; omega
def str (l : List Nat) : Str := l.map UInt8.ofNat
def kwords : List Str := [[97, 98, 111, 114, 116], [97, 110, 100], [101, 108, 115, 101], [102, 97, 108, 115, 101], [104, 111, 115, 116], [105, 102], [108, 101, 116], [110, 111, 116], [111, 112], [111, 114], [114, 101, 112, 101, 97, 116], [114, 101, 116, 117, 114, 110], [115, 116, 111, 114, 101], [116, 114, 117, 101]]
/-- The binary operators. -/
def sgns : List Str := [[43], [45], [42], [47], [37], [61, 61], [33, 61], [60], [60, 61], [62], [62, 61], [97, 110, 100], [111, 114]]
def letB (b : UInt8) : Bool := b == 95 || (97 ≤ b && b ≤ 122) || (65 ≤ b && b ≤ 90)
def digB (b : UInt8) : Bool := 48 ≤ b && b ≤ 57
/-- The letters of a name, from the index i on. -/
def nameL : Nat → Str → Bool
  | _, [] => true
  | i, b :: t => (letB b || (i != 0 && digB b)) && nameL (i + 1) t
/-- A valid name. -/
def nameOk (s : Str) : Bool := nameL 0 s && decide (1 ≤ s.length) && decide (s.length ≤ 24) && !kwords.contains s
/-- An expression has exactly the fields of its kind. -/
def formE (e : Ex) : Bool :=
  if e.kind = 0 ∨ e.kind = 1 then e.name == [] && e.meth == [] && decide (e.args.length = 0) && decide (e.orr.length = 0)
  else if e.kind = 2 then decide (e.num = 0) && e.meth == [] && decide (e.args.length = 0) && decide (e.orr.length = 0)
  else if e.kind = 3 ∨ e.kind = 4 then decide (e.num = 0) && e.name == [] && e.meth == [] && decide (e.args.length = 1) && decide (e.orr.length = 0)
  else if e.kind = 5 then decide (e.num = 0) && e.name == [] && sgns.contains e.meth && decide (e.args.length = 2) && decide (e.orr.length = 0)
  else if e.kind = 6 then decide (e.num = 0) && decide (e.args.length ≤ 4) && decide (e.orr.length ≤ 1)
  else decide (e.num = 0) && e.meth == [] && decide (e.args.length ≤ 4) && decide (e.orr.length = 0)
/-- The error of an expression before its parts are looked at. -/
def headE (deep : Int) (e : Ex) : Int :=
  if 12 < deep then 18 else if e.kind < 0 ∨ 7 < e.kind then 2 else if formE e = false then 5
  else if ((e.kind = 2 ∨ 6 ≤ e.kind) ∧ nameOk e.name = false) ∨ (e.kind = 6 ∧ nameOk e.meth = false) then 16
  else if e.kind ≤ 1 ∧ (e.num < 0 ∨ (e.kind = 1 ∧ 1 < e.num)) then 3 else 0
mutual
/-- The first error of an expression. -/
def chkE (deep : Int) : Ex → Int
  | .mk k n s m a o => if headE deep (.mk k n s m a o) ≠ 0 then headE deep (.mk k n s m a o) else if chkEs (deep + 1) a ≠ 0 then chkEs (deep + 1) a else chkEs (deep + 1) o
def chkEs (deep : Int) : List Ex → Int
  | [] => 0
  | e :: t => if chkE deep e ≠ 0 then chkE deep e else chkEs deep t
end
def hasX (kind : Int) : Bool := decide (kind ≠ 4 ∧ kind ≠ 6)
def emptyE (e : Ex) : Bool := decide (e.kind = 0) && decide (e.num = 0) && e.name == [] && e.meth == [] && decide (e.args.length = 0) && decide (e.orr.length = 0)
/-- The error of a statement before its parts are looked at. -/
def headS (deep : Int) (k : Int) (s : Str) (n : Int) (e : Ex) (nb nl : Nat) : Int :=
  if 12 < deep then 18 else if k < 0 ∨ 6 < k then 2
  else if (¬ k ≤ 1 ∧ s ≠ []) ∨ (¬ (k = 4 ∨ k = 6) ∧ n ≠ 0) ∨ (k ≠ 3 ∧ 0 < nl) ∨ (k ≠ 3 ∧ k ≠ 4 ∧ 0 < nb) ∨ (hasX k = false ∧ emptyE e = false) ∨ (k = 2 ∧ e.kind ≠ 6 ∧ e.kind ≠ 7) then 5
  else if k ≤ 1 ∧ nameOk s = false then 16
  else if n < 0 ∨ (k = 4 ∧ 64 < n) then 3 else 0
mutual
def chkS (deep : Int) : St → Int
  | .mk k s n e b l => if headS deep k s n e b.length l.length ≠ 0 then headS deep k s n e b.length l.length
    else if hasX k = true ∧ chkE 1 e ≠ 0 then chkE 1 e else if chkSs (deep + 1) b ≠ 0 then chkSs (deep + 1) b else chkSs (deep + 1) l
def chkSs (deep : Int) : List St → Int
  | [] => 0
  | e :: t => if chkS deep e ≠ 0 then chkS deep e else chkSs deep t
end
/-- Names, each of which must be valid and new. -/
def freshL : List Str → List Str → Int
  | _, [] => 0
  | met, s :: t => if nameOk s = false then 16 else if met.contains s = true then 11 else freshL (met ++ [s]) t
def storesL : List Str → List Decl' → Int
  | _, [] => 0
  | met, d :: t => if nameOk d.name = false ∨ nameOk d.kind = false then 16 else if met.contains d.name = true then 11 else storesL (met ++ [d.name]) t
def opersL : List Str → List Oper' → Int
  | _, [] => 0
  | met, o :: t => if nameOk o.name = false then 16 else if met.contains o.name = true then 11 else if 4 < o.params.length then 15
    else if freshL [] o.params ≠ 0 then freshL [] o.params else if chkSs 1 o.body ≠ 0 then chkSs 1 o.body else opersL (met ++ [o.name]) t
/-- syntax.Check's answer. -/
def chkP (p : Prog') : Int :=
  if 12 < p.stores.length ∨ 32 < p.opers.length then 15 else if storesL [] p.stores ≠ 0 then storesL [] p.stores else opersL [] p.opers
end Go.Proofs.YthfjkdgaiaokdaaDoor
