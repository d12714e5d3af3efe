/- General facts on memory that all walks of this seat use: a slice that reads as a list of cells, kept over growth of memory. No condition. Syntax trees and what the checks and the printer compute of them, in plain Lean. No condition. The lexer's reading of a source text, as Lean functions over lists of bytes. No condition. A parser of programs over tokens, as Lean functions with fuel; what it leaves is an end of what it was given. No condition. Decimal numerals, read back. No condition. What the parser leaves is an end of what it was given; more fuel changes no result that is one. No condition. Syntax trees in memory: what it is for cells to hold one; kept over growth of memory. No condition. Contracts of Go's library at this translation, out of the kit's shelf. No condition beyond the contracts' own. The walks of lexer.Keywords, syntax.Binaries, slices.Contains on them, syntax.isName. Conditions: the table of keywords is laid (SxW). The walks of syntax.rules, Binaries, hasName, hasExpr, hasNum. No condition. The walk of syntax.rule.form (printed by wip/gensxe.py): the kinds but that of a binary operator. No condition. -/
import Derived.WalkKit
import Derived.WalkSpells
import Derived.WalkLawsBesides
import Derived.Deep.AppendLies
import Derived.Deep.Draws
import Derived.Maps.AppendAt
import Derived.Lib.Hide
import Derived.Deep.QuietTactic
import Derived.BigQuiet
import Derived.Lib.Strings
import Derived.Lib.IndexLaws
import Derived.Lib.ParseIntB
import Derived.Laws.RangeAny
import Derived.Lib.ItoaNum
import Derived.Deep.MidRow
import Derived.Shelf.Strings.Builder1
import Derived.Shelf.Strings.Builder2
import Derived.Shelf.Strings.OnBuilder
import Derived.Shelf.Strings.BuilderF
import Derived.Shelf.Strings.BuilderK
import Derived.Shelf.Strings.Builder2Cap
import Derived.Shelf.Strconv.Itoa0
import Derived.Shelf.Strconv.Itoa1
import Derived.Shelf.LaysM
import Derived.Shelf.Strconv.Itoa2
import Derived.Shelf.Strconv.Itoa3
import Derived.Shelf.Strconv.Itoa4
import Derived.Shelf.Strings.Prefix
import Derived.Shelf.Bits.Mul64
import Derived.Shelf.Strings.BuilderCap
import Derived.Shelf.Slices.Turned
import Derived.Ground.Names2Prog
import Derived.Shelf.Slices.Clone
import Derived.Ground.SlgnProg
import Derived.Shelf.SlicesE.Clone
import Derived.Test.YtkakbidllpjopaaGreatDoorProg
import Derived.Lib.SmallJoins
import Derived.Laws.IdiomStrings
import Derived.Lib.SliceRun
import Derived.Great.BuildSlice
set_option linter.unusedVariables false
set_option linter.unusedSimpArgs false
set_option maxRecDepth 100000
set_option maxHeartbeats 12800000
namespace Go.Proofs.YtkakbidllpjopaaGreatDoor
open Go.RowKit
theorem hI {p : Prop} (h : p) : Hid p := Lib.hid h
theorem sA {α : Type} (l : List α) (i : Nat) (a : α) : l.toArray.setIfInBounds i a = (l.set i a).toArray := List.setIfInBounds_toArray ..
theorem sB {α : Type} (x : α) (l : List α) (a : α) : (x :: l).set 0 a = a :: l := rfl
theorem sC {α : Type} (x : α) (l : List α) (i : Nat) (a : α) : (x :: l).set (i + 1) a = x :: l.set i a := rfl
theorem bz_of {w w0 W wz : World} (h : Below w.heap.size w w0) (B : Below w0.heap.size w0 W) (q : W.grownBy wz (some w.heap.size)) : Below w.heap.size w wz := by
 have e := Nat.le_trans h.size B.size
 exact (h.trans (B.mono h.size)).trans ⟨q.os, q.tape, q.output, q.size, fun k hk => q.block k (by omega) (fun e => by have := Option.some.inj e; omega)⟩
/-- The slice with address A and n elements of 'size' cells holds the cells xs, in a block that meets S. -/
def Reads (w : World) (S : Nat -> Prop) (size : Nat) (A : Option Addr) (n : Nat) (xs : List Value) : Prop :=
 xs.length = n * size /\ (0 < n -> ∃ b o, A = some ⟨b, o, none⟩ /\ b < w.heap.size /\ S b /\ ∀ j u, xs[j]? = some u -> w.cell? ⟨b, o + j, none⟩ = some u)
section
variable {w w' : World} {S S' : Nat -> Prop} {size n : Nat} {A : Option Addr} {xs : List Value}
theorem add_mk (b o j : Nat) : (⟨b, o, none⟩ : Addr).add j = ⟨b, o + j, none⟩ := by
 unfold Addr.add; split
 ·rename_i h; subst h; rfl
 rfl
theorem Reads.of_own {base : Nat} {e : TypeId} {c : Nat} (h : w.ownsRow base e size (.slice A n c) n xs) (hS : ∀ b, base <= b -> S b) : Reads w S size A n xs := by
 refine ⟨h.1, fun hn => ?_⟩
 obtain ⟨g, cap, hv, hbg, hlt⟩ := h.form hn
 have hA : A = some ⟨g, 0, none⟩ := by injection hv
 subst hA
 refine ⟨_, _, rfl, hlt, hS _ hbg, fun j u hu => ?_⟩
 rw [<- add_mk]
 exact h.cells (g := g) rfl j u hu
/-- The slice value that owns a row, as a value whose cells can be read. -/
theorem own_reads {base : Nat} {e : TypeId} {v : Value} (h : w.ownsRow base e size v n xs) (hS : ∀ b, base <= b -> S b) : ∃ A c, v = .slice A n c /\ n <= c /\ (A = none -> c = 0) /\ Reads w S size A n xs := by
 rcases h.2 with ⟨rfl, rfl⟩ | ⟨g, cap, cur, rfl, _, _, hnc, _⟩
 ·exact ⟨none, 0, rfl, Nat.le_refl _, fun _ => rfl, .of_own h hS⟩
 exact ⟨some ⟨g, 0, none⟩, cap, rfl, hnc, by simp, .of_own h hS⟩
theorem Reads.new (w : World) (cs : Array Value) (t : TypeId) (h : cs.size = n * size) (hS : S w.heap.size) : Reads (w.alloc (.cells cs t)) S size (some ⟨w.heap.size, 0, none⟩) n cs.toList := by
 refine ⟨by simpa using h, fun _ => ⟨_, _, rfl, by simp, hS, fun j u hu => ?_⟩⟩
 rw [World.cell?_alloc_at _ _ _ _ rfl]
 simpa using hu
theorem Reads.holds (h : Reads w S size A n xs) (hn : 0 < n) : ∃ b, A = some b /\ ∀ j u, xs[j]? = some u -> w.cell? (b.add j) = some u := by
 obtain ⟨b, o, e, _, _, hc⟩ := h.2 hn
 exact ⟨_, e, fun j u hu => by rw [add_mk]; exact hc j u hu⟩
theorem Reads.nil_of (h : Reads w S size A 0 xs) : xs = [] := List.eq_nil_of_length_eq_zero (by simpa using h.1)
end
theorem below_new {w w' : World} {o : Obj} (h : Below (w.alloc o).heap.size (w.alloc o) w') : Below w.heap.size w w' :=
 ((Below.refl _ _).alloc (Nat.le_refl _) o).trans (h.mono (by simp))
/-- append onto a row of the call's own, from whatever source. -/
theorem run_append_of_nil {P : Program} (w : World) (base : Nat) (t ty e : TypeId) (i : TypeInfo) (size : Nat) (ht : P.underlying t = some (.slice e)) (hi : P.info? e = some i)
  (v : Value) (n : Nat) (xs : List Value) (hown : w.ownsRow base e size v n xs) (c : Nat) : (Builtin.append_ #[t, t] ty #[v, .slice none 0 c]).run P w = .ok v w := by
 rcases hown.2 with ⟨rfl, rfl⟩ | ⟨g, cap, cur, rfl, _, _, hnc, _⟩
 ·simp [Builtin.append_, run_underlying ht, sizeOf, typeInfo, hi, Builtin.lenOf, Builtin.firstCells]
 simp [Builtin.append_, run_underlying ht, sizeOf, typeInfo, hi, Builtin.lenOf, Builtin.firstCells, hnc, storeCells]
theorem run_append_any {P : Program} (w : World) (base : Nat) (t ty e : TypeId) (i : TypeInfo) (z : Value) (size bytes : Nat) (ht : P.underlying t = some (.slice e)) (hi : P.info? e = some i) (hz : i.zero = some z)
  (hsize : i.size = size) (hby : i.bytes = bytes) (hzs : z.cells.size = size) (hsz : 0 < size)
  (v : Value) (n : Nat) (xs : List Value) (hown : w.ownsRow base e size v n xs)
  (S : Nat -> Prop) (A : Option Addr) (m c : Nat) (news : List Value) (hr : Reads w S size A m news) (h1 : ∀ u ∈ news, u.oneCell' = true)
  (h63 : n + m <= maxLen) (hbytes : (n + m) * bytes <= 140737488355328) (hbase : base <= w.heap.size) :
  ∃ v' w', (Builtin.append_ #[t, t] ty #[v, .slice A m c]).run P w = .ok v' w' /\ w'.ownsRow base e size v' (n + m) (xs ++ news) /\ w.grownBy w' v.ownBlock /\
   (v'.ownBlock = v.ownBlock ∨ v'.ownBlock = some w.heap.size) := by
 rcases A with _ | ad
 ·have hm : m = 0 := by
   rcases Nat.eq_zero_or_pos m with h0 | h0
   ·exact h0
   obtain ⟨b, o, h, _, _⟩ := hr.2 h0
   cases h
  subst hm
  obtain rfl := hr.nil_of
  exact ⟨v, w, run_append_of_nil w base t ty e i size ht hi v n xs hown c, by simpa using hown, World.grownBy.refl w _, .inl rfl⟩
 have hcells : ∀ j u, news[j]? = some u -> w.cell? (ad.add j) = some u := by
  intro j u hu
  rcases Nat.eq_zero_or_pos m with h0 | h0
  ·subst h0
   obtain rfl := hr.nil_of
   simp at hu
  obtain ⟨ad', h, hc⟩ := hr.holds h0
  injection h with h
  subst h
  exact hc j u hu
 obtain ⟨v', w', hrun, h2, h3, _, h5⟩ := run_append_own_at (P := P) w base t ty e i z size bytes ht hi hz hsize hby hzs hsz v n xs hown ad m c news hr.1 hcells h1 h63 hbytes hbase
 exact ⟨v', w', hrun, h2, h3, h5⟩
theorem wpList_append_any {P : Program} {w : World} {ops : Array Oper} {rest : List Oper} {o : Oper} {a : Act} {Q : Exit -> Act -> World -> Prop} (hgd : o.guard = none) (s x : Operand) (t : TypeId)
  (ho : o.op = .call { callee := .builtin .append, args := #[s, x], argTypes := #[t, t] })
  (base : Nat) (e : TypeId) (i : TypeInfo) (z : Value) (size bytes : Nat) (ht : P.underlying t = some (.slice e)) (hi : P.info? e = some i) (hz : i.zero = some z)
  (hsize : i.size = size) (hby : i.bytes = bytes) (hzs : z.cells.size = size) (hsz : 0 < size)
  (v : Value) (n : Nat) (xs : List Value) (hs : a.eval s = v) (hown : w.ownsRow base e size v n xs)
  (S : Nat -> Prop) (A : Option Addr) (m c : Nat) (news : List Value) (hx : a.eval x = .slice A m c) (hr : Reads w S size A m news) (h1 : ∀ u ∈ news, u.oneCell' = true)
  (h63 : n + m <= maxLen) (hbytes : (n + m) * bytes <= 140737488355328) (hbase : base <= w.heap.size)
  (h : ∀ v' w', w'.ownsRow base e size v' (n + m) (xs ++ news) -> w.grownBy w' v.ownBlock -> (v'.ownBlock = v.ownBlock ∨ v'.ownBlock = some w.heap.size) -> wpList P ops Q rest (a.put o.dst v') w') : wpList P ops Q (o :: rest) a w :=
 wpList_plain hgd fun _ hK => by
  obtain ⟨v', w', hrun, h2, h3, h4⟩ := run_append_any (P := P) w base t o.type e i z size bytes ht hi hz hsize hby hzs hsz v n xs hown S A m c news hr h1 h63 hbytes hbase
  unfold Oper.wp execOp
  simp only [ho, resolve, invoke, builtin, Sem.run_bind, Sem.run_pure, Result.andThen_ok, List.map_toArray, List.map_cons, List.map_nil, hs, hx, hrun]
  exact hK _ _ (h v' w' h2 h3 h4)
abbrev Str := List UInt8
/-- An expression. -/
inductive Ex where
 | mk (kind num : Int) (name meth : Str) (args orr : List Ex)
/-- A statement. -/
inductive St where
 | mk (kind : Int) (name : Str) (num : Int) (expr : Ex) (body els : List St)
structure Oper' where
 name : Str
 params : List Str
 body : List St
structure Decl' where
 name : Str
 kind : Str
structure Prog' where
 stores : List Decl'
 opers : List Oper'
namespace Ex
def kind : Ex -> Int | mk k _ _ _ _ _ => k
def num : Ex -> Int | mk _ n _ _ _ _ => n
def name : Ex -> Str | mk _ _ s _ _ _ => s
def meth : Ex -> Str | mk _ _ _ m _ _ => m
def args : Ex -> List Ex | mk _ _ _ _ a _ => a
def orr : Ex -> List Ex | mk _ _ _ _ _ o => o
end Ex
namespace St
def kind : St -> Int | mk k _ _ _ _ _ => k
def body : St -> List St | mk _ _ _ _ b _ => b
def els : St -> List St | mk _ _ _ _ _ e => e
end St
mutual
/-- The number of parts. -/
def Ex.size : Ex -> Nat
 | .mk _ _ _ _ a o => 1 + Ex.sizes a + Ex.sizes o
def Ex.sizes : List Ex -> Nat
 | [] => 0
 | e :: t => e.size + Ex.sizes t
end
mutual
def St.size : St -> Nat
 | .mk _ _ _ e b l => 1 + e.size + St.sizes b + St.sizes l
def St.sizes : List St -> Nat
 | [] => 0
 | s :: t => s.size + St.sizes t
end
theorem Ex.sizes_mem {l : List Ex} {e : Ex} (h : e ∈ l) : e.size <= Ex.sizes l := by
 induction l with
 | nil => cases h
 | cons a t ih =>
  rw [Ex.sizes]
  rcases List.mem_cons.1 h with rfl | h
  ·omega
  have := ih h; omega
theorem St.sizes_mem {l : List St} {e : St} (h : e ∈ l) : e.size <= St.sizes l := by
 induction l with
 | nil => cases h
 | cons a t ih =>
  rw [St.sizes]
  rcases List.mem_cons.1 h with rfl | h
  ·omega
  have := ih h; omega
def kwords : List Str := [[97, 98, 111, 114, 116], [97, 110, 100], [101, 108, 115, 101], [102, 97, 108, 115, 101], [104, 111, 115, 116], [105, 102], [108, 101, 116], [110, 111, 116], [111, 112], [111, 114], [114, 101, 112, 101, 97, 116], [114, 101, 116, 117, 114, 110], [115, 116, 111, 114, 101], [116, 114, 117, 101]]
/-- The binary operators. -/
def sgns : List Str := [[43], [45], [42], [47], [37], [61, 61], [33, 61], [60], [60, 61], [62], [62, 61], [97, 110, 100], [111, 114]]
def letB (b : UInt8) : Bool := b == 95 || (97 <= b && b <= 122) || (65 <= b && b <= 90)
def digB (b : UInt8) : Bool := 48 <= b && b <= 57
/-- The letters of a name, from the index i on. -/
def nameL : Nat -> Str -> Bool
 | _, [] => true
 | i, b :: t => (letB b || (i != 0 && digB b)) && nameL (i + 1) t
/-- A valid name. -/
def nameOk (s : Str) : Bool := nameL 0 s && decide (1 <= s.length) && decide (s.length <= 24) && !kwords.contains s
/-- An expression has exactly the fields of its kind. -/
def formE (e : Ex) : Bool :=
 if e.kind = 0 ∨ e.kind = 1 then e.name == [] && e.meth == [] && decide (e.args.length = 0) && decide (e.orr.length = 0)
 else if e.kind = 2 then decide (e.num = 0) && e.meth == [] && decide (e.args.length = 0) && decide (e.orr.length = 0)
 else if e.kind = 3 ∨ e.kind = 4 then decide (e.num = 0) && e.name == [] && e.meth == [] && decide (e.args.length = 1) && decide (e.orr.length = 0)
 else if e.kind = 5 then decide (e.num = 0) && e.name == [] && sgns.contains e.meth && decide (e.args.length = 2) && decide (e.orr.length = 0)
 else if e.kind = 6 then decide (e.num = 0) && decide (e.args.length <= 4) && decide (e.orr.length <= 1)
 else decide (e.num = 0) && e.meth == [] && decide (e.args.length <= 4) && decide (e.orr.length = 0)
/-- The error of an expression before its parts are looked at. -/
def headE (deep : Int) (e : Ex) : Int :=
 if 12 < deep then 18 else if e.kind < 0 ∨ 7 < e.kind then 2 else if formE e = false then 5
 else if ((e.kind = 2 ∨ 6 <= e.kind) /\ nameOk e.name = false) ∨ (e.kind = 6 /\ nameOk e.meth = false) then 16
 else if e.kind <= 1 /\ (e.num < 0 ∨ (e.kind = 1 /\ 1 < e.num)) then 3 else 0
mutual
/-- The first error of an expression. -/
def chkE (deep : Int) : Ex -> Int
 | .mk k n s m a o => if headE deep (.mk k n s m a o) ≠ 0 then headE deep (.mk k n s m a o) else if chkEs (deep + 1) a ≠ 0 then chkEs (deep + 1) a else chkEs (deep + 1) o
def chkEs (deep : Int) : List Ex -> Int
 | [] => 0
 | e :: t => if chkE deep e ≠ 0 then chkE deep e else chkEs deep t
end
def hasX (kind : Int) : Bool := decide (kind ≠ 4 /\ kind ≠ 6)
def emptyE (e : Ex) : Bool := decide (e.kind = 0) && decide (e.num = 0) && e.name == [] && e.meth == [] && decide (e.args.length = 0) && decide (e.orr.length = 0)
/-- The error of a statement before its parts are looked at. -/
def headS (deep : Int) (k : Int) (s : Str) (n : Int) (e : Ex) (nb nl : Nat) : Int :=
 if 12 < deep then 18 else if k < 0 ∨ 6 < k then 2
 else if (¬ k <= 1 /\ s ≠ []) ∨ (¬ (k = 4 ∨ k = 6) /\ n ≠ 0) ∨ (k ≠ 3 /\ 0 < nl) ∨ (k ≠ 3 /\ k ≠ 4 /\ 0 < nb) ∨ (hasX k = false /\ emptyE e = false) ∨ (k = 2 /\ e.kind ≠ 6 /\ e.kind ≠ 7) then 5
 else if k <= 1 /\ nameOk s = false then 16
 else if n < 0 ∨ (k = 4 /\ 64 < n) then 3 else 0
mutual
def chkS (deep : Int) : St -> Int
 | .mk k s n e b l => if headS deep k s n e b.length l.length ≠ 0 then headS deep k s n e b.length l.length
  else if hasX k = true /\ chkE 1 e ≠ 0 then chkE 1 e else if chkSs (deep + 1) b ≠ 0 then chkSs (deep + 1) b else chkSs (deep + 1) l
def chkSs (deep : Int) : List St -> Int
 | [] => 0
 | e :: t => if chkS deep e ≠ 0 then chkS deep e else chkSs deep t
end
/-- Names, each of which must be valid and new. -/
def freshL : List Str -> List Str -> Int
 | _, [] => 0
 | met, s :: t => if nameOk s = false then 16 else if met.contains s = true then 11 else freshL (met ++ [s]) t
def storesL : List Str -> List Decl' -> Int
 | _, [] => 0
 | met, d :: t => if nameOk d.name = false ∨ nameOk d.kind = false then 16 else if met.contains d.name = true then 11 else storesL (met ++ [d.name]) t
def opersL : List Str -> List Oper' -> Int
 | _, [] => 0
 | met, o :: t => if nameOk o.name = false then 16 else if met.contains o.name = true then 11 else if 4 < o.params.length then 15
  else if freshL [] o.params ≠ 0 then freshL [] o.params else if chkSs 1 o.body ≠ 0 then chkSs 1 o.body else opersL (met ++ [o.name]) t
/-- syntax.Check's answer. -/
def chkP (p : Prog') : Int :=
 if 12 < p.stores.length ∨ 32 < p.opers.length then 15 else if storesL [] p.stores ≠ 0 then storesL [] p.stores else opersL [] p.opers
end Go.Proofs.YtkakbidllpjopaaGreatDoor
namespace Go.Proofs.YtkakbidllpjopaaGreatDoor.Lx
open Go.RowKit
/-- A string out of its bytes. -/
def bs (l : List UInt8) : ByteArray := ⟨⟨l⟩⟩
theorem bs_eta (s : ByteArray) : bs s.data.toList = s := by obtain ⟨⟨l⟩⟩ := s; rfl
theorem bs_list (l : List UInt8) : (bs l).data.toList = l := rfl
theorem bs_size (l : List UInt8) : (bs l).size = l.length := rfl
theorem bs_extract (l : List UInt8) (a b : Nat) : (bs l).extract a b = bs ((l.drop a).take (b - a)) := by
 rw [<- bs_eta ((bs l).extract a b), <- Lib.toList_data, Lib.extract_toList, bs_list]
theorem bs_tail (l : List UInt8) (a : Nat) : (bs l).extract a (bs l).size = bs (l.drop a) := by
 rw [bs_extract, bs_size, List.take_of_length_le (by simp)]
theorem bs_head (l : List UInt8) (b : Nat) : (bs l).extract 0 b = bs (l.take b) := by
 rw [bs_extract, List.drop_zero, Nat.sub_zero]
theorem bs_inj {a b : List UInt8} (h : bs a = bs b) : a = b := by
 have := congrArg (fun s => s.data.toList) h
 exact this
def digN (n : Nat) : Bool := decide (48 <= n) && decide (n <= 57)
def letN (n : Nat) : Bool := decide (n = 95) || (decide (97 <= n) && decide (n <= 122)) || (decide (65 <= n) && decide (n <= 90))
def partN (n : Nat) : Bool := letN n || digN n
theorem part_low {n : Nat} (h : partN n = true) : n < 128 := by
 unfold partN letN digN at h
 simp at h
 omega
def partB (b : UInt8) : Bool := partN b.toNat
def digB (b : UInt8) : Bool := digN b.toNat
def wsB (b : UInt8) : Bool := b == 32 || b == 9 || b == 10 || b == 13
/-- The leading letters and digits. -/
def word (l : List UInt8) : List UInt8 := l.takeWhile partB
/-- The length of the leading white space and comments (true: within a comment). -/
def blankA : Bool -> List UInt8 -> Nat
 | _, [] => 0
 | false, b :: t => if wsB b = true then blankA false t + 1 else if b = 35 then blankA true t + 1 else 0
 | true, b :: t => if b = 10 then blankA false t + 1 else blankA true t + 1
def kws : List (List UInt8) := [[97, 98, 111, 114, 116], [97, 110, 100], [101, 108, 115, 101], [102, 97, 108, 115, 101], [104, 111, 115, 116], [105, 102], [108, 101, 116], [110, 111, 116], [111, 112], [111, 114], [114, 101, 112, 101, 97, 116], [114, 101, 116, 117, 114, 110], [115, 116, 111, 114, 101], [116, 114, 117, 101]]
def sgs : List (List UInt8) := [[33, 61], [61, 61], [60, 61], [62, 61], [60], [62], [61], [43], [45], [42], [47], [37], [40], [41], [123], [125], [44], [46], [59]]
def numV (l : List UInt8) : Nat := l.foldl (fun n b => 10 * n + (b.toNat - 48)) 0
def headDig : List UInt8 -> Bool
 | [] => false
 | b :: _ => digB b
def numE (l : List UInt8) : Int := if l.all digB = true then (if 1 < l.length /\ l.head? = some 48 then 5 else if numV l <= 9223372036854775807 then 0 else 3) else 5
structure Tok where
 kind : Int
 text : List UInt8
 off : Nat
deriving DecidableEq
/-- The token at the beginning: its kind, its text, the error. -/
def nextT (l : List UInt8) : Int × List UInt8 × Int :=
 if headDig (word l) = true then (2, word l, numE (word l))
 else if kws.contains (word l) = true then (4, word l, 0)
 else if 24 < (word l).length then (0, [], 16)
 else if word l ≠ [] then (1, word l, 0)
 else match sgs.find? (fun x => x.isPrefixOf l) with
  | some x => (3, x, 0)
  | none => (0, [], 5)
/-- The tokens of the rest l of a text, which begins at offset k with a token; or an offset and an error. -/
def scanG : Nat -> Nat -> List UInt8 -> Except (Nat × Int) (List Tok)
 | 0, _, _ => .ok []
 | f + 1, k, l =>
  if l = [] then .ok [] else
  if (nextT l).2.2 ≠ 0 then .error (k, (nextT l).2.2) else
  match scanG f (k + (nextT l).2.1.length + blankA false (l.drop (nextT l).2.1.length)) ((l.drop (nextT l).2.1.length).drop (blankA false (l.drop (nextT l).2.1.length))) with
  | .error e => .error e
  | .ok ts => .ok (⟨(nextT l).1, (nextT l).2.1, k⟩ :: ts)
def scanR (l : List UInt8) : Except (Nat × Int) (List Tok) := scanG (l.length + 1) (blankA false l) (l.drop (blankA false l))
/-- What Scan answers: the tokens, the offset, the error. -/
def scanL (l : List UInt8) : List Tok × Nat × Int :=
 if 65536 < l.length then ([], 0, 7) else
 match scanR l with
 | .error (k, e) => ([], k, e)
 | .ok ts => (ts ++ [⟨0, [], l.length⟩], 0, 0)
theorem blank_le (l : List UInt8) : ∀ c, blankA c l <= l.length := by
 induction l with
 | nil => intro c; cases c <;> exact Nat.le_refl _
 | cons b t ih =>
  have h1 := ih false
  have h2 := ih true
  intro c
  cases c <;> simp only [blankA, List.length_cons] <;> repeat' split
  all_goals omega
theorem word_prefix (l : List UInt8) : word l <+: l := List.takeWhile_prefix _
theorem word_take (l : List UInt8) : l.take (word l).length = word l := (List.prefix_iff_eq_take.1 (word_prefix l)).symm
theorem sgs_ne {x : List UInt8} (h : x ∈ sgs) : x ≠ [] := by
 intro e
 subst e
 revert h
 decide
theorem headDig_ne {l : List UInt8} (h : headDig l = true) : l ≠ [] := by
 intro e
 subst e
 cases h
theorem kws_ne {x : List UInt8} (h : kws.contains x = true) : x ≠ [] := by
 intro e
 subst e
 revert h
 decide
/-- A token is a beginning of the text, and not empty. -/
theorem next_text {l : List UInt8} (h : (nextT l).2.2 = 0) : (nextT l).2.1 <+: l /\ (nextT l).2.1 ≠ [] := by
 unfold nextT at *
 split
 ·next h1 => exact ⟨word_prefix l, headDig_ne h1⟩
 split
 ·next h2 => exact ⟨word_prefix l, kws_ne h2⟩
 split
 ·next h1 h2 h3 => rw [if_neg h1, if_neg h2, if_pos h3] at h; cases h
 split
 ·next h4 => exact ⟨word_prefix l, h4⟩
 next h1 h2 h3 h4 =>
 rw [if_neg h1, if_neg h2, if_neg h3, if_neg h4] at h
 split at h
 ·next x hx =>
  have := List.find?_some hx
  exact ⟨List.isPrefixOf_iff_prefix.1 this, sgs_ne (List.mem_of_find?_eq_some hx)⟩
 cases h
/-- With more fuel than bytes the fuel does not matter. -/
theorem scanG_fuel : ∀ (f g k : Nat) (l : List UInt8), l.length < f -> l.length < g -> scanG f k l = scanG g k l := by
 intro f
 induction f with
 | zero => intro g k l h; omega
 | succ f ih =>
  intro g k l hf hg
  cases g with
  | zero => omega
  | succ g =>
   unfold scanG
   by_cases hl : l = []
   ·rw [if_pos hl, if_pos hl]
   rw [if_neg hl, if_neg hl]
   by_cases he : (nextT l).2.2 ≠ 0
   ·rw [if_pos he, if_pos he]
   rw [if_neg he, if_neg he]
   have h0 : (nextT l).2.2 = 0 := Decidable.not_not.1 he
   obtain ⟨h1, h2⟩ := next_text h0
   have h3 := h1.length_le
   have h4 : 0 < (nextT l).2.1.length := List.length_pos_iff.2 h2
   rw [ih g _ _ (by simp only [List.length_drop]; omega) (by simp only [List.length_drop]; omega)]
end Go.Proofs.YtkakbidllpjopaaGreatDoor.Lx
namespace Go.Proofs.YtkakbidllpjopaaGreatDoor
/-- A token: its kind and its text. -/
abbrev Tk := Int × Str
/-- What a function of the parser answers: a result and the rest, or the rest that begins with the wrong token. -/
inductive Res (α : Type) where
 | ok : α -> List Tk -> Res α
 | bad : List Tk -> Res α
deriving DecidableEq
def tNot : Str := [110, 111, 116]
def tTrue : Str := [116, 114, 117, 101]
def tFalse : Str := [102, 97, 108, 115, 101]
def tHost : Str := [104, 111, 115, 116]
def tElse : Str := [101, 108, 115, 101]
def tIf : Str := [105, 102]
def tRep : Str := [114, 101, 112, 101, 97, 116]
def tLet : Str := [108, 101, 116]
def tRet : Str := [114, 101, 116, 117, 114, 110]
def tAbt : Str := [97, 98, 111, 114, 116]
def tSto : Str := [115, 116, 111, 114, 101]
def tOp : Str := [111, 112]
def tAnd : Str := [97, 110, 100]
def tOr : Str := [111, 114]
def isT (s : Str) : List Tk -> Bool
 | [] => false
 | t :: _ => (t.1 == 3 || t.1 == 4) && t.2 == s
def kindT : List Tk -> Int
 | [] => 0
 | t :: _ => t.1
def textT : List Tk -> Str
 | [] => []
 | t :: _ => t.2
/-- The number that digits mean. -/
def numT (s : Str) : Int := ((s.foldl (fun n b => 10 * n + (b.toNat - 48)) 0 : Nat) : Int)
/-- The signs of a level. -/
def sgnsAt : Nat -> List Str
 | 0 => [tOr]
 | 1 => [tAnd]
 | 2 => [[61, 61], [33, 61], [60], [60, 61], [62], [62, 61]]
 | 3 => [[43], [45]]
 | 4 => [[42], [47], [37]]
 | _ => []
def opAt (lv : Nat) : List Tk -> Bool
 | [] => false
 | t :: _ => (t.1 == 3 || t.1 == 4) && (sgnsAt lv).contains t.2
mutual
/-- The expressions of a level. -/
def pB : Nat -> Nat -> List Tk -> Res Ex
 | 0, _, R => .bad R
 | f + 1, lv, R => if 5 <= lv then pU f R else match pB f (lv + 1) R with
  | .bad r => .bad r
  | .ok a r => pC f lv a r
/-- The chain of a level's signs behind the operand a. -/
def pC : Nat -> Nat -> Ex -> List Tk -> Res Ex
 | 0, _, _, R => .bad R
 | f + 1, lv, a, R => if opAt lv R = true then match pB f (lv + 1) R.tail with
   | .bad r => .bad r
   | .ok b r => pC f lv (.mk 5 0 [] (textT R) [a, b] []) r
  else .ok a R
def pU : Nat -> List Tk -> Res Ex
 | 0, R => .bad R
 | f + 1, R =>
  if isT tNot R = true then match pU f R.tail with
   | .bad r => .bad r
   | .ok e r => .ok (.mk 3 0 [] [] [e] []) r
  else if isT [45] R = true then match pU f R.tail with
   | .bad r => .bad r
   | .ok e r => .ok (.mk 4 0 [] [] [e] []) r
  else if isT tTrue R = true then .ok (.mk 1 1 [] [] [] []) R.tail
  else if isT tFalse R = true then .ok (.mk 1 0 [] [] [] []) R.tail
  else if isT [40] R = true then match pB f 0 R.tail with
   | .bad r => .bad r
   | .ok e r => if isT [41] r = true then .ok e r.tail else .bad r
  else if isT tHost R = true then pH f R.tail
  else if kindT R = 2 then .ok (.mk 0 (numT (textT R)) [] [] [] []) R.tail
  else if kindT R = 1 then if isT [46] R.tail = true then pK f (textT R) R.tail else .ok (.mk 2 0 (textT R) [] [] []) R.tail
  else .bad R
/-- A host call behind its keyword. -/
def pH : Nat -> List Tk -> Res Ex
 | 0, R => .bad R
 | f + 1, R => if isT [46] R = true then
   if kindT R.tail = 1 then match pA f R.tail.tail with
    | .bad r => .bad r
    | .ok a r => .ok (.mk 7 0 (textT R.tail) [] a []) r
   else .bad R.tail
  else .bad R
/-- A call behind the store's name n. -/
def pK : Nat -> Str -> List Tk -> Res Ex
 | 0, _, R => .bad R
 | f + 1, n, R => if isT [46] R = true then
   if kindT R.tail = 1 then match pA f R.tail.tail with
    | .bad r => .bad r
    | .ok a r => if isT tElse r = true then match pU f r.tail with
      | .bad r' => .bad r'
      | .ok o r' => .ok (.mk 6 0 n (textT R.tail) a [o]) r'
     else .ok (.mk 6 0 n (textT R.tail) a []) r
   else .bad R.tail
  else .bad R
/-- The arguments with their parentheses. -/
def pA : Nat -> List Tk -> Res (List Ex)
 | 0, R => .bad R
 | f + 1, R => if isT [40] R = true then if isT [41] R.tail = true then .ok [] R.tail.tail else pL f [] R.tail else .bad R
def pL : Nat -> List Ex -> List Tk -> Res (List Ex)
 | 0, _, R => .bad R
 | f + 1, acc, R => match pB f 0 R with
  | .bad r => .bad r
  | .ok e r => if isT [41] r = true then .ok (acc ++ [e]) r.tail else if isT [44] r = true then pL f (acc ++ [e]) r.tail else .bad r
end
/-- An expression, with fuel enough. -/
def pE (R : List Tk) : Res Ex := pB (8 * R.length + 7) 0 R
/-- An expression and a semicolon. -/
def pN (k : Ex -> St) (R : List Tk) : Res St := match pE R with
 | .bad r => .bad r
 | .ok e r => if isT [59] r = true then .ok (k e) r.tail else .bad r
def emE : Ex := .mk 0 0 [] [] [] []
mutual
def pS : Nat -> List Tk -> Res St
 | 0, R => .bad R
 | f + 1, R =>
  if isT tIf R = true then pI f R.tail
  else if isT tRep R = true then if kindT R.tail = 2 then match pBl f R.tail.tail with
    | .bad r => .bad r
    | .ok b r => .ok (.mk 4 [] (numT (textT R.tail)) emE b []) r
   else .bad R.tail
  else if isT tLet R = true then if kindT R.tail = 1 then if isT [61] R.tail.tail = true then pN (fun e => .mk 0 (textT R.tail) 0 e [] []) R.tail.tail.tail else .bad R.tail.tail else .bad R.tail
  else if isT tRet R = true then pN (fun e => .mk 5 [] 0 e [] []) R.tail
  else if isT tAbt R = true then if kindT R.tail = 2 then if isT [59] R.tail.tail = true then .ok (.mk 6 [] (numT (textT R.tail)) emE [] []) R.tail.tail.tail else .bad R.tail.tail else .bad R.tail
  else if isT tHost R = true then match pH (8 * R.length + 7) R.tail with
   | .bad r => .bad r
   | .ok e r => if isT [59] r = true then .ok (.mk 2 [] 0 e [] []) r.tail else .bad r
  else if kindT R = 1 then
   if isT [46] R.tail = true then match pK (8 * R.length + 7) (textT R) R.tail with
    | .bad r => .bad r
    | .ok e r => if isT [59] r = true then .ok (.mk 2 [] 0 e [] []) r.tail else .bad r
   else if isT [61] R.tail = true then pN (fun e => .mk 1 (textT R) 0 e [] []) R.tail.tail else .bad R.tail
  else .bad R
def pI : Nat -> List Tk -> Res St
 | 0, R => .bad R
 | f + 1, R => match pE R with
  | .bad r => .bad r
  | .ok e r => match pBl f r with
   | .bad r' => .bad r'
   | .ok b r' => if isT tElse r' = true then
     if isT tIf r'.tail = true then match pI f r'.tail.tail with
      | .bad q => .bad q
      | .ok s q => .ok (.mk 3 [] 0 e b [s]) q
     else match pBl f r'.tail with
      | .bad q => .bad q
      | .ok l q => .ok (.mk 3 [] 0 e b l) q
    else .ok (.mk 3 [] 0 e b []) r'
def pBl : Nat -> List Tk -> Res (List St)
 | 0, R => .bad R
 | f + 1, R => if isT [123] R = true then pM f [] R.tail else .bad R
def pM : Nat -> List St -> List Tk -> Res (List St)
 | 0, _, R => .bad R
 | f + 1, acc, R => if isT [125] R = true then .ok acc R.tail else match pS f R with
  | .bad r => .bad r
  | .ok s r => pM f (acc ++ [s]) r
end
/-- The names of parameters, behind the parenthesis. -/
def pQ : Nat -> List Str -> List Tk -> Res (List Str)
 | 0, _, R => .bad R
 | f + 1, acc, R => if kindT R = 1 then if isT [41] R.tail = true then .ok (acc ++ [textT R]) R.tail.tail else if isT [44] R.tail = true then pQ f (acc ++ [textT R]) R.tail.tail else .bad R.tail else .bad R
def pPs (R : List Tk) : Res (List Str) := if isT [40] R = true then if isT [41] R.tail = true then .ok [] R.tail.tail else pQ (R.length + 1) [] R.tail else .bad R
def pBk (R : List Tk) : Res (List St) := pBl (4 * R.length + 4) R
/-- An operation behind its keyword. -/
def pO (R : List Tk) : Res Oper' := if kindT R = 1 then match pPs R.tail with
  | .bad r => .bad r
  | .ok ps r => match pBk r with
   | .bad q => .bad q
   | .ok b q => .ok ⟨textT R, ps, b⟩ q
 else .bad R
/-- A store behind its keyword. -/
def pD (R : List Tk) : Res Decl' := if kindT R = 1 then if kindT R.tail = 1 then if isT [59] R.tail.tail = true then .ok ⟨textT R, textT R.tail⟩ R.tail.tail.tail else .bad R.tail.tail else .bad R.tail else .bad R
def pG : Nat -> List Decl' -> List Oper' -> List Tk -> Res Prog'
 | 0, _, _, R => .bad R
 | f + 1, ds, os, R => if kindT R = 0 then .ok ⟨ds, os⟩ R
  else if isT tSto R = true then match pD R.tail with
   | .bad r => .bad r
   | .ok d r => pG f (ds ++ [d]) os r
  else if isT tOp R = true then match pO R.tail with
   | .bad r => .bad r
   | .ok o r => pG f ds (os ++ [o]) r
  else .bad R
def pP (R : List Tk) : Res Prog' := pG (R.length + 1) [] [] R
/-- An expression and the end. -/
def pX (R : List Tk) : Res Ex := match pE R with
 | .bad r => .bad r
 | .ok e r => if kindT r = 0 then .ok e r else .bad r
def Res.rest {α : Type} : Res α -> List Tk
 | .ok _ r => r
 | .bad r => r
theorem tail_suf (R : List Tk) : R.tail <:+ R := List.tail_suffix R
theorem suf_of {α : Type} {x : Res α} {R : List Tk} (h : x.rest <:+ R) : (∀ a r, x = .ok a r -> r <:+ R) /\ (∀ r, x = .bad r -> r <:+ R) :=
 ⟨fun a r e => by subst e; exact h, fun r e => by subst e; exact h⟩
theorem suf_parts (f : Nat) : (∀ lv R, (pB f lv R).rest <:+ R) /\ (∀ lv a R, (pC f lv a R).rest <:+ R) /\ (∀ R, (pU f R).rest <:+ R) /\ (∀ R, (pH f R).rest <:+ R) /\ (∀ n R, (pK f n R).rest <:+ R) /\ (∀ R, (pA f R).rest <:+ R) /\ (∀ acc R, (pL f acc R).rest <:+ R) := by
 induction f with
 | zero => 
  refine ⟨fun lv R => ?_, fun lv a R => ?_, fun R => ?_, fun R => ?_, fun n R => ?_, fun R => ?_, fun acc R => ?_⟩
  ·rw [pB]; exact List.suffix_refl _
  ·rw [pC]; exact List.suffix_refl _
  ·rw [pU]; exact List.suffix_refl _
  ·rw [pH]; exact List.suffix_refl _
  ·rw [pK]; exact List.suffix_refl _
  ·rw [pA]; exact List.suffix_refl _
  rw [pL]; exact List.suffix_refl _
 | succ f ih =>
  obtain ⟨iB, iC, iU, iH, iK, iA, iL⟩ := ih
  have t1 := tail_suf
  have t2 : ∀ R : List Tk, R.tail.tail <:+ R := fun R => (t1 _).trans (t1 R)
  refine ⟨fun lv R => ?_, fun lv a R => ?_, fun R => ?_, fun R => ?_, fun n R => ?_, fun R => ?_, fun acc R => ?_⟩
  ·rw [pB]
   split
   ·exact iU R
   have h := suf_of (iB (lv + 1) R)
   split
   ·next r e => exact h.2 r e
   next a r e => exact (iC lv a r).trans (h.1 a r e)
  ·rw [pC]
   split
   ·have h := suf_of ((iB (lv + 1) R.tail).trans (t1 R))
    split
    ·next r e => exact h.2 r e
    next b r e => exact (iC lv _ r).trans (h.1 b r e)
   exact List.suffix_refl _
  ·rw [pU]
   have hU := suf_of ((iU R.tail).trans (t1 R))
   have hB := suf_of ((iB 0 R.tail).trans (t1 R))
   repeat' split
   all_goals first
    | exact t1 R
    | exact t2 R
    | exact List.suffix_refl _
    | exact (iH _).trans (t1 R)
    | exact (iK _ _).trans (t1 R)
    | exact hU.2 _ (by assumption)
    | exact hU.1 _ _ (by assumption)
    | exact hB.2 _ (by assumption)
    | exact hB.1 _ _ (by assumption)
    | exact (t1 _).trans (hB.1 _ _ (by assumption))
  ·rw [pH]
   have hA := suf_of ((iA R.tail.tail).trans (t2 R))
   repeat' split
   all_goals first
    | exact t1 R
    | exact List.suffix_refl _
    | exact hA.2 _ (by assumption)
    | exact hA.1 _ _ (by assumption)
  ·rw [pK]
   have hA := suf_of ((iA R.tail.tail).trans (t2 R))
   split
   ·split
    ·split
     ·next r e => exact hA.2 r e
     next a r e =>
     have hr := hA.1 a r e
     have hU := suf_of ((iU r.tail).trans ((t1 r).trans hr))
     split
     ·split
      ·next r' e' => exact hU.2 r' e'
      next o r' e' => exact hU.1 o r' e'
     exact hr
    exact t1 R
   exact List.suffix_refl _
  ·rw [pA]
   repeat' split
   all_goals first
    | exact t2 R
    | exact (iL _ _).trans (t1 R)
    | exact List.suffix_refl _
  rw [pL]
  have h := suf_of (iB 0 R)
  split
  ·next r e => exact h.2 r e
  next a r e =>
  have hr := h.1 a r e
  repeat' split
  all_goals first
   | exact (t1 r).trans hr
   | exact (iL _ _).trans ((t1 r).trans hr)
   | exact hr
theorem suf_pE (R : List Tk) : (pE R).rest <:+ R := (suf_parts _).1 0 R
theorem suf_pN (k : Ex -> St) (R : List Tk) : (pN k R).rest <:+ R := by
 unfold pN
 have h := suf_of (suf_pE R)
 split
 ·next r e => exact h.2 r e
 next a r e =>
 have hr := h.1 a r e
 split
 ·exact (tail_suf r).trans hr
 exact hr
theorem suf_stmts (f : Nat) : (∀ R, (pS f R).rest <:+ R) /\ (∀ R, (pI f R).rest <:+ R) /\ (∀ R, (pBl f R).rest <:+ R) /\ (∀ acc R, (pM f acc R).rest <:+ R) := by
 induction f with
 | zero =>
  refine ⟨fun R => ?_, fun R => ?_, fun R => ?_, fun acc R => ?_⟩
  ·rw [pS]; exact List.suffix_refl _
  ·rw [pI]; exact List.suffix_refl _
  ·rw [pBl]; exact List.suffix_refl _
  rw [pM]; exact List.suffix_refl _
 | succ f ih =>
  obtain ⟨iS, iI, iB, iM⟩ := ih
  have t1 := tail_suf
  have t2 : ∀ R : List Tk, R.tail.tail <:+ R := fun R => (t1 _).trans (t1 R)
  have t3 : ∀ R : List Tk, R.tail.tail.tail <:+ R := fun R => (t1 _).trans (t2 R)
  refine ⟨fun R => ?_, fun R => ?_, fun R => ?_, fun acc R => ?_⟩
  ·rw [pS]
   have hB := suf_of ((iB R.tail.tail).trans (t2 R))
   have hH := suf_of (((suf_parts (8 * R.length + 7)).2.2.2.1 R.tail).trans (t1 R))
   have hK := suf_of (((suf_parts (8 * R.length + 7)).2.2.2.2.1 (textT R) R.tail).trans (t1 R))
   repeat' split
   all_goals first
    | exact List.suffix_refl _
    | exact t1 R
    | exact t2 R
    | exact t3 R
    | exact (iI _).trans (t1 R)
    | exact (suf_pN _ _).trans (t1 R)
    | exact (suf_pN _ _).trans (t2 R)
    | exact (suf_pN _ _).trans (t3 R)
    | exact hB.2 _ (by assumption)
    | exact hB.1 _ _ (by assumption)
    | exact hH.2 _ (by assumption)
    | exact hH.1 _ _ (by assumption)
    | exact (t1 _).trans (hH.1 _ _ (by assumption))
    | exact hK.2 _ (by assumption)
    | exact hK.1 _ _ (by assumption)
    | exact (t1 _).trans (hK.1 _ _ (by assumption))
  ·rw [pI]
   have h := suf_of (suf_pE R)
   split
   ·next r e => exact h.2 r e
   next a r e =>
   have hr := h.1 a r e
   have hB := suf_of ((iB r).trans hr)
   split
   ·next r' e' => exact hB.2 r' e'
   next b r' e' =>
   have hr' := hB.1 b r' e'
   split
   ·split
    ·have hI := suf_of ((iI r'.tail.tail).trans ((t2 r').trans hr'))
     split
     ·next q e => exact hI.2 q e
     next s q e => exact hI.1 s q e
    have hB := suf_of ((iB r'.tail).trans ((t1 r').trans hr'))
    split
    ·next q e => exact hB.2 q e
    next s q e => exact hB.1 s q e
   exact hr'
  ·rw [pBl]
   split
   ·exact (iM _ _).trans (t1 R)
   exact List.suffix_refl _
  rw [pM]
  split
  ·exact t1 R
  have h := suf_of (iS R)
  split
  ·next r e => exact h.2 r e
  next s r e => exact (iM _ r).trans (h.1 s r e)
theorem suf_pQ (f : Nat) : ∀ acc R, (pQ f acc R).rest <:+ R := by
 induction f with
 | zero => intro acc R; rw [pQ]; exact List.suffix_refl _
 | succ f ih =>
  intro acc R
  have t1 := tail_suf
  have t2 : ∀ R : List Tk, R.tail.tail <:+ R := fun R => (t1 _).trans (t1 R)
  rw [pQ]
  repeat' split
  all_goals first
   | exact List.suffix_refl _
   | exact t1 R
   | exact t2 R
   | exact (ih _ _).trans (t2 R)
theorem suf_pPs (R : List Tk) : (pPs R).rest <:+ R := by
 unfold pPs
 have t2 : R.tail.tail <:+ R := (tail_suf _).trans (tail_suf R)
 repeat' split
 all_goals first
  | exact List.suffix_refl _
  | exact t2
  | exact (suf_pQ _ _ _).trans (tail_suf R)
theorem suf_pO (R : List Tk) : (pO R).rest <:+ R := by
 unfold pO
 have h := suf_of ((suf_pPs R.tail).trans (tail_suf R))
 split
 ·split
  ·next r e => exact h.2 r e
  next ps r e =>
  have hr := h.1 ps r e
  have hB := suf_of (((suf_stmts (4 * r.length + 4)).2.2.1 r).trans hr)
  split
  ·next q e => exact hB.2 q e
  next b q e => exact hB.1 b q e
 exact List.suffix_refl _
theorem suf_pD (R : List Tk) : (pD R).rest <:+ R := by
 unfold pD
 have t1 := tail_suf
 have t2 : ∀ R : List Tk, R.tail.tail <:+ R := fun R => (t1 _).trans (t1 R)
 have t3 : ∀ R : List Tk, R.tail.tail.tail <:+ R := fun R => (t1 _).trans (t2 R)
 repeat' split
 all_goals first
  | exact List.suffix_refl _
  | exact t1 R
  | exact t2 R
  | exact t3 R
theorem suf_len {R r : List Tk} (h : r <:+ R) : r.length <= R.length := h.length_le
open Go.RowKit
/-- A string out of its bytes. -/
def bs (l : List UInt8) : ByteArray := ⟨⟨l⟩⟩
theorem bs_eta (s : ByteArray) : bs s.data.toList = s := by obtain ⟨⟨l⟩⟩ := s; rfl
theorem bs_list (l : List UInt8) : (bs l).data.toList = l := rfl
theorem bs_size (l : List UInt8) : (bs l).size = l.length := rfl
theorem bs_toList (l : List UInt8) : (bs l).toList = l := (ByteArray.toList_eq _).trans rfl
theorem bs_inj {a b : List UInt8} (h : bs a = bs b) : a = b := congrArg (fun s => s.data.toList) h
/-- An expression's cells. -/
def exC (k n : Int) (s m : Str) (A : Option Addr) (na ca : Nat) (O : Option Addr) (no co : Nat) : List Value := [.int .i64 k, .int .i64 n, .string (bs s), .string (bs m), .slice A na ca, .slice O no co]
/-- An int64. -/
def InR (n : Int) : Prop := -9223372036854775808 <= n /\ n <= 9223372036854775807
mutual
/-- The cells cs are the expression's, its parts lie in blocks that meet S. -/
def XV (w : World) (S : Nat -> Prop) : Ex -> List Value -> Prop
 | .mk k n s m a o, cs => ∃ (A : Option Addr) (na ca : Nat) (O : Option Addr) (no co : Nat), cs = exC k n s m A na ca O no co /\ InR n /\ (na = a.length /\ na <= ca /\ (A = none -> ca = 0)) /\ (no = o.length /\ no <= co /\ (O = none -> co = 0)) /\
   (0 < na -> ∃ b q, A = some ⟨b, q, none⟩ /\ b < w.heap.size /\ S b /\ XLf w S b q 0 a) /\ (0 < no -> ∃ b q, O = some ⟨b, q, none⟩ /\ b < w.heap.size /\ S b /\ XLf w S b q 0 o)
/-- From the i-th element of a row on. -/
def XLf (w : World) (S : Nat -> Prop) (b q : Nat) : Nat -> List Ex -> Prop
 | _, [] => True
 | i, e :: t => (∃ cs, XV w S e cs /\ w.rangeAt b (q + i * 6) cs) /\ XLf w S b q (i + 1) t
end
/-- A slice that holds expressions. -/
def XL (w : World) (S : Nat -> Prop) (A : Option Addr) (n c : Nat) (l : List Ex) : Prop := (n = l.length /\ n <= c /\ (A = none -> c = 0)) /\ (0 < n -> ∃ b q, A = some ⟨b, q, none⟩ /\ b < w.heap.size /\ S b /\ XLf w S b q 0 l)
theorem XV.open_ {w : World} {S : Nat -> Prop} {k n : Int} {s m : Str} {a o : List Ex} {cs : List Value} (h : XV w S (.mk k n s m a o) cs) : ∃ (A : Option Addr) (na ca : Nat) (O : Option Addr) (no co : Nat), cs = exC k n s m A na ca O no co /\ XL w S A na ca a /\ XL w S O no co o := by
 rw [XV] at h
 obtain ⟨A, na, ca, O, no, co, h1, _, h2, h3, h4, h5⟩ := h
 exact ⟨A, na, ca, O, no, co, h1, ⟨h2, h4⟩, h3, h5⟩
theorem XV.num {w : World} {S : Nat -> Prop} {k n : Int} {s m : Str} {a o : List Ex} {cs : List Value} (h : XV w S (.mk k n s m a o) cs) : InR n := by
 rw [XV] at h
 obtain ⟨A, na, ca, O, no, co, _, h1, _⟩ := h
 exact h1
theorem XV.shut {w : World} {S : Nat -> Prop} {k n : Int} {s m : Str} {a o : List Ex} {A O : Option Addr} {na ca no co : Nat} (hn : InR n) (h1 : XL w S A na ca a) (h2 : XL w S O no co o) : XV w S (.mk k n s m a o) (exC k n s m A na ca O no co) := by
 rw [XV]
 exact ⟨A, na, ca, O, no, co, rfl, hn, h1.1, h2.1, h1.2, h2.2⟩
theorem XV.len {w : World} {S : Nat -> Prop} {e : Ex} {cs : List Value} (h : XV w S e cs) : cs.length = 6 := by
 obtain ⟨k, n, s, m, a, o⟩ := e
 obtain ⟨A, na, ca, O, no, co, rfl, _⟩ := h.open_
 rfl
theorem XV.one {w : World} {S : Nat -> Prop} {e : Ex} {cs : List Value} (h : XV w S e cs) : ∀ u ∈ cs, u.oneCell' = true := by
 obtain ⟨k, n, s, m, a, o⟩ := e
 obtain ⟨A, na, ca, O, no, co, rfl, _⟩ := h.open_
 intro u hu
 simp only [exC, List.mem_cons, List.mem_nil_iff, or_false] at hu
 rcases hu with rfl | rfl | rfl | rfl | rfl | rfl <;> rfl
theorem rangeAt_keep {w w' : World} {b o : Nat} {cs : List Value} (h : w.rangeAt b o cs) (he : w'.heap[b]? = w.heap[b]?) : w'.rangeAt b o cs := fun j v hv => by
 rw [World.cell?_of_block (a := ⟨b, o + j, none⟩) he]; exact h j v hv
mutual
theorem XV.keep {w w' : World} {S S' : Nat -> Prop} (hs : w.heap.size <= w'.heap.size) (hk : ∀ b, b < w.heap.size -> S b -> w'.heap[b]? = w.heap[b]?) (hS : ∀ b, b < w.heap.size -> S b -> S' b) : ∀ {e : Ex} {cs : List Value}, XV w S e cs -> XV w' S' e cs
 | .mk k n s m a o, cs, h => by
  rw [XV] at h ⊢
  obtain ⟨A, na, ca, O, no, co, h1, h0, h2, h3, h4, h5⟩ := h
  refine ⟨A, na, ca, O, no, co, h1, h0, h2, h3, fun hn => ?_, fun hn => ?_⟩
  ·obtain ⟨b, q, e1, hb, hSb, hx⟩ := h4 hn
   exact ⟨b, q, e1, Nat.lt_of_lt_of_le hb hs, hS b hb hSb, XLf.keep hs hk hS hb hSb hx⟩
  obtain ⟨b, q, e1, hb, hSb, hx⟩ := h5 hn
  exact ⟨b, q, e1, Nat.lt_of_lt_of_le hb hs, hS b hb hSb, XLf.keep hs hk hS hb hSb hx⟩
theorem XLf.keep {w w' : World} {S S' : Nat -> Prop} (hs : w.heap.size <= w'.heap.size) (hk : ∀ b, b < w.heap.size -> S b -> w'.heap[b]? = w.heap[b]?) (hS : ∀ b, b < w.heap.size -> S b -> S' b) {b q : Nat} (hb : b < w.heap.size) (hSb : S b) : ∀ {i : Nat} {l : List Ex}, XLf w S b q i l -> XLf w' S' b q i l
 | _, [], _ => by rw [XLf]; trivial
 | i, e :: t, h => by
  rw [XLf] at h ⊢
  obtain ⟨⟨cs, h1, h2⟩, h3⟩ := h
  exact ⟨⟨cs, XV.keep hs hk hS h1, rangeAt_keep h2 (hk b hb hSb)⟩, XLf.keep hs hk hS hb hSb h3⟩
end
section
variable {w w' : World} {S S' : Nat -> Prop} {A : Option Addr} {n c : Nat} {l : List Ex} {e : Ex} {cs : List Value}
theorem XL.keep (hs : w.heap.size <= w'.heap.size) (hk : ∀ b, b < w.heap.size -> S b -> w'.heap[b]? = w.heap[b]?) (hS : ∀ b, b < w.heap.size -> S b -> S' b) (h : XL w S A n c l) : XL w' S' A n c l :=
 ⟨h.1, fun hn => by
  obtain ⟨b, q, e1, hb, hSb, hx⟩ := h.2 hn
  exact ⟨b, q, e1, Nat.lt_of_lt_of_le hb hs, hS b hb hSb, XLf.keep hs hk hS hb hSb hx⟩⟩
theorem XL.below (h : XL w S A n c l) (hb : Below w.heap.size w w') : XL w' S A n c l := XL.keep hb.size (fun b hlt _ => hb.block b hlt) (fun _ _ h => h) h
theorem XV.below (h : XV w S e cs) (hb : Below w.heap.size w w') : XV w' S e cs := XV.keep hb.size (fun b hlt _ => hb.block b hlt) (fun _ _ h => h) h
theorem XL.more (h : XL w S A n c l) (hS : ∀ b, b < w.heap.size -> S b -> S' b) : XL w S' A n c l := XL.keep (Nat.le_refl _) (fun _ _ _ => rfl) hS h
theorem XV.more (h : XV w S e cs) (hS : ∀ b, b < w.heap.size -> S b -> S' b) : XV w S' e cs := XV.keep (Nat.le_refl _) (fun _ _ _ => rfl) hS h
theorem XLf.at {b q : Nat} : ∀ {l : List Ex} {i : Nat} (_ : XLf w S b q i l) (j : Nat) (hj : j < l.length), ∃ cs, XV w S l[j] cs /\ w.rangeAt b (q + (i + j) * 6) cs
 | e :: t, i, h, 0, _ => by rw [XLf] at h; exact h.1
 | e :: t, i, h, j + 1, hj => by
  rw [XLf] at h
  obtain ⟨cs, h1, h2⟩ := XLf.at h.2 j (by simpa using hj)
  exact ⟨cs, h1, by rwa [show i + (j + 1) = i + 1 + j by omega]⟩
/-- One element of a slice of expressions: its value, and its six cells now and later. -/
theorem XL.at (h : XL w S A n c l) (i : Nat) (hi : i < n) : ∃ e b q cs, l[i]? = some e /\ A = some ⟨b, q, none⟩ /\ b < w.heap.size /\ S b /\ XV w S e cs /\ w.rangeAt b (q + i * 6) cs := by
 obtain ⟨b, q, e1, hb, hSb, hx⟩ := h.2 (by omega)
 have hil : i < l.length := by have := h.1.1; omega
 obtain ⟨cs, h1, h2⟩ := hx.at i hil
 rw [Nat.zero_add] at h2
 exact ⟨l[i], b, q, cs, List.getElem?_eq_getElem hil, e1, hb, hSb, h1, h2⟩
end
/-- The six cells of an expression, one by one. -/
theorem exC_at {w : World} {b o : Nat} {k n : Int} {s m : Str} {A O : Option Addr} {na ca no co : Nat} (h : w.rangeAt b o (exC k n s m A na ca O no co)) :
  w.cell? ⟨b, o, none⟩ = some (.int .i64 k) /\ w.cell? ⟨b, o + 1, none⟩ = some (.int .i64 n) /\ w.cell? ⟨b, o + 2, none⟩ = some (.string (bs s)) /\ w.cell? ⟨b, o + 3, none⟩ = some (.string (bs m)) /\ w.cell? ⟨b, o + 4, none⟩ = some (.slice A na ca) /\ w.cell? ⟨b, o + 5, none⟩ = some (.slice O no co) :=
 ⟨h 0 _ rfl, h 1 _ rfl, h 2 _ rfl, h 3 _ rfl, h 4 _ rfl, h 5 _ rfl⟩
/-- A statement's cells. -/
def stC (k : Int) (s : Str) (n : Int) (ex : List Value) (B : Option Addr) (nb cb : Nat) (L : Option Addr) (nl cl : Nat) : List Value := [.int .i64 k, .string (bs s), .int .i64 n] ++ ex ++ [.slice B nb cb, .slice L nl cl]
mutual
def SV (w : World) (S : Nat -> Prop) : St -> List Value -> Prop
 | .mk k s n e b l, cs => ∃ (ex : List Value) (B : Option Addr) (nb cb : Nat) (L : Option Addr) (nl cl : Nat), cs = stC k s n ex B nb cb L nl cl /\ InR n /\ XV w S e ex /\ (nb = b.length /\ nb <= cb /\ (B = none -> cb = 0)) /\ (nl = l.length /\ nl <= cl /\ (L = none -> cl = 0)) /\
   (0 < nb -> ∃ g q, B = some ⟨g, q, none⟩ /\ g < w.heap.size /\ S g /\ SLf w S g q 0 b) /\ (0 < nl -> ∃ g q, L = some ⟨g, q, none⟩ /\ g < w.heap.size /\ S g /\ SLf w S g q 0 l)
def SLf (w : World) (S : Nat -> Prop) (g q : Nat) : Nat -> List St -> Prop
 | _, [] => True
 | i, e :: t => (∃ cs, SV w S e cs /\ w.rangeAt g (q + i * 11) cs) /\ SLf w S g q (i + 1) t
end
/-- A slice that holds statements. -/
def SL (w : World) (S : Nat -> Prop) (A : Option Addr) (n c : Nat) (l : List St) : Prop := (n = l.length /\ n <= c /\ (A = none -> c = 0)) /\ (0 < n -> ∃ g q, A = some ⟨g, q, none⟩ /\ g < w.heap.size /\ S g /\ SLf w S g q 0 l)
theorem SV.open_ {w : World} {S : Nat -> Prop} {k n : Int} {s : Str} {e : Ex} {b l : List St} {cs : List Value} (h : SV w S (.mk k s n e b l) cs) : ∃ (ex : List Value) (B : Option Addr) (nb cb : Nat) (L : Option Addr) (nl cl : Nat), cs = stC k s n ex B nb cb L nl cl /\ XV w S e ex /\ SL w S B nb cb b /\ SL w S L nl cl l := by
 rw [SV] at h
 obtain ⟨ex, B, nb, cb, L, nl, cl, h1, _, h2, h3, h4, h5, h6⟩ := h
 exact ⟨ex, B, nb, cb, L, nl, cl, h1, h2, ⟨h3, h5⟩, h4, h6⟩
theorem SV.num {w : World} {S : Nat -> Prop} {k n : Int} {s : Str} {e : Ex} {b l : List St} {cs : List Value} (h : SV w S (.mk k s n e b l) cs) : InR n := by
 rw [SV] at h
 obtain ⟨ex, B, nb, cb, L, nl, cl, _, h1, _⟩ := h
 exact h1
theorem SV.shut {w : World} {S : Nat -> Prop} {k n : Int} {s : Str} {e : Ex} {b l : List St} {ex : List Value} {B L : Option Addr} {nb cb nl cl : Nat} (hn : InR n) (h0 : XV w S e ex) (h1 : SL w S B nb cb b) (h2 : SL w S L nl cl l) : SV w S (.mk k s n e b l) (stC k s n ex B nb cb L nl cl) := by
 rw [SV]
 exact ⟨ex, B, nb, cb, L, nl, cl, rfl, hn, h0, h1.1, h2.1, h1.2, h2.2⟩
theorem SV.len {w : World} {S : Nat -> Prop} {e : St} {cs : List Value} (h : SV w S e cs) : cs.length = 11 := by
 obtain ⟨k, s, n, e, b, l⟩ := e
 obtain ⟨ex, B, nb, cb, L, nl, cl, rfl, hx, _⟩ := h.open_
 have := hx.len
 simp [stC, this]
theorem SV.one {w : World} {S : Nat -> Prop} {e : St} {cs : List Value} (h : SV w S e cs) : ∀ u ∈ cs, u.oneCell' = true := by
 obtain ⟨k, s, n, e, b, l⟩ := e
 obtain ⟨ex, B, nb, cb, L, nl, cl, rfl, hx, _⟩ := h.open_
 intro u hu
 simp only [stC, List.mem_append, List.mem_cons, List.mem_nil_iff, or_false] at hu
 rcases hu with ((rfl | rfl | rfl) | hu) | (rfl | rfl)
 ·rfl
 ·rfl
 ·rfl
 ·exact hx.one u hu
 ·rfl
 rfl
mutual
theorem SV.keep {w w' : World} {S S' : Nat -> Prop} (hs : w.heap.size <= w'.heap.size) (hk : ∀ b, b < w.heap.size -> S b -> w'.heap[b]? = w.heap[b]?) (hS : ∀ b, b < w.heap.size -> S b -> S' b) : ∀ {e : St} {cs : List Value}, SV w S e cs -> SV w' S' e cs
 | .mk k s n e b l, cs, h => by
  rw [SV] at h ⊢
  obtain ⟨ex, B, nb, cb, L, nl, cl, h1, h0, h2, h3, h4, h5, h6⟩ := h
  refine ⟨ex, B, nb, cb, L, nl, cl, h1, h0, XV.keep hs hk hS h2, h3, h4, fun hn => ?_, fun hn => ?_⟩
  ·obtain ⟨g, q, e1, hb, hSb, hx⟩ := h5 hn
   exact ⟨g, q, e1, Nat.lt_of_lt_of_le hb hs, hS g hb hSb, SLf.keep hs hk hS hb hSb hx⟩
  obtain ⟨g, q, e1, hb, hSb, hx⟩ := h6 hn
  exact ⟨g, q, e1, Nat.lt_of_lt_of_le hb hs, hS g hb hSb, SLf.keep hs hk hS hb hSb hx⟩
theorem SLf.keep {w w' : World} {S S' : Nat -> Prop} (hs : w.heap.size <= w'.heap.size) (hk : ∀ b, b < w.heap.size -> S b -> w'.heap[b]? = w.heap[b]?) (hS : ∀ b, b < w.heap.size -> S b -> S' b) {g q : Nat} (hb : g < w.heap.size) (hSb : S g) : ∀ {i : Nat} {l : List St}, SLf w S g q i l -> SLf w' S' g q i l
 | _, [], _ => by rw [SLf]; trivial
 | i, e :: t, h => by
  rw [SLf] at h ⊢
  obtain ⟨⟨cs, h1, h2⟩, h3⟩ := h
  exact ⟨⟨cs, SV.keep hs hk hS h1, rangeAt_keep h2 (hk g hb hSb)⟩, SLf.keep hs hk hS hb hSb h3⟩
end
section
variable {w w' : World} {S S' : Nat -> Prop} {A : Option Addr} {n c : Nat} {l : List St} {e : St} {cs : List Value}
theorem SL.keep (hs : w.heap.size <= w'.heap.size) (hk : ∀ b, b < w.heap.size -> S b -> w'.heap[b]? = w.heap[b]?) (hS : ∀ b, b < w.heap.size -> S b -> S' b) (h : SL w S A n c l) : SL w' S' A n c l :=
 ⟨h.1, fun hn => by
  obtain ⟨b, q, e1, hb, hSb, hx⟩ := h.2 hn
  exact ⟨b, q, e1, Nat.lt_of_lt_of_le hb hs, hS b hb hSb, SLf.keep hs hk hS hb hSb hx⟩⟩
theorem SL.below (h : SL w S A n c l) (hb : Below w.heap.size w w') : SL w' S A n c l := SL.keep hb.size (fun b hlt _ => hb.block b hlt) (fun _ _ h => h) h
theorem SV.below (h : SV w S e cs) (hb : Below w.heap.size w w') : SV w' S e cs := SV.keep hb.size (fun b hlt _ => hb.block b hlt) (fun _ _ h => h) h
theorem SL.more (h : SL w S A n c l) (hS : ∀ b, b < w.heap.size -> S b -> S' b) : SL w S' A n c l := SL.keep (Nat.le_refl _) (fun _ _ _ => rfl) hS h
theorem SV.more (h : SV w S e cs) (hS : ∀ b, b < w.heap.size -> S b -> S' b) : SV w S' e cs := SV.keep (Nat.le_refl _) (fun _ _ _ => rfl) hS h
theorem SLf.at {b q : Nat} : ∀ {l : List St} {i : Nat} (_ : SLf w S b q i l) (j : Nat) (hj : j < l.length), ∃ cs, SV w S l[j] cs /\ w.rangeAt b (q + (i + j) * 11) cs
 | e :: t, i, h, 0, _ => by rw [SLf] at h; exact h.1
 | e :: t, i, h, j + 1, hj => by
  rw [SLf] at h
  obtain ⟨cs, h1, h2⟩ := SLf.at h.2 j (by simpa using hj)
  exact ⟨cs, h1, by rwa [show i + (j + 1) = i + 1 + j by omega]⟩
theorem SL.at (h : SL w S A n c l) (i : Nat) (hi : i < n) : ∃ e b q cs, l[i]? = some e /\ A = some ⟨b, q, none⟩ /\ b < w.heap.size /\ S b /\ SV w S e cs /\ w.rangeAt b (q + i * 11) cs := by
 obtain ⟨b, q, e1, hb, hSb, hx⟩ := h.2 (by omega)
 have hil : i < l.length := by have := h.1.1; omega
 obtain ⟨cs, h1, h2⟩ := hx.at i hil
 rw [Nat.zero_add] at h2
 exact ⟨l[i], b, q, cs, List.getElem?_eq_getElem hil, e1, hb, hSb, h1, h2⟩
end
end Go.Proofs.YtkakbidllpjopaaGreatDoor
namespace Go.Proofs
open Go.Shelf
def Tryz.lays156_ren : Go.Shelf.Ren := ⟨fun | 156 => 26 | 165 => 51 | 166 => 49 | 169 => 29 | 240 => 82 | 241 => 84 | 276 => 106 | 277 => 109 | n => n, fun | 31 => 22 | 9 => 9 | 3 => 3 | 4 => 4 | 0 => 0 | 20 => 20 | 72 => 79 | 76 => 123 | 70 => 77 | 37 => 58 | 75 => 122 | 127 => 128 | 164 => 167 | 5 => 5 | 80 => 88 | n => n, fun | n => n⟩
theorem Tryz.lays156 : Go.Proofs.Lays.n156 Tryz.prog Tryz.lays156_ren := {
 mixed := by kernel_rfl
 f156 := Tryz.func26.trans (congrArg some (by kernel_rfl))
 f165 := Tryz.func51.trans (congrArg some (by kernel_rfl))
 f166 := Tryz.func49.trans (congrArg some (by kernel_rfl))
 f169 := Tryz.func29.trans (congrArg some (by kernel_rfl))
 f240 := Tryz.func82.trans (congrArg some (by kernel_rfl))
 f241 := Tryz.func84.trans (congrArg some (by kernel_rfl))
 f276 := Tryz.func106.trans (congrArg some (by kernel_rfl))
 f277 := Tryz.func109.trans (congrArg some (by kernel_rfl))
 t0 := Tryz.underlying0
 a0 := Tryz.isAgg0
 z0 := Tryz.sizeOf0
 v0 := Tryz.zeroValue0
 t3 := Tryz.underlying3
 a3 := Tryz.isAgg3
 z3 := Tryz.sizeOf3
 v3 := Tryz.zeroValue3
 t4 := Tryz.underlying4
 a4 := Tryz.isAgg4
 z4 := Tryz.sizeOf4
 v4 := Tryz.zeroValue4
 t9 := Tryz.underlying9
 a9 := Tryz.isAgg9
 z9 := Tryz.sizeOf9
 v9 := Tryz.zeroValue9
 t20 := Tryz.underlying20
 a20 := Tryz.isAgg20
 z20 := Tryz.sizeOf20
 v20 := Tryz.zeroValue20
 t31 := Tryz.underlying22
 a31 := Tryz.isAgg22
 z31 := Tryz.sizeOf22
 v31 := Tryz.zeroValue22
 t37 := Tryz.underlying58
 a37 := Tryz.isAgg58
 z37 := Tryz.sizeOf58
 v37 := Tryz.zeroValue58
 t70 := Tryz.underlying77
 a70 := Tryz.isAgg77
 z70 := Tryz.sizeOf77
 v70 := Tryz.zeroValue77
 t72 := Tryz.underlying79
 a72 := Tryz.isAgg79
 z72 := Tryz.sizeOf79
 v72 := Tryz.zeroValue79
 t75 := Tryz.underlying122
 a75 := Tryz.isAgg122
 z75 := Tryz.sizeOf122
 v75 := Tryz.zeroValue122
 t76 := Tryz.underlying123
 a76 := Tryz.isAgg123
 z76 := Tryz.sizeOf123
 v76 := Tryz.zeroValue123
 t127 := Tryz.underlying128
 a127 := Tryz.isAgg128
 z127 := Tryz.sizeOf128
 v127 := Tryz.zeroValue128
 t164 := Tryz.underlying167
 a164 := Tryz.isAgg167
 z164 := Tryz.sizeOf167
 v164 := Tryz.zeroValue167 }
theorem Tryz.Builder_Extra_156 : Builder.Extra Tryz.prog Tryz.lays156_ren := {
 sizeBuilder := by kernel_rfl
 liesBuilder := by kernel_rfl
 t5 := Tryz.underlying5
 a5 := Tryz.isAgg5
 z5 := Tryz.sizeOf5
 v5 := Tryz.zeroValue5
 infoByte := by kernel_rfl
 cellsByte := by kernel_rfl
 sizeByte := by kernel_rfl
 neB5 := by decide }
open Go.RowKit Go.Sort Go.Lib in
theorem Tryz.strings_Join_none (a : Option Addr) (c : Nat) (sep : ByteArray) (w : World) :
  Calls Tryz.prog 26 #[.slice a 0 c, .string sep] w fun e w' => e = .returned (.string ⟨#[]⟩) /\ w' = w := Any.strings_Join_none Tryz.lays156 Tryz.Builder_Extra_156 a c sep w
open Go.RowKit Go.Sort Go.Lib in
theorem Tryz.strings_Join (bk o c : Nat) (xs : List ByteArray) (sep : ByteArray) (w : World) (hcells : ∀ (j : Nat) x, xs[j]? = some x -> w.cell? ⟨bk, o + j, none⟩ = some (.string x)) (hbk : bk < w.heap.size) (hN : xs.length <= 140737488355328) (hcap : xs.length <= c) (hlen : (Lib.join (xs.map (·.data.toList)) sep.data.toList).length <= 140737488355328) :
  Calls Tryz.prog 26 #[.slice (some ⟨bk, o, none⟩) xs.length c, .string sep] w fun e w' => e = .returned (.string ⟨(Lib.join (xs.map (·.data.toList)) sep.data.toList).toArray⟩) /\ Below w.heap.size w w' := Any.strings_Join Tryz.lays156 Tryz.Builder_Extra_156 bk o c xs sep w hcells hbk hN hcap hlen
def Tryz.lays110_ren : Go.Shelf.Ren := ⟨fun | 110 => 79 | 109 => 103 | n => n, fun | 31 => 22 | 9 => 9 | 4 => 4 | 3 => 3 | 0 => 0 | n => n, fun | n => n⟩
theorem Tryz.lays110 : Go.Proofs.Lays.n110 Tryz.prog Tryz.lays110_ren := {
 mixed := by kernel_rfl
 f109 := Tryz.func103.trans (congrArg some (by kernel_rfl))
 f110 := Tryz.func79.trans (congrArg some (by kernel_rfl))
 t0 := Tryz.underlying0
 a0 := Tryz.isAgg0
 z0 := Tryz.sizeOf0
 v0 := Tryz.zeroValue0
 t3 := Tryz.underlying3
 a3 := Tryz.isAgg3
 z3 := Tryz.sizeOf3
 v3 := Tryz.zeroValue3
 t4 := Tryz.underlying4
 a4 := Tryz.isAgg4
 z4 := Tryz.sizeOf4
 v4 := Tryz.zeroValue4
 t9 := Tryz.underlying9
 a9 := Tryz.isAgg9
 z9 := Tryz.sizeOf9
 v9 := Tryz.zeroValue9
 t31 := Tryz.underlying22
 a31 := Tryz.isAgg22
 z31 := Tryz.sizeOf22
 v31 := Tryz.zeroValue22 }
open Go.RowKit Go.Sort Go.Lib in
theorem Tryz.slices_Contains_string (b off n c : Nat) (zs : List ByteArray) (x : ByteArray) (w : World) (hz : n <= zs.length) (hbig : n <= 9223372036854775807) (hc : ∀ j, j < zs.length -> w.cell? ⟨b, off + j, none⟩ = some (.string (zs.getD j ByteArray.empty))) :
  Calls Tryz.prog 79 #[.slice (some ⟨b, off, none⟩) n c, .string x] w fun e w' => e = .returned (.bool (Lib.containsS (zs.take n) x)) /\ w' = w := Any.slices_Contains_string Tryz.lays110 b off n c zs x w hz hbig hc
def Tryz.laysNm216_ren : Go.Shelf.Ren := ⟨fun | 16 => 120 | n => n, fun | 24 => 22 | 9 => 9 | 4 => 4 | n => n, fun | n => n⟩
theorem Tryz.laysNm216 : Go.Proofs.Lays2.n16 Tryz.prog Tryz.laysNm216_ren := {
 mixed := by kernel_rfl
 f16 := Tryz.func120.trans (congrArg some (by kernel_rfl))
 t4 := Tryz.underlying4
 a4 := Tryz.isAgg4
 z4 := Tryz.sizeOf4
 v4 := Tryz.zeroValue4
 t9 := Tryz.underlying9
 a9 := Tryz.isAgg9
 z9 := Tryz.sizeOf9
 v9 := Tryz.zeroValue9
 t24 := Tryz.underlying22
 a24 := Tryz.isAgg22
 z24 := Tryz.sizeOf22
 v24 := Tryz.zeroValue22
 i9 := by kernel_rfl }
open Go.RowKit Go.Sort Go.Lib in
theorem Tryz.slices_Clone_string (b off n c : Nat) (zs : List ByteArray) (w : World) (hz : n <= zs.length) (hbig : n * 16 <= 140737488355328) (hc : ∀ j, j < zs.length -> w.cell? ⟨b, off + j, none⟩ = some (.string (zs.getD j ByteArray.empty))) :
  Calls Tryz.prog 120 #[.slice (some ⟨b, off, none⟩) n c] w fun e w' => ∃ v', e = .returned v' /\ w'.ownsRow w.heap.size 9 1 v' n ((zs.take n).map (Value.string)) /\ v' ≠ .slice none 0 0 /\ Below w.heap.size w w' := Any.slices_Clone_string Tryz.laysNm216 b off n c zs w hz hbig hc
def Tryz.laysM173_ren : Go.Shelf.Ren := ⟨fun | 173 => 86 | 246 => 113 | 283 => 130 | 284 => 131 | 285 => 132 | 286 => 133 | 129 => 146 | 317 => 145 | 318 => 147 | 319 => 148 | 320 => 149 | 337 => 156 | 338 => 157 | n => n, fun | 2 => 2 | 3 => 3 | 9 => 9 | 4 => 4 | 171 => 186 | 0 => 0 | 53 => 157 | 37 => 58 | 5 => 5 | 173 => 189 | 212 => 206 | 51 => 169 | 20 => 20 | 213 => 207 | 46 => 151 | 232 => 217 | 233 => 218 | n => n, fun | 17 => 3 | 18 => 6 | 19 => 7 | n => n⟩
theorem Tryz.laysM173 : Go.Proofs.LaysM.n173 Tryz.prog Tryz.laysM173_ren := {
 mixed := by kernel_rfl
 f129 := Tryz.func146.trans (congrArg some (by kernel_rfl))
 f173 := Tryz.func86.trans (congrArg some (by kernel_rfl))
 f246 := Tryz.func113.trans (congrArg some (by kernel_rfl))
 f283 := Tryz.func130.trans (congrArg some (by kernel_rfl))
 f284 := Tryz.func131.trans (congrArg some (by kernel_rfl))
 f285 := Tryz.func132.trans (congrArg some (by kernel_rfl))
 f286 := Tryz.func133.trans (congrArg some (by kernel_rfl))
 f317 := Tryz.func145.trans (congrArg some (by kernel_rfl))
 f318 := Tryz.func147.trans (congrArg some (by kernel_rfl))
 f319 := Tryz.func148.trans (congrArg some (by kernel_rfl))
 f320 := Tryz.func149.trans (congrArg some (by kernel_rfl))
 f337 := Tryz.func156.trans (congrArg some (by kernel_rfl))
 f338 := Tryz.func157.trans (congrArg some (by kernel_rfl))
 t0 := Tryz.underlying0
 a0 := Tryz.isAgg0
 z0 := Tryz.sizeOf0
 v0 := Tryz.zeroValue0
 t2 := Tryz.underlying2
 a2 := Tryz.isAgg2
 z2 := Tryz.sizeOf2
 v2 := Tryz.zeroValue2
 t3 := Tryz.underlying3
 a3 := Tryz.isAgg3
 z3 := Tryz.sizeOf3
 v3 := Tryz.zeroValue3
 t4 := Tryz.underlying4
 a4 := Tryz.isAgg4
 z4 := Tryz.sizeOf4
 v4 := Tryz.zeroValue4
 t5 := Tryz.underlying5
 a5 := Tryz.isAgg5
 z5 := Tryz.sizeOf5
 v5 := Tryz.zeroValue5
 t9 := Tryz.underlying9
 a9 := Tryz.isAgg9
 z9 := Tryz.sizeOf9
 v9 := Tryz.zeroValue9
 t20 := Tryz.underlying20
 a20 := Tryz.isAgg20
 z20 := Tryz.sizeOf20
 v20 := Tryz.zeroValue20
 t37 := Tryz.underlying58
 a37 := Tryz.isAgg58
 z37 := Tryz.sizeOf58
 v37 := Tryz.zeroValue58
 t46 := Tryz.underlying151
 a46 := Tryz.isAgg151
 z46 := Tryz.sizeOf151
 v46 := Tryz.zeroValue151
 t51 := Tryz.underlying169
 a51 := Tryz.isAgg169
 z51 := Tryz.sizeOf169
 v51 := Tryz.zeroValue169
 t53 := Tryz.underlying157
 a53 := Tryz.isAgg157
 z53 := Tryz.sizeOf157
 v53 := Tryz.zeroValue157
 t171 := Tryz.underlying186
 a171 := Tryz.isAgg186
 z171 := Tryz.sizeOf186
 v171 := Tryz.zeroValue186
 t173 := Tryz.underlying189
 a173 := Tryz.isAgg189
 z173 := Tryz.sizeOf189
 v173 := Tryz.zeroValue189
 t212 := Tryz.underlying206
 a212 := Tryz.isAgg206
 z212 := Tryz.sizeOf206
 v212 := Tryz.zeroValue206
 t213 := Tryz.underlying207
 a213 := Tryz.isAgg207
 z213 := Tryz.sizeOf207
 t232 := Tryz.underlying217
 a232 := Tryz.isAgg217
 z232 := Tryz.sizeOf217
 v232 := Tryz.zeroValue217
 t233 := Tryz.underlying218
 a233 := Tryz.isAgg218
 z233 := Tryz.sizeOf218
 v233 := Tryz.zeroValue218
 g17 := by kernel_rfl
 g18 := by kernel_rfl
 g19 := by kernel_rfl
 i0 := by kernel_rfl
 i2 := by kernel_rfl
 i3 := by kernel_rfl
 i4 := by kernel_rfl
 i5 := by kernel_rfl
 i9 := by kernel_rfl
 i20 := by kernel_rfl
 i37 := by kernel_rfl
 i46 := by kernel_rfl
 i51 := by kernel_rfl
 i53 := by kernel_rfl
 i171 := by kernel_rfl
 i173 := by kernel_rfl
 i212 := by kernel_rfl
 i232 := by kernel_rfl
 i233 := by kernel_rfl
 m17 := by kernel_rfl
 m18 := by kernel_rfl
 m19 := by kernel_rfl }
end Go.Proofs
namespace Go.Proofs.YtkakbidllpjopaaGreatDoor
open Go.RowKit
/-- The tables of the program lie there: the keywords, the powers of ten. -/
structure SxW (w : World) : Prop where
 kw : ∃ t fr, w.heap[0]? = some (.cells (kwords.map fun x => Value.string (bs x)).toArray t fr)
 pow : Lib.TabIs Tryz.prog w "internal/strconv.uint64pow10" .u64 Lib.pow10Tab
theorem gPow : Tryz.prog.globalNamed "internal/strconv.uint64pow10" = some 3 := by kernel_rfl
theorem lt_of_block {w : World} {b : Nat} {o : Obj} (h : w.heap[b]? = some o) : b < w.heap.size := (Array.getElem?_eq_some_iff.1 h).1
theorem SxW.below {w w' : World} (h : SxW w) (hb : Below w.heap.size w w') : SxW w' := by
 obtain ⟨⟨t, fr, h1⟩, h2⟩ := h
 exact ⟨⟨t, fr, (hb.block _ (lt_of_block h1)).trans h1⟩, Go.Joins.tab_stays gPow h2 hb (Nat.le_refl _)⟩
theorem SxW.kcell {w : World} (h : SxW w) (j : Nat) (hj : j < (kwords.map bs).length) : w.cell? ⟨0, 0 + j, none⟩ = some (.string ((kwords.map bs).getD j ByteArray.empty)) := by
 obtain ⟨t1, f1, h1⟩ := h.kw
 rw [Nat.zero_add, cell_of_row _ _ _ _ _ _ h1, List.getElem?_toArray, List.getElem?_map, List.getD_eq_getElem?_getD, List.getElem?_map]
 rw [List.length_map] at hj
 rw [List.getElem?_eq_getElem hj]
 rfl
theorem has_strs (l : List Str) (x : Str) : Lib.containsS (l.map bs) (bs x) = l.contains x := by
 rw [Bool.eq_iff_iff, Lib.containsS_iff, List.contains_iff_mem, List.mem_map]
 exact ⟨fun ⟨a, h, e⟩ => by rw [<- bs_inj e]; exact h, fun h => ⟨x, h, rfl⟩⟩
theorem keywords_any (w : World) (hw : SxW w) : Calls Tryz.prog 96 #[] w fun e w' => ∃ v, e = .returned v /\ w'.ownsRow w.heap.size 9 1 v 14 ((kwords.map bs).map Value.string) /\ Below w.heap.size w w' := by
 have HK := hI fun j hj => hw.kcell j hj
 go_enter Tryz.func96, Tryz.ntmps96
 go_wp2_with fail
 refine (Tryz.slices_Clone_string 0 0 14 14 (kwords.map bs) w (by decide) (by decide) HK.out).mono ?_
 rintro e w1 ⟨v, rfl, ho, _, hb⟩
 have HO := hI ho
 have HB := hI hb
 clear ho hb HK
 go_wp2
 go_ret
 exact ⟨v, rfl, HO.out, HB.out⟩
/-- slices.Contains on a row of strings of the call's own. -/
theorem contains_own {w : World} {base n : Nat} {v : Value} {xs : List Str} (h : w.ownsRow base 9 1 v n ((xs.map bs).map Value.string)) (x : Str) (hn : n = xs.length) (hlt : n <= 1000000) (hne : 0 < n) :
  Calls Tryz.prog 79 #[v, .string (bs x)] w fun e w' => e = .returned (.bool (xs.contains x)) /\ w' = w := by
 obtain ⟨A, c, rfl, hc, hA, hR⟩ := own_reads (S := fun _ => True) h (fun _ _ => trivial)
 obtain ⟨b, o, rfl, hb, _, hcell⟩ := hR.2 hne
 have hC := Tryz.slices_Contains_string b o n c (xs.map bs) (bs x) w (by rw [List.length_map]; omega) (by omega) (fun j hj => hcell j _ (by
  rw [List.getElem?_map, List.getElem?_eq_getElem hj, List.getD_eq_getElem?_getD, List.getElem?_eq_getElem hj]; rfl))
 rwa [List.take_of_length_le (by rw [List.length_map]; omega), has_strs] at hC
theorem conv_bytes (s : Str) (W : World) : ∃ X cap, (convert 9 58 (.string (bs s))).run Tryz.prog W = .ok (.slice (some ⟨W.heap.size, 0, none⟩) s.length cap) (W.drew.alloc X) /\ s.length <= cap /\
  (∀ W' : World, Below (W.heap.size + 1) (W.drew.alloc X) W' -> ∀ j (hj : j < s.length), W'.cell? ⟨W.heap.size, j, none⟩ = some (.int .u8 (s[j].toNat : Int))) := by
 have h := run_bytes_of_string (P := Tryz.prog) W 9 58 5 (bs s) Tryz.underlying9 Tryz.underlying58 Tryz.underlying5
 rw [bs_size] at h
 refine ⟨_, _, h, grownCap_ge _ _ _ _, fun W' hb j hj => ?_⟩
 have hblk := hb.block W.heap.size (by omega)
 rw [show (W.drew.alloc (Obj.cells (bytesRow (bs s) (grownCap W s.length 0 5)) 5 ((bytesRow (bs s) (grownCap W s.length 0 5)).size, (bytesRow (bs s) (grownCap W s.length 0 5)).size + 1))).heap[W.heap.size]? = some (Obj.cells (bytesRow (bs s) (grownCap W s.length 0 5)) 5 ((bytesRow (bs s) (grownCap W s.length 0 5)).size, (bytesRow (bs s) (grownCap W s.length 0 5)).size + 1)) from by
  show (W.heap.push _)[W.heap.size]? = _
  simp] at hblk
 have hj2 : j < (bs s).data.size := by have h2 : (bs s).data.size = s.length := bs_size s; omega
 rw [cell_of_row _ _ _ _ _ _ hblk, bytesRow_at _ _ _ hj2]
 rfl
theorem letB_iff (b : UInt8) : letB b = true ↔ ((b.toNat : Int) = 95 ∨ (97 <= (b.toNat : Int) /\ (b.toNat : Int) <= 122) ∨ (65 <= (b.toNat : Int) /\ (b.toNat : Int) <= 90)) := by
 have h95 : b = 95 ↔ (b.toNat : Int) = 95 := by
  rw [<- UInt8.toNat_inj]
  show b.toNat = 95 ↔ _
  omega
 unfold letB
 simp only [Bool.or_eq_true, Bool.and_eq_true, beq_iff_eq, decide_eq_true_eq, UInt8.le_iff_toNat_le, h95]
 show (((b.toNat : Int) = 95 ∨ (97 <= b.toNat /\ b.toNat <= 122)) ∨ (65 <= b.toNat /\ b.toNat <= 90)) ↔ _
 omega
theorem digB_iff (b : UInt8) : digB b = true ↔ (48 <= (b.toNat : Int) /\ (b.toNat : Int) <= 57) := by
 unfold digB
 simp only [Bool.and_eq_true, decide_eq_true_eq, UInt8.le_iff_toNat_le]
 show (48 <= b.toNat /\ b.toNat <= 57) ↔ _
 omega
/-- The letter at the index k is good. -/
def okB (k : Nat) (b : UInt8) : Bool := letB b || (k != 0 && digB b)
theorem okB_iff (k : Nat) (b : UInt8) : okB k b = true ↔ ((b.toNat : Int) = 95 ∨ (97 <= (b.toNat : Int) /\ (b.toNat : Int) <= 122) ∨ (65 <= (b.toNat : Int) /\ (b.toNat : Int) <= 90)) ∨ ((k : Int) ≠ 0 /\ 48 <= (b.toNat : Int) /\ (b.toNat : Int) <= 57) := by
 unfold okB
 rw [Bool.or_eq_true, Bool.and_eq_true, letB_iff, digB_iff, bne_iff_ne]
 omega
theorem eq95 (n : Int) : ((n == 95) = true /\ n = 95) ∨ ((n == 95) = false /\ ¬ n = 95) := by
 by_cases h : n = 95
 ·exact .inl ⟨by rw [h]; rfl, h⟩
 exact .inr ⟨by simp [h], h⟩
theorem nameL_drop (k : Nat) (s : Str) (hk : k < s.length) : nameL k (s.drop k) = (okB k s[k] && nameL (k + 1) (s.drop (k + 1))) := by
 rw [List.drop_eq_getElem_cons hk, nameL]
 rfl
theorem isName_any (s : Str) (w : World) (hw : SxW w) : Calls Tryz.prog 69 #[.string (bs s)] w fun e w' => e = .returned (.bool (nameOk s)) /\ Below w.heap.size w w' := by
 obtain ⟨r, hr⟩ : ∃ r, r = nameOk s := ⟨_, rfl⟩
 rw [<- hr]
 by_cases h0 : s = []
 ·obtain rfl : r = false := by rw [hr, h0]; rfl
  subst h0
  have e0 : (bs []).toList = [] := bs_toList []
  have e1 : (bs []).toList.isEmpty = true := by rw [e0]; rfl
  clear hr hw
  go_enter Tryz.func69, Tryz.ntmps69
  go_wp2
  go_ret
  exact ⟨rfl, Below.refl _ _⟩
 have hpos : 0 < s.length := List.length_pos_iff.2 h0
 have e0 : ¬ (bs s).toList = [] := by rw [bs_toList]; exact h0
 have e1 : (bs s).toList.isEmpty = false := by rw [bs_toList]; cases s with | nil => exact absurd rfl h0 | cons => rfl
 have hsz := bs_size s
 have hpi : (0 : Int) < (s.length : Int) := by omega
 by_cases h24 : 24 < s.length
 ·obtain rfl : r = false := by rw [hr]; unfold nameOk; rw [show decide (s.length <= 24) = false from decide_eq_false (by omega)]; simp
  have h24i : (24 : Int) < (s.length : Int) := by omega
  clear hr hw h0 hpos
  go_enter Tryz.func69, Tryz.ntmps69
  go_wp2
  go_ret
  exact ⟨rfl, Below.refl _ _⟩
 have h24i : ¬ (24 : Int) < (s.length : Int) := by omega
 have K1 := hI (keywords_any w hw)
 cases hk : kwords.contains s with
 | true =>
  obtain rfl : r = false := by rw [hr]; unfold nameOk; rw [hk]; simp
  have HKW := hI hk
  clear hr hw h0 hpos h24 hk
  go_enter Tryz.func69, Tryz.ntmps69
  go_wp2_with fail
  refine K1.out.mono ?_
  rintro e w1 ⟨v, rfl, ho, hb⟩
  have HB := hI hb
  have K2 := hI (contains_own ho s rfl (by decide) (by decide))
  rw [HKW.out] at K2
  clear ho hb K1
  go_wp2_with fail
  refine K2.out.mono ?_
  rintro e w2 ⟨rfl, rfl⟩
  go_wp2
  go_ret
  exact ⟨rfl, HB.out⟩
 | false =>
  have HR := hI (show r = nameL 0 s by rw [hr]; unfold nameOk; rw [hk, show decide (s.length <= 24) = true from decide_eq_true (by omega), show decide (1 <= s.length) = true from decide_eq_true (by omega)]; simp)
  have HKW := hI hk
  clear hr hw h0 hpos hk
  go_enter Tryz.func69, Tryz.ntmps69
  go_wp2_with fail
  refine K1.out.mono ?_
  rintro e w1 ⟨v, rfl, ho, hb⟩
  have HB := hI hb
  have K2 := hI (contains_own ho s rfl (by decide) (by decide))
  rw [HKW.out] at K2
  clear ho hb K1
  go_wp2_with fail
  refine K2.out.mono ?_
  rintro e w2 ⟨rfl, rfl⟩
  obtain ⟨X, cap, hcv, hcap, hcell⟩ := conv_bytes s w2
  have HC := hI hcell
  have hsc : (s.length : Int) <= (cap : Int) := by omega
  have HBB : ∀ wr, Hid (Below (w2.heap.size + 1) (w2.drew.alloc X) wr) -> Hid (Below w.heap.size w wr) := fun wr h => by
   have hs := HB.out.size
   exact hI ((HB.out.drew.alloc (by exact hs) X).trans (h.out.mono (by omega)))
  clear hcell
  go_wp2
  go_loopw [21] (fun i wr => ∃ k : Nat, k <= s.length /\ i = .int .i64 k /\ Hid (r = nameL k (s.drop k)) /\ Hid (Below (w2.heap.size + 1) (w2.drew.alloc X) wr)) (fun i _ => s.length - (intOf i).toNat)
  case atStart => exact ⟨0, by omega, rfl, hI HR.out, hI (Below.refl _ _)⟩
  case round =>
   obtain ⟨k, hk, rfl, HE, HB3⟩ := hrel
   by_cases hlt : k < s.length
   ·have f0 := HC.out _ HB3.out k hlt
    have hi1 : (k : Int) < (s.length : Int) := by omega
    obtain ⟨x, hx⟩ : ∃ x, x = s[k] := ⟨_, rfl⟩
    rw [<- hx] at f0
    have HX := hI hx
    obtain ⟨n, hn⟩ : ∃ n : Int, n = (x.toNat : Int) := ⟨_, rfl⟩
    rw [<- hn] at f0
    have HN := hI hn
    have hn0 : 0 <= n := by omega
    have hn1 : n <= 255 := by have := x.toNat_lt; omega
    have HD := hI (nameL_drop k s hlt)
    have HB4 := hI (fun k => (show Below (w2.heap.size + 1) (w2.drew.alloc X) (wr.drewN k) from ⟨HB3.out.os, HB3.out.tape, HB3.out.output, HB3.out.size, HB3.out.block⟩))
    have HG := hI (okB_iff k x)
    have HG1 := hI (fun (hg : okB k x = true) => show r = nameL (k + 1) (s.drop (k + 1)) by rw [HE.out, HD.out, <- HX.out, hg]; rfl)
    have HG0 := hI (fun (hg : okB k x = false) => show r = false by rw [HE.out, HD.out, <- HX.out, hg]; rfl)
    clear HE HD HX
    clear hx hn
    have hcap2 : (k : Int) < (cap : Int) := by omega
    rcases Nat.eq_zero_or_pos k with rfl | q0 <;> (first | (replace q0 : ¬ (k : Int) = 0 := by omega) | skip) <;> rcases Classical.em (n < 48) with q1 | q1 <;> rcases Classical.em (57 < n) with q2 | q2 <;> (first | (exfalso; omega) | skip) <;>
     rcases Classical.em (65 <= n) with q3 | q3 <;> (first | (exfalso; omega) | skip) <;> rcases Classical.em (n <= 90) with q4 | q4 <;> (first | (exfalso; omega) | skip) <;>
     rcases eq95 n with ⟨q5, q5n⟩ | ⟨q5, q5n⟩ <;> (first | (exfalso; omega) | skip) <;> rcases Classical.em (97 <= n) with q6 | q6 <;> (first | (exfalso; omega) | skip) <;>
     rcases Classical.em (n <= 122) with q7 | q7 <;> (first | (exfalso; omega) | skip)
    all_goals first
     | (have HE2 := hI (HG1.out (HG.out.2 (by have := HN.out; omega)))
        clear HG1 HG0 HG
        go_wp2
        try (go_quiet (fail); go_wp2)
        go_roundw
        case rel => first | exact ⟨_, by omega, by go_num, HE2, HB3⟩ | exact ⟨_, by omega, by go_num, HE2, hI (HB4.out _)⟩
        case measure => simp [intOf]; omega)
     | (have HE2 := hI (HG0.out (by rw [<- Bool.not_eq_true, HG.out]; have := HN.out; omega))
        have HB5 := hI (fun k => HBB _ (hI (HB4.out k)))
        clear HG1 HG0 HG
        go_wp2
        try (go_quiet (fail); go_wp2)
        go_ret
        first | exact ⟨by rw [HE2.out]; rfl, (HBB _ HB3).out⟩ | exact ⟨by rw [HE2.out]; rfl, (HB5.out _).out⟩)
   have hge : ¬ (k : Int) < (s.length : Int) := by omega
   obtain rfl : k = s.length := by omega
   have HE2 := hI (show r = true by rw [HE.out, List.drop_length]; rfl)
   have HB4 := HBB wr HB3
   clear HE
   go_wp2
   go_ret
   exact ⟨by rw [HE2.out]; rfl, HB4.out⟩
open Go.RowKit
section
variable {P : Program} {ops : Array Oper} {rest : List Oper} {a : Act} {w : World} {Q : Exit -> Act -> World -> Prop} {d : Option Tmp} {t ty : TypeId} {x y : Operand} {pos : String}
theorem at_build_ {aft} {g} {ps} (h : wpList P ops Q (⟨d, .build t ps, ty, pos, aft, g⟩ :: rest) a w) : wpList P ops Q (⟨d, .build t ps, ty, pos, aft, g⟩ :: rest) a w := h
theorem at_store_ {aft} {g} (h : wpList P ops Q (⟨d, .store t x y, ty, pos, aft, g⟩ :: rest) a w) : wpList P ops Q (⟨d, .store t x y, ty, pos, aft, g⟩ :: rest) a w := h
theorem at_load_ {aft} {g} (h : wpList P ops Q (⟨d, .load t x, ty, pos, aft, g⟩ :: rest) a w) : wpList P ops Q (⟨d, .load t x, ty, pos, aft, g⟩ :: rest) a w := h
theorem at_alloc_ {aft} {g} (h : wpList P ops Q (⟨d, .alloc t, ty, pos, aft, g⟩ :: rest) a w) : wpList P ops Q (⟨d, .alloc t, ty, pos, aft, g⟩ :: rest) a w := h
/-- A new variable of a type of many cells. -/
theorem wpList_alloc_mine {o : Oper} (hg : o.guard = none) (t : TypeId) (ho : o.op = .alloc t) (dst : Option Tmp) (hd : o.dst = dst)
  (cs : Array Value) (hz : ∀ w, (zeroValue t).run P w = .ok (.agg cs) w) (hc : (Value.agg cs).cells = cs)
  (h : wpList P ops Q rest (a.put dst (.pointer (some ⟨w.heap.size, 0, none⟩))) (w.alloc (.cells cs t))) : wpList P ops Q (o :: rest) a w := by
 subst hd
 refine wpList_plain hg fun K hK => ?_
 unfold Oper.wp execOp
 simp only [ho]
 simp [Instr.alloc, hz, hc, Result.andThen]
 exact hK _ _ h
end
theorem setRow_alloc (w : World) (cs ds : Array Value) (t : TypeId) : (w.alloc (.cells cs t)).setRow w.heap.size ds = w.alloc (.cells ds t) := by
 unfold World.setRow World.alloc
 congr 1
 apply Array.ext
 ·simp
 intro k h1 h2
 simp only [Array.getElem_modify]
 split
 ·rename_i hk
  subst hk
  simp
 rename_i hk
 have : k < w.heap.size := by simp at h2; omega
 simp [Array.getElem_push, this]
/-- The rules of the kinds of expressions. -/
def rulesC : Array Value := #[.bool true, .bool false, .bool false, .bool false, .bool false, .int .i64 9223372036854775807, .int .i64 0, .int .i64 0, .bool true, .bool false, .bool false, .bool false, .bool false, .int .i64 1, .int .i64 0, .int .i64 0, .bool false, .bool true, .bool false, .bool false, .bool false, .int .i64 0, .int .i64 0, .int .i64 0, .bool false, .bool false, .bool false, .bool false, .bool false, .int .i64 0, .int .i64 1, .int .i64 1, .bool false, .bool false, .bool false, .bool false, .bool false, .int .i64 0, .int .i64 1, .int .i64 1, .bool false, .bool false, .bool false, .bool true, .bool false, .int .i64 0, .int .i64 2, .int .i64 2, .bool false, .bool true, .bool true, .bool false, .bool true, .int .i64 0, .int .i64 0, .int .i64 4, .bool false, .bool true, .bool false, .bool false, .bool false, .int .i64 0, .int .i64 0, .int .i64 4]
def rulesZ : Array Value := #[.bool false, .bool false, .bool false, .bool false, .bool false, .int .i64 0, .int .i64 0, .int .i64 0, .bool false, .bool false, .bool false, .bool false, .bool false, .int .i64 0, .int .i64 0, .int .i64 0, .bool false, .bool false, .bool false, .bool false, .bool false, .int .i64 0, .int .i64 0, .int .i64 0, .bool false, .bool false, .bool false, .bool false, .bool false, .int .i64 0, .int .i64 0, .int .i64 0, .bool false, .bool false, .bool false, .bool false, .bool false, .int .i64 0, .int .i64 0, .int .i64 0, .bool false, .bool false, .bool false, .bool false, .bool false, .int .i64 0, .int .i64 0, .int .i64 0, .bool false, .bool false, .bool false, .bool false, .bool false, .int .i64 0, .int .i64 0, .int .i64 0, .bool false, .bool false, .bool false, .bool false, .bool false, .int .i64 0, .int .i64 0, .int .i64 0]
/-- One kind's rule. -/
def ruleC (k : Nat) : Array Value := rulesC.extract (k * 8) (k * 8 + 8)
theorem rules_zero (w : World) : (zeroValue 194).run Tryz.prog w = .ok (.agg rulesZ) w := by
 have h : (Tryz.prog.info? 194).bind (·.zero) = some (.agg rulesZ) := by kernel_rfl
 unfold zeroValue typeInfo
 cases hi : Tryz.prog.info? 194 with
 | none => rw [hi] at h; cases h
 | some i =>
  rw [hi] at h
  have h2 : i.zero = some (.agg rulesZ) := h
  simp [hi, h2]
theorem rules_size : (Tryz.prog.info? 194).map (·.size) = some rulesC.size := by kernel_rfl
theorem rules_ones : rulesC.all (·.oneCell') = true := by kernel_rfl
theorem rules_built : Tryz.prog.built 194 [(0, .agg #[.bool true, .bool false, .bool false, .bool false, .bool false, .int .i64 9223372036854775807, .int .i64 0, .int .i64 0]), (1, .agg #[.bool true, .bool false, .bool false, .bool false, .bool false, .int .i64 1, .int .i64 0, .int .i64 0]), (2, .agg #[.bool false, .bool true, .bool false, .bool false, .bool false, .int .i64 0, .int .i64 0, .int .i64 0]), (3, .agg #[.bool false, .bool false, .bool false, .bool false, .bool false, .int .i64 0, .int .i64 1, .int .i64 1]), (4, .agg #[.bool false, .bool false, .bool false, .bool false, .bool false, .int .i64 0, .int .i64 1, .int .i64 1]), (5, .agg #[.bool false, .bool false, .bool false, .bool true, .bool false, .int .i64 0, .int .i64 2, .int .i64 2]), (6, .agg #[.bool false, .bool true, .bool true, .bool false, .bool true, .int .i64 0, .int .i64 0, .int .i64 4]), (7, .agg #[.bool false, .bool true, .bool false, .bool false, .bool false, .int .i64 0, .int .i64 0, .int .i64 4])] = some rulesC := by kernel_rfl
theorem rules_any (w : World) : Calls Tryz.prog 138 #[] w fun e w' => e = .returned (.agg rulesC) /\ Below w.heap.size w w' := by
 have H0 := hI (show ∀ (o : Obj), (w.alloc o).heap[w.heap.size]? = some o from fun o => heap_alloc_new w o)
 go_enter Tryz.func138, Tryz.ntmps138
 go_wp2_with (first
  | (with_reducible refine at_alloc_ ?_; refine wpList_alloc_mine rfl 194 rfl _ rfl rulesZ rules_zero rfl ?_)
  | (with_reducible refine at_build_ (t := 194) ?_; refine Hid.out ?_))
 refine hI ?_
 refine wpList_buildTo rfl 194 _ rfl _ rfl rulesC (by simp only [List.map_toArray, List.map_cons, List.map_nil, List.toList_toArray]; exact rules_built) ?_
 go_wp2_with (with_reducible refine at_store_ ?_; refine Hid.out ?_)
 refine hI ?_
 refine wpList_store_rowTo rfl 194 (.tmp 0) (.tmp 9) rfl rfl w.heap.size rulesC rfl rfl 194 rulesZ (H0.out _) rules_size rfl rules_ones ?_
 rw [setRow_alloc]
 go_wp2_with fail
 refine bodyPost_ret (results_cell_row rfl _ _ w.heap.size _ _ _ _ rfl (H0.out _) Tryz.underlying194 rfl rules_size) rfl ⟨rfl, (Below.refl _ _).alloc (Nat.le_refl _) _⟩
theorem rule_at (k : Nat) (hk : k < 8) (w : World) : (Instr.index 194 (.agg rulesC) (.int .i64 (k : Int))).run Tryz.prog w = .ok (.agg (ruleC k)) w := by
 match k, hk with
 | 0, _ => rfl
 | 1, _ => rfl
 | 2, _ => rfl
 | 3, _ => rfl
 | 4, _ => rfl
 | 5, _ => rfl
 | 6, _ => rfl
 | 7, _ => rfl
theorem hasName_any (k : Int) (w : World) : Calls Tryz.prog 122 #[.int .i64 k] w fun e w' => e = .returned (.bool (decide (k <= 1 /\ 0 <= k))) /\ w' = w := by
 rcases Classical.em (k = 0) with h0 | h0
 ·subst h0
  go_enter Tryz.func122, Tryz.ntmps122
  go_wp2
  go_ret
  exact ⟨rfl, rfl⟩
 have h1 : decide (k <= 1 /\ 0 <= k) = (k == 1) := by rw [Bool.eq_iff_iff]; simp; omega
 rw [h1]
 have h2 : (k == 0) = false := by simp [h0]
 go_enter Tryz.func122, Tryz.ntmps122
 go_wp2
 go_ret
 exact ⟨rfl, rfl⟩
theorem hasExpr_any (k : Int) (w : World) : Calls Tryz.prog 123 #[.int .i64 k] w fun e w' => e = .returned (.bool (hasX k)) /\ w' = w := by
 unfold hasX
 rcases Classical.em (k = 4) with h0 | h0
 ·subst h0
  go_enter Tryz.func123, Tryz.ntmps123
  go_wp2
  go_ret
  exact ⟨rfl, rfl⟩
 have h1 : decide (k ≠ 4 /\ k ≠ 6) = (k != 6) := by rw [Bool.eq_iff_iff]; simp [h0]
 rw [h1]
 have h2 : (k != 4) = true := by simp [h0]
 go_enter Tryz.func123, Tryz.ntmps123
 go_wp2
 go_ret
 exact ⟨rfl, rfl⟩
theorem hasNum_any (k : Int) (w : World) : Calls Tryz.prog 136 #[.int .i64 k] w fun e w' => e = .returned (.bool (decide (k = 4 ∨ k = 6))) /\ w' = w := by
 rcases Classical.em (k = 4) with h0 | h0
 ·subst h0
  go_enter Tryz.func136, Tryz.ntmps136
  go_wp2
  go_ret
  exact ⟨rfl, rfl⟩
 have h1 : decide (k = 4 ∨ k = 6) = (k == 6) := by rw [Bool.eq_iff_iff]; simp [h0]
 rw [h1]
 have h2 : (k == 4) = false := by simp [h0]
 go_enter Tryz.func136, Tryz.ntmps136
 go_wp2
 go_ret
 exact ⟨rfl, rfl⟩
open Go.RowKit
theorem ruleC0 : ruleC 0 = #[.bool true, .bool false, .bool false, .bool false, .bool false, .int .i64 9223372036854775807, .int .i64 0, .int .i64 0] := rfl
theorem ruleC1 : ruleC 1 = #[.bool true, .bool false, .bool false, .bool false, .bool false, .int .i64 1, .int .i64 0, .int .i64 0] := rfl
theorem ruleC2 : ruleC 2 = #[.bool false, .bool true, .bool false, .bool false, .bool false, .int .i64 0, .int .i64 0, .int .i64 0] := rfl
theorem ruleC3 : ruleC 3 = #[.bool false, .bool false, .bool false, .bool false, .bool false, .int .i64 0, .int .i64 1, .int .i64 1] := rfl
theorem ruleC4 : ruleC 4 = #[.bool false, .bool false, .bool false, .bool false, .bool false, .int .i64 0, .int .i64 1, .int .i64 1] := rfl
theorem ruleC5 : ruleC 5 = #[.bool false, .bool false, .bool false, .bool true, .bool false, .int .i64 0, .int .i64 2, .int .i64 2] := rfl
theorem ruleC6 : ruleC 6 = #[.bool false, .bool true, .bool true, .bool false, .bool true, .int .i64 0, .int .i64 0, .int .i64 4] := rfl
theorem ruleC7 : ruleC 7 = #[.bool false, .bool true, .bool false, .bool false, .bool false, .int .i64 0, .int .i64 0, .int .i64 4] := rfl
theorem nil_facts {s : Str} (h : s = []) : (bs s).toList = [] /\ (bs s).toList.isEmpty = true := by subst h; exact ⟨bs_toList [], by rw [bs_toList]; rfl⟩
theorem cons_facts {s : Str} (h : ¬ s = []) : ¬ (bs s).toList = [] /\ (bs s).toList.isEmpty = false := by
 rw [bs_toList]
 exact ⟨h, by cases s with | nil => exact absurd rfl h | cons => rfl⟩
theorem beq_nil {s : Str} (h : ¬ s = []) : (s == []) = false := by simp [h]
theorem form0_any (n : Int) (s m : Str) (A : Option Addr) (na ca : Nat) (O : Option Addr) (no co : Nat) (a o : List Ex) (w : World) (ha : na = a.length) (ho : no = o.length) :
  Calls Tryz.prog 139 #[.agg (ruleC 0), .agg (exC 0 n s m A na ca O no co).toArray] w fun e w' => e = .returned (.bool (formE (.mk 0 n s m a o))) /\ Below w.heap.size w w' := by
 have HB := hI (fun X Y => (((Below.refl w.heap.size w).alloc (Nat.le_refl _) X).alloc (by show _ <= (w.heap.push X).size; simp) Y))
 have HD := hI (fun X Y k => (show Below w.heap.size w (((w.alloc X).alloc Y).drewN k) from ⟨(HB.out X Y).os, (HB.out X Y).tape, (HB.out X Y).output, (HB.out X Y).size, (HB.out X Y).block⟩))
 obtain ⟨f, hf⟩ : ∃ f, f = formE (.mk 0 n s m a o) := ⟨_, rfl⟩
 rw [<- hf]
 unfold formE at hf
 simp only [Ex.kind, Ex.num, Ex.name, Ex.meth, Ex.args, Ex.orr, <- ha, <- ho] at hf
 simp (config := { decide := true }) only [if_true, if_false, or_true, true_or, or_false, false_or] at hf
 rw [ruleC0]
 unfold exC
 clear ha ho
 by_cases qs : s = []
 rotate_left
 ·obtain ⟨qs1, qs2⟩ := cons_facts qs
  have qs3 := beq_nil qs
  obtain rfl : f = false := by rw [hf]; first | rfl | (simp [qs]; done) | (simp [qs]; omega)
  clear hf
  go_enter Tryz.func139, Tryz.ntmps139
  go_wp2
  repeat (go_quiet (fail); go_wp2)
  go_ret
  first | exact ⟨rfl, HB.out _ _⟩ | exact ⟨rfl, HD.out _ _ _⟩
 obtain ⟨qs1, qs2⟩ := nil_facts qs
 subst qs
 by_cases qm : m = []
 rotate_left
 ·obtain ⟨qm1, qm2⟩ := cons_facts qm
  have qm3 := beq_nil qm
  obtain rfl : f = false := by rw [hf]; first | rfl | (simp [qm]; done) | (simp [qm]; omega)
  clear hf
  go_enter Tryz.func139, Tryz.ntmps139
  go_wp2
  repeat (go_quiet (fail); go_wp2)
  go_ret
  first | exact ⟨rfl, HB.out _ _⟩ | exact ⟨rfl, HD.out _ _ _⟩
 obtain ⟨qm1, qm2⟩ := nil_facts qm
 subst qm
 by_cases qh : 0 < (na : Int)
 ·have qh2 : ¬ na <= 0 := by omega
  have qh3 : ¬ na = 0 := by omega
  have qh4 : ¬ (na : Int) < 0 := by omega
  obtain rfl : f = false := by rw [hf]; first | rfl | (simp [qh2, qh3]; done) | (simp [qh2, qh3]; omega)
  clear hf
  go_enter Tryz.func139, Tryz.ntmps139
  go_wp2
  repeat (go_quiet (fail); go_wp2)
  go_ret
  first | exact ⟨rfl, HB.out _ _⟩ | exact ⟨rfl, HD.out _ _ _⟩
 have qh4 : ¬ (na : Int) < 0 := by omega
 have qh5 : na <= 0 := by omega
 have qh6 : na = 0 := by omega
 by_cases qo : no = 0
 ·subst qo
  obtain rfl : f = true := by rw [hf]; first | rfl | (simp [qh6, qh5]; done) | (simp [qh6, qh5]; omega)
  clear hf
  go_enter Tryz.func139, Tryz.ntmps139
  go_wp2
  repeat (go_quiet (fail); go_wp2)
  go_ret
  first | exact ⟨rfl, HB.out _ _⟩ | exact ⟨rfl, HD.out _ _ _⟩
 have qo1 : ((no : Int) == 0) = false := by simp [qo]
 have qo2 : ¬ (no : Int) = 0 := by omega
 obtain rfl : f = false := by rw [hf]; first | rfl | (simp [qh6, qh5, qo]; done) | (simp [qh6, qh5, qo]; omega)
 clear hf
 go_enter Tryz.func139, Tryz.ntmps139
 go_wp2
 repeat (go_quiet (fail); go_wp2)
 go_ret
 first | exact ⟨rfl, HB.out _ _⟩ | exact ⟨rfl, HD.out _ _ _⟩
theorem form1_any (n : Int) (s m : Str) (A : Option Addr) (na ca : Nat) (O : Option Addr) (no co : Nat) (a o : List Ex) (w : World) (ha : na = a.length) (ho : no = o.length) :
  Calls Tryz.prog 139 #[.agg (ruleC 1), .agg (exC 1 n s m A na ca O no co).toArray] w fun e w' => e = .returned (.bool (formE (.mk 1 n s m a o))) /\ Below w.heap.size w w' := by
 have HB := hI (fun X Y => (((Below.refl w.heap.size w).alloc (Nat.le_refl _) X).alloc (by show _ <= (w.heap.push X).size; simp) Y))
 have HD := hI (fun X Y k => (show Below w.heap.size w (((w.alloc X).alloc Y).drewN k) from ⟨(HB.out X Y).os, (HB.out X Y).tape, (HB.out X Y).output, (HB.out X Y).size, (HB.out X Y).block⟩))
 obtain ⟨f, hf⟩ : ∃ f, f = formE (.mk 1 n s m a o) := ⟨_, rfl⟩
 rw [<- hf]
 unfold formE at hf
 simp only [Ex.kind, Ex.num, Ex.name, Ex.meth, Ex.args, Ex.orr, <- ha, <- ho] at hf
 simp (config := { decide := true }) only [if_true, if_false, or_true, true_or, or_false, false_or] at hf
 rw [ruleC1]
 unfold exC
 clear ha ho
 by_cases qs : s = []
 rotate_left
 ·obtain ⟨qs1, qs2⟩ := cons_facts qs
  have qs3 := beq_nil qs
  obtain rfl : f = false := by rw [hf]; first | rfl | (simp [qs]; done) | (simp [qs]; omega)
  clear hf
  go_enter Tryz.func139, Tryz.ntmps139
  go_wp2
  repeat (go_quiet (fail); go_wp2)
  go_ret
  first | exact ⟨rfl, HB.out _ _⟩ | exact ⟨rfl, HD.out _ _ _⟩
 obtain ⟨qs1, qs2⟩ := nil_facts qs
 subst qs
 by_cases qm : m = []
 rotate_left
 ·obtain ⟨qm1, qm2⟩ := cons_facts qm
  have qm3 := beq_nil qm
  obtain rfl : f = false := by rw [hf]; first | rfl | (simp [qm]; done) | (simp [qm]; omega)
  clear hf
  go_enter Tryz.func139, Tryz.ntmps139
  go_wp2
  repeat (go_quiet (fail); go_wp2)
  go_ret
  first | exact ⟨rfl, HB.out _ _⟩ | exact ⟨rfl, HD.out _ _ _⟩
 obtain ⟨qm1, qm2⟩ := nil_facts qm
 subst qm
 by_cases qh : 0 < (na : Int)
 ·have qh2 : ¬ na <= 0 := by omega
  have qh3 : ¬ na = 0 := by omega
  have qh4 : ¬ (na : Int) < 0 := by omega
  obtain rfl : f = false := by rw [hf]; first | rfl | (simp [qh2, qh3]; done) | (simp [qh2, qh3]; omega)
  clear hf
  go_enter Tryz.func139, Tryz.ntmps139
  go_wp2
  repeat (go_quiet (fail); go_wp2)
  go_ret
  first | exact ⟨rfl, HB.out _ _⟩ | exact ⟨rfl, HD.out _ _ _⟩
 have qh4 : ¬ (na : Int) < 0 := by omega
 have qh5 : na <= 0 := by omega
 have qh6 : na = 0 := by omega
 by_cases qo : no = 0
 ·subst qo
  obtain rfl : f = true := by rw [hf]; first | rfl | (simp [qh6, qh5]; done) | (simp [qh6, qh5]; omega)
  clear hf
  go_enter Tryz.func139, Tryz.ntmps139
  go_wp2
  repeat (go_quiet (fail); go_wp2)
  go_ret
  first | exact ⟨rfl, HB.out _ _⟩ | exact ⟨rfl, HD.out _ _ _⟩
 have qo1 : ((no : Int) == 0) = false := by simp [qo]
 have qo2 : ¬ (no : Int) = 0 := by omega
 obtain rfl : f = false := by rw [hf]; first | rfl | (simp [qh6, qh5, qo]; done) | (simp [qh6, qh5, qo]; omega)
 clear hf
 go_enter Tryz.func139, Tryz.ntmps139
 go_wp2
 repeat (go_quiet (fail); go_wp2)
 go_ret
 first | exact ⟨rfl, HB.out _ _⟩ | exact ⟨rfl, HD.out _ _ _⟩
theorem form2_any (n : Int) (s m : Str) (A : Option Addr) (na ca : Nat) (O : Option Addr) (no co : Nat) (a o : List Ex) (w : World) (ha : na = a.length) (ho : no = o.length) :
  Calls Tryz.prog 139 #[.agg (ruleC 2), .agg (exC 2 n s m A na ca O no co).toArray] w fun e w' => e = .returned (.bool (formE (.mk 2 n s m a o))) /\ Below w.heap.size w w' := by
 have HB := hI (fun X Y => (((Below.refl w.heap.size w).alloc (Nat.le_refl _) X).alloc (by show _ <= (w.heap.push X).size; simp) Y))
 have HD := hI (fun X Y k => (show Below w.heap.size w (((w.alloc X).alloc Y).drewN k) from ⟨(HB.out X Y).os, (HB.out X Y).tape, (HB.out X Y).output, (HB.out X Y).size, (HB.out X Y).block⟩))
 obtain ⟨f, hf⟩ : ∃ f, f = formE (.mk 2 n s m a o) := ⟨_, rfl⟩
 rw [<- hf]
 unfold formE at hf
 simp only [Ex.kind, Ex.num, Ex.name, Ex.meth, Ex.args, Ex.orr, <- ha, <- ho] at hf
 simp (config := { decide := true }) only [if_true, if_false, or_true, true_or, or_false, false_or] at hf
 rw [ruleC2]
 unfold exC
 clear ha ho
 by_cases qn : n = 0
 rotate_left
 ·have qn1 : (n != 0) = true := by simp [qn]
  obtain rfl : f = false := by rw [hf]; first | rfl | (simp [qn]; done) | (simp [qn]; omega)
  clear hf
  go_enter Tryz.func139, Tryz.ntmps139
  go_wp2
  repeat (go_quiet (fail); go_wp2)
  go_ret
  first | exact ⟨rfl, HB.out _ _⟩ | exact ⟨rfl, HD.out _ _ _⟩
 subst qn
 by_cases qm : m = []
 rotate_left
 ·obtain ⟨qm1, qm2⟩ := cons_facts qm
  have qm3 := beq_nil qm
  obtain rfl : f = false := by rw [hf]; first | rfl | (simp [qm]; done) | (simp [qm]; omega)
  clear hf
  go_enter Tryz.func139, Tryz.ntmps139
  go_wp2
  repeat (go_quiet (fail); go_wp2)
  go_ret
  first | exact ⟨rfl, HB.out _ _⟩ | exact ⟨rfl, HD.out _ _ _⟩
 obtain ⟨qm1, qm2⟩ := nil_facts qm
 subst qm
 by_cases qh : 0 < (na : Int)
 ·have qh2 : ¬ na <= 0 := by omega
  have qh3 : ¬ na = 0 := by omega
  have qh4 : ¬ (na : Int) < 0 := by omega
  obtain rfl : f = false := by rw [hf]; first | rfl | (simp [qh2, qh3]; done) | (simp [qh2, qh3]; omega)
  clear hf
  go_enter Tryz.func139, Tryz.ntmps139
  go_wp2
  repeat (go_quiet (fail); go_wp2)
  go_ret
  first | exact ⟨rfl, HB.out _ _⟩ | exact ⟨rfl, HD.out _ _ _⟩
 have qh4 : ¬ (na : Int) < 0 := by omega
 have qh5 : na <= 0 := by omega
 have qh6 : na = 0 := by omega
 by_cases qo : no = 0
 ·subst qo
  obtain rfl : f = true := by rw [hf]; first | rfl | (simp [qh6, qh5]; done) | (simp [qh6, qh5]; omega)
  clear hf
  go_enter Tryz.func139, Tryz.ntmps139
  go_wp2
  repeat (go_quiet (fail); go_wp2)
  go_ret
  first | exact ⟨rfl, HB.out _ _⟩ | exact ⟨rfl, HD.out _ _ _⟩
 have qo1 : ((no : Int) == 0) = false := by simp [qo]
 have qo2 : ¬ (no : Int) = 0 := by omega
 obtain rfl : f = false := by rw [hf]; first | rfl | (simp [qh6, qh5, qo]; done) | (simp [qh6, qh5, qo]; omega)
 clear hf
 go_enter Tryz.func139, Tryz.ntmps139
 go_wp2
 repeat (go_quiet (fail); go_wp2)
 go_ret
 first | exact ⟨rfl, HB.out _ _⟩ | exact ⟨rfl, HD.out _ _ _⟩
theorem form3_any (n : Int) (s m : Str) (A : Option Addr) (na ca : Nat) (O : Option Addr) (no co : Nat) (a o : List Ex) (w : World) (ha : na = a.length) (ho : no = o.length) :
  Calls Tryz.prog 139 #[.agg (ruleC 3), .agg (exC 3 n s m A na ca O no co).toArray] w fun e w' => e = .returned (.bool (formE (.mk 3 n s m a o))) /\ Below w.heap.size w w' := by
 have HB := hI (fun X Y => (((Below.refl w.heap.size w).alloc (Nat.le_refl _) X).alloc (by show _ <= (w.heap.push X).size; simp) Y))
 have HD := hI (fun X Y k => (show Below w.heap.size w (((w.alloc X).alloc Y).drewN k) from ⟨(HB.out X Y).os, (HB.out X Y).tape, (HB.out X Y).output, (HB.out X Y).size, (HB.out X Y).block⟩))
 obtain ⟨f, hf⟩ : ∃ f, f = formE (.mk 3 n s m a o) := ⟨_, rfl⟩
 rw [<- hf]
 unfold formE at hf
 simp only [Ex.kind, Ex.num, Ex.name, Ex.meth, Ex.args, Ex.orr, <- ha, <- ho] at hf
 simp (config := { decide := true }) only [if_true, if_false, or_true, true_or, or_false, false_or] at hf
 rw [ruleC3]
 unfold exC
 clear ha ho
 by_cases qn : n = 0
 rotate_left
 ·have qn1 : (n != 0) = true := by simp [qn]
  obtain rfl : f = false := by rw [hf]; first | rfl | (simp [qn]; done) | (simp [qn]; omega)
  clear hf
  go_enter Tryz.func139, Tryz.ntmps139
  go_wp2
  repeat (go_quiet (fail); go_wp2)
  go_ret
  first | exact ⟨rfl, HB.out _ _⟩ | exact ⟨rfl, HD.out _ _ _⟩
 subst qn
 by_cases qs : s = []
 rotate_left
 ·obtain ⟨qs1, qs2⟩ := cons_facts qs
  have qs3 := beq_nil qs
  obtain rfl : f = false := by rw [hf]; first | rfl | (simp [qs]; done) | (simp [qs]; omega)
  clear hf
  go_enter Tryz.func139, Tryz.ntmps139
  go_wp2
  repeat (go_quiet (fail); go_wp2)
  go_ret
  first | exact ⟨rfl, HB.out _ _⟩ | exact ⟨rfl, HD.out _ _ _⟩
 obtain ⟨qs1, qs2⟩ := nil_facts qs
 subst qs
 by_cases qm : m = []
 rotate_left
 ·obtain ⟨qm1, qm2⟩ := cons_facts qm
  have qm3 := beq_nil qm
  obtain rfl : f = false := by rw [hf]; first | rfl | (simp [qm]; done) | (simp [qm]; omega)
  clear hf
  go_enter Tryz.func139, Tryz.ntmps139
  go_wp2
  repeat (go_quiet (fail); go_wp2)
  go_ret
  first | exact ⟨rfl, HB.out _ _⟩ | exact ⟨rfl, HD.out _ _ _⟩
 obtain ⟨qm1, qm2⟩ := nil_facts qm
 subst qm
 by_cases ql : (na : Int) < 1
 ·have ql2 : ¬ na = 1 := by omega
  obtain rfl : f = false := by rw [hf]; first | rfl | (simp [ql2]; done) | (simp [ql2]; omega)
  clear hf
  go_enter Tryz.func139, Tryz.ntmps139
  go_wp2
  repeat (go_quiet (fail); go_wp2)
  go_ret
  first | exact ⟨rfl, HB.out _ _⟩ | exact ⟨rfl, HD.out _ _ _⟩
 by_cases qh : 1 < (na : Int)
 ·have qh2 : ¬ na <= 1 := by omega
  have qh3 : ¬ na = 1 := by omega
  have qh4 : ¬ (na : Int) < 1 := by omega
  obtain rfl : f = false := by rw [hf]; first | rfl | (simp [qh2, qh3]; done) | (simp [qh2, qh3]; omega)
  clear hf
  go_enter Tryz.func139, Tryz.ntmps139
  go_wp2
  repeat (go_quiet (fail); go_wp2)
  go_ret
  first | exact ⟨rfl, HB.out _ _⟩ | exact ⟨rfl, HD.out _ _ _⟩
 have qh4 : ¬ (na : Int) < 1 := by omega
 have qh5 : na <= 1 := by omega
 have qh6 : na = 1 := by omega
 by_cases qo : no = 0
 ·subst qo
  obtain rfl : f = true := by rw [hf]; first | rfl | (simp [qh6, qh5]; done) | (simp [qh6, qh5]; omega)
  clear hf
  go_enter Tryz.func139, Tryz.ntmps139
  go_wp2
  repeat (go_quiet (fail); go_wp2)
  go_ret
  first | exact ⟨rfl, HB.out _ _⟩ | exact ⟨rfl, HD.out _ _ _⟩
 have qo1 : ((no : Int) == 0) = false := by simp [qo]
 have qo2 : ¬ (no : Int) = 0 := by omega
 obtain rfl : f = false := by rw [hf]; first | rfl | (simp [qh6, qh5, qo]; done) | (simp [qh6, qh5, qo]; omega)
 clear hf
 go_enter Tryz.func139, Tryz.ntmps139
 go_wp2
 repeat (go_quiet (fail); go_wp2)
 go_ret
 first | exact ⟨rfl, HB.out _ _⟩ | exact ⟨rfl, HD.out _ _ _⟩
theorem form4_any (n : Int) (s m : Str) (A : Option Addr) (na ca : Nat) (O : Option Addr) (no co : Nat) (a o : List Ex) (w : World) (ha : na = a.length) (ho : no = o.length) :
  Calls Tryz.prog 139 #[.agg (ruleC 4), .agg (exC 4 n s m A na ca O no co).toArray] w fun e w' => e = .returned (.bool (formE (.mk 4 n s m a o))) /\ Below w.heap.size w w' := by
 have HB := hI (fun X Y => (((Below.refl w.heap.size w).alloc (Nat.le_refl _) X).alloc (by show _ <= (w.heap.push X).size; simp) Y))
 have HD := hI (fun X Y k => (show Below w.heap.size w (((w.alloc X).alloc Y).drewN k) from ⟨(HB.out X Y).os, (HB.out X Y).tape, (HB.out X Y).output, (HB.out X Y).size, (HB.out X Y).block⟩))
 obtain ⟨f, hf⟩ : ∃ f, f = formE (.mk 4 n s m a o) := ⟨_, rfl⟩
 rw [<- hf]
 unfold formE at hf
 simp only [Ex.kind, Ex.num, Ex.name, Ex.meth, Ex.args, Ex.orr, <- ha, <- ho] at hf
 simp (config := { decide := true }) only [if_true, if_false, or_true, true_or, or_false, false_or] at hf
 rw [ruleC4]
 unfold exC
 clear ha ho
 by_cases qn : n = 0
 rotate_left
 ·have qn1 : (n != 0) = true := by simp [qn]
  obtain rfl : f = false := by rw [hf]; first | rfl | (simp [qn]; done) | (simp [qn]; omega)
  clear hf
  go_enter Tryz.func139, Tryz.ntmps139
  go_wp2
  repeat (go_quiet (fail); go_wp2)
  go_ret
  first | exact ⟨rfl, HB.out _ _⟩ | exact ⟨rfl, HD.out _ _ _⟩
 subst qn
 by_cases qs : s = []
 rotate_left
 ·obtain ⟨qs1, qs2⟩ := cons_facts qs
  have qs3 := beq_nil qs
  obtain rfl : f = false := by rw [hf]; first | rfl | (simp [qs]; done) | (simp [qs]; omega)
  clear hf
  go_enter Tryz.func139, Tryz.ntmps139
  go_wp2
  repeat (go_quiet (fail); go_wp2)
  go_ret
  first | exact ⟨rfl, HB.out _ _⟩ | exact ⟨rfl, HD.out _ _ _⟩
 obtain ⟨qs1, qs2⟩ := nil_facts qs
 subst qs
 by_cases qm : m = []
 rotate_left
 ·obtain ⟨qm1, qm2⟩ := cons_facts qm
  have qm3 := beq_nil qm
  obtain rfl : f = false := by rw [hf]; first | rfl | (simp [qm]; done) | (simp [qm]; omega)
  clear hf
  go_enter Tryz.func139, Tryz.ntmps139
  go_wp2
  repeat (go_quiet (fail); go_wp2)
  go_ret
  first | exact ⟨rfl, HB.out _ _⟩ | exact ⟨rfl, HD.out _ _ _⟩
 obtain ⟨qm1, qm2⟩ := nil_facts qm
 subst qm
 by_cases ql : (na : Int) < 1
 ·have ql2 : ¬ na = 1 := by omega
  obtain rfl : f = false := by rw [hf]; first | rfl | (simp [ql2]; done) | (simp [ql2]; omega)
  clear hf
  go_enter Tryz.func139, Tryz.ntmps139
  go_wp2
  repeat (go_quiet (fail); go_wp2)
  go_ret
  first | exact ⟨rfl, HB.out _ _⟩ | exact ⟨rfl, HD.out _ _ _⟩
 by_cases qh : 1 < (na : Int)
 ·have qh2 : ¬ na <= 1 := by omega
  have qh3 : ¬ na = 1 := by omega
  have qh4 : ¬ (na : Int) < 1 := by omega
  obtain rfl : f = false := by rw [hf]; first | rfl | (simp [qh2, qh3]; done) | (simp [qh2, qh3]; omega)
  clear hf
  go_enter Tryz.func139, Tryz.ntmps139
  go_wp2
  repeat (go_quiet (fail); go_wp2)
  go_ret
  first | exact ⟨rfl, HB.out _ _⟩ | exact ⟨rfl, HD.out _ _ _⟩
 have qh4 : ¬ (na : Int) < 1 := by omega
 have qh5 : na <= 1 := by omega
 have qh6 : na = 1 := by omega
 by_cases qo : no = 0
 ·subst qo
  obtain rfl : f = true := by rw [hf]; first | rfl | (simp [qh6, qh5]; done) | (simp [qh6, qh5]; omega)
  clear hf
  go_enter Tryz.func139, Tryz.ntmps139
  go_wp2
  repeat (go_quiet (fail); go_wp2)
  go_ret
  first | exact ⟨rfl, HB.out _ _⟩ | exact ⟨rfl, HD.out _ _ _⟩
 have qo1 : ((no : Int) == 0) = false := by simp [qo]
 have qo2 : ¬ (no : Int) = 0 := by omega
 obtain rfl : f = false := by rw [hf]; first | rfl | (simp [qh6, qh5, qo]; done) | (simp [qh6, qh5, qo]; omega)
 clear hf
 go_enter Tryz.func139, Tryz.ntmps139
 go_wp2
 repeat (go_quiet (fail); go_wp2)
 go_ret
 first | exact ⟨rfl, HB.out _ _⟩ | exact ⟨rfl, HD.out _ _ _⟩
theorem form6_any (n : Int) (s m : Str) (A : Option Addr) (na ca : Nat) (O : Option Addr) (no co : Nat) (a o : List Ex) (w : World) (ha : na = a.length) (ho : no = o.length) :
  Calls Tryz.prog 139 #[.agg (ruleC 6), .agg (exC 6 n s m A na ca O no co).toArray] w fun e w' => e = .returned (.bool (formE (.mk 6 n s m a o))) /\ Below w.heap.size w w' := by
 have HB := hI (fun X Y => (((Below.refl w.heap.size w).alloc (Nat.le_refl _) X).alloc (by show _ <= (w.heap.push X).size; simp) Y))
 have HD := hI (fun X Y k => (show Below w.heap.size w (((w.alloc X).alloc Y).drewN k) from ⟨(HB.out X Y).os, (HB.out X Y).tape, (HB.out X Y).output, (HB.out X Y).size, (HB.out X Y).block⟩))
 obtain ⟨f, hf⟩ : ∃ f, f = formE (.mk 6 n s m a o) := ⟨_, rfl⟩
 rw [<- hf]
 unfold formE at hf
 simp only [Ex.kind, Ex.num, Ex.name, Ex.meth, Ex.args, Ex.orr, <- ha, <- ho] at hf
 simp (config := { decide := true }) only [if_true, if_false, or_true, true_or, or_false, false_or] at hf
 rw [ruleC6]
 unfold exC
 clear ha ho
 by_cases qn : n = 0
 rotate_left
 ·have qn1 : (n != 0) = true := by simp [qn]
  obtain rfl : f = false := by rw [hf]; first | rfl | (simp [qn]; done) | (simp [qn]; omega)
  clear hf
  go_enter Tryz.func139, Tryz.ntmps139
  go_wp2
  repeat (go_quiet (fail); go_wp2)
  go_ret
  first | exact ⟨rfl, HB.out _ _⟩ | exact ⟨rfl, HD.out _ _ _⟩
 subst qn
 by_cases qh : 4 < (na : Int)
 ·have qh2 : ¬ na <= 4 := by omega
  have qh3 : ¬ na = 4 := by omega
  have qh4 : ¬ (na : Int) < 0 := by omega
  obtain rfl : f = false := by rw [hf]; first | rfl | (simp [qh2, qh3]; done) | (simp [qh2, qh3]; omega)
  clear hf
  go_enter Tryz.func139, Tryz.ntmps139
  go_wp2
  repeat (go_quiet (fail); go_wp2)
  go_ret
  first | exact ⟨rfl, HB.out _ _⟩ | exact ⟨rfl, HD.out _ _ _⟩
 have qh4 : ¬ (na : Int) < 0 := by omega
 have qh5 : na <= 4 := by omega
 by_cases qo : no = 0
 ·subst qo
  obtain rfl : f = true := by rw [hf]; first | rfl | (simp [qh5]; done) | (simp [qh5]; omega)
  clear hf
  go_enter Tryz.func139, Tryz.ntmps139
  go_wp2
  repeat (go_quiet (fail); go_wp2)
  go_ret
  first | exact ⟨rfl, HB.out _ _⟩ | exact ⟨rfl, HD.out _ _ _⟩
 have qo1 : ((no : Int) == 0) = false := by simp [qo]
 have qo2 : ¬ (no : Int) = 0 := by omega
 by_cases qp : no = 1
 ·subst qp
  obtain rfl : f = true := by rw [hf]; first | rfl | (simp [qh5]; done) | (simp [qh5]; omega)
  clear hf
  go_enter Tryz.func139, Tryz.ntmps139
  go_wp2
  repeat (go_quiet (fail); go_wp2)
  go_ret
  first | exact ⟨rfl, HB.out _ _⟩ | exact ⟨rfl, HD.out _ _ _⟩
 have qp1 : ((no : Int) == 1) = false := by simp; omega
 have qp2 : ¬ (no : Int) = 1 := by omega
 have qp3 : ¬ no <= 1 := by omega
 obtain rfl : f = false := by rw [hf]; first | rfl | (simp [qh5, qp3, qo]; done) | (simp [qh5, qp3, qo]; omega)
 clear hf
 go_enter Tryz.func139, Tryz.ntmps139
 go_wp2
 repeat (go_quiet (fail); go_wp2)
 go_ret
 first | exact ⟨rfl, HB.out _ _⟩ | exact ⟨rfl, HD.out _ _ _⟩
theorem form7_any (n : Int) (s m : Str) (A : Option Addr) (na ca : Nat) (O : Option Addr) (no co : Nat) (a o : List Ex) (w : World) (ha : na = a.length) (ho : no = o.length) :
  Calls Tryz.prog 139 #[.agg (ruleC 7), .agg (exC 7 n s m A na ca O no co).toArray] w fun e w' => e = .returned (.bool (formE (.mk 7 n s m a o))) /\ Below w.heap.size w w' := by
 have HB := hI (fun X Y => (((Below.refl w.heap.size w).alloc (Nat.le_refl _) X).alloc (by show _ <= (w.heap.push X).size; simp) Y))
 have HD := hI (fun X Y k => (show Below w.heap.size w (((w.alloc X).alloc Y).drewN k) from ⟨(HB.out X Y).os, (HB.out X Y).tape, (HB.out X Y).output, (HB.out X Y).size, (HB.out X Y).block⟩))
 obtain ⟨f, hf⟩ : ∃ f, f = formE (.mk 7 n s m a o) := ⟨_, rfl⟩
 rw [<- hf]
 unfold formE at hf
 simp only [Ex.kind, Ex.num, Ex.name, Ex.meth, Ex.args, Ex.orr, <- ha, <- ho] at hf
 simp (config := { decide := true }) only [if_true, if_false, or_true, true_or, or_false, false_or] at hf
 rw [ruleC7]
 unfold exC
 clear ha ho
 by_cases qn : n = 0
 rotate_left
 ·have qn1 : (n != 0) = true := by simp [qn]
  obtain rfl : f = false := by rw [hf]; first | rfl | (simp [qn]; done) | (simp [qn]; omega)
  clear hf
  go_enter Tryz.func139, Tryz.ntmps139
  go_wp2
  repeat (go_quiet (fail); go_wp2)
  go_ret
  first | exact ⟨rfl, HB.out _ _⟩ | exact ⟨rfl, HD.out _ _ _⟩
 subst qn
 by_cases qm : m = []
 rotate_left
 ·obtain ⟨qm1, qm2⟩ := cons_facts qm
  have qm3 := beq_nil qm
  obtain rfl : f = false := by rw [hf]; first | rfl | (simp [qm]; done) | (simp [qm]; omega)
  clear hf
  go_enter Tryz.func139, Tryz.ntmps139
  go_wp2
  repeat (go_quiet (fail); go_wp2)
  go_ret
  first | exact ⟨rfl, HB.out _ _⟩ | exact ⟨rfl, HD.out _ _ _⟩
 obtain ⟨qm1, qm2⟩ := nil_facts qm
 subst qm
 by_cases qh : 4 < (na : Int)
 ·have qh2 : ¬ na <= 4 := by omega
  have qh3 : ¬ na = 4 := by omega
  have qh4 : ¬ (na : Int) < 0 := by omega
  obtain rfl : f = false := by rw [hf]; first | rfl | (simp [qh2, qh3]; done) | (simp [qh2, qh3]; omega)
  clear hf
  go_enter Tryz.func139, Tryz.ntmps139
  go_wp2
  repeat (go_quiet (fail); go_wp2)
  go_ret
  first | exact ⟨rfl, HB.out _ _⟩ | exact ⟨rfl, HD.out _ _ _⟩
 have qh4 : ¬ (na : Int) < 0 := by omega
 have qh5 : na <= 4 := by omega
 by_cases qo : no = 0
 ·subst qo
  obtain rfl : f = true := by rw [hf]; first | rfl | (simp [qh5]; done) | (simp [qh5]; omega)
  clear hf
  go_enter Tryz.func139, Tryz.ntmps139
  go_wp2
  repeat (go_quiet (fail); go_wp2)
  go_ret
  first | exact ⟨rfl, HB.out _ _⟩ | exact ⟨rfl, HD.out _ _ _⟩
 have qo1 : ((no : Int) == 0) = false := by simp [qo]
 have qo2 : ¬ (no : Int) = 0 := by omega
 obtain rfl : f = false := by rw [hf]; first | rfl | (simp [qh5, qo]; done) | (simp [qh5, qo]; omega)
 clear hf
 go_enter Tryz.func139, Tryz.ntmps139
 go_wp2
 repeat (go_quiet (fail); go_wp2)
 go_ret
 first | exact ⟨rfl, HB.out _ _⟩ | exact ⟨rfl, HD.out _ _ _⟩
end Go.Proofs.YtkakbidllpjopaaGreatDoor
