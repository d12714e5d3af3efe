/- syntax.Binaries, and rule.form at a binary operator. No condition. rule.form in one contract; Expr.empty (printed by wip/gensxg.py). No condition. Maps keyed by strings whose elements are any values: look-up, store, as laws on the operations' runs. Contracts of Go's library at this translation, out of the kit's shelf. No condition beyond the contracts' own. The walks of the lexer's digit, letter, run and blank. No condition. The walk of the lexer's blank. Condition: at most 65536 bytes. The walk of the lexer's number. Conditions: the text is not empty and holds ASCII bytes alone, at most 65536; the variable strconv.ErrRange holds an interface. The walk of the lexer's next. Conditions: at most 65536 bytes; the package's tables are laid. The walk of lexer.Scan in one contract: it answers what scanL says. Condition: the package's tables are laid (LxW). The parser's state in memory; the walks of now, is, take, need, word, name. No condition beyond the state. -/
import Derived.Test.YtkakbidllpjopaaGreatDoorU01
import Derived.Deep.RegionHeld3
import Derived.Maps.RangeRun
import Derived.Shelf.Strings.Builder1
import Derived.Shelf.Strings.Builder2
import Derived.Shelf.Strings.OnBuilder
import Derived.Shelf.Small.Strs
import Derived.Shelf.Small.Wraps
import Derived.Shelf.Strings.BuilderF
import Derived.Shelf.Strings.BuilderK
import Derived.Shelf.Strings.Builder2Cap
import Derived.Shelf.Strconv.Itoa0
import Derived.Shelf.Strconv.Itoa1
import Derived.Shelf.LaysM
import Derived.Shelf.Strconv.Itoa2
import Derived.Shelf.Strconv.Itoa3
import Derived.Shelf.Strconv.Itoa4
import Derived.Shelf.Strconv.ParseIntEmpty
import Derived.Shelf.Strconv.Clone
import Derived.Shelf.Strconv.SyntaxError
import Derived.Shelf.LaysC
import Derived.Shelf.Strconv.ToError
import Derived.Shelf.Strconv.Lower
import Derived.Shelf.Strconv.ParseUint10
import Derived.Shelf.Strconv.ParseUint10Empty
import Derived.Shelf.Strconv.ParseUint10Any
import Derived.Shelf.Strconv.ParseInt10
import Derived.Shelf.Strconv.RangeError
import Derived.Shelf.Strconv.ToErrorRange
import Derived.Shelf.Strconv.ParseUintEmpty
import Derived.Shelf.Strconv.ParseUint10b64
import Derived.Shelf.Strconv.ParseUint10b32
import Derived.Shelf.Strconv.ParseUint10b16
import Derived.Shelf.Strconv.ParseUint10b8
import Derived.Shelf.Strconv.ParseUint10At
import Derived.Shelf.Strconv.ParseInt10At64
import Derived.Shelf.Strconv.ParseInt10At32
import Derived.Shelf.Strconv.ParseInt10At16
import Derived.Shelf.Strconv.ParseInt10At8
import Derived.Shelf.Strconv.ParseInt10All
import Derived.Shelf.Strconv.ParseIntPublic10
import Derived.Shelf.Strings.Search1
import Derived.Shelf.Strings.Prefix
import Derived.Shelf.Bits.Mul64
import Derived.Shelf.Strings.Repeat
import Derived.Shelf.Strings.BuilderCap
import Derived.Shelf.Slices.Turned
import Derived.Shelf.Slices.Equal
import Derived.Ground.Names2Prog
import Derived.Shelf.Slices.Clone
import Derived.Shelf.Slices.Empties2
import Derived.Ground.SlgnProg
import Derived.Shelf.SlicesE.Clone
import Derived.Test.YtkakbidllpjopaaGreatDoorProg
import Derived.WalkMore
import Derived.Great.BuildSlice
import Derived.Laws.CopyOwn
set_option linter.unusedVariables false
set_option linter.unusedSimpArgs false
set_option maxRecDepth 100000
set_option maxHeartbeats 12800000
namespace Go.Proofs.YtkakbidllpjopaaGreatDoor
open Go.RowKit
theorem binaries_any (w : World) : Calls Tryz.prog 9 #[] w fun e w' => ∃ v, e = .returned v /\ w'.ownsRow w.heap.size 9 1 v 13 ((sgns.map bs).map Value.string) /\ Below w.heap.size w w' := by
 go_enter Tryz.func9, Tryz.ntmps9
 go_wp2
 go_ret
 exact ⟨_, rfl, ⟨rfl, .inr ⟨w.heap.size, 13, _, rfl, Nat.le_refl _, heap_alloc_new w _, by decide, by decide, rfl, rfl⟩⟩, (Below.refl _ _).alloc (Nat.le_refl _) _⟩
/-- A later world. -/
structure Bz (w0 w : World) : Prop where
 b : Below w0.heap.size w0 w
theorem Bz.next {w0 w w' : World} (h : Bz w0 w) (h' : Below w.heap.size w w') : Bz w0 w' := ⟨h.b.trans (h'.mono h.b.size)⟩
theorem Bz.drew {w0 w : World} (h : Bz w0 w) : Bz w0 w.drew := ⟨⟨h.b.os, h.b.tape, h.b.output, h.b.size, h.b.block⟩⟩
theorem cell_of_Bz {w0 w : World} (h : Bz w0 w) {g j : Nat} {v : Value} (hv : w0.cell? ⟨g, j, none⟩ = some v) (hg : g < w0.heap.size) : w.cell? ⟨g, j, none⟩ = some v := by
 rw [World.cell?_of_block (a := ⟨g, j, none⟩) (h.b.block g hg)]; exact hv
theorem form5_cases (q : Bool) (na no : Nat) (f : Bool) (hf : f = (decide ((0 : Int) = 0) && ([] : Str) == [] && q && decide (na = 2) && decide (no = 0))) :
  (q = false /\ f = false) ∨ (q = true /\ f = false /\ (na : Int) < 2 /\ True) ∨ (q = true /\ f = false /\ ¬ (na : Int) < 2 /\ 2 < (na : Int)) ∨ (q = true /\ f = true /\ ¬ (na : Int) < 2 /\ ¬ 2 < (na : Int) /\ ((no : Int) == 0) = true) ∨ (q = true /\ f = false /\ ¬ (na : Int) < 2 /\ ¬ 2 < (na : Int) /\ ((no : Int) == 0) = false /\ ¬ (no : Int) = 0) := by
 cases q with
 | false => exact .inl ⟨rfl, by rw [hf]; simp⟩
 | true =>
  right
  by_cases h1 : (na : Int) < 2
  ·exact .inl ⟨rfl, by rw [hf, decide_eq_false (show ¬ na = 2 by omega)]; simp, h1, trivial⟩
  right
  by_cases h2 : 2 < (na : Int)
  ·exact .inl ⟨rfl, by rw [hf, decide_eq_false (show ¬ na = 2 by omega)]; simp, h1, h2⟩
  right
  by_cases h3 : no = 0
  ·exact .inl ⟨rfl, by rw [hf, decide_eq_true (show na = 2 by omega), h3]; simp, h1, h2, by simp [h3]⟩
  exact .inr ⟨rfl, by rw [hf, decide_eq_false h3]; simp, h1, h2, by simp [h3], by omega⟩
theorem form5_any (n : Int) (s m : Str) (A : Option Addr) (na ca : Nat) (O : Option Addr) (no co : Nat) (a o : List Ex) (w : World) (ha : na = a.length) (ho : no = o.length) :
  Calls Tryz.prog 139 #[.agg (ruleC 5), .agg (exC 5 n s m A na ca O no co).toArray] w fun e w' => e = .returned (.bool (formE (.mk 5 n s m a o))) /\ Below w.heap.size w w' := by
 have HB := hI (fun X Y => (((Below.refl w.heap.size w).alloc (Nat.le_refl _) X).alloc (by show _ <= (w.heap.push X).size; simp) Y))
 have HD := hI (fun X Y k => (show Below w.heap.size w (((w.alloc X).alloc Y).drewN k) from ⟨(HB.out X Y).os, (HB.out X Y).tape, (HB.out X Y).output, (HB.out X Y).size, (HB.out X Y).block⟩))
 obtain ⟨f, hf⟩ : ∃ f, f = formE (.mk 5 n s m a o) := ⟨_, rfl⟩
 rw [<- hf]
 unfold formE at hf
 simp only [Ex.kind, Ex.num, Ex.name, Ex.meth, Ex.args, Ex.orr, <- ha, <- ho] at hf
 simp (config := { decide := true }) only [if_true, if_false, or_true, true_or, or_false, false_or] at hf
 rw [ruleC5]
 unfold exC
 clear ha ho
 by_cases qn : n = 0
 rotate_left
 ·have qn1 : (n != 0) = true := by simp [qn]
  obtain rfl : f = false := by rw [hf]; simp [qn]
  clear hf
  go_enter Tryz.func139, Tryz.ntmps139
  go_wp2
  repeat (go_quiet (fail); go_wp2)
  go_ret
  first | exact ⟨rfl, HB.out _ _⟩ | exact ⟨rfl, HD.out _ _ _⟩
 subst qn
 by_cases qs : s = []
 rotate_left
 ·obtain ⟨qs1, qs2⟩ := cons_facts qs
  have qs3 := beq_nil qs
  obtain rfl : f = false := by rw [hf]; simp [qs]
  clear hf
  go_enter Tryz.func139, Tryz.ntmps139
  go_wp2
  repeat (go_quiet (fail); go_wp2)
  go_ret
  first | exact ⟨rfl, HB.out _ _⟩ | exact ⟨rfl, HD.out _ _ _⟩
 obtain ⟨qs1, qs2⟩ := nil_facts qs
 subst qs
 have K1 := hI (fun W => binaries_any W)
 have K2 := hI (fun (W : World) base v (h : W.ownsRow base 9 1 v 13 ((sgns.map bs).map Value.string)) => contains_own h m rfl (by decide) (by decide))
 obtain ⟨q, hq⟩ : ∃ q, q = sgns.contains m := ⟨_, rfl⟩
 rw [<- hq] at K2 hf
 clear hq
 have HW := hI (fun X Y (W : World) (h : Bz ((w.alloc (.cells X 193)).alloc (.cells Y 27)) W) => (show (∀ j v, X[j]? = some v -> W.cell? ⟨w.heap.size, j, none⟩ = some v) /\ (∀ j v, Y[j]? = some v -> W.cell? ⟨w.heap.size + 1, j, none⟩ = some v) from by
  have e1 : ((w.alloc (.cells X 193)).alloc (.cells Y 27)).heap[w.heap.size]? = some (.cells X 193) := by
   rw [heap_alloc_old _ _ (by show _ < (w.heap.push _).size; simp)]; exact heap_alloc_new w _
  refine ⟨fun j v hv => cell_of_Bz h (by rw [cell_of_row _ _ _ _ _ _ e1]; exact hv) (lt_of_block e1), fun j v hv => cell_of_Bz h (by rw [cell_of_row _ _ _ _ _ _ (heap_alloc2_new w _ _)]; exact hv) (lt_of_block (heap_alloc2_new w _ _))⟩))
 go_enter Tryz.func139, Tryz.ntmps139
 go_wp2
 obtain ⟨W0, hW0⟩ : ∃ W0 : World, W0 = (w.alloc (.cells #[.bool false, .bool false, .bool false, .bool true, .bool false, .int .i64 0, .int .i64 2, .int .i64 2] 193)).alloc (.cells #[.int .i64 5, .int .i64 0, .string (bs []), .string (bs m), .slice A na ca, .slice O no co] 27) := ⟨_, rfl⟩
 have HF := hI (show ∀ W, Bz W0 W -> (W.cell? ⟨w.heap.size, 4, none⟩ = some (.bool false) /\ W.cell? ⟨w.heap.size, 6, none⟩ = some (.int .i64 2) /\ W.cell? ⟨w.heap.size, 7, none⟩ = some (.int .i64 2) /\ W.cell? ⟨w.heap.size + 1, 3, none⟩ = some (.string (bs m)) /\ W.cell? ⟨w.heap.size + 1, 4, none⟩ = some (.slice A na ca) /\ W.cell? ⟨w.heap.size + 1, 5, none⟩ = some (.slice O no co) /\ W.cell? ⟨w.heap.size, 3, none⟩ = some (.bool true)) from fun W h => by
  subst hW0
  have h2 := HW.out _ _ W h
  exact ⟨h2.1 4 _ rfl, h2.1 6 _ rfl, h2.1 7 _ rfl, h2.2 3 _ rfl, h2.2 4 _ rfl, h2.2 5 _ rfl, h2.1 3 _ rfl⟩)
 have HG := hI (show ∀ W, Bz W0 W -> Below w.heap.size w W from fun W h => by
  subst hW0
  exact (HB.out _ _).trans (h.b.mono (HB.out _ _).size))
 rw [<- hW0]
 clear hW0 HW HB HD
 rcases form5_cases q na no f hf with ⟨rfl, rfl⟩ | ⟨rfl, rfl, h1, h2⟩ | ⟨rfl, rfl, h1, h2⟩ | ⟨rfl, rfl, h1, h2, h3⟩ | ⟨rfl, rfl, h1, h2, h3, h4⟩
 all_goals
  clear hf
  have z0 : Bz W0 W0 := ⟨Below.refl _ _⟩
  have z1 := z0.drew
  go_region_held3 (fun W => (W.cell? ⟨w.heap.size, 4, none⟩ = some (.bool false) /\ W.cell? ⟨w.heap.size, 6, none⟩ = some (.int .i64 2) /\ W.cell? ⟨w.heap.size, 7, none⟩ = some (.int .i64 2) /\ W.cell? ⟨w.heap.size + 1, 3, none⟩ = some (.string (bs m)) /\ W.cell? ⟨w.heap.size + 1, 4, none⟩ = some (.slice A na ca) /\ W.cell? ⟨w.heap.size + 1, 5, none⟩ = some (.slice O no co) /\ W.cell? ⟨w.heap.size, 3, none⟩ = some (.bool true))) (exact HF.out _ (by assumption)) (first
   | (go_at_call 9; refine (K1.out _).mono ?_; rintro e w1 ⟨v, rfl, ho, hb⟩; have z2 := Bz.next (by assumption) hb; have HO := hI ho; clear ho hb)
   | (go_at_call 79; refine (K2.out _ _ _ (by exact HO.out)).mono ?_; rintro e w2 ⟨rfl, rfl⟩))
  all_goals
   first
    | (go_ret; exact ⟨rfl, HG.out _ (by assumption)⟩)
    | (go_wp2; go_ret; exact ⟨rfl, HG.out _ (by assumption)⟩)
open Go.RowKit
theorem form_any (j : Nat) (hj : j < 8) (n : Int) (s m : Str) (A : Option Addr) (na ca : Nat) (O : Option Addr) (no co : Nat) (a o : List Ex) (w : World) (ha : na = a.length) (ho : no = o.length) :
  Calls Tryz.prog 139 #[.agg (ruleC j), .agg (exC (j : Int) n s m A na ca O no co).toArray] w fun e w' => e = .returned (.bool (formE (.mk (j : Int) n s m a o))) /\ Below w.heap.size w w' := by
 match j, hj with
 | 0, _ => exact form0_any n s m A na ca O no co a o w ha ho
 | 1, _ => exact form1_any n s m A na ca O no co a o w ha ho
 | 2, _ => exact form2_any n s m A na ca O no co a o w ha ho
 | 3, _ => exact form3_any n s m A na ca O no co a o w ha ho
 | 4, _ => exact form4_any n s m A na ca O no co a o w ha ho
 | 5, _ => exact form5_any n s m A na ca O no co a o w ha ho
 | 6, _ => exact form6_any n s m A na ca O no co a o w ha ho
 | 7, _ => exact form7_any n s m A na ca O no co a o w ha ho
/-- A rule's fields. -/
theorem rule_fields (j : Nat) (hj : j < 8) : ∃ b3 b4 : Bool, ∃ g lo hi : Int, ruleC j = #[.bool (decide (j <= 1)), .bool (decide (j = 2 ∨ 6 <= j)), .bool (decide (j = 6)), .bool b3, .bool b4, .int .i64 g, .int .i64 lo, .int .i64 hi] /\ (j = 0 -> g = 9223372036854775807) /\ (j = 1 -> g = 1) := by
 match j, hj with
 | 0, _ => exact ⟨_, _, _, _, _, ruleC0, by decide, by decide⟩
 | 1, _ => exact ⟨_, _, _, _, _, ruleC1, by decide, by decide⟩
 | 2, _ => exact ⟨_, _, _, _, _, ruleC2, by decide, by decide⟩
 | 3, _ => exact ⟨_, _, _, _, _, ruleC3, by decide, by decide⟩
 | 4, _ => exact ⟨_, _, _, _, _, ruleC4, by decide, by decide⟩
 | 5, _ => exact ⟨_, _, _, _, _, ruleC5, by decide, by decide⟩
 | 6, _ => exact ⟨_, _, _, _, _, ruleC6, by decide, by decide⟩
 | 7, _ => exact ⟨_, _, _, _, _, ruleC7, by decide, by decide⟩
theorem empty_any (k n : Int) (s m : Str) (A : Option Addr) (na ca : Nat) (O : Option Addr) (no co : Nat) (a o : List Ex) (w : World) (ha : na = a.length) (ho : no = o.length) :
  Calls Tryz.prog 137 #[.agg (exC k n s m A na ca O no co).toArray] w fun e w' => e = .returned (.bool (emptyE (.mk k n s m a o))) /\ Below w.heap.size w w' := by
 have HB := hI (fun X => ((Below.refl w.heap.size w).alloc (Nat.le_refl _) X))
 have HD := hI (fun X k => (show Below w.heap.size w ((w.alloc X).drewN k) from ⟨(HB.out X).os, (HB.out X).tape, (HB.out X).output, (HB.out X).size, (HB.out X).block⟩))
 obtain ⟨f, hf⟩ : ∃ f, f = emptyE (.mk k n s m a o) := ⟨_, rfl⟩
 rw [<- hf]
 unfold emptyE at hf
 simp only [Ex.kind, Ex.num, Ex.name, Ex.meth, Ex.args, Ex.orr, <- ha, <- ho] at hf
 unfold exC
 clear ha ho
 by_cases qk : k = 0
 rotate_left
 ·have qk1 : (k == 0) = false := by simp [qk]
  obtain rfl : f = false := by rw [hf]; simp [qk]
  clear hf
  go_enter Tryz.func137, Tryz.ntmps137
  go_wp2
  repeat (go_quiet (fail); go_wp2)
  go_ret
  first | exact ⟨rfl, HB.out _⟩ | exact ⟨rfl, HD.out _ _⟩
 subst qk
 by_cases qn : n = 0
 rotate_left
 ·have qn1 : (n == 0) = false := by simp [qn]
  obtain rfl : f = false := by rw [hf]; simp [qn]
  clear hf
  go_enter Tryz.func137, Tryz.ntmps137
  go_wp2
  repeat (go_quiet (fail); go_wp2)
  go_ret
  first | exact ⟨rfl, HB.out _⟩ | exact ⟨rfl, HD.out _ _⟩
 subst qn
 by_cases qs : s = []
 rotate_left
 ·obtain ⟨qs1, qs2⟩ := cons_facts qs
  have qs3 := beq_nil qs
  obtain rfl : f = false := by rw [hf]; simp [qs]
  clear hf
  go_enter Tryz.func137, Tryz.ntmps137
  go_wp2
  repeat (go_quiet (fail); go_wp2)
  go_ret
  first | exact ⟨rfl, HB.out _⟩ | exact ⟨rfl, HD.out _ _⟩
 obtain ⟨qs1, qs2⟩ := nil_facts qs
 subst qs
 by_cases qm : m = []
 rotate_left
 ·obtain ⟨qm1, qm2⟩ := cons_facts qm
  have qm3 := beq_nil qm
  obtain rfl : f = false := by rw [hf]; simp [qm]
  clear hf
  go_enter Tryz.func137, Tryz.ntmps137
  go_wp2
  repeat (go_quiet (fail); go_wp2)
  go_ret
  first | exact ⟨rfl, HB.out _⟩ | exact ⟨rfl, HD.out _ _⟩
 obtain ⟨qm1, qm2⟩ := nil_facts qm
 subst qm
 by_cases qna : na = 0
 rotate_left
 ·have qna1 : ((na : Int) == 0) = false := by simp [qna]
  obtain rfl : f = false := by rw [hf]; simp [qna]
  clear hf
  go_enter Tryz.func137, Tryz.ntmps137
  go_wp2
  repeat (go_quiet (fail); go_wp2)
  go_ret
  first | exact ⟨rfl, HB.out _⟩ | exact ⟨rfl, HD.out _ _⟩
 subst qna
 by_cases qno : no = 0
 rotate_left
 ·have qno1 : ((no : Int) == 0) = false := by simp [qno]
  obtain rfl : f = false := by rw [hf]; simp [qno]
  clear hf
  go_enter Tryz.func137, Tryz.ntmps137
  go_wp2
  repeat (go_quiet (fail); go_wp2)
  go_ret
  first | exact ⟨rfl, HB.out _⟩ | exact ⟨rfl, HD.out _ _⟩
 subst qno
 obtain rfl : f = true := by rw [hf]; simp []
 clear hf
 go_enter Tryz.func137, Tryz.ntmps137
 go_wp2
 repeat (go_quiet (fail); go_wp2)
 go_ret
 first | exact ⟨rfl, HB.out _⟩ | exact ⟨rfl, HD.out _ _⟩
open Go.RowKit Go.MapKept
/-- Block b is a map that holds, at the key k, f k. -/
def StrMap (w : World) (b : Nat) (f : ByteArray -> Option Value) : Prop :=
 ∃ es clock, w.heap[b]? = some (.map es clock) /\ Stamped es clock /\ (∀ x ∈ es.toList, ∃ k, x.key = .string k) /\ ∀ k v, f k = some v ↔ ∃ e ∈ es.toList, e.key = .string k /\ e.val = v
theorem StrMap.keep {w w' : World} {b : Nat} {f : ByteArray -> Option Value} (h : StrMap w b f) (e : w'.heap[b]? = w.heap[b]?) : StrMap w' b f := by
 obtain ⟨es, cl, hb, r⟩ := h
 exact ⟨es, cl, e.trans hb, r⟩
theorem StrMap.lt {w : World} {b : Nat} {f : ByteArray -> Option Value} (h : StrMap w b f) : b < w.heap.size := by
 obtain ⟨es, cl, hb, _⟩ := h
 exact lt_of_block hb
theorem StrMap.made (w : World) : StrMap (w.alloc (.map #[] 0)) w.heap.size fun _ => none :=
 ⟨#[], 0, heap_alloc_new _ _, stamped_empty 0, by simp, by simp⟩
section
variable {P : Program} {w : World} {b : Nat} {f : ByteArray -> Option Value} {T K E : TypeId} {z : Value}
/-- The entry at a key, as the model finds it. -/
theorem StrMap.find (h : StrMap w b f) (k : ByteArray) : ∃ es clock, w.heap[b]? = some (.map es clock) /\ Stamped es clock /\ (∀ x ∈ es.toList, IsKey .string x.key) /\
  ((f k = none /\ Instr.findNow .string (.string k) es.toList 0 = some none /\ ∀ x ∈ es.toList, x.key ≠ .string k) ∨
   ∃ j e, Instr.findNow .string (.string k) es.toList 0 = some (some (j, e.val)) /\ es[j]? = some e /\ e.key = .string k /\ f k = some e.val) := by
 obtain ⟨es, cl, hb, hs, hk, hf⟩ := h
 have hks : ∀ x ∈ es.toList, IsKey .string x.key := fun x hx => by
  obtain ⟨k, hk⟩ := hk x hx
  rw [hk]; trivial
 refine ⟨es, cl, hb, hs, hks, ?_⟩
 rcases findNow_spec (d := .string) (k := .string k) trivial es.toList 0 hks with ⟨h1, h2⟩ | ⟨j, e, h1, h2, h3⟩
 ·left
  refine ⟨?_, h1, h2⟩
  cases hfk : f k with
  | none => rfl
  | some v =>
   obtain ⟨e, he, hek, _⟩ := (hf k v).1 hfk
   exact absurd hek (h2 e he)
 right
 refine ⟨j, e, by simpa using h1, by simpa using h2, h3, ?_⟩
 exact (hf k e.val).2 ⟨e, List.mem_of_getElem? h2, h3, rfl⟩
theorem StrMap.look (h : StrMap w b f) (hT : P.underlying T = some (.map K E)) (hK : P.underlying K = some .string) (hz : ∀ w, (zeroValue E).run P w = .ok z w) (k : ByteArray) (c : Bool) :
  (Instr.lookup T (.map (some b)) (.string k) c).run P w = .ok (if c then .tuple #[(f k).getD z, .bool (f k).isSome] else (f k).getD z) w := by
 obtain ⟨es, cl, hb, hs, hks, hr⟩ := h.find k
 have hc : ∀ e, (Instr.checkKey e 10000 K (.string k)).run P w = .ok () w := fun e => run_checkKey (d := .string) (k := .string k) hK trivial e 9999
 rcases hr with ⟨h1, h2, _⟩ | ⟨j, e, h1, _, _, h4⟩
 ·simp [Instr.lookup, run_underlying hT, MapKept.run_getObj_map hb, hc, run_findKey hK h2, hz, Result.andThen, h1]
 simp [Instr.lookup, run_underlying hT, MapKept.run_getObj_map hb, hc, run_findKey hK h1, Result.andThen, h4]
/-- f with v at k. -/
def upd (f : ByteArray -> Option Value) (k : ByteArray) (v : Value) : ByteArray -> Option Value := fun i => if i = k then some v else f i
theorem StrMap.store (h : StrMap w b f) (hT : P.underlying T = some (.map K E)) (hK : P.underlying K = some .string) (k : ByteArray) (v : Value) :
  ∃ w', (Instr.mapUpdate T (.map (some b)) (.string k) v).run P w = .ok () w' /\ StrMap w' b (upd f k v) /\ w.grownBy w' (some b) /\ w'.heap.size = w.heap.size := by
 obtain ⟨es0, cl0, hb0, hs0, hk0, hf0⟩ := h
 obtain ⟨es, cl, hb, hs, hks, hr⟩ := (show StrMap w b f from ⟨es0, cl0, hb0, hs0, hk0, hf0⟩).find k
 have hee : es0 = es := by rw [hb0] at hb; simp at hb; exact hb.1
 subst hee
 have hc : ∀ e, (Instr.checkKey e 10000 K (.string k)).run P w = .ok () w := fun e => run_checkKey (d := .string) (k := .string k) hK trivial e 9999
 have hkeep : ∀ o, w.grownBy { w with heap := w.heap.setIfInBounds b o } (some b) := fun o =>
  ⟨rfl, rfl, rfl, by simp, fun i hi hne => (heap_set hb).2 i (fun e => hne (by rw [e]))⟩
 rcases hr with ⟨h1, h2, h3⟩ | ⟨j, e, h1, h2, h3, h4⟩
 ·refine ⟨{ w with heap := w.heap.setIfInBounds b (.map (es0.push { key := .string k, val := v, born := cl }) (cl + 1)) }, by simp [Instr.mapUpdate, run_underlying hT, MapKept.run_getObj_map hb, hc, run_findKey hK h2, run_setObj_map _ hb, Result.andThen], ⟨_, _, (heap_set hb).1, stamped_push hs h3, ?_, ?_⟩, hkeep _, by simp⟩
  ·intro x hx
   simp only [Array.toList_push, List.mem_append, List.mem_singleton] at hx
   rcases hx with hx | rfl
   ·exact hk0 x hx
   exact ⟨k, rfl⟩
  intro i u
  simp only [Array.toList_push, List.mem_append, List.mem_singleton, upd]
  split
  ·rename_i hi
   subst hi
   constructor
   ·intro hu
    injection hu with hu
    subst hu
    exact ⟨_, .inr rfl, rfl, rfl⟩
   rintro ⟨x, hx | rfl, hxk, rfl⟩
   ·exact absurd hxk (h3 x hx)
   rfl
  rename_i hi
  rw [hf0]
  constructor
  ·rintro ⟨x, hx, h⟩
   exact ⟨x, .inl hx, h⟩
  rintro ⟨x, hx | rfl, hxk, h⟩
  ·exact ⟨x, hx, hxk, h⟩
  simp at hxk
  exact absurd hxk.symm hi
 have hj : es0[j]? = some e := h2
 have hjl : j < es0.size := (Array.getElem?_eq_some_iff.1 h2).1
 have hkey : ∀ e', es0[j]? = some e' -> ({ e' with key := .string k, val := v } : MapEntry).key = e'.key := fun e' he' => by rw [hj] at he'; cases he'; exact h3.symm
 refine ⟨{ w with heap := w.heap.setIfInBounds b (.map (es0.modify j fun e => { e with key := .string k, val := v }) cl) }, by simp [Instr.mapUpdate, run_underlying hT, MapKept.run_getObj_map hb, hc, run_findKey hK h1, hj, h3, run_keyThatStays (d := .string) (k := .string k) trivial, run_setObj_map _ hb, Result.andThen],
  ⟨_, _, (heap_set hb).1, stamped_modify hs _ _ (fun _ _ => rfl) (fun e' _ he' => hkey e' he'), ?_, ?_⟩, hkeep _, by simp⟩
 ·intro x hx
  have := isKey_modify hks j _ hkey x hx
  cases hxk : x.key <;> rw [hxk] at this <;> simp [IsKey] at this
  try subst this
  exact ⟨_, rfl⟩
 have hmem : ∀ x : MapEntry, x ∈ (es0.modify j fun e => { e with key := .string k, val := v }).toList ↔ x = { e with key := .string k, val := v } ∨ (x ∈ es0.toList /\ x.key ≠ .string k) := by
  intro x
  rw [Array.toList_modify]
  have hpw := List.pairwise_iff_getElem.1 ((stamped_iff _ _).1 hs0).2.2
  constructor
  ·intro hx
   obtain ⟨i, hi⟩ := List.mem_iff_getElem?.1 hx
   rw [List.getElem?_modify] at hi
   obtain ⟨y, hy, rfl⟩ := Option.map_eq_some_iff.1 hi
   by_cases hji : j = i
   ·left
    subst hji
    have : y = e := by
     have h5 : es0.toList[j]? = some e := by simpa using hj
     rw [h5] at hy; injection hy with hy; exact hy.symm
    subst this
    simp
   right
   simp only [if_neg hji]
   refine ⟨List.mem_of_getElem? hy, fun hyk => ?_⟩
   obtain ⟨hil, hie⟩ := List.getElem?_eq_some_iff.1 hy
   have hjl' : j < es0.toList.length := by simpa using hjl
   have hje : es0.toList[j] = e := by
    have h5 : es0.toList[j]? = some e := by simpa using hj
    exact (List.getElem?_eq_some_iff.1 h5).2
   rcases Nat.lt_or_gt_of_ne hji with hlt | hlt
   ·exact hpw j i hjl' hil hlt (by rw [hje, hie, h3]; exact hyk.symm)
   exact hpw i j hil hjl' hlt (by rw [hje, hie, h3]; exact hyk)
  rintro (rfl | ⟨hx, hxk⟩)
  ·refine List.mem_iff_getElem?.2 ⟨j, ?_⟩
   rw [List.getElem?_modify, show es0.toList[j]? = some e by simpa using hj]
   simp
  obtain ⟨i, hi⟩ := List.mem_iff_getElem?.1 hx
  refine List.mem_iff_getElem?.2 ⟨i, ?_⟩
  rw [List.getElem?_modify, hi]
  have : j ≠ i := by
   rintro rfl
   have h5 : es0.toList[j]? = some e := by simpa using hj
   rw [h5] at hi; injection hi with hi; subst hi
   exact hxk h3
  simp [this]
 intro i u
 simp only [upd]
 split
 ·rename_i hi
  subst hi
  constructor
  ·intro hu
   injection hu with hu
   subst hu
   exact ⟨_, (hmem _).2 (.inl rfl), rfl, rfl⟩
  rintro ⟨x, hx, hxk, rfl⟩
  rcases (hmem x).1 hx with rfl | ⟨_, hx2⟩
  ·rfl
  exact absurd hxk hx2
 rename_i hi
 rw [hf0]
 constructor
 ·rintro ⟨x, hx, hxk, rfl⟩
  exact ⟨x, (hmem x).2 (.inr ⟨hx, by rw [hxk]; simp; exact hi⟩), hxk, rfl⟩
 rintro ⟨x, hx, hxk, rfl⟩
 rcases (hmem x).1 hx with rfl | ⟨hx1, _⟩
 ·simp at hxk
  exact absurd hxk.symm hi
 exact ⟨x, hx1, hxk, rfl⟩
end
section
variable {P : Program} {w : World} {ops : Array Oper} {rest : List Oper} {o : Oper} {a : Act} {Q : Exit -> Act -> World -> Prop}
theorem wpList_mapUpdate_str (hg : o.guard = none) (m x v : Operand) (t : TypeId) (hop : o.op = Op.mapUpdate t m x v) (k e : TypeId) (ht : P.underlying t = some (.map k e)) (hk : P.underlying k = some .string) (b : Nat) (f : ByteArray -> Option Value) (h : StrMap w b f)
  (hm : a.eval m = .map (some b)) (i : ByteArray) (hx : a.eval x = .string i) (u : Value) (hv : a.eval v = u)
  (hK : ∀ w', StrMap w' b (upd f i u) -> w.grownBy w' (some b) -> w'.heap.size = w.heap.size -> wpList P ops Q rest (a.put o.dst undef) w') :
  wpList P ops Q (o :: rest) a w := by
 refine wpList_plain hg fun K' hK' => ?_
 obtain ⟨w', hrun, r1, r2, r3⟩ := h.store ht hk i u
 unfold Oper.wp
 simp [execOp, hop, hm, hx, hv, hrun, Result.andThen]
 exact hK' _ _ (hK w' r1 r2 r3)
theorem wpList_lookup_str (hg : o.guard = none) (m x : Operand) (t : TypeId) (c : Bool) (hop : o.op = Op.lookup t m x c) (k e : TypeId) (ht : P.underlying t = some (.map k e)) (hk : P.underlying k = some .string) (z : Value) (hz : ∀ w, (zeroValue e).run P w = .ok z w)
  (b : Nat) (f : ByteArray -> Option Value) (h : StrMap w b f) (hm : a.eval m = .map (some b)) (i : ByteArray) (hx : a.eval x = .string i)
  (hK : wpList P ops Q rest (a.put o.dst (if c then .tuple #[(f i).getD z, .bool (f i).isSome] else (f i).getD z)) w) :
  wpList P ops Q (o :: rest) a w := by
 refine wpList_plain hg fun K' hK' => ?_
 have hrun := h.look ht hk hz i c
 unfold Oper.wp
 simp [execOp, hop, hm, hx, hrun, Result.andThen]
 exact hK' _ _ hK
end
/-- Block b is a map that holds these names. -/
def NMap (w : World) (b : Nat) (met : List Str) : Prop := StrMap w b fun k => if met.contains k.data.toList = true then some (.bool true) else none
theorem NMap.made (w : World) : NMap (w.alloc (.map #[] 0)) w.heap.size [] := by
 have h := StrMap.made w
 unfold NMap
 simpa using h
theorem NMap.keep {w w' : World} {b : Nat} {met : List Str} (h : NMap w b met) (e : w'.heap[b]? = w.heap[b]?) : NMap w' b met := StrMap.keep h e
theorem NMap.lt {w : World} {b : Nat} {met : List Str} (h : NMap w b met) : b < w.heap.size := StrMap.lt h
theorem NMap.upd_ {met : List Str} {s : Str} : upd (fun k => if met.contains k.data.toList = true then some (.bool true) else none) (bs s) (.bool true) = fun k : ByteArray => if (met ++ [s]).contains k.data.toList = true then some (.bool true) else none := by
 funext k
 unfold upd
 by_cases h : k = bs s
 ·subst h
  rw [if_pos rfl, if_pos (by simp [bs_list])]
 have h2 : ¬ k.data.toList = s := fun e => h (by rw [<- bs_eta k, e])
 rw [if_neg h]
 show (if met.contains k.data.toList = true then some (Value.bool true) else none) = _
 by_cases hc : met.contains k.data.toList = true
 ·rw [if_pos hc, if_pos (by simp at hc ⊢; exact .inl hc)]
 rw [if_neg hc, if_neg (by simp at hc ⊢; exact ⟨hc, h2⟩)]
theorem grownBy.below {w w' : World} {g B : Nat} (h : w.grownBy w' (some g)) (hB : B <= g) (hw : g < w.heap.size) : Below B w w' :=
 ⟨h.os, h.tape, h.output, h.size, fun k hk => h.block k (by omega) (by intro e; injection e with e; omega)⟩
theorem Below.grown_ {w w' : World} (h : Below w.heap.size w w') (g : Option Nat) : w.grownBy w' g := ⟨h.os, h.tape, h.output, h.size, fun k hk _ => h.block k hk⟩
end Go.Proofs.YtkakbidllpjopaaGreatDoor
namespace Go.Proofs
open Go.Shelf
def Tryz.lays137_ren : Go.Shelf.Ren := ⟨fun | 137 => 75 | 217 => 100 | 266 => 125 | n => n, fun | 9 => 9 | 5 => 5 | 3 => 3 | n => n, fun | n => n⟩
theorem Tryz.lays137 : Go.Proofs.Lays.n137 Tryz.prog Tryz.lays137_ren := {
 mixed := by kernel_rfl
 f137 := Tryz.func75.trans (congrArg some (by kernel_rfl))
 f217 := Tryz.func100.trans (congrArg some (by kernel_rfl))
 f266 := Tryz.func125.trans (congrArg some (by kernel_rfl))
 t3 := Tryz.underlying3
 a3 := Tryz.isAgg3
 z3 := Tryz.sizeOf3
 v3 := Tryz.zeroValue3
 t5 := Tryz.underlying5
 a5 := Tryz.isAgg5
 z5 := Tryz.sizeOf5
 v5 := Tryz.zeroValue5
 t9 := Tryz.underlying9
 a9 := Tryz.isAgg9
 z9 := Tryz.sizeOf9
 v9 := Tryz.zeroValue9 }
open Go.RowKit Go.Sort Go.Lib in
theorem Tryz.strings_IndexByte (s : ByteArray) (c : Int) (w : World) :
  Calls Tryz.prog 75 #[.string s, .int .u8 c] w fun e w' => e = .returned (.int .i64 (Lib.indexByte s.data.toList c.toNat.toUInt8)) /\ w' = w := Any.strings_IndexByte Tryz.lays137 s c w
def Tryz.lays99_ren : Go.Shelf.Ren := ⟨fun | 99 => 80 | 206 => 104 | n => n, fun | 9 => 9 | 4 => 4 | 3 => 3 | n => n, fun | n => n⟩
theorem Tryz.lays99 : Go.Proofs.Lays.n99 Tryz.prog Tryz.lays99_ren := {
 mixed := by kernel_rfl
 f99 := Tryz.func80.trans (congrArg some (by kernel_rfl))
 f206 := Tryz.func104.trans (congrArg some (by kernel_rfl))
 t3 := Tryz.underlying3
 a3 := Tryz.isAgg3
 z3 := Tryz.sizeOf3
 v3 := Tryz.zeroValue3
 t4 := Tryz.underlying4
 a4 := Tryz.isAgg4
 z4 := Tryz.sizeOf4
 v4 := Tryz.zeroValue4
 t9 := Tryz.underlying9
 a9 := Tryz.isAgg9
 z9 := Tryz.sizeOf9
 v9 := Tryz.zeroValue9 }
open Go.RowKit Go.Sort Go.Lib in
theorem Tryz.strings_HasPrefix (s p : ByteArray) (w : World) :
  Calls Tryz.prog 80 #[.string s, .string p] w fun e w' => e = .returned (.bool (Lib.hasPrefix s.data.toList p.data.toList)) /\ w' = w := Any.strings_HasPrefix Tryz.lays99 s p w
def Tryz.laysC174_ren : Go.Shelf.Ren := ⟨fun | 174 => 102 | 247 => 126 | 245 => 127 | 287 => 140 | 279 => 141 | 280 => 142 | 281 => 143 | 282 => 144 | 321 => 151 | 322 => 152 | 316 => 153 | 171 => 155 | 205 => 154 | 243 => 158 | 246 => 113 | 283 => 130 | 284 => 131 | 285 => 132 | 286 => 133 | 129 => 146 | 317 => 145 | 318 => 147 | 319 => 148 | 320 => 149 | 337 => 156 | 338 => 157 | n => n, fun | 9 => 9 | 3 => 3 | 2 => 2 | 75 => 122 | 85 => 164 | 4 => 4 | 167 => 198 | 5 => 5 | 53 => 157 | 175 => 199 | 46 => 151 | 168 => 201 | 37 => 58 | 0 => 0 | 210 => 211 | 21 => 21 | 127 => 128 | 145 => 216 | 143 => 214 | 171 => 186 | 173 => 189 | 212 => 206 | 51 => 169 | 20 => 20 | 213 => 207 | 232 => 217 | 233 => 218 | 80 => 88 | n => n, fun | 15 => 4 | 16 => 5 | 17 => 3 | 18 => 6 | 19 => 7 | n => n⟩
theorem Tryz.laysC174 : Go.Proofs.LaysC.n174 Tryz.prog Tryz.laysC174_ren := {
 mixed := by kernel_rfl
 f129 := Tryz.func146.trans (congrArg some (by kernel_rfl))
 f171 := Tryz.func155.trans (congrArg some (by kernel_rfl))
 f174 := Tryz.func102.trans (congrArg some (by kernel_rfl))
 f205 := Tryz.func154.trans (congrArg some (by kernel_rfl))
 f243 := Tryz.func158.trans (congrArg some (by kernel_rfl))
 f245 := Tryz.func127.trans (congrArg some (by kernel_rfl))
 f246 := Tryz.func113.trans (congrArg some (by kernel_rfl))
 f247 := Tryz.func126.trans (congrArg some (by kernel_rfl))
 f279 := Tryz.func141.trans (congrArg some (by kernel_rfl))
 f280 := Tryz.func142.trans (congrArg some (by kernel_rfl))
 f281 := Tryz.func143.trans (congrArg some (by kernel_rfl))
 f282 := Tryz.func144.trans (congrArg some (by kernel_rfl))
 f283 := Tryz.func130.trans (congrArg some (by kernel_rfl))
 f284 := Tryz.func131.trans (congrArg some (by kernel_rfl))
 f285 := Tryz.func132.trans (congrArg some (by kernel_rfl))
 f286 := Tryz.func133.trans (congrArg some (by kernel_rfl))
 f287 := Tryz.func140.trans (congrArg some (by kernel_rfl))
 f316 := Tryz.func153.trans (congrArg some (by kernel_rfl))
 f317 := Tryz.func145.trans (congrArg some (by kernel_rfl))
 f318 := Tryz.func147.trans (congrArg some (by kernel_rfl))
 f319 := Tryz.func148.trans (congrArg some (by kernel_rfl))
 f320 := Tryz.func149.trans (congrArg some (by kernel_rfl))
 f321 := Tryz.func151.trans (congrArg some (by kernel_rfl))
 f322 := Tryz.func152.trans (congrArg some (by kernel_rfl))
 f337 := Tryz.func156.trans (congrArg some (by kernel_rfl))
 f338 := Tryz.func157.trans (congrArg some (by kernel_rfl))
 t0 := Tryz.underlying0
 a0 := Tryz.isAgg0
 z0 := Tryz.sizeOf0
 v0 := Tryz.zeroValue0
 t2 := Tryz.underlying2
 a2 := Tryz.isAgg2
 z2 := Tryz.sizeOf2
 v2 := Tryz.zeroValue2
 t3 := Tryz.underlying3
 a3 := Tryz.isAgg3
 z3 := Tryz.sizeOf3
 v3 := Tryz.zeroValue3
 t4 := Tryz.underlying4
 a4 := Tryz.isAgg4
 z4 := Tryz.sizeOf4
 v4 := Tryz.zeroValue4
 t5 := Tryz.underlying5
 a5 := Tryz.isAgg5
 z5 := Tryz.sizeOf5
 v5 := Tryz.zeroValue5
 t9 := Tryz.underlying9
 a9 := Tryz.isAgg9
 z9 := Tryz.sizeOf9
 v9 := Tryz.zeroValue9
 t20 := Tryz.underlying20
 a20 := Tryz.isAgg20
 z20 := Tryz.sizeOf20
 v20 := Tryz.zeroValue20
 t21 := Tryz.underlying21
 a21 := Tryz.isAgg21
 z21 := Tryz.sizeOf21
 v21 := Tryz.zeroValue21
 t37 := Tryz.underlying58
 a37 := Tryz.isAgg58
 z37 := Tryz.sizeOf58
 v37 := Tryz.zeroValue58
 t46 := Tryz.underlying151
 a46 := Tryz.isAgg151
 z46 := Tryz.sizeOf151
 v46 := Tryz.zeroValue151
 t51 := Tryz.underlying169
 a51 := Tryz.isAgg169
 z51 := Tryz.sizeOf169
 v51 := Tryz.zeroValue169
 t53 := Tryz.underlying157
 a53 := Tryz.isAgg157
 z53 := Tryz.sizeOf157
 v53 := Tryz.zeroValue157
 t75 := Tryz.underlying122
 a75 := Tryz.isAgg122
 z75 := Tryz.sizeOf122
 v75 := Tryz.zeroValue122
 t85 := Tryz.underlying164
 a85 := Tryz.isAgg164
 z85 := Tryz.sizeOf164
 v85 := Tryz.zeroValue164
 t127 := Tryz.underlying128
 a127 := Tryz.isAgg128
 z127 := Tryz.sizeOf128
 v127 := Tryz.zeroValue128
 t143 := Tryz.underlying214
 a143 := Tryz.isAgg214
 z143 := Tryz.sizeOf214
 v143 := Tryz.zeroValue214
 t145 := Tryz.underlying216
 a145 := Tryz.isAgg216
 z145 := Tryz.sizeOf216
 v145 := Tryz.zeroValue216
 t167 := Tryz.underlying198
 a167 := Tryz.isAgg198
 z167 := Tryz.sizeOf198
 v167 := Tryz.zeroValue198
 t168 := Tryz.underlying201
 a168 := Tryz.isAgg201
 z168 := Tryz.sizeOf201
 v168 := Tryz.zeroValue201
 t171 := Tryz.underlying186
 a171 := Tryz.isAgg186
 z171 := Tryz.sizeOf186
 v171 := Tryz.zeroValue186
 t173 := Tryz.underlying189
 a173 := Tryz.isAgg189
 z173 := Tryz.sizeOf189
 v173 := Tryz.zeroValue189
 t175 := Tryz.underlying199
 a175 := Tryz.isAgg199
 z175 := Tryz.sizeOf199
 v175 := Tryz.zeroValue199
 t210 := Tryz.underlying211
 a210 := Tryz.isAgg211
 z210 := Tryz.sizeOf211
 v210 := Tryz.zeroValue211
 t212 := Tryz.underlying206
 a212 := Tryz.isAgg206
 z212 := Tryz.sizeOf206
 v212 := Tryz.zeroValue206
 t213 := Tryz.underlying207
 a213 := Tryz.isAgg207
 z213 := Tryz.sizeOf207
 t232 := Tryz.underlying217
 a232 := Tryz.isAgg217
 z232 := Tryz.sizeOf217
 v232 := Tryz.zeroValue217
 t233 := Tryz.underlying218
 a233 := Tryz.isAgg218
 z233 := Tryz.sizeOf218
 v233 := Tryz.zeroValue218
 g15 := by kernel_rfl
 g16 := by kernel_rfl
 g17 := by kernel_rfl
 g18 := by kernel_rfl
 g19 := by kernel_rfl
 t80 := Tryz.underlying88
 a80 := Tryz.isAgg88
 z80 := Tryz.sizeOf88
 v80 := Tryz.zeroValue88
 i0 := by kernel_rfl
 i2 := by kernel_rfl
 i3 := by kernel_rfl
 i4 := by kernel_rfl
 i5 := by kernel_rfl
 i9 := by kernel_rfl
 i20 := by kernel_rfl
 i21 := by kernel_rfl
 i37 := by kernel_rfl
 i46 := by kernel_rfl
 i51 := by kernel_rfl
 i53 := by kernel_rfl
 i75 := by kernel_rfl
 i80 := by kernel_rfl
 i85 := by kernel_rfl
 i127 := by kernel_rfl
 i143 := by kernel_rfl
 i145 := by kernel_rfl
 i167 := by kernel_rfl
 i168 := by kernel_rfl
 i171 := by kernel_rfl
 i173 := by kernel_rfl
 i175 := by kernel_rfl
 i210 := by kernel_rfl
 i212 := by kernel_rfl
 i232 := by kernel_rfl
 i233 := by kernel_rfl
 m15 := by kernel_rfl
 m16 := by kernel_rfl
 m17 := by kernel_rfl
 m18 := by kernel_rfl
 m19 := by kernel_rfl
 c0 := by kernel_rfl
 c2 := by kernel_rfl
 c3 := by kernel_rfl
 c4 := by kernel_rfl
 c5 := by kernel_rfl
 c9 := by kernel_rfl
 c20 := by kernel_rfl
 c21 := by kernel_rfl
 c37 := by kernel_rfl
 c46 := by kernel_rfl
 c51 := by kernel_rfl
 c53 := by kernel_rfl
 c75 := by kernel_rfl
 c80 := by kernel_rfl
 c85 := by kernel_rfl
 c127 := by kernel_rfl
 c143 := by kernel_rfl
 c145 := by kernel_rfl
 c167 := by kernel_rfl
 c168 := by kernel_rfl
 c171 := by kernel_rfl
 c173 := by kernel_rfl
 c175 := by kernel_rfl
 c210 := by kernel_rfl
 c212 := by kernel_rfl
 c213 := by kernel_rfl
 c232 := by kernel_rfl
 c233 := by kernel_rfl }
open Go.RowKit Go.Sort Go.Lib in
theorem Tryz.strconv_ParseInt_10_at64_ok (s : ByteArray) (hmax : s.size <= 9223372036854775806) (v : Int) (h : Lib.parseIntB 64 s.data.toList = .ok v) (w : World) :
  Calls Tryz.prog 102 #[.string s, .int .i64 10, .int .i64 64] w fun e w' => e = .returned (.tuple #[.int .i64 v, .nilIface]) /\ (w' = w ∨ ∃ t, w' = Lib.bytesWorld w 5 t) := Any.strconv_ParseInt_10_at64_ok Tryz.laysC174 s hmax v h w
open Go.RowKit Go.Sort Go.Lib in
theorem Tryz.strconv_ParseInt_10_at64_range (s : ByteArray) (hlim : s.size <= 281474976710656) (h : Lib.parseIntB 64 s.data.toList = .range) (ev : Value) (w : World) (hv : w.cell? ⟨5, 0, none⟩ = some ev) (hev : ev = .nilIface ∨ ∃ te pe, ev = .iface te pe) :
  Calls Tryz.prog 102 #[.string s, .int .i64 10, .int .i64 64] w fun e w' => ∃ N, e = .returned (.tuple #[.int .i64 (Lib.intSat 64 s.data.toList), .iface 201 (.pointer (some ⟨N, 0, none⟩))]) /\ w.heap.size <= N /\ w'.heap[N]? = some (.cells #[.string ⟨#[80, 97, 114, 115, 101, 73, 110, 116]⟩, .string s, ev] 211 (0, 0)) /\ Below w.heap.size w w' := Any.strconv_ParseInt_10_at64_range Tryz.laysC174 s hlim h ev w hv hev
open Go.RowKit Go.Sort Go.Lib in
theorem Tryz.strconv_ParseInt_10_at64_syntax (s : ByteArray) (hlim : s.size <= 281474976710656) (h : Lib.parseIntB 64 s.data.toList = .«syntax») (ev : Value) (w : World) (hv : w.cell? ⟨4, 0, none⟩ = some ev) (hev : ev = .nilIface ∨ ∃ te pe, ev = .iface te pe) :
  Calls Tryz.prog 102 #[.string s, .int .i64 10, .int .i64 64] w fun e w' => ∃ N, e = .returned (.tuple #[.int .i64 (0), .iface 201 (.pointer (some ⟨N, 0, none⟩))]) /\ w.heap.size <= N /\ w'.heap[N]? = some (.cells #[.string ⟨#[80, 97, 114, 115, 101, 73, 110, 116]⟩, .string s, ev] 211 (0, 0)) /\ Below w.heap.size w w' := Any.strconv_ParseInt_10_at64_syntax Tryz.laysC174 s hlim h ev w hv hev
end Go.Proofs
namespace Go.Proofs.YtkakbidllpjopaaGreatDoor.Lx
open Go.RowKit
def digZ (r : Int) : Bool := decide (48 <= r) && decide (r <= 57)
def letZ (r : Int) : Bool := decide (r = 95) || (decide (97 <= r) && decide (r <= 122)) || (decide (65 <= r) && decide (r <= 90))
theorem digZ_nat (n : Nat) : digZ n = digN n := by
 unfold digZ digN
 rw [show decide ((48 : Int) <= (n : Int)) = decide (48 <= n) from decide_eq_decide.2 (by omega), show decide ((n : Int) <= 57) = decide (n <= 57) from decide_eq_decide.2 (by omega)]
theorem letZ_nat (n : Nat) : letZ n = letN n := by
 unfold letZ letN
 rw [show decide ((n : Int) = 95) = decide (n = 95) from decide_eq_decide.2 (by omega), show decide ((97 : Int) <= (n : Int)) = decide (97 <= n) from decide_eq_decide.2 (by omega), show decide ((n : Int) <= 122) = decide (n <= 122) from decide_eq_decide.2 (by omega),
  show decide ((65 : Int) <= (n : Int)) = decide (65 <= n) from decide_eq_decide.2 (by omega), show decide ((n : Int) <= 90) = decide (n <= 90) from decide_eq_decide.2 (by omega)]
theorem digZ_high {r : Int} (h : 128 <= r) : digZ r = false := by
 unfold digZ
 rw [decide_eq_false (show ¬ r <= 57 by omega), Bool.and_false]
theorem letZ_high {r : Int} (h : 128 <= r) : letZ r = false := by
 unfold letZ
 rw [decide_eq_false (show ¬ r = 95 by omega), decide_eq_false (show ¬ r <= 122 by omega), decide_eq_false (show ¬ r <= 90 by omega), Bool.and_false, Bool.and_false]
 rfl
theorem digit_any (r : Int) (w : World) : Calls Tryz.prog 77 #[.int .i32 r] w fun e w' => e = .returned (.bool (digZ r)) /\ w' = w := by
 unfold digZ
 by_cases h1 : 48 <= r
 ·by_cases h2 : r <= 57
  all_goals (
   go_enter Tryz.func77, Tryz.ntmps77
   go_wp2
   go_ret
   exact ⟨by first | (simp [h1, h2]; done) | (simp [h1, h2]; omega), rfl⟩)
 go_enter Tryz.func77, Tryz.ntmps77
 go_wp2
 go_ret
 exact ⟨by first | (simp [h1]; done) | (simp [h1]; omega), rfl⟩
theorem letter_any (r : Int) (w : World) : Calls Tryz.prog 101 #[.int .i32 r] w fun e w' => e = .returned (.bool (letZ r)) /\ w' = w := by
 unfold letZ
 by_cases h0 : r = 95
 ·subst h0
  go_enter Tryz.func101, Tryz.ntmps101
  go_wp2
  go_ret
  exact ⟨rfl, rfl⟩
 by_cases h1 : 97 <= r <;> by_cases h2 : r <= 122 <;> by_cases h3 : 65 <= r <;> by_cases h4 : r <= 90
 all_goals first
  | (exfalso; omega)
  | (go_enter Tryz.func101, Tryz.ntmps101
     go_wp2
     go_ret
     exact ⟨by first | (simp [h0, h1, h2, h3, h4]; done) | (simp [h0, h1, h2, h3, h4]; rw [beq_eq_false_iff_ne.2 h0, decide_eq_false (by omega), decide_eq_false (by omega)]; rfl), rfl⟩)
theorem word_step (l : List UInt8) : ∀ (k : Nat) (hk : k < l.length), k <= (word l).length -> (partB l[k] = true -> k + 1 <= (word l).length) /\ (partB l[k] = false -> (word l).length = k) := by
 induction l with
 | nil => intro k hk; cases hk
 | cons b t ih =>
  intro k hk h
  unfold word at *
  rw [List.takeWhile_cons] at *
  cases k with
  | zero =>
   rw [List.getElem_cons_zero]
   refine ⟨fun hp => ?_, fun hp => ?_⟩
   ·rw [if_pos hp, List.length_cons]; omega
   rw [if_neg (by rw [hp]; decide)]; rfl
  | succ k =>
   rw [List.getElem_cons_succ]
   by_cases hb : partB b = true
   ·rw [if_pos hb, List.length_cons] at *
    obtain ⟨g1, g2⟩ := ih k (by simpa using hk) (by omega)
    exact ⟨fun hp => by have := g1 hp; omega, fun hp => by have := g2 hp; omega⟩
   rw [if_neg hb] at h
   simp at h
theorem word_all {l : List UInt8} (h : l.length <= (word l).length) : word l = l := by
 have := word_take l
 rw [List.take_of_length_le h] at this
 exact this.symm
theorem iter_below (w : World) (s : ByteArray) (p : Nat) : Below w.heap.size w (w.iter s p) := (Below.refl _ _).alloc (Nat.le_refl _) _
theorem bs_get (l : List UInt8) (k : Nat) (hk : k < l.length) (h : k < (bs l).size) : (bs l)[k]'h = l[k] := rfl
theorem run_any (l : List UInt8) (w : World) :
  Calls Tryz.prog 76 #[.string (bs l)] w fun e w' => e = .returned (.string (bs (word l))) /\ Below w.heap.size w w' := by
 go_enter Tryz.func76, Tryz.ntmps76
 go_wp2
 go_loopw [3] (fun _ wr => ∃ k : Nat, k <= l.length /\ k <= (word l).length /\ wr = w.iter (bs l) k) (fun _ wr => l.length - wr.iterPos w.heap.size)
 case atStart => exact ⟨0, by omega, by omega, rfl⟩
 case round =>
  obtain ⟨k, hk, hw, rfl⟩ := hrel
  by_cases hp : k < l.length
  ·have hps : k < (bs l).size := hp
   have HK := hI hp
   obtain ⟨s1, s2⟩ := word_step l k hp hw
   by_cases ha : (l[k]).toNat < 128
   ·have hnx : ∀ ty, (Instr.next (.pointer (some ⟨w.heap.size, 0, none⟩)) true ty).run Tryz.prog (w.iter (bs l) k) = .ok (.tuple #[.bool true, .int .i64 k, .int .i32 (l[k]).toNat]) (w.iter (bs l) (k + 1)) := fun ty => run_next_ascii w (bs l) k ty hps ha
    have HL := hI (letter_any ((l[k]).toNat : Int) (w.iter (bs l) (k + 1)))
    have HD := hI (digit_any ((l[k]).toNat : Int) (w.iter (bs l) (k + 1)))
    rw [letZ_nat] at HL
    rw [digZ_nat] at HD
    by_cases h1 : letN (l[k]).toNat = true
    ·have hpart : partB l[k] = true := by unfold partB partN; rw [h1]; rfl
     have S1 := hI (s1 hpart)
     rw [h1] at HL
     clear s1 s2 hpart h1 HD hw
     generalize (l[k]).toNat = c at *
     clear hps hp
     go_wp2_with fail
     refine HL.out.mono ?_
     rintro e w1 ⟨rfl, rfl⟩
     go_wp2
     go_roundw
     case rel => exact ⟨k + 1, HK.out, S1.out, rfl⟩
     case measure => rw [World.iterPos_iter, World.iterPos_iter]; have := HK.out; omega
    have h1f : letN (l[k]).toNat = false := by simpa using h1
    rw [h1f] at HL
    by_cases h2 : digN (l[k]).toNat = true
    ·have hpart : partB l[k] = true := by unfold partB partN; rw [h2, Bool.or_true]
     have S1 := hI (s1 hpart)
     rw [h2] at HD
     clear s1 s2 hpart h1 h2 h1f hw
     generalize (l[k]).toNat = c at *
     clear hps hp
     go_wp2_with fail
     refine HL.out.mono ?_
     rintro e w1 ⟨rfl, rfl⟩
     go_wp2_with fail
     refine HD.out.mono ?_
     rintro e w1 ⟨rfl, rfl⟩
     go_wp2
     go_roundw
     case rel => exact ⟨k + 1, HK.out, S1.out, rfl⟩
     case measure => rw [World.iterPos_iter, World.iterPos_iter]; have := HK.out; omega
    have h2f : digN (l[k]).toNat = false := by simpa using h2
    rw [h2f] at HD
    have hpart : partB l[k] = false := by unfold partB partN; rw [h1f, h2f]; rfl
    have S2 := hI (s2 hpart)
    have HE := hI (bs_head l k)
    have hkz : (k : Int) <= ((bs l).size : Int) := by omega
    clear s1 s2 hpart h1 h2 h1f h2f hw
    generalize (l[k]).toNat = c at *
    clear hp hps
    go_wp2_with fail
    refine HL.out.mono ?_
    rintro e w1 ⟨rfl, rfl⟩
    go_wp2_with fail
    refine HD.out.mono ?_
    rintro e w1 ⟨rfl, rfl⟩
    go_wp2
    go_ret
    exact ⟨by rw [HE.out, <- S2.out, word_take]; rfl, iter_below _ _ _⟩
   have hnx : ∀ ty, (Instr.next (.pointer (some ⟨w.heap.size, 0, none⟩)) true ty).run Tryz.prog (w.iter (bs l) k) = .ok (.tuple #[.bool true, .int .i64 k, .int .i32 (Utf8.decode (bs l) k).1]) (w.iter (bs l) (k + (Utf8.decode (bs l) k).2)) := fun ty => run_next_any w (bs l) k ty hps
   have hhi := (decode_high (bs l) k hps (by rw [bs_get l k hp]; omega)).1
   have hpart : partB l[k] = false := by
    cases hq : partB l[k] with
    | false => rfl
    | true => exact absurd (part_low hq) ha
   have S2 := hI (s2 hpart)
   have HE := hI (bs_head l k)
   have HL := hI (letter_any ((Utf8.decode (bs l) k).1 : Int) (w.iter (bs l) (k + (Utf8.decode (bs l) k).2)))
   have HD := hI (digit_any ((Utf8.decode (bs l) k).1 : Int) (w.iter (bs l) (k + (Utf8.decode (bs l) k).2)))
   rw [letZ_high (by omega)] at HL
   rw [digZ_high (by omega)] at HD
   have hkz : (k : Int) <= ((bs l).size : Int) := by omega
   clear s1 s2 hpart hw hhi ha
   generalize (Utf8.decode (bs l) k).1 = c at *
   generalize k + (Utf8.decode (bs l) k).2 = k2 at *
   clear hp hps
   go_wp2_with fail
   refine HL.out.mono ?_
   rintro e w1 ⟨rfl, rfl⟩
   go_wp2_with fail
   refine HD.out.mono ?_
   rintro e w1 ⟨rfl, rfl⟩
   go_wp2
   go_ret
   exact ⟨by rw [HE.out, <- S2.out, word_take]; rfl, iter_below _ _ _⟩
  have hps : ¬ k < (bs l).size := hp
  have hnx : ∀ ty, (Instr.next (.pointer (some ⟨w.heap.size, 0, none⟩)) true ty).run Tryz.prog (w.iter (bs l) k) = _ := fun ty => run_next_end w (bs l) k ty hps
  have HE := hI (word_all (l := l) (by omega))
  clear hp hps hw hk
  go_wp2
  go_ret
  exact ⟨by rw [HE.out]; rfl, iter_below _ _ _⟩
open Go.RowKit
theorem meas_up (n k : Nat) (h : k < n) : n - ((k : Int) + 1).toNat < n - ((k : Int)).toNat := by omega
theorem blank_step {l : List UInt8} {k : Nat} (hk : k < l.length) (h : blankA false l = k + blankA false (l.drop k)) (hw : wsB l[k] = true) : blankA false l = (k + 1) + blankA false (l.drop (k + 1)) := by
 rw [List.drop_eq_getElem_cons hk] at h
 simp only [blankA, hw, if_true] at h
 omega
theorem blank_stop {l : List UInt8} {k : Nat} (hk : k < l.length) (h : blankA false l = k + blankA false (l.drop k)) (hw : wsB l[k] = false) (h35 : l[k] ≠ 35) : blankA false l = k := by
 rw [List.drop_eq_getElem_cons hk] at h
 simp only [blankA, hw, h35, if_false] at h
 simpa using h
theorem blank_idx (t : List UInt8) : (Lib.indexByte t 10 = -1 -> blankA true t = t.length) /\ ∀ o : Nat, Lib.indexByte t 10 = o -> blankA true t = o + blankA false (t.drop o) := by
 induction t with
 | nil => exact ⟨fun _ => rfl, fun o h => by simp [Lib.indexByte] at h⟩
 | cons b t ih =>
  obtain ⟨h1, h2⟩ := ih
  unfold Lib.indexByte
  by_cases hb : b = 10
  ·subst hb
   refine ⟨fun h => by simp at h, fun o h => ?_⟩
   have : o = 0 := by simp at h; omega
   subst this
   simp [blankA, wsB]
  have hb' : (b == 10) = false := by simpa using hb
  rw [hb']
  simp only [Bool.false_eq_true, if_false]
  have hge := Lib.indexByte_ge t 10
  by_cases hm : Lib.indexByte t 10 = -1
  ·rw [hm]
   refine ⟨fun _ => ?_, fun o h => by simp at h⟩
   simp only [blankA, hb, if_false, List.length_cons, h1 hm]
  have hm' : (Lib.indexByte t 10 == -1) = false := by simpa using hm
  rw [hm']
  simp only [Bool.false_eq_true, if_false]
  refine ⟨fun h => by omega, fun o h => ?_⟩
  obtain ⟨o', rfl⟩ : ∃ o', o = o' + 1 := ⟨o - 1, by omega⟩
  simp only [blankA, hb, if_false, List.drop_succ_cons]
  have h3 := h2 o' (by omega)
  omega
theorem blank_hash {l : List UInt8} {k : Nat} (hk : k < l.length) (h : blankA false l = k + blankA false (l.drop k)) (h35 : l[k] = 35) :
  (Lib.indexByte (l.drop k) 10 = -1 -> blankA false l = l.length) /\ ∀ o : Nat, Lib.indexByte (l.drop k) 10 = o -> 0 < o /\ k + o <= l.length /\ blankA false l = (k + o) + blankA false (l.drop (k + o)) := by
 obtain ⟨h1, h2⟩ := blank_idx (l.drop (k + 1))
 have hge := Lib.indexByte_ge (l.drop (k + 1)) 10
 have hle := blank_le l false
 have e : l.drop k = 35 :: l.drop (k + 1) := by rw [List.drop_eq_getElem_cons hk, h35]
 have e2 : blankA false (l.drop k) = blankA true (l.drop (k + 1)) + 1 := by rw [e]; simp [blankA, wsB]
 rw [e2] at h
 have e3 : Lib.indexByte (l.drop k) 10 = if Lib.indexByte (l.drop (k + 1)) 10 == -1 then -1 else Lib.indexByte (l.drop (k + 1)) 10 + 1 := by rw [e]; rfl
 rw [e3]
 by_cases hm : Lib.indexByte (l.drop (k + 1)) 10 = -1
 ·rw [hm]
  have := h1 hm
  rw [List.length_drop] at this
  refine ⟨fun _ => by omega, fun o ho => by simp at ho⟩
 have hm' : (Lib.indexByte (l.drop (k + 1)) 10 == -1) = false := by simpa using hm
 rw [hm']
 simp only [Bool.false_eq_true, if_false]
 refine ⟨fun h => by omega, fun o ho => ?_⟩
 obtain ⟨o', rfl⟩ : ∃ o', o = o' + 1 := ⟨o - 1, by omega⟩
 have h3 := h2 o' (by omega)
 have h4 : blankA false ((l.drop k).drop (o' + 1)) = blankA false ((l.drop (k + 1)).drop o') := by rw [e, List.drop_succ_cons]
 have h5 : o' < (l.drop (k + 1)).length := by
  have := (Lib.indexByte_some (l := l.drop (k + 1)) (c := 10) (o := o') (by omega)).1
  exact (List.getElem?_eq_some_iff.1 this).1
 rw [List.length_drop] at h5
 rw [show l.drop (k + (o' + 1)) = (l.drop k).drop (o' + 1) from List.drop_drop.symm, h4]
 exact ⟨by omega, by omega, by omega⟩
theorem ws_nat (b : UInt8) : wsB b = (decide (b.toNat = 32) || decide (b.toNat = 9) || decide (b.toNat = 10) || decide (b.toNat = 13)) := by
 have e : ∀ c : UInt8, (b == c) = decide (b.toNat = c.toNat) := fun c => by
  by_cases h : b = c
  ·subst h; simp
  have : ¬ b.toNat = c.toNat := fun e => h (UInt8.toNat_inj.1 e)
  rw [decide_eq_false this]
  simpa using h
 unfold wsB
 rw [e, e, e, e]
 rfl
theorem meas_more (n k o : Nat) (h : 0 < o) (h2 : k + o <= n) : n - ((k : Int) + (o : Int)).toNat < n - ((k : Int)).toNat := by omega
theorem blank_any (l : List UInt8) (w : World) (hl : l.length <= 65536) :
  Calls Tryz.prog 44 #[.string (bs l)] w fun e w' => e = .returned (.int .i64 (blankA false l)) /\ w' = w := by
 have hsz := bs_size l
 have hli : (l.length : Int) <= 65536 := by omega
 clear hl
 go_enter Tryz.func44, Tryz.ntmps44
 go_wp2
 go_step3
 go_wp2
 go_step3
 go_wp2
 go_loopw [3] (fun i wr => ∃ k : Nat, k <= l.length /\ i = .int .i64 k /\ blankA false l = k + blankA false (l.drop k) /\ wr = w) (fun i _ => l.length - (intOf i).toNat)
 case atStart => exact ⟨0, by omega, rfl, by rw [List.drop_zero, Nat.zero_add], rfl⟩
 case round =>
  obtain ⟨k, hk, rfl, hb, rfl⟩ := hrel
  by_cases hlt : k < l.length
  ·skip
   have hi : (k : Int) < (l.length : Int) := by omega
   have hki : (k : Int) < ((bs l).size : Int) := by omega
   have hps : k < (bs l).size := hlt
   have HK := hI hlt
   have hws := ws_nat l[k]
   have h35 : l[k] = 35 ↔ (l[k]).toNat = 35 := by rw [<- UInt8.toNat_inj]; rfl
   have hge : ((bs l)[k]'hps).toNat = (l[k]).toNat := rfl
   by_cases hc : (l[k]).toNat = 32 ∨ (l[k]).toNat = 9 ∨ (l[k]).toNat = 10 ∨ (l[k]).toNat = 13
   ·have hwt : wsB l[k] = true := by rw [hws]; simpa [or_assoc] using hc
    have HST := hI (blank_step hlt hb hwt)
    clear hwt
    rcases hc with hc | hc | hc | hc
    all_goals (
     rw [hc] at hge
     clear hws h35 hc hb hlt
     go_wp2
     go_roundw
     case rel => exact ⟨k + 1, HK.out, by go_num, HST.out, by first | rfl | trivial⟩
     case measure => exact meas_up _ _ HK.out)
   have hwf : wsB l[k] = false := by
    rw [hws]
    simp only [not_or] at hc
    simp [hc.1, hc.2.1, hc.2.2.1, hc.2.2.2]
   simp only [not_or] at hc
   obtain ⟨n1, n2, n3, n4⟩ := hc
   by_cases h5 : (l[k]).toNat = 35
   ·obtain ⟨i1, i2⟩ := blank_hash hlt hb (h35.2 h5)
    rw [h5] at hge
    have I1 := hI i1
    have I2 := hI i2
    have HB := hI hb
    clear hws h35 h5 hb hlt n1 n2 n3 n4 hwf i1 i2
    go_wp2_with fail
    refine (Tryz.strings_IndexByte _ _ _).mono ?_
    rintro e w1 ⟨rfl, rfl⟩
    rw [show (bs l).extract k l.length = bs (l.drop k) from bs_tail l k, bs_list, show (10 : Int).toNat.toUInt8 = 10 from rfl]
    by_cases hm : Lib.indexByte (l.drop k) 10 = -1
    ·have HF := hI (I1.out hm)
     rw [hm]
     clear I1 I2 hm
     go_wp2
     rw [Exit.noGoto_ret]
     go_ret
     exact ⟨by rw [HF.out]; rfl, rfl⟩
    have hq := Lib.indexByte_ge (l.drop k) 10
    obtain ⟨o, ho⟩ : ∃ o : Nat, Lib.indexByte (l.drop k) 10 = o := ⟨(Lib.indexByte (l.drop k) 10).toNat, by omega⟩
    obtain ⟨o1, o2, o3⟩ := I2.out o ho
    rw [ho]
    have HF := hI o3
    have HO := hI (And.intro o1 o2)
    have o0 : (0 : Int) <= (o : Int) := by omega
    have o5 : (k : Int) + (o : Int) <= 65536 := by omega
    clear I1 I2 hm hq ho o1 o2 o3
    go_wp2
    go_roundw
    case rel => exact ⟨k + o, HO.out.2, by go_num, HF.out, by first | rfl | trivial⟩
    case measure => exact meas_more _ _ _ HO.out.1 HO.out.2
   have HF := hI (blank_stop hlt hb hwf fun e => h5 (h35.1 e))
   have hne : ∀ v : Int, (v = 32 ∨ v = 9 ∨ v = 10 ∨ v = 13 ∨ v = 35) -> ¬ ((l[k]).toNat : Int) = v := fun v hv => by omega
   have m1 := hne 32 (by decide)
   have m2 := hne 9 (by decide)
   have m3 := hne 10 (by decide)
   have m4 := hne 13 (by decide)
   have m5 := hne 35 (by decide)
   clear hws h35 hb n1 n2 n3 n4 hwf h5 hne
   generalize (l[k]).toNat = c at *
   clear hlt
   go_wp2
   rw [Exit.noGoto_ret]
   go_ret
   exact ⟨by rw [HF.out]; rfl, rfl⟩
  skip
  have hi : (l.length : Int) <= (k : Int) := by omega
  obtain rfl : k = l.length := by omega
  have HF := hI (show blankA false l = l.length by rw [hb, List.drop_length]; rfl)
  clear hb hk hlt
  go_wp2
  rw [Exit.noGoto_ret]
  go_ret
  exact ⟨by rw [HF.out]; rfl, rfl⟩
open Go.RowKit
def stepV (n : Nat) (b : UInt8) : Nat := 10 * n + (b.toNat - 48)
theorem fold_ge (l : List UInt8) : ∀ a, a <= l.foldl stepV a := by
 induction l with
 | nil => intro a; exact Nat.le_refl _
 | cons b t ih =>
  intro a
  rw [List.foldl_cons]
  have := ih (stepV a b)
  unfold stepV at *
  omega
theorem parse_m (l : List UInt8) : l.all digB = true -> ∀ a, a <= 18446744073709551615 -> Lib.parseUintM 18446744073709551615 a l = if l.foldl stepV a <= 18446744073709551615 then .ok (l.foldl stepV a) else .range := by
 induction l with
 | nil => intro _ a h; rw [List.foldl_nil, if_pos h]; rfl
 | cons b t ih =>
  intro hd a h
  rw [List.all_cons, Bool.and_eq_true] at hd
  have hb : 48 <= b.toNat /\ b.toNat <= 57 := by
   have := hd.1
   unfold digB digN at this
   simpa using this
  rw [List.foldl_cons]
  have hge := fold_ge t (stepV a b)
  have e : a * 10 + (b.toNat - 48) = stepV a b := by unfold stepV; omega
  unfold Lib.parseUintM
  rw [if_pos hb, e]
  by_cases h1 : 1844674407370955162 <= a
  ·rw [if_pos h1, if_neg (by unfold stepV at *; omega)]
  rw [if_neg h1]
  by_cases h2 : 18446744073709551615 < stepV a b
  ·rw [if_pos h2, if_neg (by omega)]
  rw [if_neg h2, ih hd.2 _ (by omega)]
theorem parse_i (l : List UInt8) (h : l.all digB = true) (hne : l ≠ []) : Lib.parseIntB 64 l = if numV l <= 9223372036854775807 then .ok ((numV l : Nat) : Int) else .range := by
 cases l with
 | nil => exact absurd rfl hne
 | cons b t =>
  have hb : 48 <= b.toNat /\ b.toNat <= 57 := by
   rw [List.all_cons, Bool.and_eq_true] at h
   have := h.1
   unfold digB digN at this
   simpa using this
  have hp := parse_m (b :: t) h 0 (by omega)
  have hv : (b :: t).foldl stepV 0 = numV (b :: t) := rfl
  rw [hv] at hp
  unfold Lib.parseIntB Lib.parseUintB
  have n1 : ¬ (b.toNat = 43 ∨ b.toNat = 45) := by omega
  have n2 : ¬ b.toNat = 45 := by omega
  simp only [if_neg n1]
  rw [if_neg (by simp), show (2 ^ 64 - 1 : Nat) = 18446744073709551615 by decide, hp]
  by_cases h1 : numV (b :: t) <= 18446744073709551615
  ·rw [if_pos h1]
   simp only [show (2 ^ (64 - 1) : Nat) = 9223372036854775808 by decide]
   by_cases h2 : numV (b :: t) <= 9223372036854775807
   ·rw [if_pos h2, if_neg (by omega), if_neg (by omega), if_neg n2]
   rw [if_neg h2, if_pos ⟨n2, by omega⟩]
  rw [if_neg h1, if_neg (by omega)]
theorem take_all (l : List UInt8) (k : Nat) (hk : k < l.length) (h : (l.take k).all digB = true) : (digB l[k] = true -> (l.take (k + 1)).all digB = true) /\ (digB l[k] = false -> l.all digB = false) := by
 rw [List.take_succ_eq_append_getElem hk]
 refine ⟨fun g => ?_, fun g => ?_⟩
 ·rw [List.all_append, h, List.all_cons, g]; rfl
 cases hq : l.all digB with
 | false => rfl
 | true =>
  rw [List.all_eq_true] at hq
  rw [hq _ (List.getElem_mem hk)] at g
  cases g
theorem head_get {l : List UInt8} (h : 0 < l.length) : l.head? = some l[0] := by
 cases l with
 | nil => cases h
 | cons b t => rfl
theorem iter_or {w w1 w' : World} {b : TypeId} (h : Below w.heap.size w w1) (hw : w' = w1 ∨ ∃ t, w' = Lib.bytesWorld w1 b t) : Below w.heap.size w w' := by
 rcases hw with rfl | ⟨t, rfl⟩
 ·exact h
 exact h.trans ((Lib.bytesWorld_below _ _ _).mono h.size)
theorem number_any (l : List UInt8) (w : World) (hne : l ≠ []) (hlo : ∀ b ∈ l, b.toNat < 128) (hl : l.length <= 65536) (ev : Value) (hv : w.cell? ⟨5, 0, none⟩ = some ev) (hev : ev = .nilIface ∨ ∃ te pe, ev = .iface te pe) :
  Calls Tryz.prog 78 #[.string (bs l)] w fun e w' => e = .returned (.int .i64 (numE l)) /\ Below w.heap.size w w' := by
 have hsz := bs_size l
 have hli : (l.length : Int) <= 65536 := by omega
 have HLO := hI hlo
 have HV := hI hv
 have HEV := hI hev
 have HNE := hI hne
 have HL := hI hl
 clear hl hlo hv hev hne
 go_enter Tryz.func78, Tryz.ntmps78
 go_wp2
 go_loopw [4] (fun _ wr => ∃ k : Nat, k <= l.length /\ (l.take k).all digB = true /\ wr = w.iter (bs l) k) (fun _ wr => l.length - wr.iterPos w.heap.size)
 case atStart => exact ⟨0, by omega, by simp, rfl⟩
 case round =>
  obtain ⟨k, hk, ht, rfl⟩ := hrel
  by_cases hp : k < l.length
  ·skip
   have hps : k < (bs l).size := hp
   have HK := hI hp
   obtain ⟨s1, s2⟩ := take_all l k hp ht
   have hnx : ∀ ty, (Instr.next (.pointer (some ⟨w.heap.size, 0, none⟩)) true ty).run Tryz.prog (w.iter (bs l) k) = .ok (.tuple #[.bool true, .int .i64 k, .int .i32 (l[k]).toNat]) (w.iter (bs l) (k + 1)) := fun ty => run_next_ascii w (bs l) k ty hps (HLO.out _ (List.getElem_mem hp))
   have HD := hI (digit_any ((l[k]).toNat : Int) (w.iter (bs l) (k + 1)))
   rw [digZ_nat] at HD
   by_cases h2 : digN (l[k]).toNat = true
   ·have S1 := hI (s1 h2)
    rw [h2] at HD
    clear s1 s2 h2 ht
    generalize (l[k]).toNat = c at *
    clear hps hp
    go_wp2_with fail
    refine HD.out.mono ?_
    rintro e w1 ⟨rfl, rfl⟩
    go_wp2
    go_roundw
    case rel => exact ⟨k + 1, HK.out, S1.out, rfl⟩
    case measure => rw [World.iterPos_iter, World.iterPos_iter]; have := HK.out; omega
   have h2f : digN (l[k]).toNat = false := by simpa using h2
   have S2 := hI (s2 h2f)
   rw [h2f] at HD
   clear s1 s2 h2 h2f ht
   generalize (l[k]).toNat = c at *
   clear hps hp
   go_wp2_with fail
   refine HD.out.mono ?_
   rintro e w1 ⟨rfl, rfl⟩
   go_wp2
   go_ret
   exact ⟨by unfold numE; rw [S2.out, if_neg (by decide)]; rfl, iter_below _ _ _⟩
  skip
  have hps : ¬ k < (bs l).size := hp
  have hnx : ∀ ty, (Instr.next (.pointer (some ⟨w.heap.size, 0, none⟩)) true ty).run Tryz.prog (w.iter (bs l) k) = _ := fun ty => run_next_end w (bs l) k ty hps
  obtain rfl : k = l.length := by omega
  rw [List.take_length] at ht
  have HT := hI ht
  have hpi := parse_i l ht HNE.out
  have HNX := hI (show ¬ (1 < l.length /\ l.head? = some 48) -> numE l = if numV l <= 9223372036854775807 then 0 else 3 from fun h => by unfold numE; rw [if_pos ht, if_neg h])
  have HN5 := hI (show (1 < l.length /\ l.head? = some 48) -> numE l = 5 from fun h => by unfold numE; rw [if_pos ht, if_pos h])
  have hlen : 0 < l.length := List.length_pos_iff.2 HNE.out
  have h0s : 0 < (bs l).size := hlen
  have hhead : l.head? = some l[0] := head_get hlen
  have hc48 : l[0] = 48 ↔ (l[0]).toNat = 48 := by rw [<- UInt8.toNat_inj]; rfl
  have hge : ((bs l)[0]'h0s).toNat = (l[0]).toNat := rfl
  have hbel := iter_below w (bs l) l.length
  have hx4 : (w.iter (bs l) l.length).cell? ⟨5, 0, none⟩ = some ev := (hbel.cell (p := ⟨5, 0, none⟩) (World.block_lt_of_cell? _ _ HV.out)).trans HV.out
  clear hps hp ht hk
  by_cases h1 : 1 < l.length
  ·have h1i : (1 : Int) < (l.length : Int) := by omega
   by_cases h2 : (l[0]).toNat = 48
   ·have HF := hI (HN5.out ⟨h1, by rw [hhead, hc48.2 h2]⟩)
    rw [h2] at hge
    clear h1 h2 hhead hc48 hpi HN5 HNX hx4 hbel
    go_wp2
    go_ret
    exact ⟨by rw [HF.out]; rfl, iter_below _ _ _⟩
   have HF := hI (HNX.out fun h => h2 (hc48.1 (by have := h.2; rw [hhead] at this; exact Option.some.inj this)))
   have h2i : ¬ ((l[0]).toNat : Int) = 48 := by omega
   clear HN5 HNX hhead hc48 h1 h2
   generalize (l[0]).toNat = c at *
   by_cases hm : numV l <= 9223372036854775807
   ·rw [if_pos hm] at hpi HF
    clear hm hx4
    go_wp2_with fail
    refine (Tryz.strconv_ParseInt_10_at64_ok (bs l) (by have := HL.out; omega) _ hpi _).mono ?_
    rintro e w1 ⟨rfl, hw⟩
    have HB := hI (iter_or hbel hw)
    clear hw hbel hpi
    go_wp2
    go_ret
    exact ⟨by rw [HF.out]; rfl, HB.out⟩
   rw [if_neg hm] at hpi HF
   clear hm
   go_wp2_with fail
   refine (Tryz.strconv_ParseInt_10_at64_range (bs l) (by have := HL.out; omega) hpi ev _ hx4 HEV.out).mono ?_
   rintro e w1 ⟨N, rfl, _, _, hb⟩
   have HB := hI (hbel.trans (hb.mono hbel.size))
   clear hb hbel hpi hx4
   go_wp2
   go_ret
   exact ⟨by rw [HF.out]; rfl, HB.out⟩
  have h1i : (l.length : Int) <= 1 := by omega
  have HF := hI (HNX.out fun h => h1 h.1)
  clear HN5 HNX hhead hc48 h1 hge
  by_cases hm : numV l <= 9223372036854775807
  ·rw [if_pos hm] at hpi HF
   clear hm hx4
   go_wp2_with fail
   refine (Tryz.strconv_ParseInt_10_at64_ok (bs l) (by have := HL.out; omega) _ hpi _).mono ?_
   rintro e w1 ⟨rfl, hw⟩
   have HB := hI (iter_or hbel hw)
   clear hw hbel hpi
   go_wp2
   go_ret
   exact ⟨by rw [HF.out]; rfl, HB.out⟩
  rw [if_neg hm] at hpi HF
  clear hm
  go_wp2_with fail
  refine (Tryz.strconv_ParseInt_10_at64_range (bs l) (by have := HL.out; omega) hpi ev _ hx4 HEV.out).mono ?_
  rintro e w1 ⟨N, rfl, _, _, hb⟩
  have HB := hI (hbel.trans (hb.mono hbel.size))
  clear hb hbel hpi hx4
  go_wp2
  go_ret
  exact ⟨by rw [HF.out]; rfl, HB.out⟩
open Go.RowKit
/-- What the lexer's package variables hold, and strconv.ErrRange. -/
structure LxW (w : World) : Prop where
 kw : ∃ t fr, w.heap[0]? = some (.cells (kws.map fun x => Value.string (bs x)).toArray t fr)
 sg : ∃ t fr, w.heap[1]? = some (.cells (sgs.map fun x => Value.string (bs x)).toArray t fr)
 er : ∃ ev, w.cell? ⟨5, 0, none⟩ = some ev /\ (ev = .nilIface ∨ ∃ te pe, ev = .iface te pe)
theorem LxW.below {w w' : World} (h : LxW w) (hb : Below w.heap.size w w') : LxW w' := by
 obtain ⟨⟨t1, f1, h1⟩, ⟨t2, f2, h2⟩, ev, h3, h4⟩ := h
 exact ⟨⟨t1, f1, (hb.block _ (lt_of_block h1)).trans h1⟩, ⟨t2, f2, (hb.block _ (lt_of_block h2)).trans h2⟩, ev, (hb.cell (p := ⟨5, 0, none⟩) (World.block_lt_of_cell? _ _ h3)).trans h3, h4⟩
theorem LxW.kcell {w : World} (h : LxW w) (j : Nat) (hj : j < (kws.map bs).length) : w.cell? ⟨0, 0 + j, none⟩ = some (.string ((kws.map bs).getD j ByteArray.empty)) := by
 obtain ⟨t1, f1, h1⟩ := h.kw
 rw [Nat.zero_add, cell_of_row _ _ _ _ _ _ h1, List.getElem?_toArray, List.getElem?_map, List.getD_eq_getElem?_getD, List.getElem?_map]
 rw [List.length_map] at hj
 rw [List.getElem?_eq_getElem hj]
 rfl
theorem has_kw (x : List UInt8) : Lib.containsS ((kws.map bs).take 14) (bs x) = kws.contains x := by
 have e : (kws.map bs).take 14 = kws.map bs := rfl
 rw [e]
 by_cases h : kws.contains x = true
 ·rw [h, Lib.containsS_iff]
  exact List.mem_map_of_mem (List.contains_iff_mem.1 h)
 have hf : kws.contains x = false := by simpa using h
 rw [hf]
 cases hq : Lib.containsS (kws.map bs) (bs x) with
 | false => rfl
 | true =>
  rw [Lib.containsS_iff] at hq
  obtain ⟨y, hy, he⟩ := List.mem_map.1 hq
  rw [bs_inj he] at hy
  exact absurd (List.contains_iff_mem.2 hy) h
theorem word_ascii (l : List UInt8) : ∀ b ∈ word l, b.toNat < 128 := by
 unfold word
 induction l with
 | nil => intro b hb; cases hb
 | cons a t ih =>
  intro b hb
  rw [List.takeWhile_cons] at hb
  by_cases ha : partB a = true
  ·rw [if_pos ha] at hb
   rcases List.mem_cons.1 hb with rfl | hb
   ·exact part_low ha
   exact ih b hb
  rw [if_neg ha] at hb; cases hb
theorem bs_toList (l : List UInt8) : (bs l).toList = l := Lib.toList_data (bs l)
theorem sgs_at (k : Nat) (hk : k < 19) : (sgs.map fun x => Value.string (bs x)).toArray[k]? = some (.string (bs (sgs.getD k []))) := by
 have hk' : k < sgs.length := hk
 rw [List.getElem?_toArray, List.getElem?_map, List.getElem?_eq_getElem hk', List.getD_eq_getElem?_getD, List.getElem?_eq_getElem hk']
 rfl
theorem sgs_size : (sgs.map fun x => Value.string (bs x)).toArray.size = 19 := rfl
theorem Tryz.size150 : (Tryz.prog.info? 150).map (·.size) = some 19 := by kernel_rfl
theorem idx_run (SA : Array Value) (k : Nat) (s : ByteArray) (hk : k < 19) (hat : SA[k]? = some (.string s)) (W : World) : (Instr.index 150 (.agg SA) (.int .i64 k)).run Tryz.prog W = .ok (.string s) W := by
 have h1 : (0 : Int) <= (k : Int) /\ (k : Int) < ((19 : Nat) : Int) := by omega
 simp [Instr.index, asIntOf, run_underlying Tryz.underlying150, h1, hat, part, Tryz.isAgg9, Tryz.sizeOf9, Result.andThen]
 exact fun h => absurd h (by omega)
theorem find_first {α : Type} (p : α -> Bool) (z : α) : ∀ (l : List α) (k : Nat), k < l.length -> (∀ j, j < k -> p (l.getD j z) = false) -> p (l.getD k z) = true -> l.find? p = some (l.getD k z) := by
 intro l
 induction l with
 | nil => intro k hk; cases hk
 | cons a t ih =>
  intro k hk h1 h2
  cases k with
  | zero =>
   have h2 : p a = true := h2
   rw [List.find?_cons_of_pos h2]; rfl
  | succ k =>
   have h0 := h1 0 (by omega)
   rw [List.find?_cons_of_neg (by rw [show (a :: t).getD 0 z = a from rfl] at h0; rw [h0]; decide)]
   exact ih k (by simpa using hk) (fun j hj => h1 (j + 1) (by omega)) h2
theorem sgs_find (l : List UInt8) (k : Nat) (hk : k < 19) (h1 : ∀ j, j < k -> (sgs.getD j []).isPrefixOf l = false) (h2 : (sgs.getD k []).isPrefixOf l = true) : sgs.find? (fun x => x.isPrefixOf l) = some (sgs.getD k []) :=
 find_first (fun x => x.isPrefixOf l) [] sgs k hk h1 h2
theorem sgs_none (l : List UInt8) (h1 : ∀ j, j < 19 -> (sgs.getD j []).isPrefixOf l = false) : sgs.find? (fun x => x.isPrefixOf l) = none := by
 rw [List.find?_eq_none]
 intro x hx
 obtain ⟨j, hj, rfl⟩ := List.mem_iff_getElem.1 hx
 have := h1 j hj
 rw [List.getD_eq_getElem?_getD, List.getElem?_eq_getElem hj] at this
 rw [show sgs[j] = (some sgs[j]).getD [] from rfl, this]
 decide
def tokV (t : Int × List UInt8 × Int) : Value := .tuple #[.agg #[.int .i64 t.1, .string (bs t.2.1), .int .i64 0], .int .i64 t.2.2]
theorem word_len (l : List UInt8) : (word l).length <= l.length := (word_prefix l).length_le
theorem not_frozen {w : World} {b : Nat} {cs : Array Value} {t : TypeId} (h : w.heap[b]? = some (.cells cs t (0, 0))) (o : Nat) : w.frozen? ⟨b, o, none⟩ = false := by simp [World.frozen?, h]
def Touch (g : Nat) (w w' : World) : Prop := ∃ cs, w' = w.setRow g cs
theorem Touch.block {g b : Nat} {w w' : World} (h : Touch g w w') (hb : b ≠ g) : w'.heap[b]? = w.heap[b]? := by
 obtain ⟨cs, rfl⟩ := h
 exact setRow_other w g b cs hb
theorem Touch.below {g B : Nat} {w0 w w' : World} (h : Touch g w w') (hb : Below B w0 w) (hB : B <= g) : Below B w0 w' := by
 obtain ⟨cs, rfl⟩ := h
 exact below_setRow hb hB cs
section
variable {P : Program} {ops : Array Oper} {rest : List Oper} {a : Act} {w : World} {Q : Exit -> Act -> World -> Prop} {d : Option Tmp} {ty t : TypeId} {pos : String} {x y : Operand}
theorem at_store_ {aft} {g} (h : wpList P ops Q (⟨d, .store t x y, ty, pos, aft, g⟩ :: rest) a w) : wpList P ops Q (⟨d, .store t x y, ty, pos, aft, g⟩ :: rest) a w := h
theorem at_load_ {aft} {g} (h : wpList P ops Q (⟨d, .load t x, ty, pos, aft, g⟩ :: rest) a w) : wpList P ops Q (⟨d, .load t x, ty, pos, aft, g⟩ :: rest) a w := h
theorem at_alloc_ {aft} {g} (h : wpList P ops Q (⟨d, .alloc t, ty, pos, aft, g⟩ :: rest) a w) : wpList P ops Q (⟨d, .alloc t, ty, pos, aft, g⟩ :: rest) a w := h
end
/-- A variable of the type Token, in memory. -/
def Box (w : World) (g : Nat) (u0 u1 u2 : Value) : Prop := w.heap[g]? = some (.cells #[u0, u1, u2] 63 (0, 0))
theorem Box.below {w w' : World} {g : Nat} {u0 u1 u2 : Value} (h : Box w g u0 u1 u2) (hb : Below w.heap.size w w') : Box w' g u0 u1 u2 := (hb.block _ (lt_of_block h)).trans h
theorem Box.cells {w : World} {g : Nat} {u0 u1 u2 : Value} (h : Box w g u0 u1 u2) : w.cell? ⟨g, 0, none⟩ = some u0 /\ w.cell? ⟨g, 1, none⟩ = some u1 /\ w.cell? ⟨g, 2, none⟩ = some u2 := by
 refine ⟨?_, ?_, ?_⟩ <;> (rw [cell_of_row _ _ _ _ _ _ h]; rfl)
theorem Tryz.size63 : (Tryz.prog.info? 63).map (·.size) = some 3 := by kernel_rfl
theorem Box.load {w : World} {g : Nat} {u0 u1 u2 : Value} (h : Box w g u0 u1 u2) : (loadVar 63 ⟨g, 0, none⟩).run Tryz.prog w = .ok (.agg #[u0, u1, u2]) w :=
 run_loadVar_row w g _ _ _ _ _ h Tryz.underlying63 rfl Tryz.size63
section
variable {ops : Array Oper} {rest : List Oper} {a : Act} {w : World} {Q : Exit -> Act -> World -> Prop} {o : Oper} {u0 u1 u2 v0 v1 v2 : Value}
theorem put_box (hg : o.guard = none) (x y : Operand) (ho : o.op = .store 63 x y) (hd : o.dst = none) (g : Nat) (hx : a.eval x = .pointer (some ⟨g, 0, none⟩)) (hy : a.eval y = .agg #[v0, v1, v2])
  (h0 : Box w g u0 u1 u2) (h1 : (#[v0, v1, v2] : Array Value).all (·.oneCell') = true) (k : ∀ w', Box w' g v0 v1 v2 -> Touch g w w' -> wpList Tryz.prog ops Q rest a w') : wpList Tryz.prog ops Q (o :: rest) a w :=
 wpList_store_rowTo hg _ x y ho hd g _ hx hy 63 _ h0 Tryz.size63 rfl h1 (k _ (setRow_heap _ _ _ _ _ _ h0) ⟨_, rfl⟩)
theorem get_box (hg : o.guard = none) (x : Operand) (ho : o.op = .load 63 x) (g : Nat) (hx : a.eval x = .pointer (some ⟨g, 0, none⟩)) (h0 : Box w g u0 u1 u2)
  (h : wpList Tryz.prog ops Q rest (a.put o.dst (.agg #[u0, u1, u2])) w) : wpList Tryz.prog ops Q (o :: rest) a w :=
 wpList_load_row hg _ x ho g hx _ _ _ _ h0 Tryz.underlying63 rfl Tryz.size63 h
end
theorem next_num (l : List UInt8) (w : World) (hl : l.length <= 65536) (hw : LxW w) (hd : headDig (word l) = true) :
  Calls Tryz.prog 45 #[.string (bs l)] w fun e w' => e = .returned (tokV (nextT l)) /\ Below w.heap.size w w' := by
 have HN := hI (show nextT l = (2, word l, numE (word l)) by unfold nextT; rw [if_pos hd])
 have HW := hI hw
 have HWL := hI (Nat.le_trans (word_len l) hl)
 have HWA := hI (word_ascii l)
 have HR := hI fun w => run_any l w
 generalize word l = wd at *
 cases wd with
 | nil => cases hd
 | cons b t =>
  have hdig : digN b.toNat = true := hd
  have HD := hI fun w => digit_any (b.toNat : Int) w
  have hx0 : 0 < (bs (b :: t)).size := by rw [bs_size]; simp
  have hge : ((bs (b :: t))[0]'hx0).toNat = b.toNat := rfl
  have hsz : (bs (b :: t)).size = t.length + 1 := rfl
  have he : (bs (b :: t)).toList = b :: t := bs_toList _
  have hwr : wrap32 (b.toNat : Int) = b.toNat := by have := HWA.out b (.head _); simp [wrap32]; omega
  rw [digZ_nat, hdig] at HD
  clear hw hl hd hdig
  generalize b.toNat = c at *
  go_enter Tryz.func45, Tryz.ntmps45
  go_wp2_with fail
  refine (HR.out _).mono ?_
  rintro e w1 ⟨rfl, hb⟩
  have HB := hI (((Below.refl _ _).alloc (Nat.le_refl _) _ : Below w.heap.size w (w.alloc (.cells #[.int .i64 0, .string { data := #[] }, .int .i64 0] 63))).trans (hb.mono (by simp)))
  have HX := hI (show Box w1 w.heap.size (.int .i64 0) (.string { data := #[] }) (.int .i64 0) from (hb.block w.heap.size (by simp)).trans (heap_alloc_new w _))
  have HW1 := hI (HW.out.below HB.out)
  clear hb HW HR
  go_wp2_with fail
  refine (HD.out _).mono ?_
  rintro e w2 ⟨rfl, rfl⟩
  go_wp2_with fail
  obtain ⟨ev, hv, hev⟩ := HW1.out.er
  refine (number_any (b :: t) w2 (by simp) HWA.out HWL.out ev hv hev).mono ?_
  rintro e w3 ⟨rfl, hb⟩
  have HB3 := hI (HB.out.trans (hb.mono HB.out.size))
  have HX3 := hI (HX.out.below hb)
  clear hb hv hev HB HW1 HX
  go_wp2_with (with_reducible refine at_store_ (t := 63) ?_; refine Hid.out ?_)
  refine hI ?_
  refine put_box (v0 := .int .i64 2) (v1 := .string (bs (b :: t))) (v2 := .int .i64 0) rfl (.tmp 2) (.tmp 19) rfl rfl w.heap.size rfl rfl HX3.out (by simp [Value.oneCell']) ?_
  intro wz hx ht
  have HL := hx.load
  have HBz := hI (ht.below HB3.out (Nat.le_refl _))
  clear hx ht HX3 HB3
  go_wp2
  refine bodyPost_ret (v := .tuple #[.agg #[.int .i64 2, .string (bs (b :: t)), .int .i64 0], .int .i64 (numE (b :: t))]) ?_ rfl ⟨by rw [HN.out]; rfl, HBz.out⟩
  simp [results, Tryz.results45, asAddr, HL, Result.andThen]
theorem next_kw (l : List UInt8) (w : World) (hl : l.length <= 65536) (hw : LxW w) (hd : headDig (word l) = false) (hk : kws.contains (word l) = true) :
  Calls Tryz.prog 45 #[.string (bs l)] w fun e w' => e = .returned (tokV (nextT l)) /\ Below w.heap.size w w' := by
 have HN := hI (show nextT l = (4, word l, 0) by unfold nextT; rw [if_neg (by rw [hd]; decide), if_pos hk])
 have HW := hI hw
 have HWL := hI (Nat.le_trans (word_len l) hl)
 have HWA := hI (word_ascii l)
 have HR := hI fun w => run_any l w
 have HK := hI hk
 generalize word l = wd at *
 cases wd with
 | nil => cases hk
 | cons b t =>
  clear hk
  have hdig : digN b.toNat = false := by simpa [headDig, digB] using hd
  have HD := hI fun w => digit_any (b.toNat : Int) w
  have hx0 : 0 < (bs (b :: t)).size := by rw [bs_size]; simp
  have hge : ((bs (b :: t))[0]'hx0).toNat = b.toNat := rfl
  have hsz : (bs (b :: t)).size = t.length + 1 := rfl
  have he : (bs (b :: t)).toList = b :: t := bs_toList _
  have hwr : wrap32 (b.toNat : Int) = b.toNat := by have := HWA.out b (.head _); simp [wrap32]; omega
  rw [digZ_nat, hdig] at HD
  clear hw hl hd hdig
  generalize b.toNat = c at *
  go_enter Tryz.func45, Tryz.ntmps45
  go_wp2_with fail
  refine (HR.out _).mono ?_
  rintro e w1 ⟨rfl, hb⟩
  have HB := hI (((Below.refl _ _).alloc (Nat.le_refl _) _ : Below w.heap.size w (w.alloc (.cells #[.int .i64 0, .string { data := #[] }, .int .i64 0] 63))).trans (hb.mono (by simp)))
  have HX := hI (show Box w1 w.heap.size (.int .i64 0) (.string { data := #[] }) (.int .i64 0) from (hb.block w.heap.size (by simp)).trans (heap_alloc_new w _))
  have HW1 := hI (HW.out.below HB.out)
  clear hb HW HR
  go_wp2_with fail
  refine (HD.out _).mono ?_
  rintro e w2 ⟨rfl, rfl⟩
  go_wp2_with fail
  refine (Tryz.slices_Contains_string 0 0 14 14 (kws.map bs) (bs (b :: t)) _ (by decide) (by decide) (fun j hj => HW1.out.kcell j hj)).mono ?_
  rintro e w4 ⟨rfl, rfl⟩
  rw [has_kw, HK.out]
  go_wp2_with (with_reducible refine at_store_ (t := 63) ?_; refine Hid.out ?_)
  refine hI ?_
  refine put_box (v0 := .int .i64 4) (v1 := .string (bs (b :: t))) (v2 := .int .i64 0) rfl (.tmp 2) (.tmp 27) rfl rfl w.heap.size rfl rfl HX.out (by simp [Value.oneCell']) ?_
  intro wz hx ht
  have HL := hx.load
  have HBz := hI (ht.below HB.out (Nat.le_refl _))
  clear hx ht HX HB
  go_wp2
  refine bodyPost_ret (v := .tuple #[.agg #[.int .i64 4, .string (bs (b :: t)), .int .i64 0], .int .i64 0]) ?_ rfl ⟨by rw [HN.out]; rfl, HBz.out⟩
  simp [results, Tryz.results45, asAddr, HL, Result.andThen]
theorem next_long (l : List UInt8) (w : World) (hl : l.length <= 65536) (hw : LxW w) (hd : headDig (word l) = false) (hk : kws.contains (word l) = false) (hlong : 24 < (word l).length) :
  Calls Tryz.prog 45 #[.string (bs l)] w fun e w' => e = .returned (tokV (nextT l)) /\ Below w.heap.size w w' := by
 have HN := hI (show nextT l = (0, [], 16) by unfold nextT; rw [if_neg (by rw [hd]; decide), if_neg (by rw [hk]; decide), if_pos hlong])
 have HW := hI hw
 have HWL := hI (Nat.le_trans (word_len l) hl)
 have HWA := hI (word_ascii l)
 have HR := hI fun w => run_any l w
 have HK := hI hk
 generalize word l = wd at *
 cases wd with
 | nil => exact absurd hlong (by decide)
 | cons b t =>
  have hli : (24 : Int) < (t.length : Int) + 1 := by simp at hlong; omega
  have HLI := hI hli
  clear hk hlong
  have hdig : digN b.toNat = false := by simpa [headDig, digB] using hd
  have HD := hI fun w => digit_any (b.toNat : Int) w
  have hx0 : 0 < (bs (b :: t)).size := by rw [bs_size]; simp
  have hge : ((bs (b :: t))[0]'hx0).toNat = b.toNat := rfl
  have hsz : (bs (b :: t)).size = t.length + 1 := rfl
  have he : (bs (b :: t)).toList = b :: t := bs_toList _
  have hwr : wrap32 (b.toNat : Int) = b.toNat := by have := HWA.out b (.head _); simp [wrap32]; omega
  rw [digZ_nat, hdig] at HD
  clear hw hl hd hdig
  generalize b.toNat = c at *
  go_enter Tryz.func45, Tryz.ntmps45
  go_wp2_with fail
  refine (HR.out _).mono ?_
  rintro e w1 ⟨rfl, hb⟩
  have HB := hI (((Below.refl _ _).alloc (Nat.le_refl _) _ : Below w.heap.size w (w.alloc (.cells #[.int .i64 0, .string { data := #[] }, .int .i64 0] 63))).trans (hb.mono (by simp)))
  have HX := hI (show Box w1 w.heap.size (.int .i64 0) (.string { data := #[] }) (.int .i64 0) from (hb.block w.heap.size (by simp)).trans (heap_alloc_new w _))
  have HW1 := hI (HW.out.below HB.out)
  clear hb HW HR
  go_wp2_with fail
  refine (HD.out _).mono ?_
  rintro e w2 ⟨rfl, rfl⟩
  go_wp2_with fail
  refine (Tryz.slices_Contains_string 0 0 14 14 (kws.map bs) (bs (b :: t)) _ (by decide) (by decide) (fun j hj => HW1.out.kcell j hj)).mono ?_
  rintro e w4 ⟨rfl, rfl⟩
  rw [has_kw, HK.out]
  go_wp2_with (with_reducible refine at_store_ (t := 63) ?_; refine Hid.out ?_)
  refine hI ?_
  refine put_box (v0 := .int .i64 0) (v1 := .string { data := #[] }) (v2 := .int .i64 0) rfl (.tmp 2) (.tmp 32) rfl rfl w.heap.size rfl rfl HX.out (by simp [Value.oneCell']) ?_
  intro wz hx ht
  have HL := hx.load
  have HBz := hI (ht.below HB.out (Nat.le_refl _))
  clear hx ht HX HB
  go_wp2
  refine bodyPost_ret (v := .tuple #[.agg #[.int .i64 0, .string { data := #[] }, .int .i64 0], .int .i64 16]) ?_ rfl ⟨by rw [HN.out]; rfl, HBz.out⟩
  simp [results, Tryz.results45, asAddr, HL, Result.andThen]
theorem next_name (l : List UInt8) (w : World) (hl : l.length <= 65536) (hw : LxW w) (hd : headDig (word l) = false) (hk : kws.contains (word l) = false) (hlong : ¬ 24 < (word l).length) (hne : word l ≠ []) :
  Calls Tryz.prog 45 #[.string (bs l)] w fun e w' => e = .returned (tokV (nextT l)) /\ Below w.heap.size w w' := by
 have HN := hI (show nextT l = (1, word l, 0) by unfold nextT; rw [if_neg (by rw [hd]; decide), if_neg (by rw [hk]; decide), if_neg hlong, if_pos hne])
 have HW := hI hw
 have HWL := hI (Nat.le_trans (word_len l) hl)
 have HWA := hI (word_ascii l)
 have HR := hI fun w => run_any l w
 have HK := hI hk
 generalize word l = wd at *
 cases wd with
 | nil => exact absurd rfl hne
 | cons b t =>
  have hli : (t.length : Int) + 1 <= 24 := by simp at hlong; omega
  clear hk hlong hne
  have hdig : digN b.toNat = false := by simpa [headDig, digB] using hd
  have HD := hI fun w => digit_any (b.toNat : Int) w
  have hx0 : 0 < (bs (b :: t)).size := by rw [bs_size]; simp
  have hge : ((bs (b :: t))[0]'hx0).toNat = b.toNat := rfl
  have hsz : (bs (b :: t)).size = t.length + 1 := rfl
  have he : (bs (b :: t)).toList = b :: t := bs_toList _
  have hwr : wrap32 (b.toNat : Int) = b.toNat := by have := HWA.out b (.head _); simp [wrap32]; omega
  rw [digZ_nat, hdig] at HD
  clear hw hl hd hdig
  generalize b.toNat = c at *
  go_enter Tryz.func45, Tryz.ntmps45
  go_wp2_with fail
  refine (HR.out _).mono ?_
  rintro e w1 ⟨rfl, hb⟩
  have HB := hI (((Below.refl _ _).alloc (Nat.le_refl _) _ : Below w.heap.size w (w.alloc (.cells #[.int .i64 0, .string { data := #[] }, .int .i64 0] 63))).trans (hb.mono (by simp)))
  have HX := hI (show Box w1 w.heap.size (.int .i64 0) (.string { data := #[] }) (.int .i64 0) from (hb.block w.heap.size (by simp)).trans (heap_alloc_new w _))
  have HW1 := hI (HW.out.below HB.out)
  clear hb HW HR
  go_wp2_with fail
  refine (HD.out _).mono ?_
  rintro e w2 ⟨rfl, rfl⟩
  go_wp2_with fail
  refine (Tryz.slices_Contains_string 0 0 14 14 (kws.map bs) (bs (b :: t)) _ (by decide) (by decide) (fun j hj => HW1.out.kcell j hj)).mono ?_
  rintro e w4 ⟨rfl, rfl⟩
  rw [has_kw, HK.out]
  go_wp2_with (with_reducible refine at_store_ (t := 63) ?_; refine Hid.out ?_)
  refine hI ?_
  refine put_box (v0 := .int .i64 1) (v1 := .string (bs (b :: t))) (v2 := .int .i64 0) rfl (.tmp 2) (.tmp 37) rfl rfl w.heap.size rfl rfl HX.out (by simp [Value.oneCell']) ?_
  intro wz hx ht
  have HL := hx.load
  have HBz := hI (ht.below HB.out (Nat.le_refl _))
  clear hx ht HX HB
  go_wp2
  refine bodyPost_ret (v := .tuple #[.agg #[.int .i64 1, .string (bs (b :: t)), .int .i64 0], .int .i64 0]) ?_ rfl ⟨by rw [HN.out]; rfl, HBz.out⟩
  simp [results, Tryz.results45, asAddr, HL, Result.andThen]
theorem next_sign (l : List UInt8) (w : World) (hl : l.length <= 65536) (hw : LxW w) (hne : word l = []) :
  Calls Tryz.prog 45 #[.string (bs l)] w fun e w' => e = .returned (tokV (nextT l)) /\ Below w.heap.size w w' := by
 have HN := hI (show nextT l = match sgs.find? (fun x => x.isPrefixOf l) with | some x => (3, x, 0) | none => (0, [], 5) by unfold nextT; rw [hne]; rfl)
 have HW := hI hw
 have HWL := hI (Nat.le_trans (word_len l) hl)
 have HWA := hI (word_ascii l)
 have HR := hI fun w => run_any l w
 have HK := hI (show kws.contains ([] : List UInt8) = false by decide)
 rw [hne] at HR HWL HWA
 have he : (bs ([] : List UInt8)).toList = [] := bs_toList _
 have hsz : (bs ([] : List UInt8)).size = 0 := rfl
 clear hw hne
 go_enter Tryz.func45, Tryz.ntmps45
 go_wp2_with fail
 refine (HR.out _).mono ?_
 rintro e w1 ⟨rfl, hb⟩
 have HB := hI (((Below.refl _ _).alloc (Nat.le_refl _) _ : Below w.heap.size w (w.alloc (.cells #[.int .i64 0, .string { data := #[] }, .int .i64 0] 63))).trans (hb.mono (by simp)))
 have HX := hI (show Box w1 w.heap.size (.int .i64 0) (.string { data := #[] }) (.int .i64 0) from (hb.block w.heap.size (by simp)).trans (heap_alloc_new w _))
 have HW1 := hI (HW.out.below HB.out)
 clear hb HW HR
 go_wp2_with fail
 refine (Tryz.slices_Contains_string 0 0 14 14 (kws.map bs) (bs ([] : List UInt8)) _ (by decide) (by decide) (fun j hj => HW1.out.kcell j hj)).mono ?_
 rintro e w4 ⟨rfl, rfl⟩
 rw [has_kw, HK.out]
 obtain ⟨ts, fs, hs⟩ := HW1.out.sg
 have HSA := hI sgs_at
 have hss := sgs_size
 generalize (sgs.map fun x => Value.string (bs x)).toArray = SA at *
 go_wp2_with (with_reducible refine at_load_ (t := 150) ?_; refine wpList_load_row rfl _ _ rfl 1 rfl ts SA fs _ hs Tryz.underlying150 rfl (by rw [hss]; exact Tryz.size150) ?_)
 clear hs HW1
 try simp only [Act.put, sA, sB, sC]
 go_wp2
 go_loopw [39] (fun i wr => ∃ k : Nat, k <= 19 /\ i = .int .i64 k /\ Hid (∀ j, j < k -> (sgs.getD j []).isPrefixOf l = false) /\ wr = w4) (fun i _ => 19 - (intOf i).toNat)
 case atStart => exact ⟨0, by omega, rfl, hI (fun j hj => absurd hj (by omega)), rfl⟩
 case round =>
  obtain ⟨k, hk, rfl, HP, rfl⟩ := hrel
  by_cases hlt : k < 19
  ·skip
   have hki : (k : Int) < 19 := by omega
   have hks : k < SA.size := by omega
   have HK2 := hI hlt
   have hat := HSA.out k hlt
   have hix := fun W => idx_run SA k _ hlt hat W
   clear hk hat hks
   cases hpx : (sgs.getD k []).isPrefixOf l with
   | true =>
    have HF := hI (sgs_find l k hlt HP.out hpx)
    have HPX := hI hpx
    clear hpx hlt HP
    generalize sgs.getD k [] = x at *
    go_wp2_with fail
    refine (Tryz.strings_HasPrefix _ _ _).mono ?_
    rintro e w5 ⟨rfl, rfl⟩
    rw [show Lib.hasPrefix (bs l).data.toList (bs x).data.toList = true from HPX.out]
    go_wp2_with (with_reducible refine at_store_ (t := 63) ?_; refine Hid.out ?_)
    refine hI ?_
    refine put_box (v0 := .int .i64 3) (v1 := .string (bs x)) (v2 := .int .i64 0) rfl (.tmp 2) (.tmp 46) rfl rfl w.heap.size rfl rfl HX.out (by simp [Value.oneCell']) ?_
    intro wz hx ht
    have HL := hx.load
    have HBz := hI (ht.below HB.out (Nat.le_refl _))
    clear hx ht HX HB
    go_wp2
    refine bodyPost_ret (v := .tuple #[.agg #[.int .i64 3, .string (bs x), .int .i64 0], .int .i64 0]) ?_ rfl ⟨by rw [HN.out, HF.out]; rfl, HBz.out⟩
    simp [results, Tryz.results45, asAddr, HL, Result.andThen]
   | false =>
    have HPX := hI hpx
    have HPN := hI (show ∀ j, j < k + 1 -> (sgs.getD j []).isPrefixOf l = false from fun j hj => by
     by_cases e : j = k
     ·rw [e]; exact hpx
     exact HP.out j (by omega))
    clear hpx hlt HP
    generalize sgs.getD k [] = x at *
    go_wp2_with fail
    refine (Tryz.strings_HasPrefix _ _ _).mono ?_
    rintro e w5 ⟨rfl, rfl⟩
    rw [show Lib.hasPrefix (bs l).data.toList (bs x).data.toList = false from HPX.out]
    go_wp2
    go_roundw
    case rel => exact ⟨k + 1, HK2.out, by go_num, HPN, by first | rfl | trivial⟩
    case measure => exact meas_up _ _ HK2.out
  skip
  obtain rfl : k = 19 := by omega
  have HF := hI (sgs_none l HP.out)
  have hki : ¬ ((19 : Nat) : Int) < 19 := by omega
  clear hk hlt HP
  rw [show ((19 : Nat) : Int) = 19 from rfl]
  go_wp2_with (with_reducible refine at_store_ (t := 63) ?_; refine Hid.out ?_)
  refine hI ?_
  refine put_box (v0 := .int .i64 0) (v1 := .string { data := #[] }) (v2 := .int .i64 0) rfl (.tmp 2) (.tmp 48) rfl rfl w.heap.size rfl rfl HX.out (by simp [Value.oneCell']) ?_
  intro wz hx ht
  have HL := hx.load
  have HBz := hI (ht.below HB.out (Nat.le_refl _))
  clear hx ht HX HB
  go_wp2
  refine bodyPost_ret (v := .tuple #[.agg #[.int .i64 0, .string { data := #[] }, .int .i64 0], .int .i64 5]) ?_ rfl ⟨by rw [HN.out, HF.out]; rfl, HBz.out⟩
  simp [results, Tryz.results45, asAddr, HL, Result.andThen]
theorem next_any (l : List UInt8) (w : World) (hl : l.length <= 65536) (hw : LxW w) :
  Calls Tryz.prog 45 #[.string (bs l)] w fun e w' => e = .returned (tokV (nextT l)) /\ Below w.heap.size w w' := by
 cases hd : headDig (word l) with
 | true => exact next_num l w hl hw hd
 | false =>
  cases hk : kws.contains (word l) with
  | true => exact next_kw l w hl hw hd hk
  | false =>
   by_cases hlong : 24 < (word l).length
   ·exact next_long l w hl hw hd hk hlong
   by_cases hne : word l = []
   ·exact next_sign l w hl hw hne
   exact next_name l w hl hw hd hk hlong hne
open Go.RowKit
theorem own_keep' {w w' : World} {base : Nat} {e : TypeId} {size : Nat} {v : Value} {n : Nat} {xs : List Value} (h : w.ownsRow base e size v n xs) (hk : ∀ b, v.ownBlock = some b -> w'.heap[b]? = w.heap[b]?) : w'.ownsRow base e size v n xs := by
 refine ⟨h.1, ?_⟩
 rcases h.2 with h2 | ⟨g, cap, cur, rfl, hb, hh, hrest⟩
 ·exact .inl h2
 exact .inr ⟨g, cap, cur, rfl, hb, (hk g rfl).trans hh, hrest⟩
theorem own_below {w w' : World} {base : Nat} {e : TypeId} {size : Nat} {v : Value} {n : Nat} {xs : List Value} (h : w.ownsRow base e size v n xs) (hb : Below w.heap.size w w') : w'.ownsRow base e size v n xs :=
 own_keep' h fun b hb' => hb.block b (h.lt b hb').2
def tokC (t : Tok) : List Value := [.int .i64 t.kind, .string (bs t.text), .int .i64 t.off]
theorem tokC_one (t : Tok) : ∀ u ∈ tokC t, u.oneCell' = true := by
 intro u hu
 simp [tokC] at hu
 rcases hu with rfl | rfl | rfl <;> rfl
theorem Tryz.info63 : (Tryz.prog.info? 63).map (fun i => (i.zero, i.size, i.bytes)) = some (some (.agg #[.int .i64 0, .string { data := #[] }, .int .i64 0]), 3, 32) := by kernel_rfl
theorem tok_zero (w : World) : (zeroValue 63).run Tryz.prog w = .ok (.agg #[.int .i64 0, .string { data := #[] }, .int .i64 0]) w := by
 simp [go_sem]
section
variable {P : Program} {ops : Array Oper} {rest : List Oper} {a : Act} {w : World} {Q : Exit -> Act -> World -> Prop}
theorem wpList_alloc_mine {o : Oper} (hg : o.guard = none) (t : TypeId) (ho : o.op = .alloc t) (dst : Option Tmp) (hd : o.dst = dst)
  (cs : Array Value) (hz : ∀ w, (zeroValue t).run P w = .ok (.agg cs) w) (hc : (Value.agg cs).cells = cs)
  (h : wpList P ops Q rest (a.put dst (.pointer (some ⟨w.heap.size, 0, none⟩))) (w.alloc (.cells cs t))) : wpList P ops Q (o :: rest) a w := by
 subst hd
 refine wpList_plain hg fun K hK => ?_
 unfold Oper.wp execOp
 simp only [ho]
 simp [Instr.alloc, hz, hc, Result.andThen]
 exact hK _ _ h
theorem alloc_tok {o : Oper} (hg : o.guard = none) (ho : o.op = .alloc 63) (k : ∀ w', Box w' w.heap.size (.int .i64 0) (.string { data := #[] }) (.int .i64 0) -> Below w.heap.size w w' -> wpList Tryz.prog ops Q rest (a.put o.dst (.pointer (some ⟨w.heap.size, 0, none⟩))) w') : wpList Tryz.prog ops Q (o :: rest) a w := by
 refine wpList_alloc_mine hg 63 ho _ rfl _ tok_zero rfl ?_
 exact k _ (heap_alloc_new _ _) ((Below.refl _ _).alloc (Nat.le_refl _) _)
end
theorem Box.set2 {w : World} {g : Nat} {u0 u1 u2 : Value} (h : Box w g u0 u1 u2) (v : Value) : Box (w.setCell ⟨g, 2, none⟩ v) g u0 u1 v /\ Touch g w (w.setCell ⟨g, 2, none⟩ v) := by
 rw [setCell_eq_setRow w g 2 _ _ _ v h]
 exact ⟨setRow_heap _ _ _ _ _ _ h, _, rfl⟩
theorem Touch.own {g : Nat} {w w' : World} (t : Touch g w w') {base : Nat} {e : TypeId} {size : Nat} {v : Value} {n : Nat} {xs : List Value} (h : w.ownsRow base e size v n xs) (hg : ∀ b, v.ownBlock = some b -> b ≠ g) : w'.ownsRow base e size v n xs :=
 own_keep' h fun b hb => t.block (hg b hb)
theorem scanG_succ (f k : Nat) (l : List UInt8) : scanG (f + 1) k l = if l = [] then .ok [] else if (nextT l).2.2 ≠ 0 then .error (k, (nextT l).2.2) else match scanG f (k + (nextT l).2.1.length + blankA false (l.drop (nextT l).2.1.length)) ((l.drop (nextT l).2.1.length).drop (blankA false (l.drop (nextT l).2.1.length))) with
  | .error e => .error e
  | .ok ts => .ok (⟨(nextT l).1, (nextT l).2.1, k⟩ :: ts) := rfl
def preT (acc : List Tok) : Except (Nat × Int) (List Tok) -> Except (Nat × Int) (List Tok)
 | .error e => .error e
 | .ok ts => .ok (acc ++ ts)
/-- Where Scan stands: at offset k, with the tokens acc. -/
def ScI (l : List UInt8) (k : Nat) (acc : List Tok) : Prop := ∀ f, l.length < f -> scanR l = preT acc (scanG f k (l.drop k))
theorem sc_start (l : List UInt8) : ScI l (blankA false l) [] := by
 intro f hf
 unfold scanR
 rw [scanG_fuel (l.length + 1) f _ _ (by rw [List.length_drop]; omega) (by rw [List.length_drop]; omega)]
 cases scanG f (blankA false l) (l.drop (blankA false l)) <;> rfl
theorem sc_step {l : List UInt8} {k : Nat} {acc : List Tok} (h : ScI l k acc) (hk : k < l.length) (he : (nextT (l.drop k)).2.2 = 0) :
  ScI l (k + (nextT (l.drop k)).2.1.length + blankA false (l.drop (k + (nextT (l.drop k)).2.1.length))) (acc ++ [⟨(nextT (l.drop k)).1, (nextT (l.drop k)).2.1, k⟩]) := by
 intro f hf
 have h1 := h (f + 1) (by omega)
 rw [h1, scanG_succ]
 rw [if_neg (by intro e; have := congrArg List.length e; simp at this; omega), if_neg (by rw [he]; exact fun x => x rfl), List.drop_drop, List.drop_drop]
 generalize scanG f _ _ = r
 cases r with
 | error e => rfl
 | ok ts => simp [preT]
theorem sc_err {l : List UInt8} {k : Nat} {acc : List Tok} (h : ScI l k acc) (hk : k < l.length) (he : (nextT (l.drop k)).2.2 ≠ 0) (h6 : l.length <= 65536) : scanL l = ([], k, (nextT (l.drop k)).2.2) := by
 have h1 := h (l.length + 1) (by omega)
 rw [scanG_succ] at h1
 rw [if_neg (by intro e; have := congrArg List.length e; simp at this; omega), if_pos he] at h1
 unfold scanL
 rw [if_neg (by omega), h1]
 rfl
theorem sc_end {l : List UInt8} {acc : List Tok} (h : ScI l l.length acc) (h6 : l.length <= 65536) : scanL l = (acc ++ [⟨0, [], l.length⟩], 0, 0) := by
 have h1 := h (l.length + 1) (by omega)
 rw [scanG_succ] at h1
 rw [List.drop_length, if_pos rfl] at h1
 unfold scanL
 rw [if_neg (by omega), h1]
 simp [preT]
theorem sc_more {l : List UInt8} {k : Nat} (hk : k < l.length) (he : (nextT (l.drop k)).2.2 = 0) : 0 < (nextT (l.drop k)).2.1.length /\ k + (nextT (l.drop k)).2.1.length + blankA false (l.drop (k + (nextT (l.drop k)).2.1.length)) <= l.length := by
 obtain ⟨h1, h2⟩ := next_text he
 have h3 := h1.length_le
 have h4 : 0 < (nextT (l.drop k)).2.1.length := List.length_pos_iff.2 h2
 have h5 := blank_le (l.drop (k + (nextT (l.drop k)).2.1.length)) false
 rw [List.length_drop] at h3 h5
 omega
theorem scan_any (l : List UInt8) (w : World) (hw : LxW w) (hmax : l.length <= 9223372036854775807) :
  Calls Tryz.prog 21 #[.string (bs l)] w fun e w' => ∃ v, e = .returned (.tuple #[v, .int .i64 ((scanL l).2.1 : Int), .int .i64 (scanL l).2.2]) /\ w'.ownsRow w.heap.size 63 3 v (scanL l).1.length ((scanL l).1.flatMap tokC) /\ Below w.heap.size w w' := by
 obtain ⟨ie, hie0, hie1, hie2, hie3⟩ := info_parts Tryz.info63
 have hsz := bs_size l
 have HW := hI hw
 by_cases h6 : 65536 < l.length
 ·have h6i : (65536 : Int) < (l.length : Int) := by omega
  have HF := hI (show scanL l = ([], 0, 7) by unfold scanL; rw [if_pos h6])
  clear hw h6 hmax
  go_enter Tryz.func21, Tryz.ntmps21
  go_wp2
  go_ret3
  exact ⟨.slice none 0 0, by rw [HF.out]; rfl, by rw [HF.out]; exact World.ownsRow_nil _ _ _ _, Below.refl _ _⟩
 have h6i : (l.length : Int) <= 65536 := by omega
 have H6 := hI (show l.length <= 65536 by omega)
 have HB0 := hI (blank_le l false)
 have HS0 := hI (sc_start l)
 clear hw h6 hmax
 go_enter Tryz.func21, Tryz.ntmps21
 go_wp2_with fail
 refine (blank_any l w H6.out).mono ?_
 rintro e w1 ⟨rfl, rfl⟩
 generalize blankA false l = k0 at *
 go_wp2
 go_loopw [5, 6] (fun v i wr => ∃ (k : Nat) (acc : List Tok), k <= l.length /\ i = .int .i64 k /\ Hid (ScI l k acc) /\ Hid (acc.length <= k) /\ Hid (wr.ownsRow w1.heap.size 63 3 v acc.length (acc.flatMap tokC)) /\ Hid (Below w1.heap.size w1 wr)) (fun _ i _ => l.length - (intOf i).toNat)
 case atStart => exact ⟨k0, [], HB0.out, rfl, HS0, hI (by simp), hI (World.ownsRow_nil _ _ _ _), hI (Below.refl _ _)⟩
 case round =>
  clear HB0 HS0
  obtain ⟨k, acc, hk, rfl, HS, HA, HO, HB⟩ := hrel
  by_cases hlt : k < l.length
  ·skip
   have hi : (k : Int) < (l.length : Int) := by omega
   have HK := hI hlt
   have HW1 := hI (HW.out.below HB.out)
   have hki : (k : Int) <= ((bs l).size : Int) := by omega
   have HNX := hI fun W (h : LxW W) => next_any (l.drop k) W (by rw [List.length_drop]; have := H6.out; omega) h
   have HST := hI fun e => sc_step HS.out hlt e
   have HER := hI fun e => sc_err HS.out hlt e H6.out
   have HMO := hI fun e => sc_more hlt e
   clear hk hlt
   generalize hnt : nextT (l.drop k) = t at *
   obtain ⟨tk, tx, te⟩ := t
   clear hnt
   unfold tokV at HNX
   dsimp only at HNX HST HER HMO
   go_wp2_with fail
   rw [show (bs l).extract k l.length = bs (l.drop k) from bs_tail l k]
   refine (HNX.out _ HW1.out).mono ?_
   rintro e wb ⟨rfl, hb⟩
   have OB := hI (own_below HO.out hb)
   have BB := hI (HB.out.trans (hb.mono HB.out.size))
   have HWb := hI (HW1.out.below hb)
   have HLT := hI (show ∀ b, u5.ownBlock = some b -> b < wb.heap.size from fun b hbk => Nat.lt_of_lt_of_le (HO.out.lt b hbk).2 hb.size)
   clear hb HO HB HW1 HNX
   go_wp2_with (with_reducible refine at_alloc_ (t := 63) ?_; refine alloc_tok rfl rfl ?_)
   intro wc hx hb
   have X1 := hI hx
   have OC := hI (own_below OB.out hb)
   have BC := hI (BB.out.trans (hb.mono BB.out.size))
   have HWc := hI (HWb.out.below hb)
   have HQ := hI BB.out.size
   have HQ2 := hI X1.out
   clear hx hb OB BB HWb HQ2
   generalize wb.heap.size = q at *
   go_wp2_with (with_reducible refine at_store_ (t := 63) ?_; refine Hid.out ?_)
   refine hI ?_
   refine put_box (v0 := .int .i64 tk) (v1 := .string (bs tx)) (v2 := .int .i64 0) rfl (.tmp 7) (.tmp 23) rfl rfl q rfl rfl X1.out (by simp [Value.oneCell']) ?_
   intro wd hx ht
   have X2 := hI hx
   have OD := hI (ht.own OC.out fun b hb => by have := HLT.out b hb; omega)
   have BD := hI (ht.below BC.out HQ.out)
   clear hx ht OC BC HWc X1
   have HWd := hI (HW.out.below BD.out)
   by_cases he : te = 0
   ·subst he
    have HST2 := hI (HST.out rfl)
    obtain ⟨m1, m2⟩ := HMO.out rfl
    have HM := hI (And.intro m1 m2)
    clear HST HER HMO m1 m2
    obtain ⟨x0, x1, x2⟩ := X2.out.cells
    have hz : ∀ i, wd.frozen? ⟨q, i, none⟩ = false := fun i => not_frozen X2.out i
    obtain ⟨hx3, ht3⟩ := X2.out.set2 (.int .i64 k)
    have X3 := hI hx3
    have OE := hI (ht3.own OD.out fun b hb => by have := HLT.out b hb; omega)
    have BE := hI (ht3.below BD.out HQ.out)
    clear hx3 ht3
    go_wp2_with (with_reducible refine at_load_ (t := 63) ?_; refine Hid.out ?_)
    refine hI ?_
    clear x0 x1 x2 hz X2 OD BD HWd
    generalize wd.setCell ⟨q, 2, none⟩ (.int .i64 k) = we at *
    refine get_box rfl (.tmp 7) rfl q rfl X3.out ?_
    try simp only [Act.put, sA, sB, sC]
    have HNR := hI (Reads.new (S := fun _ => True) (size := 3) (n := 1) we #[.int .i64 tk, .string (bs tx), .int .i64 k] 63 rfl trivial)
    go_wp2_with (at_builtin; (refine wpList_append_any rfl (.tmp 31) (.tmp 33) 59 rfl w1.heap.size 63 ie _ 3 32 Tryz.underlying59 hie0 hie1 hie2 hie3 rfl (by omega) u5 _ _ rfl (OE.out.alloc _) _ _ 1 1 _ rfl HNR.out ?m1 ?m2 ?m3 ?m4 ?m5))
    case m1 => exact ⟨rfl, rfl, rfl⟩
    case m2 => have := HA.out; have := HK.out; have := H6.out; simp only [maxLen]; omega
    case m3 => have := HA.out; have := HK.out; have := H6.out; omega
    case m4 => have := BE.out.size; simp; omega
    case m5 =>
     intro v' wf ho hg _
     have hbx : Below we.heap.size we (we.alloc (.cells #[.int .i64 tk, .string (bs tx), .int .i64 k] 63)) := (Below.refl _ _).alloc (Nat.le_refl _) _
     have OF := hI (show wf.ownsRow w1.heap.size 63 3 v' (acc ++ [(⟨tk, tx, k⟩ : Tok)]).length ((acc ++ [(⟨tk, tx, k⟩ : Tok)]).flatMap tokC) from by rw [List.length_append, List.flatMap_append]; exact ho)
     have XF := hI (show Box wf q (.int .i64 tk) (.string (bs tx)) (.int .i64 k) from (hg.block q (Nat.lt_of_lt_of_le (lt_of_block X3.out) hbx.size) (fun e => by have := HLT.out q e.symm; omega)).trans ((hbx.block q (lt_of_block X3.out)).trans X3.out))
     have BF := hI (Below.grown (BE.out.alloc BE.out.size _) hg (Nat.le_trans BE.out.size hbx.size) (fun j hj => (OE.out.lt j hj).1))
     clear ho hg hbx HNR OE X3 BE HLT
     have x1 := XF.out.cells.2.1
     clear XF
     have htx : (bs tx).size = tx.length := bs_size tx
     have HKN := hI (show k + tx.length <= l.length by have := HM.out.2; omega)
     have hkn : (k : Int) + (tx.length : Int) <= 65536 := by have := HM.out.2; have := H6.out; omega
     have hkz : (k : Int) + (tx.length : Int) <= (l.length : Int) := by have := HKN.out; omega
     have hk00 : (0 : Int) <= (k : Int) + (tx.length : Int) := by omega
     have htn : ((k : Int) + (tx.length : Int)).toNat = k + tx.length := by omega
     go_wp2_with fail
     rw [show (bs l).extract (k + tx.length) l.length = bs (l.drop (k + tx.length)) from bs_tail l _]
     refine (blank_any (l.drop (k + tx.length)) wf (by rw [List.length_drop]; have := H6.out; omega)).mono ?_
     rintro e wg ⟨rfl, rfl⟩
     generalize blankA false (l.drop (k + tx.length)) = bn at *
     have hbn : (k : Int) + (tx.length : Int) + (bn : Int) <= 65536 := by have := HM.out.2; have := H6.out; omega
     clear x1 htn
     go_wp2
     go_roundw
     case rel => exact ⟨k + tx.length + bn, acc ++ [⟨tk, tx, k⟩], HM.out.2, by go_num, HST2, hI (by rw [List.length_append, List.length_singleton]; have := HA.out; have := HM.out.1; omega), OF, BF⟩
     case measure => have := HM.out; have := HK.out; show l.length - ((k : Int) + (tx.length : Int) + (bn : Int)).toNat < l.length - (k : Int).toNat; omega
   have HF := hI (HER.out he)
   have hne : ¬ te = 0 := he
   clear HST HER HMO he
   go_wp2
   go_ret3
   exact ⟨.slice none 0 0, by rw [HF.out]; rfl, by rw [HF.out]; exact World.ownsRow_nil _ _ _ _, BD.out⟩
  skip
  obtain rfl : k = l.length := by omega
  have HF := hI (sc_end HS.out H6.out)
  clear hk hlt HS
  have HNR := hI (Reads.new (S := fun _ => True) (size := 3) (n := 1) wr #[.int .i64 0, .string { data := #[] }, .int .i64 (l.length : Int)] 63 rfl trivial)
  go_wp2_with (at_builtin; (refine wpList_append_any rfl (.tmp 46) (.tmp 50) 59 rfl w1.heap.size 63 ie _ 3 32 Tryz.underlying59 hie0 hie1 hie2 hie3 rfl (by omega) u5 _ _ rfl (HO.out.alloc _) _ _ 1 1 _ rfl HNR.out ?m1 ?m2 ?m3 ?m4 ?m5))
  case m1 => first | exact ⟨rfl, rfl, rfl⟩ | exact tokC_one ⟨0, [], l.length⟩
  case m2 => have := HA.out; have := H6.out; simp only [maxLen]; omega
  case m3 => have := HA.out; have := H6.out; omega
  case m4 => have := HB.out.size; simp; omega
  case m5 =>
   intro v' wf ho hg _
   have OF := hI (show wf.ownsRow w1.heap.size 63 3 v' (acc ++ [(⟨0, [], l.length⟩ : Tok)]).length ((acc ++ [(⟨0, [], l.length⟩ : Tok)]).flatMap tokC) from by rw [List.length_append, List.flatMap_append]; exact ho)
   have BF := hI (Below.grown (HB.out.alloc HB.out.size _) hg (Nat.le_trans HB.out.size (by simp)) (fun j hj => (HO.out.lt j hj).1))
   clear ho hg HNR HO HB
   go_wp2
   go_ret3
   exact ⟨v', by rw [HF.out]; rfl, by rw [HF.out]; exact OF.out, BF.out⟩
end Go.Proofs.YtkakbidllpjopaaGreatDoor.Lx
namespace Go.Proofs.YtkakbidllpjopaaGreatDoor
open Go.RowKit
/-- A token without its place. -/
def tkq (t : Lx.Tok) : Tk := (t.kind, t.text)
/-- The tokens end with an end token. -/
def Ends : List Tk -> Prop
 | [] => False
 | [t] => t.1 = 0
 | _ :: u :: r => Ends (u :: r)
theorem Ends.tail {R : List Tk} (h : Ends R) (hk : kindT R ≠ 0) : Ends R.tail := by
 match R, h, hk with
 | [t], h, hk => exact absurd h hk
 | _ :: u :: r, h, _ => exact h
theorem Ends.ne {R : List Tk} (h : Ends R) : R ≠ [] := by rintro rfl; exact h
theorem isT_kind {s : Str} {R : List Tk} (h : isT s R = true) : kindT R = 3 ∨ kindT R = 4 := by
 cases R with
 | nil => cases h
 | cons t r =>
  unfold isT at h
  simp only [Bool.and_eq_true, Bool.or_eq_true, beq_iff_eq] at h
  exact h.1
/-- What is known of the lexer's tokens. -/
structure Lok (L : List Lx.Tok) : Prop where
 num : ∀ t ∈ L, t.kind = 2 -> Lx.numE t.text = 0 /\ t.text ≠ []
 len : L.length <= 70000
 txt : ∀ t ∈ L, t.text.length <= 65536
/-- strconv's variable for a wrong text. -/
def ES (g : Nat) (w : World) : Prop := 4 ≠ g /\ ∃ ev, w.cell? ⟨4, 0, none⟩ = some ev /\ (ev = .nilIface ∨ ∃ te pe, ev = .iface te pe)
theorem ES.keep {g : Nat} {w w' : World} (h : ES g w) (hk : ∀ b, b < w.heap.size -> b ≠ g -> w'.heap[b]? = w.heap[b]?) : ES g w' := by
 obtain ⟨h1, ev, h2, h3⟩ := h
 exact ⟨h1, ev, (World.cell?_of_block (a := ⟨4, 0, none⟩) (hk _ (World.block_lt_of_cell? _ _ h2) h1)).trans h2, h3⟩
/-- The parser at block g: its tokens L lie at A; it stands before the tokens R. -/
structure PS (L : List Lx.Tok) (A : Option Addr) (n c g : Nat) (w : World) (i : Nat) (bad : Bool) (R : List Tk) : Prop where
 ok : Lok L
 len : n = L.length
 cap : n <= c
 row : ∃ b q, A = some ⟨b, q, none⟩ /\ b < w.heap.size /\ b ≠ g /\ ∀ (j : Nat) (t : Lx.Tok), L[j]? = some t -> w.rangeAt b (q + j * 3) [.int .i64 t.kind, .string (bs t.text), .int .i64 t.off]
 st : w.heap[g]? = some (.cells #[.slice A n c, .int .i64 i, .bool bad] 117 (0, 0))
 at_ : (L.map tkq).drop i = R
 ends : Ends R
 es : ES g w
section
variable {L : List Lx.Tok} {A : Option Addr} {n c g : Nat} {w w' : World} {i : Nat} {bad : Bool} {R : List Tk}
theorem PS.lt (h : PS L A n c g w i bad R) : g < w.heap.size := lt_of_block h.st
theorem PS.next (h : PS L A n c g w i bad R) (hb : Below w.heap.size w w') : PS L A n c g w' i bad R := by
 obtain ⟨b, q, e, h1, h2, h3⟩ := h.row
 exact ⟨h.ok, h.len, h.cap, ⟨b, q, e, Nat.lt_of_lt_of_le h1 hb.size, h2, fun j t ht => rangeAt_keep (h3 j t ht) (hb.block b h1)⟩, (hb.block g h.lt).trans h.st, h.at_, h.ends, h.es.keep fun b hb' _ => hb.block b hb'⟩
theorem PS.cells (h : PS L A n c g w i bad R) : w.cell? ⟨g, 0, none⟩ = some (.slice A n c) /\ w.cell? ⟨g, 1, none⟩ = some (.int .i64 i) /\ w.cell? ⟨g, 2, none⟩ = some (.bool bad) :=
 ⟨by rw [cell_of_row _ _ _ _ _ _ h.st]; rfl, by rw [cell_of_row _ _ _ _ _ _ h.st]; rfl, by rw [cell_of_row _ _ _ _ _ _ h.st]; rfl⟩
theorem PS.free (h : PS L A n c g w i bad R) (j : Nat) : w.frozen? ⟨g, j, none⟩ = false := by simp [World.frozen?, h.st]
/-- The token before which the parser stands. -/
theorem PS.tok (h : PS L A n c g w i bad R) : ∃ t b q, L[i]? = some t /\ A = some ⟨b, q, none⟩ /\ i < n /\ t ∈ L /\ (∃ T, R = tkq t :: T) /\ b ≠ g /\ b < w.heap.size /\ w.rangeAt b (q + i * 3) [.int .i64 t.kind, .string (bs t.text), .int .i64 t.off] := by
 obtain ⟨b, q, e, h1, h2, h3⟩ := h.row
 have hn := h.ends.ne
 have hi : i < L.length := by
  rcases Nat.lt_or_ge i L.length with h0 | h0
  ·exact h0
  exfalso
  apply hn
  rw [<- h.at_]
  exact List.drop_of_length_le (by rw [List.length_map]; exact h0)
 refine ⟨L[i], b, q, List.getElem?_eq_getElem hi, e, by rw [h.len]; exact hi, List.getElem_mem hi, ⟨(L.map tkq).drop (i + 1), ?_⟩, h2, h1, h3 i _ (List.getElem?_eq_getElem hi)⟩
 rw [<- h.at_, List.drop_eq_getElem_cons (by rw [List.length_map]; exact hi)]
 congr 1
 exact List.getElem_map ..
theorem PS.lim (h : PS L A n c g w i bad R) : i < 70000 := by
 obtain ⟨t, b, q, h1, _⟩ := h.tok
 have := (List.getElem?_eq_some_iff.1 h1).1
 have := h.ok.len
 omega
theorem PS.set1 (h : PS L A n c g w i bad R) (hk : kindT R ≠ 0) : PS L A n c g (w.setCell ⟨g, 1, none⟩ (.int .i64 ((i : Int) + 1))) (i + 1) bad R.tail := by
 obtain ⟨b, q, e, h1, h2, h3⟩ := h.row
 refine ⟨h.ok, h.len, h.cap, ⟨b, q, e, by simpa using h1, h2, fun j t ht => rangeAt_keep (h3 j t ht) (Below.heap_setCell _ _ _ b (fun e => h2 (by first | exact e | exact e.symm)))⟩, ?_, ?_, h.ends.tail hk, h.es.keep fun b _ hg => Below.heap_setCell _ _ _ b (fun e => hg (by first | exact e | exact e.symm))⟩
 ·rw [setCell_eq_setRow w g 1 _ _ _ _ h.st]
  exact setRow_heap _ _ _ _ _ _ h.st
 rw [<- h.at_, List.tail_drop]
theorem PS.set2 (h : PS L A n c g w i bad R) : PS L A n c g (w.setCell ⟨g, 2, none⟩ (.bool true)) i true R := by
 obtain ⟨b, q, e, h1, h2, h3⟩ := h.row
 refine ⟨h.ok, h.len, h.cap, ⟨b, q, e, by simpa using h1, h2, fun j t ht => rangeAt_keep (h3 j t ht) (Below.heap_setCell _ _ _ b (fun e => h2 (by first | exact e | exact e.symm)))⟩, ?_, h.at_, h.ends, h.es.keep fun b _ hg => Below.heap_setCell _ _ _ b (fun e => hg (by first | exact e | exact e.symm))⟩
 rw [setCell_eq_setRow w g 2 _ _ _ _ h.st]
 exact setRow_heap _ _ _ _ _ _ h.st
theorem gr_put (W : World) (b j : Nat) (v : Value) : W.grownBy (W.setCell ⟨b, j, none⟩ v) (some b) :=
 ⟨rfl, rfl, rfl, by simp, fun k hk hne => Below.heap_setCell _ _ _ k (fun e => hne (by rw [e]))⟩
end
/-- The state, the index hidden. -/
def PSx (L : List Lx.Tok) (A : Option Addr) (n c g : Nat) (w : World) (bad : Bool) (R : List Tk) : Prop := ∃ i, PS L A n c g w i bad R
section
variable {L : List Lx.Tok} {A : Option Addr} {n c g : Nat} {w w' : World} {bad : Bool} {R : List Tk}
theorem PSx.next (h : PSx L A n c g w bad R) (hb : Below w.heap.size w w') : PSx L A n c g w' bad R := by obtain ⟨i, h⟩ := h; exact ⟨i, h.next hb⟩
theorem PSx.lt (h : PSx L A n c g w bad R) : g < w.heap.size := by obtain ⟨i, h⟩ := h; exact h.lt
theorem PSx.ends (h : PSx L A n c g w bad R) : Ends R := by obtain ⟨i, h⟩ := h; exact h.ends
/-- Where the token lies before which the parser stands. -/
def offAt (L : List Lx.Tok) (R : List Tk) : Int := ((L.getD (L.length - R.length) ⟨0, [], 0⟩).off : Int)
theorem PS.offAt {i : Nat} {t : Lx.Tok} (h : PS L A n c g w i bad R) (ht : L[i]? = some t) : (t.off : Int) = offAt L R := by
 have hi := (List.getElem?_eq_some_iff.1 ht).1
 unfold Proofs.YtkakbidllpjopaaGreatDoor.offAt
 have hl : R.length = L.length - i := by rw [<- h.at_, List.length_drop, List.length_map]
 rw [show L.length - R.length = i by omega, List.getD_eq_getElem?_getD, ht]
 rfl
end
theorem now_any (L : List Lx.Tok) (A : Option Addr) (n c g : Nat) (w : World) (bad : Bool) (R : List Tk) (h : PSx L A n c g w bad R) :
  Calls Tryz.prog 48 #[.pointer (some ⟨g, 0, none⟩)] w fun e w' => e = .returned (.agg #[.int .i64 (kindT R), .string (bs (textT R)), .int .i64 (offAt L R)]) /\ Below w.heap.size w w' := by
 obtain ⟨i, h⟩ := h
 obtain ⟨t, b, q, h1, rfl, h2, h3, ⟨T, rfl⟩, h5, h6, h7⟩ := h.tok
 have HO := hI (h.offAt h1)
 obtain ⟨ofs, hofs⟩ : ∃ z : Int, z = offAt L (tkq t :: T) := ⟨_, rfl⟩
 rw [<- hofs] at HO ⊢
 show Calls _ _ _ _ fun e w' => e = .returned (.agg #[.int .i64 t.kind, .string (bs t.text), .int .i64 ofs]) /\ _
 clear hofs
 obtain ⟨tk, tx, tof⟩ := t
 have ho : (tof : Int) = ofs := HO.out
 dsimp only at h7 ⊢
 rw [ho] at h7
 clear ho HO
 have hi2 : (i : Int) < (n : Int) := by omega
 have hb0 : Below w.heap.size w (w.alloc (.cells #[.int .i64 0, .string { data := #[] }, .int .i64 0] 63)) := (Below.refl w.heap.size w).alloc (Nat.le_refl _) _
 have h8 := h.next hb0
 obtain ⟨c0, c1, c2⟩ := (h8.next (Below.refl _ _).drew).cells
 have hr := rangeAt_keep h7 (w' := (w.alloc (.cells #[.int .i64 0, .string { data := #[] }, .int .i64 0] 63)).drew) (hb0.block b h6)
 have r0 : (w.alloc (.cells #[.int .i64 0, .string { data := #[] }, .int .i64 0] 63)).drew.cell? ⟨b, q + i * 3, none⟩ = some (.int .i64 tk) := hr 0 _ rfl
 have r1 : (w.alloc (.cells #[.int .i64 0, .string { data := #[] }, .int .i64 0] 63)).drew.cell? ⟨b, q + i * 3 + 1, none⟩ = some (.string (bs tx)) := hr 1 _ rfl
 have r2 : (w.alloc (.cells #[.int .i64 0, .string { data := #[] }, .int .i64 0] 63)).drew.cell? ⟨b, q + i * 3 + 2, none⟩ = some (.int .i64 ofs) := hr 2 _ rfl
 have HB := hI hb0
 clear h h1 h2 h3 h5 h6 h7 h8 hr hb0
 go_enter Tryz.func48, Tryz.ntmps48
 go_upto_region 1 with fail
 go_region
 go_wp2
 have HZ := heap_alloc_new w (.cells #[.int .i64 tk, .string (bs tx), .int .i64 ofs] 63)
 have HZ0 : (w.alloc (.cells #[.int .i64 tk, .string (bs tx), .int .i64 ofs] 63)).drew.cell? ⟨w.heap.size, 0, none⟩ = some (.int .i64 tk) := (cell_of_row (w.alloc (.cells #[.int .i64 tk, .string (bs tx), .int .i64 ofs] 63)) _ _ _ _ _ HZ).trans rfl
 refine bodyPost_ret (results_cell_row rfl _ _ w.heap.size _ _ _ _ rfl HZ Tryz.underlying63 rfl (by first | rfl | kernel_rfl)) rfl ⟨rfl, ((Below.refl _ _).alloc (Nat.le_refl _) _).drew⟩
@[go_sem] theorem fld0 (a : Int) (s : ByteArray) (o : Int) (w : World) : (Instr.field 63 (.agg #[.int .i64 a, .string s, .int .i64 o]) 0).run Tryz.prog w = .ok (.int .i64 a) w := by kernel_rfl
@[go_sem] theorem fld1 (a : Int) (s : ByteArray) (o : Int) (w : World) : (Instr.field 63 (.agg #[.int .i64 a, .string s, .int .i64 o]) 1).run Tryz.prog w = .ok (.string s) w := by kernel_rfl
@[go_sem] theorem fld2 (a : Int) (s : ByteArray) (o : Int) (w : World) : (Instr.field 63 (.agg #[.int .i64 a, .string s, .int .i64 o]) 2).run Tryz.prog w = .ok (.int .i64 o) w := by kernel_rfl
end Go.Proofs.YtkakbidllpjopaaGreatDoor
