/- The walk of syntax.Print (printed by wip/gensxy.py). Conditions: the library's tables are laid (SxW); at most 10000 parts an operation. The walks of law45's alone and awake. Conditions: the laid tables and error variables (WW). The walk of syntax.Same (printed by wip/genpzg.py): it tells whether two programs are equal. Conditions: at most 1000000 parts a list. The walks of sameExpr, sameStmt, sameOper (printed by wip/genpzh.py). Conditions: at most 1000000 parts a list. Contracts of Go's library at this translation, out of the kit's shelf. No condition beyond the contracts' own. The walks of slices.Equal, sameOper and Same (printed by wip/genpzi.py). Conditions: at most 1000000 parts a list. The walk of ParserParses. Conditions: the laid tables and error variables (WW). What the lifting of each parser card needs: the heap that the start-up code leaves meets the rows' condition; the condition says what the package variables hold. No condition. -/
import Derived.Test.YtkakbidllpjopaaGreatDoorU14
import Derived.Test.YtkakbidllpjopaaGreatDoorU08
import Derived.Test.YtkakbidllpjopaaGreatDoorU07
import Derived.Test.YtkakbidllpjopaaGreatDoorU01
import Derived.Test.YtkakbidllpjopaaGreatDoorU13
import Derived.Shelf.Strings.Builder1
import Derived.Shelf.Strings.Builder2
import Derived.Shelf.Strings.OnBuilder
import Derived.Shelf.Small.Wraps
import Derived.Shelf.Strings.BuilderF
import Derived.Shelf.Strings.BuilderK
import Derived.Shelf.Strings.Builder2Cap
import Derived.Shelf.Strconv.Itoa0
import Derived.Shelf.Strconv.Itoa1
import Derived.Shelf.LaysM
import Derived.Shelf.Strconv.Itoa2
import Derived.Shelf.Strconv.Itoa3
import Derived.Shelf.Strconv.Itoa4
import Derived.Shelf.Strings.Prefix
import Derived.Shelf.Bits.Mul64
import Derived.Shelf.Strings.Repeat
import Derived.Shelf.Strings.BuilderCap
import Derived.Shelf.Slices.Turned
import Derived.Shelf.Slices.Equal
import Derived.Ground.Names2Prog
import Derived.Shelf.Slices.Clone
import Derived.Shelf.Slices.Empties2
import Derived.Ground.SlgnProg
import Derived.Shelf.SlicesE.Clone
import Derived.Test.YtkakbidllpjopaaGreatDoorProg
import Derived.Test.YtkakbidllpjopaaGreatDoorU12
import Derived.Test.YtkakbidllpjopaaGreatDoorRows
import Derived.Test.YtkakbidllpjopaaGreatDoorChecked
import Derived.ProofKit
import Derived.LaidMore
import Derived.OpenShut
import Derived.Stop.Joined
import Derived.RowKit
import Derived.RowKit3
import Derived.RowKitTokens
import Derived.LaidLaws
import Derived.Lib.LaidTab
import Derived.Stop.LaidErr
set_option linter.unusedVariables false
set_option linter.unusedSimpArgs false
set_option maxRecDepth 100000
set_option maxHeartbeats 25600000
namespace Go.Proofs.YtkakbidllpjopaaGreatDoor
open Go.RowKit
/-- A store's line. -/
def storeT (d : Decl') : Str := lineT 0 (([115, 116, 111, 114, 101, 32] : Str) ++ d.name ++ [32] ++ d.kind ++ [59])
/-- An operation's lines. -/
def operT (o : Oper') : Str := lineT 0 (([111, 112, 32] : Str) ++ o.name ++ [40] ++ Lib.join o.params [44, 32] ++ [41, 32, 123]) ++ txSs 1 o.body ++ lineT 0 [125]
/-- A program's text. -/
def txP (p : Prog') : Str := (p.stores.map storeT).flatten ++ (p.opers.map operT).flatten
/-- What Print answers: the text. -/
def printS (p : Prog') : Str := if chkP p ≠ 0 then [] else if 65536 < (txP p).length then [] else txP p
/-- .. and the error. -/
def printE (p : Prog') : Int := if chkP p ≠ 0 then chkP p else if 65536 < (txP p).length then 7 else 0
theorem runC_all {α : Type} {c : List Str -> α -> Int} {nm : α -> Str} : ∀ {l : List α} {met : List Str}, runC c nm met l = 0 -> ∀ x ∈ l, ∃ m, c m x = 0
 | [], _, _, x, h => by cases h
 | e :: t, met, h, x, hx => by
  rw [runC] at h
  split at h
  ·exact absurd h (by assumption)
  rename_i h3
  rcases List.mem_cons.1 hx with rfl | hx
  ·exact ⟨met, Classical.not_not.1 h3⟩
  exact runC_all h x hx
theorem freshL_all : ∀ {l met : List Str}, freshL met l = 0 -> ∀ s ∈ l, nameOk s = true
 | [], _, _, x, h => by cases h
 | e :: t, met, h, x, hx => by
  rw [freshL] at h
  split at h
  ·cases h
  rename_i h3
  split at h
  ·cases h
  rcases List.mem_cons.1 hx with rfl | hx
  ·simpa using h3
  exact freshL_all h x hx
theorem freshC_ok {met : List Str} {s : Str} {r : Bool} (h : freshC met s r = 0) : nameOk s = true /\ r = false /\ met.contains s = false := by
 unfold freshC at h
 split at h
 ·cases h
 rename_i h1
 split at h
 ·cases h
 rename_i h2
 refine ⟨?_, ?_, by simpa using h2⟩
 ·cases hq : nameOk s with
  | true => rfl
  | false => exact absurd (.inl hq) h1
 cases r with
 | false => rfl
 | true => exact absurd (.inr rfl) h1
theorem decl_ok {met : List Str} {d : Decl'} (h : declC met d = 0) : nameOk d.name = true /\ nameOk d.kind = true := by
 obtain ⟨h1, h2, _⟩ := freshC_ok h
 exact ⟨h1, by simpa using h2⟩
theorem oper_ok {met : List Str} {o : Oper'} (h : operC met o = 0) : nameOk o.name = true /\ o.params.length <= 4 /\ freshL [] o.params = 0 /\ chkSs 1 o.body = 0 /\ met.contains o.name = false := by
 unfold operC at h
 split at h
 ·exact absurd h (by assumption)
 rename_i h0
 split at h
 ·cases h
 rename_i h1
 split at h
 ·exact absurd h (by assumption)
 rename_i h2
 obtain ⟨h3, _, h4⟩ := freshC_ok (Classical.not_not.1 h0)
 exact ⟨h3, by omega, Classical.not_not.1 h2, h, h4⟩
/-- What a valid program's parts are. -/
theorem chkP_ok {p : Prog'} (h : chkP p = 0) : p.stores.length <= 12 /\ p.opers.length <= 32 /\ (∀ d ∈ p.stores, nameOk d.name = true /\ nameOk d.kind = true) /\ (∀ o ∈ p.opers, nameOk o.name = true /\ o.params.length <= 4 /\ freshL [] o.params = 0 /\ chkSs 1 o.body = 0) /\ runC declC Decl'.name [] p.stores = 0 /\ runC operC Oper'.name [] p.opers = 0 := by
 unfold chkP at h
 split at h
 ·cases h
 rename_i h0
 split at h
 ·exact absurd h (by assumption)
 rename_i h1
 have h2 := Classical.not_not.1 h1
 rw [storesL_run] at h2
 rw [opersL_run] at h
 refine ⟨by omega, by omega, fun d hd => ?_, fun o ho => ?_, h2, h⟩
 ·obtain ⟨m, hm⟩ := runC_all h2 d hd
  exact decl_ok hm
 obtain ⟨m, hm⟩ := runC_all h o ho
 obtain ⟨a1, a2, a3, a4, _⟩ := oper_ok hm
 exact ⟨a1, a2, a3, a4⟩
theorem sum_names : ∀ {l : List Str}, (∀ s ∈ l, nameOk s = true) -> (l.map List.length).sum <= 24 * l.length
 | [], _ => by simp
 | e :: t, h => by
  have h1 := name_len (h e (by simp))
  have h2 := sum_names (l := t) fun s hs => h s (by simp [hs])
  simp only [List.map_cons, List.sum_cons, List.length_cons]
  omega
theorem params_len {l : List Str} (h : ∀ s ∈ l, nameOk s = true) (h4 : l.length <= 4) : (Lib.join l [44, 32]).length <= 104 := by
 have h1 := join_len [44, 32] l
 have h2 := sum_names h
 simp only [List.length_cons, List.length_nil] at h1
 omega
theorem flat_take {α : Type} {f : α -> Str} {l : List α} {q : Nat} {x : α} (h : l[q]? = some x) : ((l.take (q + 1)).map f).flatten = ((l.take q).map f).flatten ++ f x := by
 rw [List.take_add_one, h]
 simp
theorem flat_len {α : Type} {f : α -> Str} {c : Nat} : ∀ {l : List α}, (∀ x ∈ l, (f x).length <= c) -> (l.map f).flatten.length <= l.length * c
 | [], _ => by simp
 | e :: t, h => by
  have h1 := h e (by simp)
  have h2 := flat_len (l := t) fun s hs => h s (by simp [hs])
  simp only [List.map_cons, List.flatten_cons, List.length_append, List.length_cons, Nat.succ_mul]
  omega
/-- Few parts an operation. -/
def Prog'.Few2 (p : Prog') : Prop := p.stores.length <= 10000 /\ p.opers.length <= 10000 /\ ∀ o ∈ p.opers, St.sizes o.body <= 10000
theorem Prog'.Few2.few {p : Prog'} (h : p.Few2) : p.Few := ⟨by have := h.1; omega, by have := h.2.1; omega, fun o ho => by have := h.2.2 o ho; omega⟩
theorem storeT_len {d : Decl'} (h : nameOk d.name = true /\ nameOk d.kind = true) : (storeT d).length <= 60 := by
 have h1 := name_len h.1
 have h2 := name_len h.2
 rw [storeT, lineT_len]
 simp only [List.length_append, List.length_cons, List.length_nil]
 omega
theorem operT_len {o : Oper'} (h : nameOk o.name = true /\ o.params.length <= 4 /\ freshL [] o.params = 0 /\ chkSs 1 o.body = 0) (hw : St.Wds o.body) (hz : St.sizes o.body <= 10000) : (operT o).length <= 3000200 := by
 have h1 := name_len h.1
 have h2 := params_len (freshL_all h.2.2.1) h.2.1
 have h3 : (txSs 1 o.body).length <= 300 * St.sizes o.body := txSs_len fun x hx => txS_len x 1 (chkSs_all h.2.2.2 x hx) (St.Wds_mem hw x hx)
 rw [operT, List.length_append, List.length_append, lineT_len, lineT_len]
 simp only [List.length_append, List.length_cons, List.length_nil]
 omega
theorem PV.wd {w : World} {S : Nat -> Prop} {p : Prog'} {v : Value} (h : PV w S p v) : ∀ o ∈ p.opers, St.Wds o.body := by
 obtain ⟨D, nd, cd, O, no, co, _, _, h2, h3⟩ := h
 intro o ho
 obtain ⟨i, hi⟩ := List.mem_iff_getElem?.1 ho
 obtain ⟨b, q, cs, _, _, _, ⟨o', ho', hov⟩, _⟩ := h3.at i (by rw [h2]; exact (List.getElem?_eq_some_iff.1 hi).1)
 rw [hi] at ho'
 injection ho' with ho'
 subst ho'
 obtain ⟨P, np, cp, B, nb, cb, _, _, hb⟩ := hov
 exact hb.wds
theorem print_bad (p : Prog') (v : Value) (S : Nat -> Prop) (w : World) (hw : SxW w) (hp : PV w S p v) (hf : p.Few2) (hc : chkP p ≠ 0) :
  Calls Tryz.prog 11 #[v] w fun e w' => e = .returned (.tuple #[.string (bs []), .int .i64 (chkP p)]) /\ Below w.heap.size w w' := by
 have HB := hI (show ∀ X, Below w.heap.size w (w.alloc X) from fun X => (Below.refl _ _).alloc (Nat.le_refl _) X)
 have HCK := hI (show ∀ X, Calls Tryz.prog 18 #[v] (w.alloc X) fun e w' => e = .returned (.int .i64 (chkP p)) /\ Below (w.alloc X).heap.size (w.alloc X) w' from fun X => check_any p v S _ (hw.below (HB.out X)) (hp.below (HB.out X)) hf.few)
 obtain ⟨D, nd, cd, O, no, co, rfl, -, -⟩ := hp
 generalize chkP p = C at *
 have hc1 : (C != 0) = true := by simp [hc]
 clear hw hf
 go_enter Tryz.func11, Tryz.ntmps11
 go_wp2_with fail
 refine (HCK.out _).mono ?_
 rintro e w1 ⟨rfl, hb⟩
 go_wp2
 go_ret2
 exact ⟨rfl, below_new hb⟩
theorem print_ok (p : Prog') (v : Value) (S : Nat -> Prop) (w : World) (hw : SxW w) (hp : PV w S p v) (hf : p.Few2) (hc : chkP p = 0) :
  Calls Tryz.prog 11 #[v] w fun e w' => e = .returned (.tuple #[.string (bs (if 65536 < (txP p).length then [] else txP p)), .int .i64 (if 65536 < (txP p).length then 7 else 0)]) /\ Below w.heap.size w w' := by
 have HB := hI (show ∀ X, Below w.heap.size w (w.alloc X) from fun X => (Below.refl _ _).alloc (Nat.le_refl _) X)
 have HCK := hI (show ∀ X, Calls Tryz.prog 18 #[v] (w.alloc X) fun e w' => e = .returned (.int .i64 0) /\ Below (w.alloc X).heap.size (w.alloc X) w' from fun X => by
  have := check_any p v S _ (hw.below (HB.out X)) (hp.below (HB.out X)) hf.few
  rwa [hc] at this)
 obtain ⟨h12, h32, hds, hos, -, -⟩ := chkP_ok hc
 have hwd := hp.wd
 obtain ⟨TS, hTS⟩ : ∃ T, T = (if 65536 < (txP p).length then [] else txP p) := ⟨_, rfl⟩
 obtain ⟨TE, hTE⟩ : ∃ T : Int, T = (if 65536 < (txP p).length then 7 else 0) := ⟨_, rfl⟩
 rw [<- hTS, <- hTE]
 have HTS := hI hTS
 have HTE := hI hTE
 obtain ⟨ds, os⟩ := p
 dsimp only at h12 h32 hds hos hwd
 have HSL := hI (show ∀ q, ((ds.take q).map storeT).flatten.length <= 1000 from fun q => by
  have h1 := flat_len (f := storeT) (c := 60) (l := ds.take q) fun x hx => storeT_len (hds x (List.mem_of_mem_take hx))
  have h2 : (ds.take q).length <= 12 := by rw [List.length_take]; omega
  have h3 := Nat.mul_le_mul_right 60 h2
  omega)
 have HOL := hI (show ∀ q, ((os.take q).map operT).flatten.length <= 97000000 from fun q => by
  have h1 := flat_len (f := operT) (c := 3000200) (l := os.take q) fun x hx => operT_len (hos x (List.mem_of_mem_take hx)) (hwd x (List.mem_of_mem_take hx)) (hf.2.2 x (List.mem_of_mem_take hx))
  have h2 : (os.take q).length <= 32 := by rw [List.length_take]; omega
  have h3 := Nat.mul_le_mul_right 3000200 h2
  omega)
 obtain ⟨D, nd, cd, O, no, co, rfl, hd, ho⟩ := hp
 dsimp only at hd ho
 have HD := hI hd
 have HO := hI ho
 have HND := hI hd.1
 have HNO := hI ho.1
 have HWS := hI hw
 have HDS := hI hds
 have HOS := hI hos
 have HWD := hI hwd
 have HFW := hI hf
 have hnd : (nd : Int) <= 12 := by have := hd.1; omega
 have hno : (no : Int) <= 32 := by have := ho.1; omega
 clear hw hf hc h12 h32 hds hos hwd hd ho hTS hTE
 go_enter Tryz.func11, Tryz.ntmps11
 go_wp2_with fail
 refine (HCK.out _).mono ?_
 rintro e w1 ⟨rfl, hb⟩
 have hX1 : w1.heap[w.heap.size]? = some (.cells #[.slice D nd cd, .slice O no co] 36 (0, 0)) := (hb.block _ (lt_alloc w _)).trans (heap_alloc_new w _)
 have HB1 := hI (below_new hb)
 have hlt1 : w.heap.size < w1.heap.size := lt_of_block hX1
 have HX1 := hI hX1
 have HLT1 := hI hlt1
 obtain ⟨d0, d1⟩ := cells2 ((heap_alloc_old w1 (.cells #[.pointer none, .slice none 0 0] 81) hlt1).trans hX1)
 clear hb HCK HB hX1 hlt1
 go_wp2_with fail
 obtain ⟨w2, hw2⟩ : ∃ w2 : World, w2 = w1.alloc (.cells #[.pointer none, .slice none 0 0] 81) := ⟨_, rfl⟩
 have HXW := hI (show ∀ W, Below w1.heap.size w2 W -> (W.heap[w.heap.size]? = some (.cells #[.slice D nd cd, .slice O no co] 36 (0, 0))) /\ Below w.heap.size w W from fun W h => by
  subst hw2
  refine ⟨(h.block _ HLT1.out).trans ((heap_alloc_old _ _ HLT1.out).trans HX1.out), (HB1.out.alloc HB1.out.size _).trans (h.mono (Nat.le_of_lt HLT1.out))⟩)
 have HZ := hI (show PB w1.heap.size w1.heap.size (((ds.take 0).map storeT).flatten) w2 /\ Below w1.heap.size w2 w2 /\ w1.heap.size <= w2.heap.size from by
  rw [hw2]
  exact ⟨PB.fresh w1, Below.refl _ _, by simp⟩)
 rw [<- hw2]
 clear hw2 d0 d1 HX1
 go_loopw [18] (fun i wr => ∃ q : Nat, q <= ds.length /\ i = .int .i64 q /\ Hid (PB w1.heap.size w1.heap.size (((ds.take q).map storeT).flatten) wr /\ Below w1.heap.size w2 wr /\ w1.heap.size <= wr.heap.size)) (fun i _ => ds.length - (intOf i).toNat)
 case atStart => exact ⟨0, Nat.zero_le _, rfl, HZ⟩
 case round =>
  clear HZ
  obtain ⟨q, hq, rfl, Z⟩ := hrel
  by_cases hl : q < ds.length
  ·have hi2 : (q : Int) < (nd : Int) := by have := HND.out; omega
   obtain ⟨b, off, cs, rfl, hb, hS, ⟨x, hx, rfl⟩, hrow⟩ := HD.out.2.at q (by have := HND.out; omega)
   have HQL := hI hl
   have hrow2 := rangeAt_keep hrow ((HXW.out _ Z.out.2.1).2.block b hb)
   have e0 := hrow2 0 _ rfl
   have e1 := hrow2 1 _ rfl
   simp only [Nat.add_zero] at e0
   have hxl := HDS.out x (List.mem_of_getElem? hx)
   have HSN := hI (show ((ds.take (q + 1)).map storeT).flatten = ((ds.take q).map storeT).flatten ++ storeT x from flat_take hx)
   obtain ⟨xn, xk⟩ := x
   have hl1 := name_len hxl.1
   have hl2 := name_len hxl.2
   dsimp only at hl1 hl2 e0 e1
   obtain ⟨c1, hc1⟩ : ∃ c, c = ([115, 116, 111, 114, 101, 32] : Str) ++ xn := ⟨_, rfl⟩
   have lc1 : c1.length = 6 + xn.length := by rw [hc1]; exact List.length_append
   have jc1 : ∀ w, (Op.stringOp .add (⟨#[115, 116, 111, 114, 101, 32]⟩ : ByteArray) (bs xn)).run Tryz.prog w = .ok (.string (bs c1)) w := fun w => by rw [hc1]; exact add_big ([115, 116, 111, 114, 101, 32] : Str) xn (by first | omega | (simp; omega)) w
   obtain ⟨c2, hc2⟩ : ∃ c, c = c1 ++ ([32] : Str) := ⟨_, rfl⟩
   have lc2 : c2.length = c1.length + 1 := by rw [hc2]; exact List.length_append
   have jc2 : ∀ w, (Op.stringOp .add (bs c1) (⟨#[32]⟩ : ByteArray)).run Tryz.prog w = .ok (.string (bs c2)) w := fun w => by rw [hc2]; exact add_big c1 ([32] : Str) (by first | omega | (simp; omega)) w
   obtain ⟨c3, hc3⟩ : ∃ c, c = c2 ++ xk := ⟨_, rfl⟩
   have lc3 : c3.length = c2.length + xk.length := by rw [hc3]; exact List.length_append
   have jc3 : ∀ w, (Op.stringOp .add (bs c2) (bs xk)).run Tryz.prog w = .ok (.string (bs c3)) w := fun w => by rw [hc3]; exact add_big c2 xk (by first | omega | (simp; omega)) w
   obtain ⟨c4, hc4⟩ : ∃ c, c = c3 ++ ([59] : Str) := ⟨_, rfl⟩
   have lc4 : c4.length = c3.length + 1 := by rw [hc4]; exact List.length_append
   have jc4 : ∀ w, (Op.stringOp .add (bs c3) (⟨#[59]⟩ : ByteArray)).run Tryz.prog w = .ok (.string (bs c4)) w := fun w => by rw [hc4]; exact add_big c3 ([59] : Str) (by first | omega | (simp; omega)) w
   have HTX := hI (show storeT ⟨xn, xk⟩ = lineT 0 c4 from by rw [storeT, hc4, hc3, hc2, hc1])
   have ha : Below wr.heap.size wr ((wr.alloc (.cells #[.string (bs xn), .string (bs xk)] 83))) := (Below.refl _ _).alloc (Nat.le_refl _) _
   have HA := hI ha
   have HLN := hI (line_any w1.heap.size w1.heap.size (((ds.take q).map storeT).flatten) c4 0 _ (by decide) (Z.out.1.keep ha) (by have := HSL.out q; omega) (Nat.le_trans Z.out.2.2 ha.size))
   clear hx hb hS hrow hrow2 hl hq ha hxl hl1 hl2 hc1 lc1 hc2 lc2 hc3 lc3 hc4 lc4
   go_wp2_with fail
   refine HLN.out.mono ?_
   rintro e w4 ⟨rfl, hp4, hb4, -⟩
   have Z4 : Hid (PB w1.heap.size w1.heap.size (((ds.take (q + 1)).map storeT).flatten) w4 /\ Below w1.heap.size w2 w4 /\ w1.heap.size <= w4.heap.size) := hI ⟨by rw [HSN.out, HTX.out]; exact hp4, (Z.out.2.1.trans (HA.out.mono Z.out.2.2)).trans hb4, Nat.le_trans (Nat.le_trans Z.out.2.2 HA.out.size) hb4.size⟩
   clear hp4 hb4 e0 e1 HLN
   go_wp2
   go_roundw
   case rel => exact ⟨q + 1, HQL.out, by go_num, Z4⟩
   case measure => exact meas_up _ _ HQL.out
  have hi2 : ¬ (q : Int) < (nd : Int) := by have := HND.out; omega
  have hqd : ds.take q = ds := List.take_of_length_le (by omega)
  have HSD := hI (HSL.out q)
  rw [hqd] at Z HSD
  obtain ⟨TD, hTD⟩ : ∃ T, T = (ds.map storeT).flatten := ⟨_, rfl⟩
  have HTD := hI hTD
  rw [<- hTD] at Z HSD
  clear hl hq hqd hTD HSL
  obtain ⟨d0, d1⟩ := cells2 (HXW.out _ Z.out.2.1).1
  go_wp2_with fail
  have Z0 : Hid (PB w1.heap.size w1.heap.size (TD ++ ((os.take 0).map operT).flatten) wr /\ Below w1.heap.size w2 wr /\ w1.heap.size <= wr.heap.size) := hI ⟨by simpa using Z.out.1, Z.out.2⟩
  clear d0 d1 Z
  go_loopw [35] (fun i wr => ∃ q : Nat, q <= os.length /\ i = .int .i64 q /\ Hid (PB w1.heap.size w1.heap.size (TD ++ ((os.take q).map operT).flatten) wr /\ Below w1.heap.size w2 wr /\ w1.heap.size <= wr.heap.size)) (fun i _ => os.length - (intOf i).toNat)
  case atStart => exact ⟨0, Nat.zero_le _, rfl, Z0⟩
  case round =>
   clear Z0
   obtain ⟨q, hq, rfl, Z⟩ := hrel
   by_cases hl : q < os.length
   ·have hi2 : (q : Int) < (no : Int) := by have := HNO.out; omega
    obtain ⟨b, off, cs, rfl, hb, hS, ⟨x, hx, hov⟩, hrow⟩ := HO.out.2.at q (by have := HNO.out; omega)
    have HQL := hI hl
    have hbase := (HXW.out _ Z.out.2.1).2
    have hrow2 := rangeAt_keep hrow (hbase.block b hb)
    have hxl := HOS.out x (List.mem_of_getElem? hx)
    have hxf := HFW.out.2.2 x (List.mem_of_getElem? hx)
    have hxw := HWD.out x (List.mem_of_getElem? hx)
    have HSN := hI (show TD ++ ((os.take (q + 1)).map operT).flatten = (TD ++ ((os.take q).map operT).flatten) ++ operT x by rw [flat_take hx, List.append_assoc])
    have hol := HOL.out q
    have hol2 := operT_len hxl hxw hxf
    obtain ⟨xn, xp, xb⟩ := x
    obtain ⟨P2, np2, cp2, B2, nb2, cb2, rfl, hss, hsb⟩ := hov
    dsimp only at hxl hxf hss hsb hrow2 hxw
    have e0 := hrow2 0 _ rfl
    have e1 := hrow2 1 _ rfl
    have e2 := hrow2 2 _ rfl
    simp only [Nat.add_zero] at e0
    have hl1 := name_len hxl.1
    have hl2 := params_len (freshL_all hxl.2.2.1) hxl.2.1
    have hJ := fun W (h : Below w.heap.size w W) => join_ss (hss.keep h.size (fun b hlt _ => h.block b hlt) (S' := S) (fun _ _ h => h)) [44, 32] (by have := hxl.2.1; omega) (by omega)
    obtain ⟨tj, htj⟩ : ∃ t, t = Lib.join xp [44, 32] := ⟨_, rfl⟩
    rw [<- htj] at hl2 hJ
    obtain ⟨c1, hc1⟩ : ∃ c, c = ([111, 112, 32] : Str) ++ xn := ⟨_, rfl⟩
    have lc1 : c1.length = 3 + xn.length := by rw [hc1]; exact List.length_append
    have jc1 : ∀ w, (Op.stringOp .add (⟨#[111, 112, 32]⟩ : ByteArray) (bs xn)).run Tryz.prog w = .ok (.string (bs c1)) w := fun w => by rw [hc1]; exact add_big ([111, 112, 32] : Str) xn (by first | omega | (simp; omega)) w
    obtain ⟨c2, hc2⟩ : ∃ c, c = c1 ++ ([40] : Str) := ⟨_, rfl⟩
    have lc2 : c2.length = c1.length + 1 := by rw [hc2]; exact List.length_append
    have jc2 : ∀ w, (Op.stringOp .add (bs c1) (⟨#[40]⟩ : ByteArray)).run Tryz.prog w = .ok (.string (bs c2)) w := fun w => by rw [hc2]; exact add_big c1 ([40] : Str) (by first | omega | (simp; omega)) w
    obtain ⟨c3, hc3⟩ : ∃ c, c = c2 ++ tj := ⟨_, rfl⟩
    have lc3 : c3.length = c2.length + tj.length := by rw [hc3]; exact List.length_append
    have jc3 : ∀ w, (Op.stringOp .add (bs c2) (bs tj)).run Tryz.prog w = .ok (.string (bs c3)) w := fun w => by rw [hc3]; exact add_big c2 tj (by first | omega | (simp; omega)) w
    obtain ⟨c4, hc4⟩ : ∃ c, c = c3 ++ ([41, 32, 123] : Str) := ⟨_, rfl⟩
    have lc4 : c4.length = c3.length + 3 := by rw [hc4]; exact List.length_append
    have jc4 : ∀ w, (Op.stringOp .add (bs c3) (⟨#[41, 32, 123]⟩ : ByteArray)).run Tryz.prog w = .ok (.string (bs c4)) w := fun w => by rw [hc4]; exact add_big c3 ([41, 32, 123] : Str) (by first | omega | (simp; omega)) w
    obtain ⟨tb, htb⟩ : ∃ t, t = txSs 1 xb := ⟨_, rfl⟩
    have hTX : operT ⟨xn, xp, xb⟩ = lineT 0 c4 ++ tb ++ lineT 0 [125] := by rw [operT, hc4, hc3, hc2, hc1, htj, htb]
    have hTXl := congrArg List.length hTX
    simp only [List.length_append, lineT_len] at hTXl
    simp only [List.length_cons, List.length_nil] at hTXl
    obtain ⟨l0, hl0⟩ : ∃ l, l = TD ++ ((os.take q).map operT).flatten := ⟨_, rfl⟩
    have hl0l := congrArg List.length hl0
    rw [List.length_append] at hl0l
    have hsd := HSD.out
    have z0 : Pz w1.heap.size w1.heap.size wr wr.heap.size 76 #[.string (bs xn), .slice P2 np2 cp2, .slice B2 nb2 cb2] l0 (wr.alloc (.cells #[.string (bs xn), .slice P2 np2 cp2, .slice B2 nb2 cb2] 76)) := Pz.start (by rw [hl0]; exact Z.out.1) Z.out.2.2 (by decide)
    have HBS := hI (show ∀ W, Below w1.heap.size wr W -> Below w.heap.size w W from fun W h => (HXW.out W (Z.out.2.1.trans h)).2)
    have HJN := hI (show ∀ l' W, Pz w1.heap.size w1.heap.size wr wr.heap.size 76 #[.string (bs xn), .slice P2 np2 cp2, .slice B2 nb2 cb2] l' W -> Calls Tryz.prog 26 #[.slice P2 np2 cp2, .string ⟨#[44, 32]⟩] W fun e w' => e = .returned (.string (bs tj)) /\ Below W.heap.size W w' from fun l' W z => hJ W (HBS.out W z.bl))
    have HC := hI (show ∀ l' W, Pz w1.heap.size w1.heap.size wr wr.heap.size 76 #[.string (bs xn), .slice P2 np2 cp2, .slice B2 nb2 cb2] l' W -> (W.cell? ⟨wr.heap.size, 0, none⟩ = some (.string (bs xn)) /\ W.cell? ⟨wr.heap.size, 1, none⟩ = some (.slice P2 np2 cp2) /\ W.cell? ⟨wr.heap.size, 2, none⟩ = some (.slice B2 nb2 cb2)) from fun l' W z => cells3 z.bx)
    have HL1 := hI (show ∀ W, Pz w1.heap.size w1.heap.size wr wr.heap.size 76 #[.string (bs xn), .slice P2 np2 cp2, .slice B2 nb2 cb2] l0 W -> Calls Tryz.prog 25 #[.pointer (some ⟨w1.heap.size, 0, none⟩), .int .i64 0, .string (bs c4)] W fun e w' => e = .returned (.tuple #[]) /\ PB w1.heap.size w1.heap.size (l0 ++ lineT 0 c4) w' /\ Below w1.heap.size W w' /\ Fr w1.heap.size W w' from fun W z => line_any w1.heap.size w1.heap.size l0 c4 0 W (by decide) z.pb (by omega) z.sz)
    have HA1 := hI (show ∀ W, Pz w1.heap.size w1.heap.size wr wr.heap.size 76 #[.string (bs xn), .slice P2 np2 cp2, .slice B2 nb2 cb2] (l0 ++ lineT 0 c4) W -> Calls Tryz.prog 27 #[.pointer (some ⟨w1.heap.size, 0, none⟩), .int .i64 1, .slice B2 nb2 cb2] W fun e w' => e = .returned (.tuple #[]) /\ PB w1.heap.size w1.heap.size (l0 ++ lineT 0 c4 ++ tb) w' /\ Below w1.heap.size W w' /\ Fr w1.heap.size W w' from fun W z => by
     rw [htb]
     exact allAt_any xb 1 1 w S B2 nb2 cb2 w1.heap.size w1.heap.size (l0 ++ lineT 0 c4) W rfl HWS.out hxl.2.2.2 (by omega) (by rw [<- htb, List.length_append, lineT_len]; omega) hsb (HBS.out W z.bl) (Nat.le_of_lt HLT1.out) z.sz z.pb)
    have HL2 := hI (show ∀ W, Pz w1.heap.size w1.heap.size wr wr.heap.size 76 #[.string (bs xn), .slice P2 np2 cp2, .slice B2 nb2 cb2] (l0 ++ lineT 0 c4 ++ tb) W -> Calls Tryz.prog 25 #[.pointer (some ⟨w1.heap.size, 0, none⟩), .int .i64 0, .string ⟨#[125]⟩] W fun e w' => e = .returned (.tuple #[]) /\ PB w1.heap.size w1.heap.size (l0 ++ lineT 0 c4 ++ tb ++ lineT 0 ([125] : Str)) w' /\ Below w1.heap.size W w' /\ Fr w1.heap.size W w' from fun W z => line_any w1.heap.size w1.heap.size (l0 ++ lineT 0 c4 ++ tb) [125] 0 W (by decide) z.pb (by rw [List.length_append, List.length_append, lineT_len]; simp only [List.length_cons, List.length_nil]; omega) z.sz)
    have HEND := hI (show l0 ++ lineT 0 c4 ++ tb ++ lineT 0 ([125] : Str) = TD ++ ((os.take (q + 1)).map operT).flatten by rw [HSN.out, hTX, hl0]; simp only [List.append_assoc])
    clear hx hb hS hrow hrow2 hl hq hxl hxf hxw hss hsb hl1 hl2 hJ htj htb hTX hTXl hl0 hl0l hsd hbase hol hol2 hc1 lc1 hc2 lc2 hc3 lc3 hc4 lc4
    go_upto_region 13 with fail
    have z1 := z0.drew
    go_region_held3 (fun W => (W.cell? ⟨wr.heap.size, 0, none⟩ = some (.string (bs xn)) /\ W.cell? ⟨wr.heap.size, 1, none⟩ = some (.slice P2 np2 cp2) /\ W.cell? ⟨wr.heap.size, 2, none⟩ = some (.slice B2 nb2 cb2))) (exact HC.out _ _ (by assumption)) (first
     | (go_at_call 26; refine (HJN.out _ _ (by assumption)).mono ?_; rintro e wt ⟨rfl, hb⟩; have zt := Pz.next (by assumption) hb; clear hb)
     | (go_at_call 25; refine (HL1.out _ (by assumption)).mono ?_; rintro e ws ⟨rfl, hp', hb', hf'⟩; have zs := Pz.put (by assumption) hp' hb' hf'; clear hp' hb' hf'))
    all_goals
     obtain ⟨c0, c1', c2'⟩ := HC.out _ _ zs
     go_wp2_with fail
     refine (HA1.out _ zs).mono ?_
     rintro e w5 ⟨rfl, hp', hb', hf'⟩
     have z5 := zs.put hp' hb' hf'
     clear hp' hb' hf' c0 c1' c2'
     go_wp2_with fail
     refine (HL2.out _ z5).mono ?_
     rintro e w6 ⟨rfl, hp', hb', hf'⟩
     have z6 := z5.put hp' hb' hf'
     clear hp' hb' hf'
     have Z6 : Hid (PB w1.heap.size w1.heap.size (TD ++ ((os.take (q + 1)).map operT).flatten) w6 /\ Below w1.heap.size w2 w6 /\ w1.heap.size <= w6.heap.size) := hI ⟨by rw [<- HEND.out]; exact z6.pb, Z.out.2.1.trans z6.bl, z6.sz⟩
     go_wp2
     go_roundw
     case rel => exact ⟨q + 1, HQL.out, by go_num, Z6⟩
     case measure => exact meas_up _ _ HQL.out
   have hi2 : ¬ (q : Int) < (no : Int) := by have := HNO.out; omega
   have hqo : os.take q = os := List.take_of_length_le (by omega)
   have HOD := hI (HOL.out q)
   rw [hqo] at Z HOD
   obtain ⟨T, hT⟩ : ∃ T, T = TD ++ (os.map operT).flatten := ⟨_, rfl⟩
   have hTP : txP ⟨ds, os⟩ = T := by rw [hT, HTD.out]; rfl
   have HLEN := hI (show T.length <= 98000000 by rw [hT, List.length_append]; have := HSD.out; have := HOD.out; omega)
   rw [hTP] at HTS HTE
   rw [<- hT] at Z
   have HLN := hI (len_any w1.heap.size w1.heap.size T wr Z.out.1.1)
   have HST := hI (string_any w1.heap.size w1.heap.size T wr Z.out.1)
   clear hl hq hqo hT hTP HOL
   go_wp2_with fail
   refine HLN.out.mono ?_
   rintro e w5 ⟨rfl, h⟩
   subst w5
   by_cases hbig : 65536 < (T.length : Int)
   ·have HR1 := hI (show TS = [] by rw [HTS.out, if_pos (by omega)])
    have HR2 := hI (show TE = 7 by rw [HTE.out, if_pos (by omega)])
    go_wp2
    go_ret2
    exact ⟨by rw [HR1.out, HR2.out]; rfl, (HXW.out _ Z.out.2.1).2⟩
   have HR1 := hI (show TS = T by rw [HTS.out, if_neg (by omega)])
   have HR2 := hI (show TE = 0 by rw [HTE.out, if_neg (by omega)])
   go_wp2_with fail
   refine HST.out.mono ?_
   rintro e w6 ⟨rfl, hb6⟩
   have HB6 := hI ((HXW.out _ (Z.out.2.1.trans hb6)).2)
   clear hb6
   go_wp2
   go_ret2
   exact ⟨by rw [HR1.out, HR2.out]; rfl, HB6.out⟩
theorem print_any (p : Prog') (v : Value) (S : Nat -> Prop) (w : World) (hw : SxW w) (hp : PV w S p v) (hf : p.Few2) :
  Calls Tryz.prog 11 #[v] w fun e w' => e = .returned (.tuple #[.string (bs (printS p)), .int .i64 (printE p)]) /\ Below w.heap.size w w' := by
 unfold printS printE
 by_cases hc : chkP p = 0
 ·rw [if_neg (show ¬ chkP p ≠ 0 by simp [hc]), if_neg (show ¬ chkP p ≠ 0 by simp [hc])]
  exact print_ok p v S w hw hp hf hc
 rw [if_pos hc, if_pos hc]
 exact print_bad p v S w hw hp hf hc
open Go.RowKit
theorem alone_few2 {e : Ex} (h : e.size <= 9000) : (aloneP e).Few2 := by
 refine ⟨Nat.zero_le _, show 1 <= 10000 from by omega, fun o ho => ?_⟩
 rw [List.mem_singleton.1 ho]
 simp only [St.sizes, St.size]
 omega
theorem alone_any (x : Ex) (cs : List Value) (w : World) (S : Nat -> Prop) (h : XV w S x cs) : Calls Tryz.prog 12 #[.agg cs.toArray] w fun e w' => ∃ v, e = .returned v /\ PV w' (fun _ => True) (aloneP x) v /\ Below w.heap.size w w' := by
 obtain ⟨xx, hxx⟩ : ∃ z, z = x := ⟨_, rfl⟩
 have HXX := hI hxx
 rw [<- hxx]
 obtain ⟨k1, n1, s1, m1, a1, o1⟩ := x
 obtain ⟨A1, na1, ca1, O1, no1, co1, rfl, -, -⟩ := h.open_
 rw [show (exC k1 n1 s1 m1 A1 na1 ca1 O1 no1 co1).toArray = #[.int .i64 k1, .int .i64 n1, .string (bs s1), .string (bs m1), .slice A1 na1 ca1, .slice O1 no1 co1] from rfl]
 obtain ⟨wa, hwa⟩ : ∃ W, W = w.alloc (.cells #[.int .i64 k1, .int .i64 n1, .string (bs s1), .string (bs m1), .slice A1 na1 ca1, .slice O1 no1 co1] 27) := ⟨_, rfl⟩
 obtain ⟨wb, hwb⟩ : ∃ W, W = wa.alloc (.cells #[.slice none 0 0, .slice none 0 0] 36) := ⟨_, rfl⟩
 obtain ⟨wS, hwS⟩ : ∃ W, W = wb.alloc (.cells #[.int .i64 5, .string { data := #[] }, .int .i64 0, .int .i64 k1, .int .i64 n1, .string (bs s1), .string (bs m1), .slice A1 na1 ca1, .slice O1 no1 co1, .slice none 0 0, .slice none 0 0] 74) := ⟨_, rfl⟩
 obtain ⟨wO, hwO⟩ : ∃ W, W = wS.alloc (.cells #[.string { data := #[120] }, .slice none 0 0, .slice (some ⟨w.heap.size + 2, 0, none⟩) 1 1] 76) := ⟨_, rfl⟩
 have ha : Below w.heap.size w wa := by rw [hwa]; exact (Below.refl _ _).alloc (Nat.le_refl _) _
 have hb : Below wa.heap.size wa wb := by rw [hwb]; exact (Below.refl _ _).alloc (Nat.le_refl _) _
 have hS : Below wb.heap.size wb wS := by rw [hwS]; exact (Below.refl _ _).alloc (Nat.le_refl _) _
 have hO : Below wS.heap.size wS wO := by rw [hwO]; exact (Below.refl _ _).alloc (Nat.le_refl _) _
 have sa : wa.heap.size = w.heap.size + 1 := by rw [hwa]; exact World.size_alloc ..
 have sb : wb.heap.size = w.heap.size + 2 := by rw [hwb, World.size_alloc, sa]
 have sS : wS.heap.size = w.heap.size + 3 := by rw [hwS, World.size_alloc, sb]
 have qx : XB wb w.heap.size #[.int .i64 k1, .int .i64 n1, .string (bs s1), .string (bs m1), .slice A1 na1 ca1, .slice O1 no1 co1] := XB.below (w := wa) (show wa.heap[w.heap.size]? = _ from by rw [hwa]; exact heap_alloc_new w _) hb
 have qr : HB 36 wO (w.heap.size + 1) #[.slice none 0 0, .slice none 0 0] := HB.below (HB.below (show HB 36 wb _ _ from by rw [<- sa, hwb]; exact heap_alloc_new wa _) hS) hO
 have qS : wO.heap[w.heap.size + 2]? = some (.cells #[.int .i64 5, .string { data := #[] }, .int .i64 0, .int .i64 k1, .int .i64 n1, .string (bs s1), .string (bs m1), .slice A1 na1 ca1, .slice O1 no1 co1, .slice none 0 0, .slice none 0 0] 74 (0, 0)) := by rw [hO.block _ (by omega), <- sb, hwS]; exact heap_alloc_new wb _
 have qO : wO.heap[w.heap.size + 3]? = some (.cells #[.string { data := #[120] }, .slice none 0 0, .slice (some ⟨w.heap.size + 2, 0, none⟩) 1 1] 76 (0, 0)) := by rw [<- sS, hwO]; exact heap_alloc_new wS _
 have hbO : Below w.heap.size w wO := ha.trans ((hb.mono (by omega)).trans ((hS.mono (by omega)).trans (hO.mono (by omega))))
 have QX := hI qx
 have QR := hI qr
 have BO := hI hbO
 have PVO := hI (alone_pv (S := fun k => k ≠ w.heap.size + 1) (by rw [HXX.out]; exact XV.keep (S' := fun k => k ≠ w.heap.size + 1) hbO.size (fun k hk _ => hbO.block k hk) (fun k hk _ => by omega) h) qS qO (by omega) (by omega) : PV wO (fun k => k ≠ w.heap.size + 1) (aloneP xx) _)
 clear h ha hb hS hO sa sb sS qx qr qS qO hbO hxx
 rw [hwa] at hwb
 rw [hwb] at hwS
 rw [hwS] at hwO
 go_enter Tryz.func12, Tryz.ntmps12
 go_upto_region 1 with fail
 rw [<- hwb]
 go_wp2_with (with_reducible refine at_load_ (t := 27) ?_; refine Hid.out ?_)
 refine hI ?_
 refine xb_load rfl _ rfl w.heap.size rfl QX.out rfl ?_
 go_wp2_with (with_reducible refine at_store_ (t := 36) ?_; refine Hid.out ?_)
 refine hI ?_
 rw [show w.heap.size + 1 + 1 + 1 = w.heap.size + 3 from rfl, show w.heap.size + 1 + 1 = w.heap.size + 2 from rfl]
 rw [<- hwO]
 clear hwO hwb hwS hwa
 refine hb_put rfl _ _ rfl rfl (w.heap.size + 1) rfl rfl pr_size (by simp [Value.oneCell']) QR.out rfl ?_
 intro wz hxz hgz hsz
 clear hsz
 have XZ := hI hxz
 have BZ := hI (BO.out.trans (below_gr hgz (B := w.heap.size) BO.out.size (Nat.le_succ _)))
 have HVZ := hI (PVO.out.gr (S' := fun _ => True) hgz (fun k _ hk => ⟨hk, trivial⟩))
 clear hxz hgz QX QR BO PVO
 go_wp2_with fail
 refine bodyPost_ret (results_cell_row rfl _ _ (w.heap.size + 1) _ _ _ _ rfl XZ.out Tryz.underlying36 rfl pr_size) rfl ?_
 exact ⟨_, rfl, HVZ.out, BZ.out⟩
/-- The chapter's example. -/
def exX : Ex := .mk 5 0 [] [45] [.mk 5 0 [] [43] [.mk 0 1 [] [] [] [], .mk 5 0 [] [42] [.mk 0 2 [] [] [] [], .mk 4 0 [] [] [.mk 2 0 [120] [] [] []] []] []] [], .mk 0 3 [] [] [] []] []
def exXs : Str := [49, 32, 43, 32, 50, 32, 42, 32, 45, 120, 32, 45, 32, 51]
def exXt : Str := [111, 112, 32, 120, 40, 41, 32, 123, 10, 32, 32, 114, 101, 116, 117, 114, 110, 32, 40, 49, 32, 43, 32, 40, 50, 32, 42, 32, 40, 45, 120, 41, 41, 41, 32, 45, 32, 51, 59, 10, 125, 10]
def exYs : Str := [111, 112, 32, 102, 40, 41, 32, 123, 32, 49, 59, 32, 125]
theorem exX_prE : prE exXs = (exX, 0, 0) := by kernel_rfl
theorem exX_txt : printS (aloneP exX) = exXt := by decide +kernel
theorem exX_err : printE (aloneP exX) = 0 := by decide +kernel
theorem exY_prP : prP exYs = (emP, 9, 5) := by kernel_rfl
theorem awake_any (w : World) (hw : WW w) : Calls Tryz.prog 13 #[] w fun e w' => e = .returned (.bool true) /\ Below w.heap.size w w' := by
 have hk := pexpr_any exXs w hw (by decide)
 rw [exX_prE] at hk
 dsimp only at hk
 have K := hI (show Calls _ _ #[.string { data := #[49, 32, 43, 32, 50, 32, 42, 32, 45, 120, 32, 45, 32, 51] }] _ _ from hk)
 have HW := hI hw
 have K3 := hI (show ∀ W, WW W -> Calls Tryz.prog 14 #[.string { data := #[111, 112, 32, 102, 40, 41, 32, 123, 32, 49, 59, 32, 125] }] W fun e w' => ∃ v, e = .returned (.tuple #[v, .int .i64 9, .int .i64 5]) /\ PV w' (fun b => W.heap.size <= b) emP v /\ Below W.heap.size W w' from fun W hW => by
  have h := parse_any exYs W hW (by decide)
  rw [exY_prP] at h
  exact h)
 clear hw hk
 go_enter Tryz.func13, Tryz.ntmps13
 go_wp2_with fail
 refine K.out.mono ?_
 rintro e w1 ⟨cs, rfl, hv, hb⟩
 obtain ⟨A1, na1, ca1, O1, no1, co1, rfl, -, -⟩ := XV.open_ (show XV w1 _ exX cs from hv)
 rw [show (exC 5 0 [] [45] A1 na1 ca1 O1 no1 co1).toArray = #[.int .i64 5, .int .i64 0, .string { data := #[] }, .string { data := #[45] }, .slice A1 na1 ca1, .slice O1 no1 co1] from rfl]
 obtain ⟨w2, hw2⟩ : ∃ W, W = w1.alloc (.cells #[.int .i64 5, .int .i64 0, .string { data := #[] }, .string { data := #[45] }, .slice A1 na1 ca1, .slice O1 no1 co1] 27) := ⟨_, rfl⟩
 have hb2 : Below w1.heap.size w1 w2 := by rw [hw2]; exact (Below.refl _ _).alloc (Nat.le_refl _) _
 have YB := hI (show XB w2 w1.heap.size _ from by rw [hw2]; exact heap_alloc_new w1 _)
 have HV := hI (hv.below hb2)
 have B2 := hI (hb.trans (hb2.mono hb.size))
 clear hv hb hb2 K
 go_upto_region 2 with fail
 rw [<- hw2]
 clear hw2
 go_wp2_with (with_reducible refine at_load_ (t := 27) ?_; refine Hid.out ?_)
 refine hI ?_
 refine xb_load rfl _ rfl w1.heap.size rfl YB.out rfl ?_
 have KA := hI (alone_any exX _ w2 _ HV.out)
 clear HV YB
 go_wp2_with fail
 refine KA.out.mono ?_
 rintro e w3 ⟨v, rfl, hp, hb⟩
 have B3 := hI (B2.out.trans (hb.mono B2.out.size))
 have HP := hI hp
 clear hp hb KA B2
 have kp := print_any (aloneP exX) v _ w3 (HW.out.below B3.out).sx HP.out (alone_few2 (by decide))
 rw [exX_txt, exX_err] at kp
 have KP := hI kp
 clear kp HP
 go_wp2_with fail
 refine KP.out.mono ?_
 rintro e w4 ⟨rfl, hb⟩
 have B4 := hI (B3.out.trans (hb.mono B3.out.size))
 clear hb KP B3
 go_wp2_with fail
 refine (K3.out w4 (HW.out.below B4.out)).mono ?_
 rintro e w5 ⟨u, rfl, hp, hb⟩
 obtain ⟨D, nd, cd, O, no, co, rfl, -, -⟩ := hp
 have B5 := hI (B4.out.trans (hb.mono B4.out.size))
 have hxt : (bs exXt).toList = [111, 112, 32, 120, 40, 41, 32, 123, 10, 32, 32, 114, 101, 116, 117, 114, 110, 32, 40, 49, 32, 43, 32, 40, 50, 32, 42, 32, 40, 45, 120, 41, 41, 41, 32, 45, 32, 51, 59, 10, 125, 10] := bs_toList _
 have hxe : (bs exXt) = { data := #[111, 112, 32, 120, 40, 41, 32, 123, 10, 32, 32, 114, 101, 116, 117, 114, 110, 32, 40, 49, 32, 43, 32, 40, 50, 32, 42, 32, 40, 45, 120, 41, 41, 41, 32, 45, 32, 51, 59, 10, 125, 10] } := rfl
 clear hb K3 B4
 go_wp2
 go_ret
 exact ⟨rfl, B5.out.alloc B5.out.size _⟩
open Go.RowKit
/-- Whether two things are equal. -/
noncomputable def eqC {α : Type} (a b : α) : Bool := @decide (a = b) (Classical.propDecidable _)
theorem eqC_pos {α : Type} {a b : α} (h : a = b) : eqC a b = true := by unfold eqC; simpa using h
theorem eqC_neg {α : Type} {a b : α} (h : a ≠ b) : eqC a b = false := by unfold eqC; simpa using h
theorem take_next {α : Type} {l1 l2 : List α} {q : Nat} {x y : α} (h : l1.take q = l2.take q) (h1 : l1[q]? = some x) (h2 : l2[q]? = some y) (e : x = y) : l1.take (q + 1) = l2.take (q + 1) := by
 rw [List.take_add_one, List.take_add_one, h, h1, h2, e]
theorem range3 {w : World} {b o : Nat} {u0 u1 u2 : Value} (h : w.rangeAt b o [u0, u1, u2]) : w.cell? ⟨b, o, none⟩ = some u0 /\ w.cell? ⟨b, o + 1, none⟩ = some u1 /\ w.cell? ⟨b, o + 2, none⟩ = some u2 := ⟨h 0 _ rfl, h 1 _ rfl, h 2 _ rfl⟩
def SameE (x y : Ex) : Prop := ∀ (w : World) (S S' : Nat -> Prop) (cs ds : List Value), XV w S x cs -> XV w S' y ds ->
 Calls Tryz.prog 95 #[.agg cs.toArray, .agg ds.toArray] w fun e' w' => e' = .returned (.bool (eqC x y)) /\ Below w.heap.size w w'
def SameS (x y : St) : Prop := ∀ (w : World) (S S' : Nat -> Prop) (cs ds : List Value), SV w S x cs -> SV w S' y ds ->
 Calls Tryz.prog 68 #[.agg cs.toArray, .agg ds.toArray] w fun e' w' => e' = .returned (.bool (eqC x y)) /\ Below w.heap.size w w'
def SameO (x y : Oper') : Prop := ∀ (w : World) (S S' : Nat -> Prop) (cs ds : List Value), OV w S x cs -> OV w S' y ds ->
 Calls Tryz.prog 38 #[.agg cs.toArray, .agg ds.toArray] w fun e' w' => e' = .returned (.bool (eqC x y)) /\ Below w.heap.size w w'
def SameEL (l1 l2 : List Ex) : Prop := ∀ (w : World) (S S' : Nat -> Prop) (A A' : Option Addr) (n c n' c' : Nat), XL w S A n c l1 -> XL w S' A' n' c' l2 -> n <= 1000000 ->
 Calls Tryz.prog 119 #[.slice A n c, .slice A' n' c', .func (.func 95) #[] #[]] w fun e' w' => e' = .returned (.bool (eqC l1 l2)) /\ Below w.heap.size w w'
def SameSL (l1 l2 : List St) : Prop := ∀ (w : World) (S S' : Nat -> Prop) (A A' : Option Addr) (n c n' c' : Nat), SL w S A n c l1 -> SL w S' A' n' c' l2 -> n <= 1000000 ->
 Calls Tryz.prog 67 #[.slice A n c, .slice A' n' c', .func (.func 68) #[] #[]] w fun e' w' => e' = .returned (.bool (eqC l1 l2)) /\ Below w.heap.size w w'
def SameOL (l1 l2 : List Oper') : Prop := ∀ (w : World) (S S' : Nat -> Prop) (A A' : Option Addr) (n c n' c' : Nat), OL w S A n c l1 -> OL w S' A' n' c' l2 -> n <= 1000000 ->
 Calls Tryz.prog 37 #[.slice A n c, .slice A' n' c', .func (.func 38) #[] #[]] w fun e' w' => e' = .returned (.bool (eqC l1 l2)) /\ Below w.heap.size w w'
theorem SameEL.of {l1 l2 : List Ex} (h : ∀ x ∈ l1, ∀ y ∈ l2, SameE x y) : SameEL l1 l2 := by
 intro w S S' A A' n c n' c' hl hl2 hn
 have HIN := hI h
 have HL := hI hl
 have HL2 := hI hl2
 have HLEN := hI hl.1.1
 have HLEN2 := hI hl2.1.1
 have hn6 : (n : Int) <= 1000000 := by omega
 have HPOS := hI (show l1 = l2 -> eqC l1 l2 = true from eqC_pos)
 have HNEG := hI (show l1 ≠ l2 -> eqC l1 l2 = false from eqC_neg)
 generalize eqC l1 l2 = E at *
 have hb0 : Below w.heap.size w w := Below.refl _ _
 clear h hl hl2 hn
 by_cases hnn : n' = n
 ·subst hnn
  go_enter Tryz.func119, Tryz.ntmps119
  go_wp2_with fail
  go_loopw [17] (fun i wx => ∃ q : Nat, q <= l1.length /\ i = .int .i64 q /\ Hid (l1.take q = l2.take q) /\ Below w.heap.size w wx) (fun i _ => l1.length - (intOf i).toNat)
  case atStart => exact ⟨0, Nat.zero_le _, rfl, hI (by rw [List.take_zero, List.take_zero]), hb0⟩
  case round =>
   clear hb0
   obtain ⟨q, hq, rfl, n3, zq⟩ := hrel
   by_cases hlq : q < l1.length
   ·have hi2 : (q : Int) < (n' : Int) := by have := HLEN.out; omega
    obtain ⟨x, b, off, cs, hx, rfl, hb, hS, hxv, hrow⟩ := HL.out.at q (by have := HLEN.out; omega)
    obtain ⟨y, b2, off2, ds, hy, rfl, hb2, hS2, hyv, hrow2⟩ := HL2.out.at q (by have := HLEN.out; omega)
    have HXV := hI hxv
    have HYV := hI hyv
    have HQL := hI hlq
    have HXQ := hI hx
    have HYQ := hI hy
    have HIH := hI (HIN.out x (List.mem_of_getElem? hx) y (List.mem_of_getElem? hy))
    have EP := hI (show x = y -> eqC x y = true from eqC_pos)
    have EN := hI (show x ≠ y -> eqC x y = false from eqC_neg)
    unfold SameE at HIH
    generalize eqC x y = v at *
    have hrow3 := rangeAt_keep hrow (zq.block b hb)
    obtain ⟨k1, n1, s1, m1, a1, o1⟩ := x
    obtain ⟨A1, na1, ca1, O1, no1, co1, rfl, -, -⟩ := hxv.open_
    obtain ⟨c0, c1, c2, c3, c4, c5⟩ := exC_at hrow3
    have zq1 := zq.alloc zq.size (.cells #[.int .i64 k1, .int .i64 n1, .string (bs s1), .string (bs m1), .slice A1 na1 ca1, .slice O1 no1 co1] 27)
    have hrow4 := rangeAt_keep hrow2 (zq1.block b2 hb2)
    obtain ⟨k2, n2, s2, m2, a2, o2⟩ := y
    obtain ⟨A2, na2, ca2, O2, no2, co2, rfl, -, -⟩ := hyv.open_
    obtain ⟨d0, d1, d2, d3, d4, d5⟩ := exC_at hrow4
    clear hx hy hb hb2 hS hS2 hxv hyv hrow hrow2 hrow3 hrow4 hlq hq
    unfold exC at HXV HYV
    have zq2 := zq1.alloc zq1.size (.cells #[.int .i64 k2, .int .i64 n2, .string (bs s2), .string (bs m2), .slice A2 na2 ca2, .slice O2 no2 co2] 27)
    have HXV := hI (HXV.out.below zq2)
    have HYV := hI (HYV.out.below zq2)
    have HC2 := HIH.out _ S S' _ _ HXV.out HYV.out
    have HC2 := hI HC2
    go_wp2_with fail
    refine HC2.out.mono ?_
    rintro e' w2 ⟨rfl, hb2⟩
    have zq3 := zq2.trans (hb2.mono zq2.size)
    clear HC2 hb2 c0 c1 c2 c3 c4 c5 d0 d1 d2 d3 d4 d5 zq zq1 zq2 HIH HXV HYV
    cases v with
    | true =>
     go_wp2
     go_roundw
     case rel => exact ⟨q + 1, HQL.out, by go_num, hI (take_next n3.out HXQ.out HYQ.out (Classical.byContradiction fun h => by have := EN.out h; cases this)), zq3⟩
     case measure => exact meas_up _ _ HQL.out
    | false =>
     have HR := hI (show E = false from HNEG.out fun e => by
      have h1 := HXQ.out
      rw [e, HYQ.out] at h1
      have := EP.out (Option.some.inj h1).symm
      cases this)
     go_wp2
     go_ret
     exact ⟨congrArg (fun v => Ending.returned (.bool v)) HR.out.symm, zq3⟩
   have hi2 : ¬ (q : Int) < (n' : Int) := by have := HLEN.out; omega
   have HR := hI (show E = true from HPOS.out (by
    have h := n3.out
    rwa [List.take_of_length_le (by omega), List.take_of_length_le (by have := HLEN.out; have := HLEN2.out; omega)] at h))
   clear hlq hq n3
   go_wp2
   go_ret
   exact ⟨congrArg (fun v => Ending.returned (.bool v)) HR.out.symm, zq⟩
 have HR := hI (show E = false from HNEG.out fun e => hnn (by have h1 := HLEN.out; have h2 := HLEN2.out; rw [e] at h1; omega))
 have hne : ¬ (n : Int) = (n' : Int) := by omega
 clear hnn HL HL2 HIN
 go_enter Tryz.func119, Tryz.ntmps119
 go_wp2
 go_ret
 exact ⟨congrArg (fun v => Ending.returned (.bool v)) HR.out.symm, hb0⟩
theorem SameSL.of {l1 l2 : List St} (h : ∀ x ∈ l1, ∀ y ∈ l2, SameS x y) : SameSL l1 l2 := by
 intro w S S' A A' n c n' c' hl hl2 hn
 have HIN := hI h
 have HL := hI hl
 have HL2 := hI hl2
 have HLEN := hI hl.1.1
 have HLEN2 := hI hl2.1.1
 have hn6 : (n : Int) <= 1000000 := by omega
 have HPOS := hI (show l1 = l2 -> eqC l1 l2 = true from eqC_pos)
 have HNEG := hI (show l1 ≠ l2 -> eqC l1 l2 = false from eqC_neg)
 generalize eqC l1 l2 = E at *
 have hb0 : Below w.heap.size w w := Below.refl _ _
 clear h hl hl2 hn
 by_cases hnn : n' = n
 ·subst hnn
  go_enter Tryz.func67, Tryz.ntmps67
  go_wp2_with fail
  go_loopw [17] (fun i wx => ∃ q : Nat, q <= l1.length /\ i = .int .i64 q /\ Hid (l1.take q = l2.take q) /\ Below w.heap.size w wx) (fun i _ => l1.length - (intOf i).toNat)
  case atStart => exact ⟨0, Nat.zero_le _, rfl, hI (by rw [List.take_zero, List.take_zero]), hb0⟩
  case round =>
   clear hb0
   obtain ⟨q, hq, rfl, n3, zq⟩ := hrel
   by_cases hlq : q < l1.length
   ·have hi2 : (q : Int) < (n' : Int) := by have := HLEN.out; omega
    obtain ⟨x, b, off, cs, hx, rfl, hb, hS, hxv, hrow⟩ := HL.out.at q (by have := HLEN.out; omega)
    obtain ⟨y, b2, off2, ds, hy, rfl, hb2, hS2, hyv, hrow2⟩ := HL2.out.at q (by have := HLEN.out; omega)
    have HXV := hI hxv
    have HYV := hI hyv
    have HQL := hI hlq
    have HXQ := hI hx
    have HYQ := hI hy
    have HIH := hI (HIN.out x (List.mem_of_getElem? hx) y (List.mem_of_getElem? hy))
    have EP := hI (show x = y -> eqC x y = true from eqC_pos)
    have EN := hI (show x ≠ y -> eqC x y = false from eqC_neg)
    unfold SameS at HIH
    generalize eqC x y = v at *
    have hrow3 := rangeAt_keep hrow (zq.block b hb)
    obtain ⟨k1, s1, n1, e1, b1, l1⟩ := x
    obtain ⟨ex1, B1, nb1, cb1, L1, nl1, cl1, rfl, hex1, -, -⟩ := hxv.open_
    obtain ⟨ek1, en1, es1, em1, ea1, eo1⟩ := e1
    obtain ⟨A1, na1, ca1, O1, no1, co1, rfl, -, -⟩ := hex1.open_
    clear hex1
    obtain ⟨c0, c1, c2, c3, c4, c5, c6, c7, c8, c9, c10⟩ := stC_at hrow3
    have zq1 := zq.alloc zq.size (.cells #[.int .i64 k1, .string (bs s1), .int .i64 n1, .int .i64 ek1, .int .i64 en1, .string (bs es1), .string (bs em1), .slice A1 na1 ca1, .slice O1 no1 co1, .slice B1 nb1 cb1, .slice L1 nl1 cl1] 74)
    have hrow4 := rangeAt_keep hrow2 (zq1.block b2 hb2)
    obtain ⟨k2, s2, n2, e2, b2, l2⟩ := y
    obtain ⟨ex2, B2, nb2, cb2, L2, nl2, cl2, rfl, hex2, -, -⟩ := hyv.open_
    obtain ⟨ek2, en2, es2, em2, ea2, eo2⟩ := e2
    obtain ⟨A2, na2, ca2, O2, no2, co2, rfl, -, -⟩ := hex2.open_
    clear hex2
    obtain ⟨d0, d1, d2, d3, d4, d5, d6, d7, d8, d9, d10⟩ := stC_at hrow4
    clear hx hy hb hb2 hS hS2 hxv hyv hrow hrow2 hrow3 hrow4 hlq hq
    unfold stC exC at HXV HYV
    simp only [List.cons_append, List.nil_append] at HXV HYV
    have zq2 := zq1.alloc zq1.size (.cells #[.int .i64 k2, .string (bs s2), .int .i64 n2, .int .i64 ek2, .int .i64 en2, .string (bs es2), .string (bs em2), .slice A2 na2 ca2, .slice O2 no2 co2, .slice B2 nb2 cb2, .slice L2 nl2 cl2] 74)
    have HXV := hI (HXV.out.below zq2)
    have HYV := hI (HYV.out.below zq2)
    have HC2 := HIH.out _ S S' _ _ HXV.out HYV.out
    have HC2 := hI HC2
    go_wp2_with fail
    refine HC2.out.mono ?_
    rintro e' w2 ⟨rfl, hb2⟩
    have zq3 := zq2.trans (hb2.mono zq2.size)
    clear HC2 hb2 c0 c1 c2 c3 c4 c5 c6 c7 c8 c9 c10 d0 d1 d2 d3 d4 d5 d6 d7 d8 d9 d10 zq zq1 zq2 HIH HXV HYV
    cases v with
    | true =>
     go_wp2
     go_roundw
     case rel => exact ⟨q + 1, HQL.out, by go_num, hI (take_next n3.out HXQ.out HYQ.out (Classical.byContradiction fun h => by have := EN.out h; cases this)), zq3⟩
     case measure => exact meas_up _ _ HQL.out
    | false =>
     have HR := hI (show E = false from HNEG.out fun e => by
      have h1 := HXQ.out
      rw [e, HYQ.out] at h1
      have := EP.out (Option.some.inj h1).symm
      cases this)
     go_wp2
     go_ret
     exact ⟨congrArg (fun v => Ending.returned (.bool v)) HR.out.symm, zq3⟩
   have hi2 : ¬ (q : Int) < (n' : Int) := by have := HLEN.out; omega
   have HR := hI (show E = true from HPOS.out (by
    have h := n3.out
    rwa [List.take_of_length_le (by omega), List.take_of_length_le (by have := HLEN.out; have := HLEN2.out; omega)] at h))
   clear hlq hq n3
   go_wp2
   go_ret
   exact ⟨congrArg (fun v => Ending.returned (.bool v)) HR.out.symm, zq⟩
 have HR := hI (show E = false from HNEG.out fun e => hnn (by have h1 := HLEN.out; have h2 := HLEN2.out; rw [e] at h1; omega))
 have hne : ¬ (n : Int) = (n' : Int) := by omega
 clear hnn HL HL2 HIN
 go_enter Tryz.func67, Tryz.ntmps67
 go_wp2
 go_ret
 exact ⟨congrArg (fun v => Ending.returned (.bool v)) HR.out.symm, hb0⟩
theorem SameOL.of {l1 l2 : List Oper'} (h : ∀ x ∈ l1, ∀ y ∈ l2, SameO x y) : SameOL l1 l2 := by
 intro w S S' A A' n c n' c' hl hl2 hn
 have HIN := hI h
 have HL := hI hl
 have HL2 := hI hl2
 have HLEN := hI hl.1
 have HLEN2 := hI hl2.1
 have hn6 : (n : Int) <= 1000000 := by omega
 have HPOS := hI (show l1 = l2 -> eqC l1 l2 = true from eqC_pos)
 have HNEG := hI (show l1 ≠ l2 -> eqC l1 l2 = false from eqC_neg)
 generalize eqC l1 l2 = E at *
 have hb0 : Below w.heap.size w w := Below.refl _ _
 clear h hl hl2 hn
 by_cases hnn : n' = n
 ·subst hnn
  go_enter Tryz.func37, Tryz.ntmps37
  go_wp2_with fail
  go_loopw [17] (fun i wx => ∃ q : Nat, q <= l1.length /\ i = .int .i64 q /\ Hid (l1.take q = l2.take q) /\ Below w.heap.size w wx) (fun i _ => l1.length - (intOf i).toNat)
  case atStart => exact ⟨0, Nat.zero_le _, rfl, hI (by rw [List.take_zero, List.take_zero]), hb0⟩
  case round =>
   clear hb0
   obtain ⟨q, hq, rfl, n3, zq⟩ := hrel
   by_cases hlq : q < l1.length
   ·have hi2 : (q : Int) < (n' : Int) := by have := HLEN.out; omega
    obtain ⟨b, off, cs, rfl, hb, hS, ⟨x, hx, hxv⟩, hrow⟩ := HL.out.2.at q (by have := HLEN.out; omega)
    obtain ⟨b2, off2, ds, rfl, hb2, hS2, ⟨y, hy, hyv⟩, hrow2⟩ := HL2.out.2.at q (by have := HLEN.out; omega)
    have HXV := hI hxv
    have HYV := hI hyv
    have HQL := hI hlq
    have HXQ := hI hx
    have HYQ := hI hy
    have HIH := hI (HIN.out x (List.mem_of_getElem? hx) y (List.mem_of_getElem? hy))
    have EP := hI (show x = y -> eqC x y = true from eqC_pos)
    have EN := hI (show x ≠ y -> eqC x y = false from eqC_neg)
    unfold SameO at HIH
    generalize eqC x y = v at *
    have hrow3 := rangeAt_keep hrow (zq.block b hb)
    obtain ⟨P1, np1, cp1, B1, nb1, cb1, rfl, -, -⟩ := id hxv
    obtain ⟨c0, c1, c2⟩ := range3 hrow3
    have zq1 := zq.alloc zq.size (.cells #[.string (bs x.name), .slice P1 np1 cp1, .slice B1 nb1 cb1] 76)
    have hrow4 := rangeAt_keep hrow2 (zq1.block b2 hb2)
    obtain ⟨P2, np2, cp2, B2, nb2, cb2, rfl, -, -⟩ := id hyv
    obtain ⟨d0, d1, d2⟩ := range3 hrow4
    clear hx hy hb hb2 hS hS2 hxv hyv hrow hrow2 hrow3 hrow4 hlq hq
    have ha1 : True := trivial
    have zq2 := zq1.alloc zq1.size (.cells #[.string (bs y.name), .slice P2 np2 cp2, .slice B2 nb2 cb2] 76)
    have HXV := hI (HXV.out.keep zq2.size (fun b hlt _ => zq2.block b hlt) (fun _ _ h => h))
    have HYV := hI (HYV.out.keep zq2.size (fun b hlt _ => zq2.block b hlt) (fun _ _ h => h))
    have HC2 := HIH.out _ S S' _ _ HXV.out HYV.out
    have HC2 := hI HC2
    go_wp2_with fail
    refine HC2.out.mono ?_
    rintro e' w2 ⟨rfl, hb2⟩
    have zq3 := zq2.trans (hb2.mono zq2.size)
    clear HC2 hb2 c0 c1 c2 d0 d1 d2 zq zq1 zq2 HIH HXV HYV
    cases v with
    | true =>
     go_wp2
     go_roundw
     case rel => exact ⟨q + 1, HQL.out, by go_num, hI (take_next n3.out HXQ.out HYQ.out (Classical.byContradiction fun h => by have := EN.out h; cases this)), zq3⟩
     case measure => exact meas_up _ _ HQL.out
    | false =>
     have HR := hI (show E = false from HNEG.out fun e => by
      have h1 := HXQ.out
      rw [e, HYQ.out] at h1
      have := EP.out (Option.some.inj h1).symm
      cases this)
     go_wp2
     go_ret
     exact ⟨congrArg (fun v => Ending.returned (.bool v)) HR.out.symm, zq3⟩
   have hi2 : ¬ (q : Int) < (n' : Int) := by have := HLEN.out; omega
   have HR := hI (show E = true from HPOS.out (by
    have h := n3.out
    rwa [List.take_of_length_le (by omega), List.take_of_length_le (by have := HLEN.out; have := HLEN2.out; omega)] at h))
   clear hlq hq n3
   go_wp2
   go_ret
   exact ⟨congrArg (fun v => Ending.returned (.bool v)) HR.out.symm, zq⟩
 have HR := hI (show E = false from HNEG.out fun e => hnn (by have h1 := HLEN.out; have h2 := HLEN2.out; rw [e] at h1; omega))
 have hne : ¬ (n : Int) = (n' : Int) := by omega
 clear hnn HL HL2 HIN
 go_enter Tryz.func37, Tryz.ntmps37
 go_wp2
 go_ret
 exact ⟨congrArg (fun v => Ending.returned (.bool v)) HR.out.symm, hb0⟩
open Go.RowKit
theorem sameE_of (k1 n1 : Int) (s1 m1 : Str) (a1 o1 : List Ex) (iha : ∀ l, SameEL a1 l) (iho : ∀ l, SameEL o1 l) (hz : (Ex.mk k1 n1 s1 m1 a1 o1).size <= 1000000) (y : Ex) : SameE (.mk k1 n1 s1 m1 a1 o1) y := by
 intro w S S' cs ds hx hy
 obtain ⟨k2, n2, s2, m2, a2, o2⟩ := y
 obtain ⟨A1, na1, ca1, O1, no1, co1, rfl, hA1, hO1⟩ := hx.open_
 obtain ⟨A2, na2, ca2, O2, no2, co2, rfl, hA2, hO2⟩ := hy.open_
 rw [Ex.size] at hz
 have lna : na1 <= 1000000 := by have := hA1.1.1; have := Ex.len_sizes a1; omega
 have lno : no1 <= 1000000 := by have := hO1.1.1; have := Ex.len_sizes o1; omega
 obtain ⟨W0, hW0⟩ : ∃ W0 : World, W0 = (w.alloc (.cells #[.int .i64 k1, .int .i64 n1, .string (bs s1), .string (bs m1), .slice A1 na1 ca1, .slice O1 no1 co1] 27)).alloc (.cells #[.int .i64 k2, .int .i64 n2, .string (bs s2), .string (bs m2), .slice A2 na2 ca2, .slice O2 no2 co2] 27) := ⟨_, rfl⟩
 have hba : Below w.heap.size w (w.alloc (.cells #[.int .i64 k1, .int .i64 n1, .string (bs s1), .string (bs m1), .slice A1 na1 ca1, .slice O1 no1 co1] 27)) := (Below.refl _ _).alloc (Nat.le_refl _) _
 have hb0 : Below w.heap.size w W0 := by rw [hW0]; exact hba.alloc hba.size _
 have HF := hI (show ∀ W, Bz W0 W -> (W.cell? ⟨w.heap.size, 0, none⟩ = some (.int .i64 k1) /\ W.cell? ⟨w.heap.size, 1, none⟩ = some (.int .i64 n1) /\ W.cell? ⟨w.heap.size, 2, none⟩ = some (.string (bs s1)) /\ W.cell? ⟨w.heap.size, 3, none⟩ = some (.string (bs m1)) /\ W.cell? ⟨w.heap.size, 4, none⟩ = some (.slice A1 na1 ca1) /\ W.cell? ⟨w.heap.size, 5, none⟩ = some (.slice O1 no1 co1) /\ W.cell? ⟨w.heap.size + 1, 0, none⟩ = some (.int .i64 k2) /\ W.cell? ⟨w.heap.size + 1, 1, none⟩ = some (.int .i64 n2) /\ W.cell? ⟨w.heap.size + 1, 2, none⟩ = some (.string (bs s2)) /\ W.cell? ⟨w.heap.size + 1, 3, none⟩ = some (.string (bs m2)) /\ W.cell? ⟨w.heap.size + 1, 4, none⟩ = some (.slice A2 na2 ca2) /\ W.cell? ⟨w.heap.size + 1, 5, none⟩ = some (.slice O2 no2 co2)) from fun W h => by
  subst hW0
  have hs1 : (w.alloc (.cells #[.int .i64 k1, .int .i64 n1, .string (bs s1), .string (bs m1), .slice A1 na1 ca1, .slice O1 no1 co1] 27)).heap.size = w.heap.size + 1 := World.size_alloc ..
  have hq := heap_alloc_new w (.cells #[.int .i64 k1, .int .i64 n1, .string (bs s1), .string (bs m1), .slice A1 na1 ca1, .slice O1 no1 co1] 27)
  have hq2 := heap_alloc_new (w.alloc (.cells #[.int .i64 k1, .int .i64 n1, .string (bs s1), .string (bs m1), .slice A1 na1 ca1, .slice O1 no1 co1] 27)) (.cells #[.int .i64 k2, .int .i64 n2, .string (bs s2), .string (bs m2), .slice A2 na2 ca2, .slice O2 no2 co2] 27)
  have hq1 := (((Below.refl _ (w.alloc (.cells #[.int .i64 k1, .int .i64 n1, .string (bs s1), .string (bs m1), .slice A1 na1 ca1, .slice O1 no1 co1] 27))).alloc (Nat.le_refl _) (.cells #[.int .i64 k2, .int .i64 n2, .string (bs s2), .string (bs m2), .slice A2 na2 ca2, .slice O2 no2 co2] 27)).block w.heap.size (lt_of_block hq)).trans hq
  rw [hs1] at hq2
  have h1 := fun j v (hv : (#[.int .i64 k1, .int .i64 n1, .string (bs s1), .string (bs m1), .slice A1 na1 ca1, .slice O1 no1 co1] : Array Value)[j]? = some v) => cell_of_Bz h (g := w.heap.size) (j := j) (v := v) (by rw [cell_of_row _ _ _ _ _ _ hq1]; exact hv) (lt_of_block hq1)
  have h2 := fun j v (hv : (#[.int .i64 k2, .int .i64 n2, .string (bs s2), .string (bs m2), .slice A2 na2 ca2, .slice O2 no2 co2] : Array Value)[j]? = some v) => cell_of_Bz h (g := w.heap.size + 1) (j := j) (v := v) (by rw [cell_of_row _ _ _ _ _ _ hq2]; exact hv) (lt_of_block hq2)
  exact ⟨h1 0 _ rfl, h1 1 _ rfl, h1 2 _ rfl, h1 3 _ rfl, h1 4 _ rfl, h1 5 _ rfl, h2 0 _ rfl, h2 1 _ rfl, h2 2 _ rfl, h2 3 _ rfl, h2 4 _ rfl, h2 5 _ rfl⟩)
 have HG := hI (show ∀ W, Bz W0 W -> Below w.heap.size w W from fun W h => hb0.trans (h.b.mono hb0.size))
 have z0 : Bz W0 W0 := ⟨Below.refl _ _⟩
 have KA := hI (show ∀ W, Bz W0 W -> _ from fun W h => iha a2 W S S' A1 A2 na1 ca1 na2 ca2 (hA1.below (HG.out W h)) (hA2.below (HG.out W h)) lna)
 have KO := hI (show ∀ W, Bz W0 W -> _ from fun W h => iho o2 W S S' O1 O2 no1 co1 no2 co2 (hO1.below (HG.out W h)) (hO2.below (HG.out W h)) lno)
 have NE := hI (show (k1 ≠ k2 ∨ n1 ≠ n2 ∨ s1 ≠ s2 ∨ m1 ≠ m2 ∨ eqC a1 a2 = false ∨ eqC o1 o2 = false) -> eqC (Ex.mk k1 n1 s1 m1 a1 o1) (.mk k2 n2 s2 m2 a2 o2) = false from fun h => eqC_neg fun e => by
  injection e with e1 e2 e3 e4 e5 e6
  rcases h with h | h | h | h | h | h
  ·exact h e1
  ·exact h e2
  ·exact h e3
  ·exact h e4
  ·rw [eqC_pos e5] at h; cases h
  rw [eqC_pos e6] at h; cases h)
 have YE := hI (show k1 = k2 -> n1 = n2 -> s1 = s2 -> m1 = m2 -> eqC a1 a2 = true -> eqC o1 o2 = true -> eqC (Ex.mk k1 n1 s1 m1 a1 o1) (.mk k2 n2 s2 m2 a2 o2) = true from fun h1 h2 h3 h4 h5 h6 => by
  have e5 : a1 = a2 := Classical.byContradiction fun h => by rw [eqC_neg h] at h5; cases h5
  have e6 : o1 = o2 := Classical.byContradiction fun h => by rw [eqC_neg h] at h6; cases h6
  exact eqC_pos (by rw [h1, h2, h3, h4, e5, e6]))
 generalize eqC (Ex.mk k1 n1 s1 m1 a1 o1) (.mk k2 n2 s2 m2 a2 o2) = E at *
 generalize eqC a1 a2 = ea at *
 generalize eqC o1 o2 = eo at *
 clear hx hy hA1 hO1 hA2 hO2 iha iho hz lna lno hb0 hba
 unfold exC
 by_cases h : k1 = k2
 ·subst h
  have qk : (k1 == k1) = true := beq_self_eq_true _
  by_cases h : n1 = n2
  ·subst h
   have qn : (n1 == n1) = true := beq_self_eq_true _
   by_cases h : s1 = s2
   ·subst h
    have qs : ((bs s1).toList == (bs s1).toList) = true := beq_self_eq_true _
    by_cases h : m1 = m2
    ·subst h
     have qm : ((bs m1).toList == (bs m1).toList) = true := beq_self_eq_true _
     go_enter Tryz.func95, Tryz.ntmps95
     go_upto_region 1 with fail
     rw [<- hW0]
     clear hW0
     obtain ⟨c0, c1, c2, c3, c4, c5, d0, d1, d2, d3, d4, d5⟩ := HF.out _ z0
     go_wp2_with fail
     refine (KA.out _ z0).mono ?_
     rintro e w1 ⟨rfl, hb⟩
     have z1 := z0.next hb
     clear hb c0 c1 c2 c3 c4 c5 d0 d1 d2 d3 d4 d5
     obtain ⟨c0, c1, c2, c3, c4, c5, d0, d1, d2, d3, d4, d5⟩ := HF.out _ z1
     cases ea with
     | false =>
      have h : False ∨ false = false := .inr rfl
      have HR := hI (NE.out (.inr (.inr (.inr (.inr (.inl rfl))))))
      obtain rfl := HR.out
      go_wp2_with fail
      go_ret
      exact ⟨rfl, HG.out _ z1⟩
     | true =>
      go_wp2_with fail
      refine (KO.out _ z1).mono ?_
      rintro e w2 ⟨rfl, hb⟩
      have z2 := z1.next hb
      clear hb c0 c1 c2 c3 c4 c5 d0 d1 d2 d3 d4 d5
      obtain ⟨c0, c1, c2, c3, c4, c5, d0, d1, d2, d3, d4, d5⟩ := HF.out _ z2
      cases eo with
      | false =>
       have h : False ∨ false = false := .inr rfl
       have HR := hI (NE.out (.inr (.inr (.inr (.inr (.inr rfl))))))
       obtain rfl := HR.out
       go_wp2_with fail
       go_ret
       exact ⟨rfl, HG.out _ z2⟩
      | true =>
       have HR := hI (YE.out (by first | trivial | rfl) (by first | trivial | rfl) (by first | trivial | rfl) (by first | trivial | rfl) (by first | trivial | rfl) (by first | trivial | rfl))
       obtain rfl := HR.out
       go_wp2_with fail
       go_ret
       exact ⟨rfl, HG.out _ z2⟩
    have HR := hI (NE.out (.inr (.inr (.inr (.inl h)))))
    obtain rfl := HR.out
    have qm : ((bs m1).toList == (bs m2).toList) = false := by rw [bs_toList, bs_toList]; simp [h]
    have qm2 : ¬ (bs m1).toList = (bs m2).toList := by rw [bs_toList, bs_toList]; exact h
    go_enter Tryz.func95, Tryz.ntmps95
    go_upto_region 1 with fail
    rw [<- hW0]
    clear hW0
    obtain ⟨c0, c1, c2, c3, c4, c5, d0, d1, d2, d3, d4, d5⟩ := HF.out _ z0
    go_wp2_with fail
    go_ret
    exact ⟨rfl, HG.out _ z0⟩
   have HR := hI (NE.out (.inr (.inr (.inl h))))
   obtain rfl := HR.out
   have qs : ((bs s1).toList == (bs s2).toList) = false := by rw [bs_toList, bs_toList]; simp [h]
   have qs2 : ¬ (bs s1).toList = (bs s2).toList := by rw [bs_toList, bs_toList]; exact h
   go_enter Tryz.func95, Tryz.ntmps95
   go_upto_region 1 with fail
   rw [<- hW0]
   clear hW0
   obtain ⟨c0, c1, c2, c3, c4, c5, d0, d1, d2, d3, d4, d5⟩ := HF.out _ z0
   go_wp2_with fail
   go_ret
   exact ⟨rfl, HG.out _ z0⟩
  have HR := hI (NE.out (.inr (.inl h)))
  obtain rfl := HR.out
  have qn : (n1 == n2) = false := by simp [h]
  go_enter Tryz.func95, Tryz.ntmps95
  go_upto_region 1 with fail
  rw [<- hW0]
  clear hW0
  obtain ⟨c0, c1, c2, c3, c4, c5, d0, d1, d2, d3, d4, d5⟩ := HF.out _ z0
  go_wp2_with fail
  go_ret
  exact ⟨rfl, HG.out _ z0⟩
 have HR := hI (NE.out (.inl h))
 obtain rfl := HR.out
 have qk : (k1 == k2) = false := by simp [h]
 go_enter Tryz.func95, Tryz.ntmps95
 go_upto_region 1 with fail
 rw [<- hW0]
 clear hW0
 obtain ⟨c0, c1, c2, c3, c4, c5, d0, d1, d2, d3, d4, d5⟩ := HF.out _ z0
 go_wp2_with fail
 go_ret
 exact ⟨rfl, HG.out _ z0⟩
theorem sameE_any : ∀ (N : Nat) (x : Ex), x.size <= N -> N <= 1000000 -> ∀ y, SameE x y := by
 intro N
 induction N with
 | zero => intro x h; obtain ⟨_, _, _, _, _, _⟩ := x; rw [Ex.size] at h; omega
 | succ N ih =>
  intro x h hN y
  obtain ⟨k, n, s, m, a, o⟩ := x
  have hz := h
  rw [Ex.size] at h
  exact sameE_of k n s m a o (fun l => SameEL.of fun x hx y hy => ih x (by have := Ex.sizes_mem hx; omega) (by omega) y) (fun l => SameEL.of fun x hx y hy => ih x (by have := Ex.sizes_mem hx; omega) (by omega) y) (by omega) y
theorem sameE {x : Ex} (h : x.size <= 1000000) (y : Ex) : SameE x y := sameE_any x.size x (Nat.le_refl _) h y
theorem sameS_of (k1 : Int) (s1 : Str) (n1 : Int) (x1 : Ex) (b1 l1 : List St) (ihb : ∀ l, SameSL b1 l) (ihl : ∀ l, SameSL l1 l) (hz : (St.mk k1 s1 n1 x1 b1 l1).size <= 1000000) (y : St) : SameS (.mk k1 s1 n1 x1 b1 l1) y := by
 intro w S S' cs ds hx hy
 obtain ⟨k2, s2, n2, x2, b2, l2⟩ := y
 obtain ⟨ex1, B1, nb1, cb1, L1, nl1, cl1, rfl, hX1, hA1, hO1⟩ := hx.open_
 obtain ⟨ex2, B2, nb2, cb2, L2, nl2, cl2, rfl, hX2, hA2, hO2⟩ := hy.open_
 rw [St.size] at hz
 have lna : nb1 <= 1000000 := by have := hA1.1.1; have := St.len_sizes b1; omega
 have lno : nl1 <= 1000000 := by have := hO1.1.1; have := St.len_sizes l1; omega
 have KXX := hI (sameE (x := x1) (by omega) x2)
 obtain ⟨xx1, hxx1⟩ : ∃ z, z = x1 := ⟨_, rfl⟩
 obtain ⟨xx2, hxx2⟩ : ∃ z, z = x2 := ⟨_, rfl⟩
 rw [<- hxx1, <- hxx2] at KXX
 rw [<- hxx1] at hX1
 rw [<- hxx2] at hX2
 have HX1 := hI hX1
 have HX2 := hI hX2
 obtain ⟨ek1, en1, es1, em1, ea1, eo1⟩ := xx1
 obtain ⟨ek2, en2, es2, em2, ea2, eo2⟩ := xx2
 obtain ⟨A1, na1, ca1, O1, no1, co1, rfl, -, -⟩ := hX1.open_
 obtain ⟨A2, na2, ca2, O2, no2, co2, rfl, -, -⟩ := hX2.open_
 rw [hxx1, hxx2] at KXX
 rw [hxx1] at HX1
 rw [hxx2] at HX2
 clear hxx1 hxx2 hX1 hX2
 obtain ⟨W0, hW0⟩ : ∃ W0 : World, W0 = (w.alloc (.cells #[.int .i64 k1, .string (bs s1), .int .i64 n1, .int .i64 ek1, .int .i64 en1, .string (bs es1), .string (bs em1), .slice A1 na1 ca1, .slice O1 no1 co1, .slice B1 nb1 cb1, .slice L1 nl1 cl1] 74)).alloc (.cells #[.int .i64 k2, .string (bs s2), .int .i64 n2, .int .i64 ek2, .int .i64 en2, .string (bs es2), .string (bs em2), .slice A2 na2 ca2, .slice O2 no2 co2, .slice B2 nb2 cb2, .slice L2 nl2 cl2] 74) := ⟨_, rfl⟩
 have hba : Below w.heap.size w (w.alloc (.cells #[.int .i64 k1, .string (bs s1), .int .i64 n1, .int .i64 ek1, .int .i64 en1, .string (bs es1), .string (bs em1), .slice A1 na1 ca1, .slice O1 no1 co1, .slice B1 nb1 cb1, .slice L1 nl1 cl1] 74)) := (Below.refl _ _).alloc (Nat.le_refl _) _
 have hb0 : Below w.heap.size w W0 := by rw [hW0]; exact hba.alloc hba.size _
 have HF := hI (show ∀ W, Bz W0 W -> (W.cell? ⟨w.heap.size, 0, none⟩ = some (.int .i64 k1) /\ W.cell? ⟨w.heap.size, 1, none⟩ = some (.string (bs s1)) /\ W.cell? ⟨w.heap.size, 2, none⟩ = some (.int .i64 n1) /\ W.cell? ⟨w.heap.size, 3, none⟩ = some (.int .i64 ek1) /\ W.cell? ⟨w.heap.size, 4, none⟩ = some (.int .i64 en1) /\ W.cell? ⟨w.heap.size, 5, none⟩ = some (.string (bs es1)) /\ W.cell? ⟨w.heap.size, 6, none⟩ = some (.string (bs em1)) /\ W.cell? ⟨w.heap.size, 7, none⟩ = some (.slice A1 na1 ca1) /\ W.cell? ⟨w.heap.size, 8, none⟩ = some (.slice O1 no1 co1) /\ W.cell? ⟨w.heap.size, 9, none⟩ = some (.slice B1 nb1 cb1) /\ W.cell? ⟨w.heap.size, 10, none⟩ = some (.slice L1 nl1 cl1) /\ W.cell? ⟨w.heap.size + 1, 0, none⟩ = some (.int .i64 k2) /\ W.cell? ⟨w.heap.size + 1, 1, none⟩ = some (.string (bs s2)) /\ W.cell? ⟨w.heap.size + 1, 2, none⟩ = some (.int .i64 n2) /\ W.cell? ⟨w.heap.size + 1, 3, none⟩ = some (.int .i64 ek2) /\ W.cell? ⟨w.heap.size + 1, 4, none⟩ = some (.int .i64 en2) /\ W.cell? ⟨w.heap.size + 1, 5, none⟩ = some (.string (bs es2)) /\ W.cell? ⟨w.heap.size + 1, 6, none⟩ = some (.string (bs em2)) /\ W.cell? ⟨w.heap.size + 1, 7, none⟩ = some (.slice A2 na2 ca2) /\ W.cell? ⟨w.heap.size + 1, 8, none⟩ = some (.slice O2 no2 co2) /\ W.cell? ⟨w.heap.size + 1, 9, none⟩ = some (.slice B2 nb2 cb2) /\ W.cell? ⟨w.heap.size + 1, 10, none⟩ = some (.slice L2 nl2 cl2)) from fun W h => by
  subst hW0
  have hs1 : (w.alloc (.cells #[.int .i64 k1, .string (bs s1), .int .i64 n1, .int .i64 ek1, .int .i64 en1, .string (bs es1), .string (bs em1), .slice A1 na1 ca1, .slice O1 no1 co1, .slice B1 nb1 cb1, .slice L1 nl1 cl1] 74)).heap.size = w.heap.size + 1 := World.size_alloc ..
  have hq := heap_alloc_new w (.cells #[.int .i64 k1, .string (bs s1), .int .i64 n1, .int .i64 ek1, .int .i64 en1, .string (bs es1), .string (bs em1), .slice A1 na1 ca1, .slice O1 no1 co1, .slice B1 nb1 cb1, .slice L1 nl1 cl1] 74)
  have hq2 := heap_alloc_new (w.alloc (.cells #[.int .i64 k1, .string (bs s1), .int .i64 n1, .int .i64 ek1, .int .i64 en1, .string (bs es1), .string (bs em1), .slice A1 na1 ca1, .slice O1 no1 co1, .slice B1 nb1 cb1, .slice L1 nl1 cl1] 74)) (.cells #[.int .i64 k2, .string (bs s2), .int .i64 n2, .int .i64 ek2, .int .i64 en2, .string (bs es2), .string (bs em2), .slice A2 na2 ca2, .slice O2 no2 co2, .slice B2 nb2 cb2, .slice L2 nl2 cl2] 74)
  have hq1 := (((Below.refl _ (w.alloc (.cells #[.int .i64 k1, .string (bs s1), .int .i64 n1, .int .i64 ek1, .int .i64 en1, .string (bs es1), .string (bs em1), .slice A1 na1 ca1, .slice O1 no1 co1, .slice B1 nb1 cb1, .slice L1 nl1 cl1] 74))).alloc (Nat.le_refl _) (.cells #[.int .i64 k2, .string (bs s2), .int .i64 n2, .int .i64 ek2, .int .i64 en2, .string (bs es2), .string (bs em2), .slice A2 na2 ca2, .slice O2 no2 co2, .slice B2 nb2 cb2, .slice L2 nl2 cl2] 74)).block w.heap.size (lt_of_block hq)).trans hq
  rw [hs1] at hq2
  have h1 := fun j v (hv : (#[.int .i64 k1, .string (bs s1), .int .i64 n1, .int .i64 ek1, .int .i64 en1, .string (bs es1), .string (bs em1), .slice A1 na1 ca1, .slice O1 no1 co1, .slice B1 nb1 cb1, .slice L1 nl1 cl1] : Array Value)[j]? = some v) => cell_of_Bz h (g := w.heap.size) (j := j) (v := v) (by rw [cell_of_row _ _ _ _ _ _ hq1]; exact hv) (lt_of_block hq1)
  have h2 := fun j v (hv : (#[.int .i64 k2, .string (bs s2), .int .i64 n2, .int .i64 ek2, .int .i64 en2, .string (bs es2), .string (bs em2), .slice A2 na2 ca2, .slice O2 no2 co2, .slice B2 nb2 cb2, .slice L2 nl2 cl2] : Array Value)[j]? = some v) => cell_of_Bz h (g := w.heap.size + 1) (j := j) (v := v) (by rw [cell_of_row _ _ _ _ _ _ hq2]; exact hv) (lt_of_block hq2)
  exact ⟨h1 0 _ rfl, h1 1 _ rfl, h1 2 _ rfl, h1 3 _ rfl, h1 4 _ rfl, h1 5 _ rfl, h1 6 _ rfl, h1 7 _ rfl, h1 8 _ rfl, h1 9 _ rfl, h1 10 _ rfl, h2 0 _ rfl, h2 1 _ rfl, h2 2 _ rfl, h2 3 _ rfl, h2 4 _ rfl, h2 5 _ rfl, h2 6 _ rfl, h2 7 _ rfl, h2 8 _ rfl, h2 9 _ rfl, h2 10 _ rfl⟩)
 have HG := hI (show ∀ W, Bz W0 W -> Below w.heap.size w W from fun W h => hb0.trans (h.b.mono hb0.size))
 have z0 : Bz W0 W0 := ⟨Below.refl _ _⟩
 have KX := hI (show ∀ W, Bz W0 W -> _ from fun W h => KXX.out W S S' _ _ (HX1.out.below (HG.out W h)) (HX2.out.below (HG.out W h)))
 have KA := hI (show ∀ W, Bz W0 W -> _ from fun W h => ihb b2 W S S' B1 B2 nb1 cb1 nb2 cb2 (hA1.below (HG.out W h)) (hA2.below (HG.out W h)) lna)
 have KO := hI (show ∀ W, Bz W0 W -> _ from fun W h => ihl l2 W S S' L1 L2 nl1 cl1 nl2 cl2 (hO1.below (HG.out W h)) (hO2.below (HG.out W h)) lno)
 have NE := hI (show (k1 ≠ k2 ∨ s1 ≠ s2 ∨ n1 ≠ n2 ∨ eqC x1 x2 = false ∨ eqC b1 b2 = false ∨ eqC l1 l2 = false) -> eqC (St.mk k1 s1 n1 x1 b1 l1) (.mk k2 s2 n2 x2 b2 l2) = false from fun h => eqC_neg fun e => by
  injection e with e1 e2 e3 e4 e5 e6
  rcases h with h | h | h | h | h | h
  ·exact h e1
  ·exact h e2
  ·exact h e3
  ·rw [eqC_pos e4] at h; cases h
  ·rw [eqC_pos e5] at h; cases h
  rw [eqC_pos e6] at h; cases h)
 have YE := hI (show k1 = k2 -> s1 = s2 -> n1 = n2 -> eqC x1 x2 = true -> eqC b1 b2 = true -> eqC l1 l2 = true -> eqC (St.mk k1 s1 n1 x1 b1 l1) (.mk k2 s2 n2 x2 b2 l2) = true from fun h1 h2 h3 h4 h5 h6 => by
  have e4 : x1 = x2 := Classical.byContradiction fun h => by rw [eqC_neg h] at h4; cases h4
  have e5 : b1 = b2 := Classical.byContradiction fun h => by rw [eqC_neg h] at h5; cases h5
  have e6 : l1 = l2 := Classical.byContradiction fun h => by rw [eqC_neg h] at h6; cases h6
  exact eqC_pos (by rw [h1, h2, h3, e4, e5, e6]))
 generalize eqC (St.mk k1 s1 n1 x1 b1 l1) (.mk k2 s2 n2 x2 b2 l2) = E at *
 generalize eqC x1 x2 = ex at *
 generalize eqC b1 b2 = ea at *
 generalize eqC l1 l2 = eo at *
 clear hx hy hA1 hO1 hA2 hO2 ihb ihl hz lna lno hb0 hba KXX HX1 HX2
 unfold exC at KX
 unfold stC exC
 simp only [List.cons_append, List.nil_append]
 by_cases h : k1 = k2
 ·subst h
  have qk : (k1 == k1) = true := beq_self_eq_true _
  by_cases h : s1 = s2
  ·subst h
   have qs : ((bs s1).toList == (bs s1).toList) = true := beq_self_eq_true _
   by_cases h : n1 = n2
   ·subst h
    have qn : (n1 == n1) = true := beq_self_eq_true _
    go_enter Tryz.func68, Tryz.ntmps68
    go_upto_region 1 with fail
    rw [<- hW0]
    clear hW0
    obtain ⟨c0, c1, c2, c3, c4, c5, c6, c7, c8, c9, c10, d0, d1, d2, d3, d4, d5, d6, d7, d8, d9, d10⟩ := HF.out _ z0
    go_wp2_with fail
    refine (KX.out _ z0).mono ?_
    rintro e w1 ⟨rfl, hb⟩
    have z1 := z0.next hb
    clear hb c0 c1 c2 c3 c4 c5 c6 c7 c8 c9 c10 d0 d1 d2 d3 d4 d5 d6 d7 d8 d9 d10
    obtain ⟨c0, c1, c2, c3, c4, c5, c6, c7, c8, c9, c10, d0, d1, d2, d3, d4, d5, d6, d7, d8, d9, d10⟩ := HF.out _ z1
    cases ex with
    | false =>
     have h : False ∨ false = false := .inr rfl
     have HR := hI (NE.out (.inr (.inr (.inr (.inl rfl)))))
     obtain rfl := HR.out
     go_wp2_with fail
     go_ret
     exact ⟨rfl, HG.out _ z1⟩
    | true =>
     go_wp2_with fail
     refine (KA.out _ z1).mono ?_
     rintro e w2 ⟨rfl, hb⟩
     have z2 := z1.next hb
     clear hb c0 c1 c2 c3 c4 c5 c6 c7 c8 c9 c10 d0 d1 d2 d3 d4 d5 d6 d7 d8 d9 d10
     obtain ⟨c0, c1, c2, c3, c4, c5, c6, c7, c8, c9, c10, d0, d1, d2, d3, d4, d5, d6, d7, d8, d9, d10⟩ := HF.out _ z2
     cases ea with
     | false =>
      have h : False ∨ false = false := .inr rfl
      have HR := hI (NE.out (.inr (.inr (.inr (.inr (.inl rfl))))))
      obtain rfl := HR.out
      go_wp2_with fail
      go_ret
      exact ⟨rfl, HG.out _ z2⟩
     | true =>
      go_wp2_with fail
      refine (KO.out _ z2).mono ?_
      rintro e w3 ⟨rfl, hb⟩
      have z3 := z2.next hb
      clear hb c0 c1 c2 c3 c4 c5 c6 c7 c8 c9 c10 d0 d1 d2 d3 d4 d5 d6 d7 d8 d9 d10
      obtain ⟨c0, c1, c2, c3, c4, c5, c6, c7, c8, c9, c10, d0, d1, d2, d3, d4, d5, d6, d7, d8, d9, d10⟩ := HF.out _ z3
      cases eo with
      | false =>
       have h : False ∨ false = false := .inr rfl
       have HR := hI (NE.out (.inr (.inr (.inr (.inr (.inr rfl))))))
       obtain rfl := HR.out
       go_wp2_with fail
       go_ret
       exact ⟨rfl, HG.out _ z3⟩
      | true =>
       have HR := hI (YE.out (by first | trivial | rfl) (by first | trivial | rfl) (by first | trivial | rfl) (by first | trivial | rfl) (by first | trivial | rfl) (by first | trivial | rfl))
       obtain rfl := HR.out
       go_wp2_with fail
       go_ret
       exact ⟨rfl, HG.out _ z3⟩
   have HR := hI (NE.out (.inr (.inr (.inl h))))
   obtain rfl := HR.out
   have qn : (n1 == n2) = false := by simp [h]
   go_enter Tryz.func68, Tryz.ntmps68
   go_upto_region 1 with fail
   rw [<- hW0]
   clear hW0
   obtain ⟨c0, c1, c2, c3, c4, c5, c6, c7, c8, c9, c10, d0, d1, d2, d3, d4, d5, d6, d7, d8, d9, d10⟩ := HF.out _ z0
   go_wp2_with fail
   go_ret
   exact ⟨rfl, HG.out _ z0⟩
  have HR := hI (NE.out (.inr (.inl h)))
  obtain rfl := HR.out
  have qs : ((bs s1).toList == (bs s2).toList) = false := by rw [bs_toList, bs_toList]; simp [h]
  have qs2 : ¬ (bs s1).toList = (bs s2).toList := by rw [bs_toList, bs_toList]; exact h
  go_enter Tryz.func68, Tryz.ntmps68
  go_upto_region 1 with fail
  rw [<- hW0]
  clear hW0
  obtain ⟨c0, c1, c2, c3, c4, c5, c6, c7, c8, c9, c10, d0, d1, d2, d3, d4, d5, d6, d7, d8, d9, d10⟩ := HF.out _ z0
  go_wp2_with fail
  go_ret
  exact ⟨rfl, HG.out _ z0⟩
 have HR := hI (NE.out (.inl h))
 obtain rfl := HR.out
 have qk : (k1 == k2) = false := by simp [h]
 go_enter Tryz.func68, Tryz.ntmps68
 go_upto_region 1 with fail
 rw [<- hW0]
 clear hW0
 obtain ⟨c0, c1, c2, c3, c4, c5, c6, c7, c8, c9, c10, d0, d1, d2, d3, d4, d5, d6, d7, d8, d9, d10⟩ := HF.out _ z0
 go_wp2_with fail
 go_ret
 exact ⟨rfl, HG.out _ z0⟩
theorem sameS_any : ∀ (N : Nat) (x : St), x.size <= N -> N <= 1000000 -> ∀ y, SameS x y := by
 intro N
 induction N with
 | zero => intro x h; obtain ⟨_, _, _, _, _, _⟩ := x; rw [St.size] at h; omega
 | succ N ih =>
  intro x h hN y
  obtain ⟨k, s, n, e, b, l⟩ := x
  have hz := h
  rw [St.size] at h
  exact sameS_of k s n e b l (fun l => SameSL.of fun x hx y hy => ih x (by have := St.sizes_mem hx; omega) (by omega) y) (fun l => SameSL.of fun x hx y hy => ih x (by have := St.sizes_mem hx; omega) (by omega) y) (by omega) y
theorem sameS {x : St} (h : x.size <= 1000000) (y : St) : SameS x y := sameS_any x.size x (Nat.le_refl _) h y
theorem sameSL {l : List St} (h : St.sizes l <= 1000000) (l2 : List St) : SameSL l l2 := SameSL.of fun x hx y hy => sameS (by have := St.sizes_mem hx; omega) y
end Go.Proofs.YtkakbidllpjopaaGreatDoor
namespace Go.Proofs
open Go.Shelf
def Tryz.lays193_ren : Go.Shelf.Ren := ⟨fun | 193 => 66 | n => n, fun | 31 => 22 | 9 => 9 | 4 => 4 | 3 => 3 | 0 => 0 | n => n, fun | n => n⟩
theorem Tryz.lays193 : Go.Proofs.Lays.n193 Tryz.prog Tryz.lays193_ren := {
 mixed := by kernel_rfl
 f193 := Tryz.func66.trans (congrArg some (by kernel_rfl))
 t0 := Tryz.underlying0
 a0 := Tryz.isAgg0
 z0 := Tryz.sizeOf0
 v0 := Tryz.zeroValue0
 t3 := Tryz.underlying3
 a3 := Tryz.isAgg3
 z3 := Tryz.sizeOf3
 v3 := Tryz.zeroValue3
 t4 := Tryz.underlying4
 a4 := Tryz.isAgg4
 z4 := Tryz.sizeOf4
 v4 := Tryz.zeroValue4
 t9 := Tryz.underlying9
 a9 := Tryz.isAgg9
 z9 := Tryz.sizeOf9
 v9 := Tryz.zeroValue9
 t31 := Tryz.underlying22
 a31 := Tryz.isAgg22
 z31 := Tryz.sizeOf22
 v31 := Tryz.zeroValue22 }
open Go.RowKit Go.Sort Go.Lib in
theorem Tryz.slices_Equal_string (b1 o1 n c b2 o2 m d : Nat) (xs ys : List ByteArray) (w : World) (hx : n <= xs.length) (hy : m <= ys.length) (hbig : n <= 9223372036854775807) (hbig2 : m <= 9223372036854775807) (hc1 : ∀ j, j < xs.length -> w.cell? ⟨b1, o1 + j, none⟩ = some (.string (xs.getD j ByteArray.empty))) (hc2 : ∀ j, j < ys.length -> w.cell? ⟨b2, o2 + j, none⟩ = some (.string (ys.getD j ByteArray.empty))) :
  Calls Tryz.prog 66 #[.slice (some ⟨b1, o1, none⟩) n c, .slice (some ⟨b2, o2, none⟩) m d] w fun e w' => e = .returned (.bool (decide (xs.take n = ys.take m))) /\ ∃ q, w' = w.drewN q := Any.slices_Equal_string Tryz.lays193 b1 o1 n c b2 o2 m d xs ys w hx hy hbig hbig2 hc1 hc2
open Go.RowKit Go.Sort Go.Lib in
theorem Tryz.slices_Equal_string_empty (a1 a2 : Option Addr) (c m d : Nat) (w : World) (hbig2 : m <= 9223372036854775807) :
  Calls Tryz.prog 66 #[.slice a1 0 c, .slice a2 m d] w fun e w' => e = .returned (.bool (decide (m = 0))) /\ w' = w := Any.slices_Equal_string_empty Tryz.lays193 a1 a2 c m d w hbig2
open Go.RowKit Go.Sort Go.Lib in
theorem Tryz.slices_Equal_string_lens (a1 a2 : Option Addr) (n c m d : Nat) (w : World) (hnm : n ≠ m) :
  Calls Tryz.prog 66 #[.slice a1 n c, .slice a2 m d] w fun e w' => e = .returned (.bool false) /\ w' = w := Any.slices_Equal_string_lens Tryz.lays193 a1 a2 n c m d w hnm
end Go.Proofs
namespace Go.Proofs.YtkakbidllpjopaaGreatDoor
open Go.RowKit
theorem SS.at {w : World} {S : Nat -> Prop} {A : Option Addr} {n c : Nat} {l : List Str} (h : SS w S A n c l) (hn : 0 < n) : ∃ b q, A = some ⟨b, q, none⟩ /\ b < w.heap.size /\ S b /\ ∀ j, j < (l.map bs).length -> w.cell? ⟨b, q + j, none⟩ = some (.string ((l.map bs).getD j ByteArray.empty)) := by
 obtain ⟨b, q, e1, hb, hS, hx⟩ := h.2.2 hn
 refine ⟨b, q, e1, hb, hS, fun j hj => ?_⟩
 rw [List.length_map] at hj
 obtain ⟨cs, ⟨s, hs, rfl⟩, h2⟩ := hx j (by have := h.1; omega)
 have := h2 0 _ rfl
 rw [Nat.mul_one] at this
 have e : (l.map bs).getD j ByteArray.empty = bs s := by rw [List.getD_eq_getElem?_getD, List.getElem?_map, hs]; rfl
 rw [e]
 exact this
theorem map_bs_inj : ∀ {a b : List Str}, a.map bs = b.map bs -> a = b
 | [], [], _ => rfl
 | [], y :: t, h => by cases h
 | x :: s, [], h => by cases h
 | x :: s, y :: t, h => by
  injection h with h1 h2
  rw [bs_inj h1, map_bs_inj h2]
/-- Whether two rows of strings are equal. -/
theorem sameP (l1 l2 : List Str) (w : World) (S S' : Nat -> Prop) (A A' : Option Addr) (n c n' c' : Nat) (h1 : SS w S A n c l1) (h2 : SS w S' A' n' c' l2) (hn : n <= 1000000) :
  Calls Tryz.prog 66 #[.slice A n c, .slice A' n' c'] w fun e w' => e = .returned (.bool (eqC l1 l2)) /\ Below w.heap.size w w' := by
 by_cases hnn : n = n'
 ·subst hnn
  by_cases h0 : n = 0
  ·subst h0
   refine (Tryz.slices_Equal_string_empty A A' c 0 c' w (by omega)).mono ?_
   rintro e w' ⟨rfl, rfl⟩
   have e1 : l1 = [] := List.eq_nil_of_length_eq_zero h1.1.symm
   have e2 : l2 = [] := List.eq_nil_of_length_eq_zero h2.1.symm
   refine ⟨?_, Below.refl _ _⟩
   rw [eqC_pos (by rw [e1, e2])]
   rfl
  obtain ⟨b, q, rfl, -, -, hx⟩ := h1.at (by omega)
  obtain ⟨b2, q2, rfl, -, -, hy⟩ := h2.at (by omega)
  refine (Tryz.slices_Equal_string b q n c b2 q2 n c' (l1.map bs) (l2.map bs) w (by rw [List.length_map]; exact Nat.le_of_eq h1.1) (by rw [List.length_map]; exact Nat.le_of_eq h2.1) (by omega) (by omega) hx hy).mono ?_
  rintro e w' ⟨rfl, q, rfl⟩
  refine ⟨?_, ⟨rfl, rfl, rfl, Nat.le_refl _, fun _ _ => rfl⟩⟩
  rw [List.take_of_length_le (by rw [List.length_map]; exact Nat.le_of_eq h1.1.symm), List.take_of_length_le (by rw [List.length_map]; exact Nat.le_of_eq h2.1.symm)]
  by_cases h : l1 = l2
  ·rw [eqC_pos h, decide_eq_true (by rw [h])]
  rw [eqC_neg h, decide_eq_false (fun e => h (map_bs_inj e))]
 refine (Tryz.slices_Equal_string_lens A A' n c n' c' w hnn).mono ?_
 rintro e w' ⟨rfl, rfl⟩
 refine ⟨?_, Below.refl _ _⟩
 rw [eqC_neg (fun e => hnn (by rw [h1.1, h2.1, e]))]
theorem sameO {x : Oper'} (hz : x.params.length <= 1000000 /\ St.sizes x.body <= 1000000) (y : Oper') : SameO x y := by
 intro w S S' cs ds hx hy
 obtain ⟨P1, np1, cp1, B1, nb1, cb1, rfl, hp1, hb1⟩ := hx
 obtain ⟨P2, np2, cp2, B2, nb2, cb2, rfl, hp2, hb2⟩ := hy
 obtain ⟨s1, p1, b1⟩ := x
 obtain ⟨s2, p2, b2⟩ := y
 dsimp only at *
 have lnp : np1 <= 1000000 := by have := hp1.1; omega
 have lnb : nb1 <= 1000000 := by have := hb1.1.1; have := St.len_sizes b1; omega
 have ihb := sameSL hz.2
 obtain ⟨W0, hW0⟩ : ∃ W0 : World, W0 = (w.alloc (.cells #[.string (bs s1), .slice P1 np1 cp1, .slice B1 nb1 cb1] 76)).alloc (.cells #[.string (bs s2), .slice P2 np2 cp2, .slice B2 nb2 cb2] 76) := ⟨_, rfl⟩
 have hba : Below w.heap.size w (w.alloc (.cells #[.string (bs s1), .slice P1 np1 cp1, .slice B1 nb1 cb1] 76)) := (Below.refl _ _).alloc (Nat.le_refl _) _
 have hb0 : Below w.heap.size w W0 := by rw [hW0]; exact hba.alloc hba.size _
 have HF := hI (show ∀ W, Bz W0 W -> (W.cell? ⟨w.heap.size, 0, none⟩ = some (.string (bs s1)) /\ W.cell? ⟨w.heap.size, 1, none⟩ = some (.slice P1 np1 cp1) /\ W.cell? ⟨w.heap.size, 2, none⟩ = some (.slice B1 nb1 cb1) /\ W.cell? ⟨w.heap.size + 1, 0, none⟩ = some (.string (bs s2)) /\ W.cell? ⟨w.heap.size + 1, 1, none⟩ = some (.slice P2 np2 cp2) /\ W.cell? ⟨w.heap.size + 1, 2, none⟩ = some (.slice B2 nb2 cb2)) from fun W h => by
  subst hW0
  have hs1 : (w.alloc (.cells #[.string (bs s1), .slice P1 np1 cp1, .slice B1 nb1 cb1] 76)).heap.size = w.heap.size + 1 := World.size_alloc ..
  have hq := heap_alloc_new w (.cells #[.string (bs s1), .slice P1 np1 cp1, .slice B1 nb1 cb1] 76)
  have hq2 := heap_alloc_new (w.alloc (.cells #[.string (bs s1), .slice P1 np1 cp1, .slice B1 nb1 cb1] 76)) (.cells #[.string (bs s2), .slice P2 np2 cp2, .slice B2 nb2 cb2] 76)
  have hq1 := (((Below.refl _ (w.alloc (.cells #[.string (bs s1), .slice P1 np1 cp1, .slice B1 nb1 cb1] 76))).alloc (Nat.le_refl _) (.cells #[.string (bs s2), .slice P2 np2 cp2, .slice B2 nb2 cb2] 76)).block w.heap.size (lt_of_block hq)).trans hq
  rw [hs1] at hq2
  have h1 := fun j v (hv : (#[.string (bs s1), .slice P1 np1 cp1, .slice B1 nb1 cb1] : Array Value)[j]? = some v) => cell_of_Bz h (g := w.heap.size) (j := j) (v := v) (by rw [cell_of_row _ _ _ _ _ _ hq1]; exact hv) (lt_of_block hq1)
  have h2 := fun j v (hv : (#[.string (bs s2), .slice P2 np2 cp2, .slice B2 nb2 cb2] : Array Value)[j]? = some v) => cell_of_Bz h (g := w.heap.size + 1) (j := j) (v := v) (by rw [cell_of_row _ _ _ _ _ _ hq2]; exact hv) (lt_of_block hq2)
  exact ⟨h1 0 _ rfl, h1 1 _ rfl, h1 2 _ rfl, h2 0 _ rfl, h2 1 _ rfl, h2 2 _ rfl⟩)
 have HG := hI (show ∀ W, Bz W0 W -> Below w.heap.size w W from fun W h => hb0.trans (h.b.mono hb0.size))
 have z0 : Bz W0 W0 := ⟨Below.refl _ _⟩
 have bl : ∀ {W : World}, Below w.heap.size w W -> ∀ (S : Nat -> Prop) b, b < w.heap.size -> S b -> W.heap[b]? = w.heap[b]? := fun h S b hlt _ => h.block b hlt
 have KP := hI (show ∀ W, Bz W0 W -> _ from fun W h => sameP p1 p2 W S S' P1 P2 np1 cp1 np2 cp2 (hp1.keep (HG.out W h).size (bl (HG.out W h) S) fun _ _ h => h) (hp2.keep (HG.out W h).size (bl (HG.out W h) S') fun _ _ h => h) lnp)
 have KA := hI (show ∀ W, Bz W0 W -> _ from fun W h => ihb b2 W S S' B1 B2 nb1 cb1 nb2 cb2 (hb1.below (HG.out W h)) (hb2.below (HG.out W h)) lnb)
 have NE := hI (show (s1 ≠ s2 ∨ eqC p1 p2 = false ∨ eqC b1 b2 = false) -> eqC (Oper'.mk s1 p1 b1) (.mk s2 p2 b2) = false from fun h => eqC_neg fun e => by
  injection e with e1 e2 e3
  rcases h with h | h | h
  ·exact h e1
  ·rw [eqC_pos e2] at h; cases h
  rw [eqC_pos e3] at h; cases h)
 have YE := hI (show s1 = s2 -> eqC p1 p2 = true -> eqC b1 b2 = true -> eqC (Oper'.mk s1 p1 b1) (.mk s2 p2 b2) = true from fun h1 h2 h3 => by
  have e2 : p1 = p2 := Classical.byContradiction fun h => by rw [eqC_neg h] at h2; cases h2
  have e3 : b1 = b2 := Classical.byContradiction fun h => by rw [eqC_neg h] at h3; cases h3
  exact eqC_pos (by rw [h1, e2, e3]))
 generalize eqC (Oper'.mk s1 p1 b1) (.mk s2 p2 b2) = E at *
 generalize eqC p1 p2 = ep at *
 generalize eqC b1 b2 = eb at *
 clear hp1 hb1 hp2 hb2 ihb hz lnp lnb hb0 hba bl
 by_cases h : s1 = s2
 ·subst h
  have qs : ((bs s1).toList == (bs s1).toList) = true := beq_self_eq_true _
  go_enter Tryz.func38, Tryz.ntmps38
  go_upto_region 1 with fail
  rw [<- hW0]
  clear hW0
  obtain ⟨c0, c1, c2, d0, d1, d2⟩ := HF.out _ z0
  go_wp2_with fail
  refine (KP.out _ z0).mono ?_
  rintro e w1 ⟨rfl, hb⟩
  have z1 := z0.next hb
  clear hb c0 c1 c2 d0 d1 d2
  obtain ⟨c0, c1, c2, d0, d1, d2⟩ := HF.out _ z1
  cases ep with
  | false =>
   have h : False ∨ false = false := .inr rfl
   have HR := hI (NE.out (.inr (.inl rfl)))
   obtain rfl := HR.out
   go_wp2_with fail
   go_ret
   exact ⟨rfl, HG.out _ z1⟩
  | true =>
   go_wp2_with fail
   refine (KA.out _ z1).mono ?_
   rintro e w2 ⟨rfl, hb⟩
   have z2 := z1.next hb
   clear hb c0 c1 c2 d0 d1 d2
   obtain ⟨c0, c1, c2, d0, d1, d2⟩ := HF.out _ z2
   cases eb with
   | false =>
    have h : False ∨ false = false := .inr rfl
    have HR := hI (NE.out (.inr (.inr rfl)))
    obtain rfl := HR.out
    go_wp2_with fail
    go_ret
    exact ⟨rfl, HG.out _ z2⟩
   | true =>
    have HR := hI (YE.out (by first | trivial | rfl) (by first | trivial | rfl) (by first | trivial | rfl))
    obtain rfl := HR.out
    go_wp2_with fail
    go_ret
    exact ⟨rfl, HG.out _ z2⟩
 have HR := hI (NE.out (.inl h))
 obtain rfl := HR.out
 have qs : ((bs s1).toList == (bs s2).toList) = false := by rw [bs_toList, bs_toList]; simp [h]
 have qs2 : ¬ (bs s1).toList = (bs s2).toList := by rw [bs_toList, bs_toList]; exact h
 go_enter Tryz.func38, Tryz.ntmps38
 go_upto_region 1 with fail
 rw [<- hW0]
 clear hW0
 obtain ⟨c0, c1, c2, d0, d1, d2⟩ := HF.out _ z0
 go_wp2_with fail
 go_ret
 exact ⟨rfl, HG.out _ z0⟩
theorem sameOL {l : List Oper'} (h : ∀ o ∈ l, o.params.length <= 1000000 /\ St.sizes o.body <= 1000000) (l2 : List Oper') : SameOL l l2 := SameOL.of fun x hx y hy => sameO (h x hx) y
theorem range2 {w : World} {b o : Nat} {u0 u1 : Value} (h : w.rangeAt b o [u0, u1]) : w.cell? ⟨b, o, none⟩ = some u0 /\ w.cell? ⟨b, o + 1, none⟩ = some u1 := ⟨h 0 _ rfl, h 1 _ rfl⟩
theorem sameD (l1 l2 : List Decl') (w : World) (S S' : Nat -> Prop) (A A' : Option Addr) (n c n' c' : Nat) (hl : DL w S A n c l1) (hl2 : DL w S' A' n' c' l2) (hn : n <= 1000000) :
  Calls Tryz.prog 36 #[.slice A n c, .slice A' n' c'] w fun e w' => e = .returned (.bool (eqC l1 l2)) /\ Below w.heap.size w w' := by
 have HL := hI hl
 have HL2 := hI hl2
 have HLEN := hI hl.1
 have HLEN2 := hI hl2.1
 have hn6 : (n : Int) <= 1000000 := by omega
 have HPOS := hI (show l1 = l2 -> eqC l1 l2 = true from eqC_pos)
 have HNEG := hI (show l1 ≠ l2 -> eqC l1 l2 = false from eqC_neg)
 generalize eqC l1 l2 = E at *
 have hb0 : Below w.heap.size w w := Below.refl _ _
 clear hl hl2 hn
 by_cases hnn : n' = n
 ·subst hnn
  go_enter Tryz.func36, Tryz.ntmps36
  go_wp2_with fail
  go_loopw [13] (fun i wx => ∃ q : Nat, q <= l1.length /\ i = .int .i64 q /\ Hid (l1.take q = l2.take q) /\ Below w.heap.size w wx) (fun i _ => l1.length - (intOf i).toNat)
  case atStart => exact ⟨0, Nat.zero_le _, rfl, hI (by rw [List.take_zero, List.take_zero]), hb0⟩
  case round =>
   clear hb0
   obtain ⟨q, hq, rfl, n3, zq⟩ := hrel
   by_cases hlq : q < l1.length
   ·have hi2 : (q : Int) < (n' : Int) := by have := HLEN.out; omega
    obtain ⟨b, off, cs, rfl, hb, hS, ⟨x, hx, rfl⟩, hrow⟩ := HL.out.2.at q (by have := HLEN.out; omega)
    obtain ⟨b2, off2, ds, rfl, hb2, hS2, ⟨y, hy, rfl⟩, hrow2⟩ := HL2.out.2.at q (by have := HLEN.out; omega)
    have HQL := hI hlq
    have HXQ := hI hx
    have HYQ := hI hy
    have hrow3 := rangeAt_keep hrow (zq.block b hb)
    have hrow4 := rangeAt_keep hrow2 (zq.block b2 hb2)
    obtain ⟨c0, c1⟩ := range2 hrow3
    obtain ⟨d0, d1⟩ := range2 hrow4
    obtain ⟨x1, x2⟩ := x
    obtain ⟨y1, y2⟩ := y
    dsimp only at c0 c1 d0 d1
    obtain ⟨wv, hwv⟩ : ∃ wv, wv = wr := ⟨_, rfl⟩
    subst hwv
    have HB2 := hI (fun k => show Below w.heap.size w (wv.drewN k) from ⟨zq.os, zq.tape, zq.output, zq.size, zq.block⟩)
    clear hx hy hb hb2 hS hS2 hrow hrow2 hrow3 hrow4 hlq hq zq
    by_cases hxy : x1 = y1 /\ x2 = y2
    ·obtain ⟨rfl, rfl⟩ := hxy
     go_wp2
     go_quiet (fail)
     go_wp2
     go_roundw
     case rel => exact ⟨q + 1, HQL.out, by go_num, hI (take_next n3.out HXQ.out HYQ.out rfl), HB2.out _⟩
     case measure => exact meas_up _ _ HQL.out
    have HR := hI (show E = false from HNEG.out fun e => by
     have h1 := HXQ.out
     rw [e, HYQ.out] at h1
     injection h1 with h1
     injection h1 with h1 h2
     exact hxy ⟨h1.symm, h2.symm⟩)
    have HH := hI (show ((bs x1).toList == (bs y1).toList && (bs x2).toList == (bs y2).toList) = false by
     rw [bs_toList, bs_toList, bs_toList, bs_toList]
     by_cases h1 : x1 = y1
     ·have h2 : ¬ x2 = y2 := fun h2 => hxy ⟨h1, h2⟩
      simp [h2]
     simp [h1])
    have hne : ∀ W : World, (Op.equalIn 10000 83 (.agg #[.string (bs x1), .string (bs x2)]) (.agg #[.string (bs y1), .string (bs y2)])).run Tryz.prog W = .ok false W := fun W => by
     go_simp
     have := HH.out
     simpa using this
    clear hxy
    go_wp2
    go_quiet (fail)
    go_wp2
    go_ret
    exact ⟨congrArg (fun v => Ending.returned (.bool v)) HR.out.symm, HB2.out _⟩
   have hi2 : ¬ (q : Int) < (n' : Int) := by have := HLEN.out; omega
   have HR := hI (show E = true from HPOS.out (by
    have h := n3.out
    rwa [List.take_of_length_le (by omega), List.take_of_length_le (by have := HLEN.out; have := HLEN2.out; omega)] at h))
   clear hlq hq n3
   go_wp2
   go_ret
   exact ⟨congrArg (fun v => Ending.returned (.bool v)) HR.out.symm, zq⟩
 have HR := hI (show E = false from HNEG.out fun e => hnn (by have h1 := HLEN.out; have h2 := HLEN2.out; rw [e] at h1; omega))
 have hne : ¬ (n : Int) = (n' : Int) := by omega
 clear hnn HL HL2
 go_enter Tryz.func36, Tryz.ntmps36
 go_wp2
 go_ret
 exact ⟨congrArg (fun v => Ending.returned (.bool v)) HR.out.symm, hb0⟩
/-- Whether two programs are equal. -/
def Prog'.Fit (p : Prog') : Prop := p.stores.length <= 1000000 /\ p.opers.length <= 1000000 /\ ∀ o ∈ p.opers, o.params.length <= 1000000 /\ St.sizes o.body <= 1000000
theorem same_any (p q : Prog') (hf : p.Fit) (w : World) (S S' : Nat -> Prop) (v u : Value) (hp : PV w S p v) (hq : PV w S' q u) :
  Calls Tryz.prog 16 #[v, u] w fun e w' => e = .returned (.bool (eqC p q)) /\ Below w.heap.size w w' := by
 obtain ⟨D1, nd1, cd1, O1, no1, co1, rfl, hd1, ho1⟩ := hp
 obtain ⟨D2, nd2, cd2, O2, no2, co2, rfl, hd2, ho2⟩ := hq
 obtain ⟨ds1, os1⟩ := p
 obtain ⟨ds2, os2⟩ := q
 dsimp only at *
 have lnd : nd1 <= 1000000 := by have := hd1.1; have := hf.1; dsimp only at this; omega
 have lno : no1 <= 1000000 := by have := ho1.1; have := hf.2.1; dsimp only at this; omega
 have iho := sameOL (l := os1) hf.2.2
 obtain ⟨W0, hW0⟩ : ∃ W0 : World, W0 = (w.alloc (.cells #[.slice D1 nd1 cd1, .slice O1 no1 co1] 36)).alloc (.cells #[.slice D2 nd2 cd2, .slice O2 no2 co2] 36) := ⟨_, rfl⟩
 have hba : Below w.heap.size w (w.alloc (.cells #[.slice D1 nd1 cd1, .slice O1 no1 co1] 36)) := (Below.refl _ _).alloc (Nat.le_refl _) _
 have hb0 : Below w.heap.size w W0 := by rw [hW0]; exact hba.alloc hba.size _
 have HF := hI (show ∀ W, Bz W0 W -> (W.cell? ⟨w.heap.size, 0, none⟩ = some (.slice D1 nd1 cd1) /\ W.cell? ⟨w.heap.size, 1, none⟩ = some (.slice O1 no1 co1) /\ W.cell? ⟨w.heap.size + 1, 0, none⟩ = some (.slice D2 nd2 cd2) /\ W.cell? ⟨w.heap.size + 1, 1, none⟩ = some (.slice O2 no2 co2)) from fun W h => by
  subst hW0
  have hs1 : (w.alloc (.cells #[.slice D1 nd1 cd1, .slice O1 no1 co1] 36)).heap.size = w.heap.size + 1 := World.size_alloc ..
  have hq := heap_alloc_new w (.cells #[.slice D1 nd1 cd1, .slice O1 no1 co1] 36)
  have hq2 := heap_alloc_new (w.alloc (.cells #[.slice D1 nd1 cd1, .slice O1 no1 co1] 36)) (.cells #[.slice D2 nd2 cd2, .slice O2 no2 co2] 36)
  have hq1 := (((Below.refl _ (w.alloc (.cells #[.slice D1 nd1 cd1, .slice O1 no1 co1] 36))).alloc (Nat.le_refl _) (.cells #[.slice D2 nd2 cd2, .slice O2 no2 co2] 36)).block w.heap.size (lt_of_block hq)).trans hq
  rw [hs1] at hq2
  have h1 := fun j v (hv : (#[.slice D1 nd1 cd1, .slice O1 no1 co1] : Array Value)[j]? = some v) => cell_of_Bz h (g := w.heap.size) (j := j) (v := v) (by rw [cell_of_row _ _ _ _ _ _ hq1]; exact hv) (lt_of_block hq1)
  have h2 := fun j v (hv : (#[.slice D2 nd2 cd2, .slice O2 no2 co2] : Array Value)[j]? = some v) => cell_of_Bz h (g := w.heap.size + 1) (j := j) (v := v) (by rw [cell_of_row _ _ _ _ _ _ hq2]; exact hv) (lt_of_block hq2)
  exact ⟨h1 0 _ rfl, h1 1 _ rfl, h2 0 _ rfl, h2 1 _ rfl⟩)
 have HG := hI (show ∀ W, Bz W0 W -> Below w.heap.size w W from fun W h => hb0.trans (h.b.mono hb0.size))
 have z0 : Bz W0 W0 := ⟨Below.refl _ _⟩
 have bl : ∀ {W : World}, Below w.heap.size w W -> ∀ (S : Nat -> Prop) b, b < w.heap.size -> S b -> W.heap[b]? = w.heap[b]? := fun h S b hlt _ => h.block b hlt
 have KD := hI (show ∀ W, Bz W0 W -> _ from fun W h => sameD ds1 ds2 W S S' D1 D2 nd1 cd1 nd2 cd2 (hd1.keep (HG.out W h).size (bl (HG.out W h) S) fun _ _ h => h) (hd2.keep (HG.out W h).size (bl (HG.out W h) S') fun _ _ h => h) lnd)
 have KO := hI (show ∀ W, Bz W0 W -> _ from fun W h => iho os2 W S S' O1 O2 no1 co1 no2 co2 (ho1.keep (HG.out W h).size (bl (HG.out W h) S) fun _ _ h => h) (ho2.keep (HG.out W h).size (bl (HG.out W h) S') fun _ _ h => h) lno)
 have NE := hI (show (eqC ds1 ds2 = false ∨ eqC os1 os2 = false) -> eqC (Prog'.mk ds1 os1) (.mk ds2 os2) = false from fun h => eqC_neg fun e => by
  injection e with e1 e2
  rcases h with h | h
  ·rw [eqC_pos e1] at h; cases h
  rw [eqC_pos e2] at h; cases h)
 have YE := hI (show eqC ds1 ds2 = true -> eqC os1 os2 = true -> eqC (Prog'.mk ds1 os1) (.mk ds2 os2) = true from fun h1 h2 => by
  have e1 : ds1 = ds2 := Classical.byContradiction fun h => by rw [eqC_neg h] at h1; cases h1
  have e2 : os1 = os2 := Classical.byContradiction fun h => by rw [eqC_neg h] at h2; cases h2
  exact eqC_pos (by rw [e1, e2]))
 generalize eqC (Prog'.mk ds1 os1) (.mk ds2 os2) = E at *
 generalize eqC ds1 ds2 = ed at *
 generalize eqC os1 os2 = eo at *
 clear hd1 ho1 hd2 ho2 iho hf lnd lno hb0 hba bl
 go_enter Tryz.func16, Tryz.ntmps16
 go_upto_region 1 with fail
 rw [<- hW0]
 clear hW0
 obtain ⟨c0, c1, d0, d1⟩ := HF.out _ z0
 go_wp2_with fail
 refine (KD.out _ z0).mono ?_
 rintro e w1 ⟨rfl, hb⟩
 have z1 := z0.next hb
 clear hb c0 c1 d0 d1
 obtain ⟨c0, c1, d0, d1⟩ := HF.out _ z1
 cases ed with
 | false =>
  have h : False ∨ false = false := .inr rfl
  have HR := hI (NE.out (.inl rfl))
  obtain rfl := HR.out
  go_wp2_with fail
  go_ret
  exact ⟨rfl, HG.out _ z1⟩
 | true =>
  go_wp2_with fail
  refine (KO.out _ z1).mono ?_
  rintro e w2 ⟨rfl, hb⟩
  have z2 := z1.next hb
  clear hb c0 c1 d0 d1
  obtain ⟨c0, c1, d0, d1⟩ := HF.out _ z2
  cases eo with
  | false =>
   have h : False ∨ false = false := .inr rfl
   have HR := hI (NE.out (.inr rfl))
   obtain rfl := HR.out
   go_wp2_with fail
   go_ret
   exact ⟨rfl, HG.out _ z2⟩
  | true =>
   have HR := hI (YE.out (by first | trivial | rfl) (by first | trivial | rfl))
   obtain rfl := HR.out
   go_wp2_with fail
   go_ret
   exact ⟨rfl, HG.out _ z2⟩
open Go.RowKit
theorem prP_rp {s : Str} (h : (rpP s).2.2 ≠ 0) : prP s = rpP s /\ (rpP s).1 = emP := by
 by_cases he : (Lx.scanL s).2.2 = 0
 ·cases hp : pP ((Lx.scanL s).1.map tkq) with
  | bad r => rw [prP_bad he hp, rpP_bad he hp]; exact ⟨rfl, rfl⟩
  | ok x r => rw [rpP_ok he hp] at h; exact absurd rfl h
 rw [prP_err he, rpP_err he]; exact ⟨rfl, rfl⟩
theorem prP_ok2 {s : Str} (h : (rpP s).2.2 = 0) : (rpP s).2.1 = 0 /\ (rpP s).1.Lim (s.length + 1) /\ prP s = if chkP (rpP s).1 = 0 then ((rpP s).1, 0, 0) else (emP, 0, chkP (rpP s).1) := by
 by_cases he : (Lx.scanL s).2.2 = 0
 ·cases hp : pP ((Lx.scanL s).1.map tkq) with
  | bad r => rw [rpP_bad he hp] at h; cases h
  | ok x r =>
   rw [rpP_ok he hp, prP_ok he hp]
   have hl := (size_pP hp).1
   have h2 := (scan_ok he).2.2.2.1
   rw [List.length_map] at hl
   dsimp only
   exact ⟨rfl, ⟨by have := hl.1; omega, by have := hl.2.1; omega, fun o ho => by have := hl.2.2 o ho; omega⟩, rfl⟩
 rw [rpP_err he] at h; exact absurd h he
theorem lim_fit {n : Nat} {p : Prog'} (h : p.Lim n) (hn : n <= 10000) : p.Fit := ⟨by have := h.1; omega, by have := h.2.1; omega, fun o ho => by have := h.2.2 o ho; omega⟩
theorem lim_few {n : Nat} {p : Prog'} (h : p.Lim n) (hn : n <= 10000) : p.Few := ⟨by have := h.1; omega, by have := h.2.1; omega, fun o ho => by have := h.2.2 o ho; omega⟩
theorem emP_fit : emP.Fit := ⟨Nat.zero_le _, Nat.zero_le _, fun o ho => by cases ho⟩
theorem parses_long (s : Str) (w : World) (hw : WW w) (hl : 1200 < s.length) : Calls Tryz.prog 4 #[.string (bs s)] w fun e w' => e = .returned (.bool true) /\ Below w.heap.size w w' := by
 have HW := hI hw
 have B := hI (Below.refl w.heap.size w)
 have hsz := bs_size s
 have hli : (1200 : Int) < (s.length : Int) := by omega
 have hld : decide ((1200 : Int) < (s.length : Int)) = true := decide_eq_true hli
 clear hw hl
 go_enter Tryz.func4, Tryz.ntmps4
 go_wp2_with fail
 refine (awake_any _ (HW.out.below B.out)).mono ?_
 rintro e wk ⟨rfl, hb⟩
 replace B := hI (B.out.trans (hb.mono B.out.size))
 clear hb
 go_wp2
 go_ret
 exact ⟨rfl, B.out⟩
theorem parses_short (s : Str) (w : World) (hw : WW w) (hl : ¬ 1200 < s.length) : Calls Tryz.prog 4 #[.string (bs s)] w fun e w' => e = .returned (.bool true) /\ Below w.heap.size w w' := by
 have HW := hI hw
 have B := hI (Below.refl w.heap.size w)
 have hsz := bs_size s
 have hli : (s.length : Int) <= 1200 := by omega
 have hld : decide ((1200 : Int) < (s.length : Int)) = false := decide_eq_false (by omega)
 obtain ⟨z1, hz1⟩ : ∃ z, z = (prP s).2.1 := ⟨_, rfl⟩
 obtain ⟨r1, hr1⟩ : ∃ z, z = (prP s).2.2 := ⟨_, rfl⟩
 obtain ⟨z2, hz2⟩ : ∃ z, z = (rpP s).2.1 := ⟨_, rfl⟩
 obtain ⟨r2, hr2⟩ : ∃ z, z = (rpP s).2.2 := ⟨_, rfl⟩
 have K1 := hI (parse_any s w hw (by omega))
 have K2 := hI fun W => rParse_any s W (by omega)
 rw [<- hz1, <- hr1] at K1
 rw [<- hz2, <- hr2] at K2
 have Z1 := hI hz1
 have R1 := hI hr1
 have Z2 := hI hz2
 have R2 := hI hr2
 have HL := hI hl
 clear hw hz1 hr1 hz2 hr2 hl
 go_enter Tryz.func4, Tryz.ntmps4
 go_wp2_with fail
 refine K1.out.mono ?_
 rintro e w1 ⟨v1, rfl, hv, hb⟩
 replace B := hI (B.out.trans (hb.mono B.out.size))
 clear hb K1
 obtain ⟨p1, hx1⟩ : ∃ z, z = (prP s).1 := ⟨_, rfl⟩
 rw [<- hx1] at hv
 have HX1 := hI hx1
 clear hx1
 obtain ⟨D1, nd1, cd1, O1, no1, co1, rfl, -, -⟩ := id hv
 obtain ⟨w1b, hwb⟩ : ∃ W, W = w1.alloc (.cells #[.slice D1 nd1 cd1, .slice O1 no1 co1] 36) := ⟨_, rfl⟩
 have hb : Below w1.heap.size w1 w1b := by rw [hwb]; exact (Below.refl _ _).alloc (Nat.le_refl _) _
 have P1 := hI (show HB 36 w1b w1.heap.size #[.slice D1 nd1 cd1, .slice O1 no1 co1] from by rw [hwb]; exact heap_alloc_new w1 _)
 have V1 := hI (hv.below hb)
 replace B := hI (B.out.trans (hb.mono B.out.size))
 clear hb hv
 go_upto_region 4 with fail
 rw [<- hwb]
 clear hwb
 generalize w1.heap.size = pb1 at *
 obtain h0 := K2.out w1b
 clear K2
 have K2 := hI h0
 clear h0
 go_wp2_with fail
 refine K2.out.mono ?_
 rintro e w2 ⟨v2, rfl, hv, hb⟩
 replace P1 := hI (P1.out.below hb)
 replace V1 := hI (V1.out.below hb)
 replace B := hI (B.out.trans (hb.mono B.out.size))
 clear hb K2
 obtain ⟨p2, hx2⟩ : ∃ z, z = (rpP s).1 := ⟨_, rfl⟩
 rw [<- hx2] at hv
 have HX2 := hI hx2
 clear hx2
 obtain ⟨D2, nd2, cd2, O2, no2, co2, rfl, -, -⟩ := id hv
 obtain ⟨w2b, hwb⟩ : ∃ W, W = w2.alloc (.cells #[.slice D2 nd2 cd2, .slice O2 no2 co2] 45) := ⟨_, rfl⟩
 have hb : Below w2.heap.size w2 w2b := by rw [hwb]; exact (Below.refl _ _).alloc (Nat.le_refl _) _
 have P2 := hI (show HB 45 w2b w2.heap.size #[.slice D2 nd2 cd2, .slice O2 no2 co2] from by rw [hwb]; exact heap_alloc_new w2 _)
 have V2 := hI (hv.below hb)
 replace P1 := hI (P1.out.below hb)
 replace V1 := hI (V1.out.below hb)
 replace B := hI (B.out.trans (hb.mono B.out.size))
 clear hb hv
 go_upto_region 5 with fail
 rw [<- hwb]
 clear hwb
 generalize w2.heap.size = pb2 at *
 by_cases h2 : r2 = 0
 ·subst h2
  obtain ⟨hz, hs, hp⟩ := prP_ok2 R2.out.symm
  obtain rfl : z2 = 0 := Z2.out.trans hz
  rw [<- HX2.out] at hs hp
  have HS := hI (show p2.Lim 1201 from ⟨by have := hs.1; have := HL.out; omega, by have := hs.2.1; have := HL.out; omega, fun o ho => by have := hs.2.2 o ho; have := HL.out; omega⟩)
  have HP := hI hp
  have KC := hI (rconvP_any p2 w2b _ _ V2.out (fun o ho => by have := (HS.out.2.2 o ho).2; omega) (by have := HS.out.1; omega) (by have := HS.out.2.1; omega))
  clear hz hs hp Z2
  go_wp2_with (with_reducible refine at_load_ (t := 45) ?_; refine Hid.out ?_)
  refine hI ?_
  refine wpList_load_row rfl _ _ rfl pb2 rfl _ _ _ _ P2.out Tryz.underlying45 rfl rp_size ?_
  clear P2
  go_wp2_with fail
  refine KC.out.mono ?_
  rintro e w3 ⟨v3, rfl, hv, hb⟩
  replace P1 := hI (P1.out.below hb)
  replace V1 := hI (V1.out.below hb)
  replace B := hI (B.out.trans (hb.mono B.out.size))
  clear hb KC
  obtain ⟨p3, hx3⟩ : ∃ z, z = p2 := ⟨_, rfl⟩
  rw [<- hx3] at hv
  have HX3 := hI hx3
  clear hx3
  obtain ⟨D3, nd3, cd3, O3, no3, co3, rfl, -, -⟩ := id hv
  obtain ⟨w3b, hwb⟩ : ∃ W, W = w3.alloc (.cells #[.slice D3 nd3 cd3, .slice O3 no3 co3] 36) := ⟨_, rfl⟩
  have hb : Below w3.heap.size w3 w3b := by rw [hwb]; exact (Below.refl _ _).alloc (Nat.le_refl _) _
  have P3 := hI (show HB 36 w3b w3.heap.size #[.slice D3 nd3 cd3, .slice O3 no3 co3] from by rw [hwb]; exact heap_alloc_new w3 _)
  have V3 := hI (hv.below hb)
  replace P1 := hI (P1.out.below hb)
  replace V1 := hI (V1.out.below hb)
  replace B := hI (B.out.trans (hb.mono B.out.size))
  clear hb hv
  go_upto_region 8 with fail
  rw [<- hwb]
  clear hwb
  generalize w3.heap.size = pb3 at *
  clear V2
  go_wp2_with (with_reducible refine at_load_ (t := 36) ?_; refine Hid.out ?_)
  refine hI ?_
  refine wpList_load_row rfl _ _ rfl pb3 rfl _ _ _ _ P3.out Tryz.underlying36 rfl pr_size ?_
  have KK := hI (check_any p3 _ _ w3b (HW.out.below B.out).sx V3.out (lim_few (by rw [HX3.out]; exact HS.out) (by omega)))
  obtain ⟨ck, hck⟩ : ∃ z, z = chkP p3 := ⟨_, rfl⟩
  rw [<- hck] at KK
  have CK := hI hck
  clear hck
  go_wp2_with fail
  refine KK.out.mono ?_
  rintro e w5 ⟨rfl, hb⟩
  replace P1 := hI (P1.out.below hb)
  replace V1 := hI (V1.out.below hb)
  replace P3 := hI (P3.out.below hb)
  replace V3 := hI (V3.out.below hb)
  replace B := hI (B.out.trans (hb.mono B.out.size))
  clear hb KK
  have hp := HP.out
  rw [<- HX3.out, <- CK.out] at hp
  by_cases h3 : ck = 0
  ·subst h3
   rw [if_pos rfl] at hp
   have e1' : z1 = 0 := by rw [Z1.out, hp]
   have e2' : p1 = p3 := by rw [HX1.out, hp]
   have e3' : r1 = 0 := by rw [R1.out, hp]
   subst e1' e2' e3'
   have AF := hI (lim_fit (p := p1) (by rw [HX3.out]; exact HS.out) (by omega))
   clear hp HP HX1 Z1 R1
   go_wp2_with fail
   refine (awake_any _ (HW.out.below B.out)).mono ?_
   rintro e wk ⟨rfl, hb⟩
   replace P1 := hI (P1.out.below hb)
   replace V1 := hI (V1.out.below hb)
   replace P3 := hI (P3.out.below hb)
   replace V3 := hI (V3.out.below hb)
   replace B := hI (B.out.trans (hb.mono B.out.size))
   clear hb
   have c10 : _ = some (Value.slice D1 nd1 cd1) := HB.cell P1.out 0
   have c11 : _ = some (Value.slice O1 no1 co1) := HB.cell P1.out 1
   have c30 : _ = some (Value.slice D3 nd3 cd3) := HB.cell P3.out 0
   have c31 : _ = some (Value.slice O3 no3 co3) := HB.cell P3.out 1
   have KS := hI (same_any p1 p1 AF.out _ _ _ _ _ V1.out V3.out)
   rw [eqC_pos rfl] at KS
   go_wp2_with fail
   refine KS.out.mono ?_
   rintro e wo ⟨rfl, hb⟩
   replace B := hI (B.out.trans (hb.mono B.out.size))
   clear hb
   clear c10 c11
   clear c30 c31
   go_wp2
   go_ret
   exact ⟨rfl, B.out⟩
  rw [if_neg h3] at hp
  have XE := hI (show p1 = emP from by rw [HX1.out, hp])
  have e1' : z1 = 0 := by rw [Z1.out, hp]
  have e3' : r1 = ck := by rw [R1.out, hp]
  subst e1' e3'
  have q1 : (r1 != 0) = true := by simpa using h3
  have q2 : decide (r1 = 0) = false := by simpa using h3
  have AF := hI (show p1.Fit from by rw [XE.out]; exact emP_fit)
  clear hp HP HX1 Z1 R1 h3 P3 V3 CK
  go_wp2_with fail
  refine (awake_any _ (HW.out.below B.out)).mono ?_
  rintro e wk ⟨rfl, hb⟩
  replace P1 := hI (P1.out.below hb)
  replace V1 := hI (V1.out.below hb)
  replace B := hI (B.out.trans (hb.mono B.out.size))
  clear hb
  have KS := hI (same_any p1 emP AF.out _ _ _ _ _ V1.out (pv_empty wk (fun _ => True)))
  rw [eqC_pos (show p1 = emP from XE.out)] at KS
  have c10 : _ = some (Value.slice D1 nd1 cd1) := HB.cell P1.out 0
  have c11 : _ = some (Value.slice O1 no1 co1) := HB.cell P1.out 1
  go_wp2_with fail
  refine KS.out.mono ?_
  rintro e wo ⟨rfl, hb⟩
  replace B := hI (B.out.trans (hb.mono B.out.size))
  clear hb
  clear c10 c11
  go_wp2
  go_ret
  exact ⟨rfl, B.out⟩
 have q1 : (r2 != 0) = true := by simpa using h2
 have q2 : decide (r2 = 0) = false := by simpa using h2
 obtain ⟨hp, he⟩ := prP_rp (s := s) (by rw [<- R2.out]; exact h2)
 have XE := hI (show p1 = emP from by rw [HX1.out, hp, he])
 have e1' : z1 = z2 := by rw [Z1.out, hp, Z2.out]
 have e3' : r1 = r2 := by rw [R1.out, hp, R2.out]
 subst e1' e3'
 have AF := hI (show p1.Fit from by rw [XE.out]; exact emP_fit)
 clear hp he HX1 Z1 R1 Z2 R2 h2 P2 V2 HX2
 go_wp2_with fail
 refine (awake_any _ (HW.out.below B.out)).mono ?_
 rintro e wk ⟨rfl, hb⟩
 replace P1 := hI (P1.out.below hb)
 replace V1 := hI (V1.out.below hb)
 replace B := hI (B.out.trans (hb.mono B.out.size))
 clear hb
 have KS := hI (same_any p1 emP AF.out _ _ _ _ _ V1.out (pv_empty wk (fun _ => True)))
 rw [eqC_pos (show p1 = emP from XE.out)] at KS
 have c10 : _ = some (Value.slice D1 nd1 cd1) := HB.cell P1.out 0
 have c11 : _ = some (Value.slice O1 no1 co1) := HB.cell P1.out 1
 go_wp2_with fail
 refine KS.out.mono ?_
 rintro e wo ⟨rfl, hb⟩
 replace B := hI (B.out.trans (hb.mono B.out.size))
 clear hb
 clear c10 c11
 go_wp2
 go_ret
 exact ⟨rfl, B.out⟩
theorem pparses_any (s : ByteArray) (w : World) (hw : WW w) : Calls Tryz.prog 4 #[.string s] w fun e w' => e = .returned (.bool true) /\ Below w.heap.size w w' := by
 rw [<- bs_eta s]
 by_cases hl : 1200 < s.data.toList.length
 ·exact parses_long _ w hw hl
 exact parses_short _ w hw hl
open Go.ChangeShapes Go.WideShapes Go.ChangeAt Go.WideMaps Go.WideElems Go.RowKit
theorem own : ownKnob Tryz.prog.godebug = none := by kernel_rfl
/-- The door's own heap meets the condition. -/
theorem door_met (os : Os) (args : Array Value) : laidMetH Tryz.prog Rows.parserBackRow.laid ((World.doorLaid Tryz.prog 65 os).forCall (fun _ _ => 0) ⟨#[], args, []⟩).memory :=
 laidMetH_of_parts3 (fuel := 8) (laidMet_of_run' 8 (by kernel_rfl) (by kernel_rfl)) (by kernel_rfl) (by kernel_rfl)
theorem row_of_trod {H : Type} {enc : TypeId × Value -> H} {w : World} {base fuel n : Nat} {sp : Nat -> Bool} {held : Bool} {t : TypeId} {cs : List Value} {ls : List (List UInt8)} {p : List MemPlace} (ht : Tryz.prog.underlying t = some (.array n 9))
  (h : DataW.trod enc Tryz.prog w base sp held fuel t cs = some (.agg (ls.map fun l => .lit (.string l)), p)) (hl : ls.length = n) (hct : Tryz.prog.cellsOf t = n) : cs = ls.map fun l => Value.string (bs l) := by
 obtain ⟨xs, m, _, hx, hcs, hxl, hf⟩ := DataW.trod_array ht h
 rw [hct] at hcs
 have c1 : Tryz.prog.cellsOf 9 = 1 := by kernel_rfl
 rw [c1] at hf
 have hxm : xs.map (·.1) = ls.map fun l => .lit (.string l) := by
  injection hx with hx _
  injection hx with hx
  exact hx.symm
 apply List.ext_getElem?
 intro i
 by_cases hi : i < n
 ·have h1 := hf i hi
  rw [Nat.mul_one] at h1
  have hxi : i < xs.length := by omega
  rw [List.getElem?_eq_getElem hxi] at h1
  obtain ⟨s, hs, hv, _⟩ := DataW.trod_string Tryz.underlying9 h1
  have h2 : xs[i].1 = .lit (.string ls[i]) := by
   have := congrArg (fun l => l[i]?) hxm
   simp only [List.getElem?_map, List.getElem?_eq_getElem hxi, List.getElem?_eq_getElem (show i < ls.length by omega), Option.map_some] at this
   exact Option.some.inj this
  rw [hv] at h2
  have h3 : s.data.toList = ls[i] := by
   injection h2 with h2
   injection h2
  have hci : i < cs.length := by omega
  have h4 : cs[i] = .string s := by
   rw [List.drop_eq_getElem_cons hci] at hs
   have := congrArg List.head? hs
   exact Option.some.inj this
  rw [List.getElem?_eq_getElem hci, h4, List.getElem?_map, List.getElem?_eq_getElem (show i < ls.length by omega), <- h3, Option.map_some, bs_eta]
 rw [List.getElem?_eq_none (by omega), List.getElem?_eq_none (by simp; omega)]
theorem var_row {w : World} {n : String} {g : Nat} {cs : Array Value} (hg : Tryz.prog.globalNamed n = some g) (h : w.var? Tryz.prog n = some cs) : ∃ t fr, w.heap[g]? = some (.cells cs t fr) := by
 simp only [World.var?, hg, Option.bind_some] at h
 split at h
 ·rename_i c t fr he
  injection h with h
  subst h
  exact ⟨_, _, he⟩
 cases h
theorem gPowT : (Tryz.prog.globals[3]?).map (·.type) = some 206 := by kernel_rfl
theorem ww_of_laid {w : World} (h : laidMetH Tryz.prog Rows.parserBackRow.laid w) : WW w := by
 have hpow : Lib.TabIs Tryz.prog w "internal/strconv.uint64pow10" .u64 Lib.pow10Tab := by
  rw [MakeChecks.laidMetH_plain _ _ _ (by kernel_rfl)] at h
  exact Lib.tabIs_of_head gPow gPowT Tryz.underlying206 Tryz.underlying157 (by kernel_rfl) (by kernel_rfl) h.tail.tail
 have h : laidMet Tryz.prog Rows.parserBackRow.laid w := h
 obtain ⟨ps, hv, hnd, hc⟩ := h
 obtain ⟨g1, t1, cs1, f1, p1, q1, _, _, _, _, hv, _⟩ := hv
 obtain ⟨g2, t2, cs2, f2, p2, q2, _, _, _, _, hv, _⟩ := hv
 obtain ⟨g3, t3, cs3, f3, p3, q3, _, _, _, _, hv, _⟩ := hv
 obtain ⟨g4, t4, cs4, f4, p4, q4, hg4, ht4, hw4, hd4, hv, _⟩ := hv
 obtain ⟨g5, t5, cs5, f5, p5, q5, hg5, ht5, hw5, hd5, hv, _⟩ := hv
 obtain ⟨g6, t6, cs6, f6, p6, q6, hg6, ht6, hw6, hd6, hv, _⟩ := hv
 obtain ⟨g7, t7, cs7, f7, p7, q7, hg7, ht7, hw7, hd7, hv, _⟩ := hv
 obtain rfl : g4 = 5 := Option.some.inj (hg4.symm.trans (by kernel_rfl))
 obtain rfl : g5 = 4 := Option.some.inj (hg5.symm.trans (by kernel_rfl))
 obtain rfl : g6 = 0 := Option.some.inj (hg6.symm.trans (by kernel_rfl))
 obtain rfl : g7 = 1 := Option.some.inj (hg7.symm.trans (by kernel_rfl))
 obtain rfl : t4 = 122 := Option.some.inj (ht4.symm.trans (by kernel_rfl))
 obtain rfl : t5 = 122 := Option.some.inj (ht5.symm.trans (by kernel_rfl))
 obtain rfl : t6 = 149 := Option.some.inj (ht6.symm.trans (by kernel_rfl))
 obtain rfl : t7 = 150 := Option.some.inj (ht7.symm.trans (by kernel_rfl))
 obtain ⟨u4, r4, h4⟩ := var_row hg4 hw4
 obtain ⟨u5, r5, h5⟩ := var_row hg5 hw5
 obtain ⟨u6, r6, h6⟩ := var_row hg6 hw6
 obtain ⟨u7, r7, h7⟩ := var_row hg7 hw7
 have e6 := row_of_trod (ls := Lx.kws) Tryz.underlying149 hd6 rfl (by kernel_rfl)
 have e6' := row_of_trod (ls := kwords) Tryz.underlying149 hd6 rfl (by kernel_rfl)
 have e7 := row_of_trod (ls := Lx.sgs) Tryz.underlying150 hd7 rfl (by kernel_rfl)
 obtain ⟨fu, u, v, e4, _, _⟩ := iface_of_trod Tryz.underlying122 hd4
 obtain ⟨fu5, u5', v5', e5, _, _⟩ := iface_of_trod Tryz.underlying122 hd5
 refine ⟨⟨⟨u6, r6, ?_⟩, ⟨u7, r7, ?_⟩, .iface u v, ?_, .inr ⟨u, v, rfl⟩⟩, ⟨⟨u6, r6, ?_⟩, hpow⟩, .iface u5' v5', ?_, .inr ⟨u5', v5', rfl⟩⟩
 ·rw [h6]
  have := e6
  first
   | (rw [show cs6 = (cs6.toList).toArray from rfl, e6]; rfl)
   | (rw [<- e6])
   | (simpa using e6)
 ·rw [h7]
  first
   | (rw [<- e7])
   | (rw [show cs7 = (cs7.toList).toArray from rfl, e7]; rfl)
 ·rw [cell_of_row _ _ _ _ _ _ h4, <- Array.getElem?_toList, e4]
  rfl
 ·exact h6.trans (by rw [<- e6'])
 rw [cell_of_row _ _ _ _ _ _ h5, <- Array.getElem?_toList, e5]
 rfl
end Go.Proofs.YtkakbidllpjopaaGreatDoor
