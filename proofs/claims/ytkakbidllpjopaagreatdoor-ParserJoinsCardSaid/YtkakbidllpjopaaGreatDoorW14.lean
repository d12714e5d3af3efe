/- The walk of syntax.Print (printed by wip/gensxy.py). Conditions: the library's tables are laid (SxW); at most 10000 parts an operation. The walks of law45's alone and awake. Conditions: the laid tables and error variables (WW). The walk of syntax.Same (printed by wip/genpzg.py): it tells whether two programs are equal. Conditions: at most 1000000 parts a list. The walks of sameExpr, sameStmt, sameOper (printed by wip/genpzh.py). Conditions: at most 1000000 parts a list. Contracts of Go's library at this translation, out of the kit's shelf. No condition beyond the contracts' own. -/
import Derived.Test.YtkakbidllpjopaaGreatDoorW13
import Derived.Test.YtkakbidllpjopaaGreatDoorW11
import Derived.Test.YtkakbidllpjopaaGreatDoorW01
import Derived.Shelf.Strings.Builder1
import Derived.Shelf.Strings.Builder2
import Derived.Shelf.Strings.OnBuilder
import Derived.Shelf.Small.Wraps
import Derived.Shelf.Strings.BuilderF
import Derived.Shelf.Strings.BuilderK
import Derived.Shelf.Strings.Builder2Cap
import Derived.Shelf.Strconv.Itoa0
import Derived.Shelf.Strconv.Itoa1
import Derived.Shelf.LaysM
import Derived.Shelf.Strconv.Itoa2
import Derived.Shelf.Strconv.Itoa3
import Derived.Shelf.Strconv.Itoa4
import Derived.Shelf.Strings.Prefix
import Derived.Shelf.Bits.Mul64
import Derived.Shelf.Strings.Repeat
import Derived.Shelf.Strings.BuilderCap
import Derived.Shelf.Slices.Turned
import Derived.Shelf.Slices.Equal
import Derived.Ground.Names2Prog
import Derived.Shelf.Slices.Clone
import Derived.Shelf.Slices.Empties2
import Derived.Ground.SlgnProg
import Derived.Shelf.SlicesE.Clone
import Derived.Test.YtkakbidllpjopaaGreatDoorProg
set_option linter.unusedVariables false
set_option linter.unusedSimpArgs false
namespace Go.Proofs.YtkakbidllpjopaaGreatDoor
open Go.RowKit

/-- A store's line. -/
def storeT (d : Decl') : Str := lineT 0 (([115, 116, 111, 114, 101, 32] : Str) ++ d.name ++ [32] ++ d.kind ++ [59])
/-- An operation's lines. -/
def operT (o : Oper') : Str := lineT 0 (([111, 112, 32] : Str) ++ o.name ++ [40] ++ Lib.join o.params [44, 32] ++ [41, 32, 123]) ++ txSs 1 o.body ++ lineT 0 [125]
/-- A program's text. -/
def txP (p : Prog') : Str := (p.stores.map storeT).flatten ++ (p.opers.map operT).flatten
/-- What Print answers: the text. -/
def printS (p : Prog') : Str := if chkP p ≠ 0 then [] else if 65536 < (txP p).length then [] else txP p
/-- .. and the error. -/
def printE (p : Prog') : Int := if chkP p ≠ 0 then chkP p else if 65536 < (txP p).length then 7 else 0
theorem runC_all {α : Type} {c : List Str → α → Int} {nm : α → Str} : ∀ {l : List α} {met : List Str}, runC c nm met l = 0 → ∀ x ∈ l, ∃ m, c m x = 0
  | [], _, _, x, h => by cases h
  | e :: t, met, h, x, hx => by
    rw [runC] at h
    split at h
    · exact absurd h (by assumption)
    · rename_i h3
      rcases List.mem_cons.1 hx with rfl | hx
      · exact ⟨met, Classical.not_not.1 h3⟩
      · exact runC_all h x hx
theorem freshL_all : ∀ {l met : List Str}, freshL met l = 0 → ∀ s ∈ l, nameOk s = true
  | [], _, _, x, h => by cases h
  | e :: t, met, h, x, hx => by
    rw [freshL] at h
    split at h
    · cases h
    · rename_i h3
      split at h
      · cases h
      · rcases List.mem_cons.1 hx with rfl | hx
        · simpa using h3
        · exact freshL_all h x hx
theorem freshC_ok {met : List Str} {s : Str} {r : Bool} (h : freshC met s r = 0) : nameOk s = true ∧ r = false ∧ met.contains s = false := by
  unfold freshC at h
  split at h
  · cases h
  · rename_i h1
    split at h
    · cases h
    · rename_i h2
      refine ⟨?_, ?_, by simpa using h2⟩
      · cases hq : nameOk s with
        | true => rfl
        | false => exact absurd (.inl hq) h1
      · cases r with
        | false => rfl
        | true => exact absurd (.inr rfl) h1
theorem decl_ok {met : List Str} {d : Decl'} (h : declC met d = 0) : nameOk d.name = true ∧ nameOk d.kind = true := by
  obtain ⟨h1, h2, _⟩ := freshC_ok h
  exact ⟨h1, by simpa using h2⟩
theorem oper_ok {met : List Str} {o : Oper'} (h : operC met o = 0) : nameOk o.name = true ∧ o.params.length ≤ 4 ∧ freshL [] o.params = 0 ∧ chkSs 1 o.body = 0 ∧ met.contains o.name = false := by
  unfold operC at h
  split at h
  · exact absurd h (by assumption)
  rename_i h0
  split at h
  · cases h
  rename_i h1
  split at h
  · exact absurd h (by assumption)
  rename_i h2
  obtain ⟨h3, _, h4⟩ := freshC_ok (Classical.not_not.1 h0)
  exact ⟨h3, by omega, Classical.not_not.1 h2, h, h4⟩
/-- What a valid program's parts are. -/
theorem chkP_ok {p : Prog'} (h : chkP p = 0) : p.stores.length ≤ 12 ∧ p.opers.length ≤ 32 ∧ (∀ d ∈ p.stores, nameOk d.name = true ∧ nameOk d.kind = true) ∧ (∀ o ∈ p.opers, nameOk o.name = true ∧ o.params.length ≤ 4 ∧ freshL [] o.params = 0 ∧ chkSs 1 o.body = 0) ∧ runC declC Decl'.name [] p.stores = 0 ∧ runC operC Oper'.name [] p.opers = 0 := by
  unfold chkP at h
  split at h
  · cases h
  rename_i h0
  split at h
  · exact absurd h (by assumption)
  rename_i h1
  have h2 := Classical.not_not.1 h1
  rw [storesL_run] at h2
  rw [opersL_run] at h
  refine ⟨by omega, by omega, fun d hd => ?_, fun o ho => ?_, h2, h⟩
  · obtain ⟨m, hm⟩ := runC_all h2 d hd
    exact decl_ok hm
  · obtain ⟨m, hm⟩ := runC_all h o ho
    obtain ⟨a1, a2, a3, a4, _⟩ := oper_ok hm
    exact ⟨a1, a2, a3, a4⟩
theorem sum_names : ∀ {l : List Str}, (∀ s ∈ l, nameOk s = true) → (l.map List.length).sum ≤ 24 * l.length
  | [], _ => by simp
  | e :: t, h => by
    have h1 := name_len (h e (by simp))
    have h2 := sum_names (l := t) fun s hs => h s (by simp [hs])
    simp only [List.map_cons, List.sum_cons, List.length_cons]
    omega
theorem params_len {l : List Str} (h : ∀ s ∈ l, nameOk s = true) (h4 : l.length ≤ 4) : (Lib.join l [44, 32]).length ≤ 104 := by
  have h1 := join_len [44, 32] l
  have h2 := sum_names h
  simp only [List.length_cons, List.length_nil] at h1
  omega
theorem flat_take {α : Type} {f : α → Str} {l : List α} {q : Nat} {x : α} (h : l[q]? = some x) : ((l.take (q + 1)).map f).flatten = ((l.take q).map f).flatten ++ f x := by
  rw [List.take_add_one, h]
  simp
theorem flat_len {α : Type} {f : α → Str} {c : Nat} : ∀ {l : List α}, (∀ x ∈ l, (f x).length ≤ c) → (l.map f).flatten.length ≤ l.length * c
  | [], _ => by simp
  | e :: t, h => by
    have h1 := h e (by simp)
    have h2 := flat_len (l := t) fun s hs => h s (by simp [hs])
    simp only [List.map_cons, List.flatten_cons, List.length_append, List.length_cons, Nat.succ_mul]
    omega
/-- Few parts an operation. -/
def Prog'.Few2 (p : Prog') : Prop := p.stores.length ≤ 10000 ∧ p.opers.length ≤ 10000 ∧ ∀ o ∈ p.opers, St.sizes o.body ≤ 10000
theorem Prog'.Few2.few {p : Prog'} (h : p.Few2) : p.Few := ⟨by have := h.1; omega, by have := h.2.1; omega, fun o ho => by have := h.2.2 o ho; omega⟩
theorem storeT_len {d : Decl'} (h : nameOk d.name = true ∧ nameOk d.kind = true) : (storeT d).length ≤ 60 := by
  have h1 := name_len h.1
  have h2 := name_len h.2
  rw [storeT, lineT_len]
  simp only [List.length_append, List.length_cons, List.length_nil]
  omega
theorem operT_len {o : Oper'} (h : nameOk o.name = true ∧ o.params.length ≤ 4 ∧ freshL [] o.params = 0 ∧ chkSs 1 o.body = 0) (hw : St.Wds o.body) (hz : St.sizes o.body ≤ 10000) : (operT o).length ≤ 3000200 := by
  have h1 := name_len h.1
  have h2 := params_len (freshL_all h.2.2.1) h.2.1
  have h3 : (txSs 1 o.body).length ≤ 300 * St.sizes o.body := txSs_len fun x hx => txS_len x 1 (chkSs_all h.2.2.2 x hx) (St.Wds_mem hw x hx)
  rw [operT, List.length_append, List.length_append, lineT_len, lineT_len]
  simp only [List.length_append, List.length_cons, List.length_nil]
  omega
theorem PV.wd {w : World} {S : Nat → Prop} {p : Prog'} {v : Value} (h : PV w S p v) : ∀ o ∈ p.opers, St.Wds o.body := by
  obtain ⟨D, nd, cd, O, no, co, _, _, h2, h3⟩ := h
  intro o ho
  obtain ⟨i, hi⟩ := List.mem_iff_getElem?.1 ho
  obtain ⟨b, q, cs, _, _, _, ⟨o', ho', hov⟩, _⟩ := h3.at i (by rw [h2]; exact (List.getElem?_eq_some_iff.1 hi).1)
  rw [hi] at ho'
  injection ho' with ho'
  subst ho'
  obtain ⟨P, np, cp, B, nb, cb, _, _, hb⟩ := hov
  exact hb.wds
set_option maxRecDepth 100000 in
set_option maxHeartbeats 12800000 in
theorem print_bad (p : Prog') (v : Value) (S : Nat → Prop) (w : World) (hw : SxW w) (hp : PV w S p v) (hf : p.Few2) (hc : chkP p ≠ 0) :
    Calls Tryz.prog 11 #[v] w fun e w' => e = .returned (.tuple #[.string (bs []), .int .i64 (chkP p)]) ∧ Below w.heap.size w w' := by
  have HB := Lib.hid (show ∀ X, Below w.heap.size w (w.alloc X) from fun X => (Below.refl _ _).alloc (Nat.le_refl _) X)
  have HCK := Lib.hid (show ∀ X, Calls Tryz.prog 18 #[v] (w.alloc X) fun e w' => e = .returned (.int .i64 (chkP p)) ∧ Below (w.alloc X).heap.size (w.alloc X) w' from fun X => check_any p v S _ (hw.below (HB.out X)) (hp.below (HB.out X)) hf.few)
  obtain ⟨D, nd, cd, O, no, co, rfl, -, -⟩ := hp
  generalize chkP p = C at *
  have hc1 : (C != 0) = true := by simp [hc]
  clear hw hf
  go_enter Tryz.func11, Tryz.ntmps11
  go_wp2_with fail
  refine (HCK.out _).mono ?_
  rintro e w1 ⟨rfl, hb⟩
  go_wp2
  go_ret2
  exact ⟨rfl, below_new hb⟩
set_option maxRecDepth 100000 in
set_option maxHeartbeats 12800000 in
theorem print_ok (p : Prog') (v : Value) (S : Nat → Prop) (w : World) (hw : SxW w) (hp : PV w S p v) (hf : p.Few2) (hc : chkP p = 0) :
    Calls Tryz.prog 11 #[v] w fun e w' => e = .returned (.tuple #[.string (bs (if 65536 < (txP p).length then [] else txP p)), .int .i64 (if 65536 < (txP p).length then 7 else 0)]) ∧ Below w.heap.size w w' := by
  have HB := Lib.hid (show ∀ X, Below w.heap.size w (w.alloc X) from fun X => (Below.refl _ _).alloc (Nat.le_refl _) X)
  have HCK := Lib.hid (show ∀ X, Calls Tryz.prog 18 #[v] (w.alloc X) fun e w' => e = .returned (.int .i64 0) ∧ Below (w.alloc X).heap.size (w.alloc X) w' from fun X => by
    have := check_any p v S _ (hw.below (HB.out X)) (hp.below (HB.out X)) hf.few
    rwa [hc] at this)
  obtain ⟨h12, h32, hds, hos, -, -⟩ := chkP_ok hc
  have hwd := hp.wd
  obtain ⟨TS, hTS⟩ : ∃ T, T = (if 65536 < (txP p).length then [] else txP p) := ⟨_, rfl⟩
  obtain ⟨TE, hTE⟩ : ∃ T : Int, T = (if 65536 < (txP p).length then 7 else 0) := ⟨_, rfl⟩
  rw [← hTS, ← hTE]
  have HTS := Lib.hid hTS
  have HTE := Lib.hid hTE
  obtain ⟨ds, os⟩ := p
  dsimp only at h12 h32 hds hos hwd
  have HSL := Lib.hid (show ∀ q, ((ds.take q).map storeT).flatten.length ≤ 1000 from fun q => by
    have h1 := flat_len (f := storeT) (c := 60) (l := ds.take q) fun x hx => storeT_len (hds x (List.mem_of_mem_take hx))
    have h2 : (ds.take q).length ≤ 12 := by rw [List.length_take]; omega
    have h3 := Nat.mul_le_mul_right 60 h2
    omega)
  have HOL := Lib.hid (show ∀ q, ((os.take q).map operT).flatten.length ≤ 97000000 from fun q => by
    have h1 := flat_len (f := operT) (c := 3000200) (l := os.take q) fun x hx => operT_len (hos x (List.mem_of_mem_take hx)) (hwd x (List.mem_of_mem_take hx)) (hf.2.2 x (List.mem_of_mem_take hx))
    have h2 : (os.take q).length ≤ 32 := by rw [List.length_take]; omega
    have h3 := Nat.mul_le_mul_right 3000200 h2
    omega)
  obtain ⟨D, nd, cd, O, no, co, rfl, hd, ho⟩ := hp
  dsimp only at hd ho
  have HD := Lib.hid hd
  have HO := Lib.hid ho
  have HND := Lib.hid hd.1
  have HNO := Lib.hid ho.1
  have HWS := Lib.hid hw
  have HDS := Lib.hid hds
  have HOS := Lib.hid hos
  have HWD := Lib.hid hwd
  have HFW := Lib.hid hf
  have hnd : (nd : Int) ≤ 12 := by have := hd.1; omega
  have hno : (no : Int) ≤ 32 := by have := ho.1; omega
  clear hw hf hc h12 h32 hds hos hwd hd ho hTS hTE
  go_enter Tryz.func11, Tryz.ntmps11
  go_wp2_with fail
  refine (HCK.out _).mono ?_
  rintro e w1 ⟨rfl, hb⟩
  have hX1 : w1.heap[w.heap.size]? = some (.cells #[.slice D nd cd, .slice O no co] 36 (0, 0)) := (hb.block _ (lt_alloc w _)).trans (heap_alloc_new w _)
  have HB1 := Lib.hid (below_new hb)
  have hlt1 : w.heap.size < w1.heap.size := lt_of_block hX1
  have HX1 := Lib.hid hX1
  have HLT1 := Lib.hid hlt1
  obtain ⟨d0, d1⟩ := cells2 ((heap_alloc_old w1 (.cells #[.pointer none, .slice none 0 0] 81) hlt1).trans hX1)
  clear hb HCK HB hX1 hlt1
  go_wp2_with fail
  obtain ⟨w2, hw2⟩ : ∃ w2 : World, w2 = w1.alloc (.cells #[.pointer none, .slice none 0 0] 81) := ⟨_, rfl⟩
  have HXW := Lib.hid (show ∀ W, Below w1.heap.size w2 W → (W.heap[w.heap.size]? = some (.cells #[.slice D nd cd, .slice O no co] 36 (0, 0))) ∧ Below w.heap.size w W from fun W h => by
    subst hw2
    refine ⟨(h.block _ HLT1.out).trans ((heap_alloc_old _ _ HLT1.out).trans HX1.out), (HB1.out.alloc HB1.out.size _).trans (h.mono (Nat.le_of_lt HLT1.out))⟩)
  have HZ := Lib.hid (show PB w1.heap.size w1.heap.size (((ds.take 0).map storeT).flatten) w2 ∧ Below w1.heap.size w2 w2 ∧ w1.heap.size ≤ w2.heap.size from by
    rw [hw2]
    exact ⟨PB.fresh w1, Below.refl _ _, by simp⟩)
  rw [← hw2]
  clear hw2 d0 d1 HX1
  go_loopw [18] (fun i wr => ∃ q : Nat, q ≤ ds.length ∧ i = .int .i64 q ∧ Hid (PB w1.heap.size w1.heap.size (((ds.take q).map storeT).flatten) wr ∧ Below w1.heap.size w2 wr ∧ w1.heap.size ≤ wr.heap.size)) (fun i _ => ds.length - (intOf i).toNat)
  case atStart => exact ⟨0, Nat.zero_le _, rfl, HZ⟩
  case round =>
    clear HZ
    obtain ⟨q, hq, rfl, Z⟩ := hrel
    by_cases hl : q < ds.length
    · have hi2 : (q : Int) < (nd : Int) := by have := HND.out; omega
      obtain ⟨b, off, cs, rfl, hb, hS, ⟨x, hx, rfl⟩, hrow⟩ := HD.out.2.at q (by have := HND.out; omega)
      have HQL := Lib.hid hl
      have hrow2 := rangeAt_keep hrow ((HXW.out _ Z.out.2.1).2.block b hb)
      have e0 := hrow2 0 _ rfl
      have e1 := hrow2 1 _ rfl
      simp only [Nat.add_zero] at e0
      have hxl := HDS.out x (List.mem_of_getElem? hx)
      have HSN := Lib.hid (show ((ds.take (q + 1)).map storeT).flatten = ((ds.take q).map storeT).flatten ++ storeT x from flat_take hx)
      obtain ⟨xn, xk⟩ := x
      have hl1 := name_len hxl.1
      have hl2 := name_len hxl.2
      dsimp only at hl1 hl2 e0 e1
      obtain ⟨c1, hc1⟩ : ∃ c, c = ([115, 116, 111, 114, 101, 32] : Str) ++ xn := ⟨_, rfl⟩
      have lc1 : c1.length = 6 + xn.length := by rw [hc1]; exact List.length_append
      have jc1 : ∀ w, (Op.stringOp .add (⟨#[115, 116, 111, 114, 101, 32]⟩ : ByteArray) (bs xn)).run Tryz.prog w = .ok (.string (bs c1)) w := fun w => by rw [hc1]; exact add_big ([115, 116, 111, 114, 101, 32] : Str) xn (by first | omega | (simp; omega)) w
      obtain ⟨c2, hc2⟩ : ∃ c, c = c1 ++ ([32] : Str) := ⟨_, rfl⟩
      have lc2 : c2.length = c1.length + 1 := by rw [hc2]; exact List.length_append
      have jc2 : ∀ w, (Op.stringOp .add (bs c1) (⟨#[32]⟩ : ByteArray)).run Tryz.prog w = .ok (.string (bs c2)) w := fun w => by rw [hc2]; exact add_big c1 ([32] : Str) (by first | omega | (simp; omega)) w
      obtain ⟨c3, hc3⟩ : ∃ c, c = c2 ++ xk := ⟨_, rfl⟩
      have lc3 : c3.length = c2.length + xk.length := by rw [hc3]; exact List.length_append
      have jc3 : ∀ w, (Op.stringOp .add (bs c2) (bs xk)).run Tryz.prog w = .ok (.string (bs c3)) w := fun w => by rw [hc3]; exact add_big c2 xk (by first | omega | (simp; omega)) w
      obtain ⟨c4, hc4⟩ : ∃ c, c = c3 ++ ([59] : Str) := ⟨_, rfl⟩
      have lc4 : c4.length = c3.length + 1 := by rw [hc4]; exact List.length_append
      have jc4 : ∀ w, (Op.stringOp .add (bs c3) (⟨#[59]⟩ : ByteArray)).run Tryz.prog w = .ok (.string (bs c4)) w := fun w => by rw [hc4]; exact add_big c3 ([59] : Str) (by first | omega | (simp; omega)) w
      have HTX := Lib.hid (show storeT ⟨xn, xk⟩ = lineT 0 c4 from by rw [storeT, hc4, hc3, hc2, hc1])
      have ha : Below wr.heap.size wr ((wr.alloc (.cells #[.string (bs xn), .string (bs xk)] 83))) := (Below.refl _ _).alloc (Nat.le_refl _) _
      have HA := Lib.hid ha
      have HLN := Lib.hid (line_any w1.heap.size w1.heap.size (((ds.take q).map storeT).flatten) c4 0 _ (by decide) (Z.out.1.keep ha) (by have := HSL.out q; omega) (Nat.le_trans Z.out.2.2 ha.size))
      clear hx hb hS hrow hrow2 hl hq ha hxl hl1 hl2 hc1 lc1 hc2 lc2 hc3 lc3 hc4 lc4
      go_wp2_with fail
      refine HLN.out.mono ?_
      rintro e w4 ⟨rfl, hp4, hb4, -⟩
      have Z4 : Hid (PB w1.heap.size w1.heap.size (((ds.take (q + 1)).map storeT).flatten) w4 ∧ Below w1.heap.size w2 w4 ∧ w1.heap.size ≤ w4.heap.size) := Lib.hid ⟨by rw [HSN.out, HTX.out]; exact hp4, (Z.out.2.1.trans (HA.out.mono Z.out.2.2)).trans hb4, Nat.le_trans (Nat.le_trans Z.out.2.2 HA.out.size) hb4.size⟩
      clear hp4 hb4 e0 e1 HLN
      go_wp2
      go_roundw
      case rel => exact ⟨q + 1, HQL.out, by go_num, Z4⟩
      case measure => exact meas_up _ _ HQL.out
    · have hi2 : ¬ (q : Int) < (nd : Int) := by have := HND.out; omega
      have hqd : ds.take q = ds := List.take_of_length_le (by omega)
      have HSD := Lib.hid (HSL.out q)
      rw [hqd] at Z HSD
      obtain ⟨TD, hTD⟩ : ∃ T, T = (ds.map storeT).flatten := ⟨_, rfl⟩
      have HTD := Lib.hid hTD
      rw [← hTD] at Z HSD
      clear hl hq hqd hTD HSL
      obtain ⟨d0, d1⟩ := cells2 (HXW.out _ Z.out.2.1).1
      go_wp2_with fail
      have Z0 : Hid (PB w1.heap.size w1.heap.size (TD ++ ((os.take 0).map operT).flatten) wr ∧ Below w1.heap.size w2 wr ∧ w1.heap.size ≤ wr.heap.size) := Lib.hid ⟨by simpa using Z.out.1, Z.out.2⟩
      clear d0 d1 Z
      go_loopw [35] (fun i wr => ∃ q : Nat, q ≤ os.length ∧ i = .int .i64 q ∧ Hid (PB w1.heap.size w1.heap.size (TD ++ ((os.take q).map operT).flatten) wr ∧ Below w1.heap.size w2 wr ∧ w1.heap.size ≤ wr.heap.size)) (fun i _ => os.length - (intOf i).toNat)
      case atStart => exact ⟨0, Nat.zero_le _, rfl, Z0⟩
      case round =>
        clear Z0
        obtain ⟨q, hq, rfl, Z⟩ := hrel
        by_cases hl : q < os.length
        · have hi2 : (q : Int) < (no : Int) := by have := HNO.out; omega
          obtain ⟨b, off, cs, rfl, hb, hS, ⟨x, hx, hov⟩, hrow⟩ := HO.out.2.at q (by have := HNO.out; omega)
          have HQL := Lib.hid hl
          have hbase := (HXW.out _ Z.out.2.1).2
          have hrow2 := rangeAt_keep hrow (hbase.block b hb)
          have hxl := HOS.out x (List.mem_of_getElem? hx)
          have hxf := HFW.out.2.2 x (List.mem_of_getElem? hx)
          have hxw := HWD.out x (List.mem_of_getElem? hx)
          have HSN := Lib.hid (show TD ++ ((os.take (q + 1)).map operT).flatten = (TD ++ ((os.take q).map operT).flatten) ++ operT x by rw [flat_take hx, List.append_assoc])
          have hol := HOL.out q
          have hol2 := operT_len hxl hxw hxf
          obtain ⟨xn, xp, xb⟩ := x
          obtain ⟨P2, np2, cp2, B2, nb2, cb2, rfl, hss, hsb⟩ := hov
          dsimp only at hxl hxf hss hsb hrow2 hxw
          have e0 := hrow2 0 _ rfl
          have e1 := hrow2 1 _ rfl
          have e2 := hrow2 2 _ rfl
          simp only [Nat.add_zero] at e0
          have hl1 := name_len hxl.1
          have hl2 := params_len (freshL_all hxl.2.2.1) hxl.2.1
          have hJ := fun W (h : Below w.heap.size w W) => join_ss (hss.keep h.size (fun b hlt _ => h.block b hlt) (S' := S) (fun _ _ h => h)) [44, 32] (by have := hxl.2.1; omega) (by omega)
          obtain ⟨tj, htj⟩ : ∃ t, t = Lib.join xp [44, 32] := ⟨_, rfl⟩
          rw [← htj] at hl2 hJ
          obtain ⟨c1, hc1⟩ : ∃ c, c = ([111, 112, 32] : Str) ++ xn := ⟨_, rfl⟩
          have lc1 : c1.length = 3 + xn.length := by rw [hc1]; exact List.length_append
          have jc1 : ∀ w, (Op.stringOp .add (⟨#[111, 112, 32]⟩ : ByteArray) (bs xn)).run Tryz.prog w = .ok (.string (bs c1)) w := fun w => by rw [hc1]; exact add_big ([111, 112, 32] : Str) xn (by first | omega | (simp; omega)) w
          obtain ⟨c2, hc2⟩ : ∃ c, c = c1 ++ ([40] : Str) := ⟨_, rfl⟩
          have lc2 : c2.length = c1.length + 1 := by rw [hc2]; exact List.length_append
          have jc2 : ∀ w, (Op.stringOp .add (bs c1) (⟨#[40]⟩ : ByteArray)).run Tryz.prog w = .ok (.string (bs c2)) w := fun w => by rw [hc2]; exact add_big c1 ([40] : Str) (by first | omega | (simp; omega)) w
          obtain ⟨c3, hc3⟩ : ∃ c, c = c2 ++ tj := ⟨_, rfl⟩
          have lc3 : c3.length = c2.length + tj.length := by rw [hc3]; exact List.length_append
          have jc3 : ∀ w, (Op.stringOp .add (bs c2) (bs tj)).run Tryz.prog w = .ok (.string (bs c3)) w := fun w => by rw [hc3]; exact add_big c2 tj (by first | omega | (simp; omega)) w
          obtain ⟨c4, hc4⟩ : ∃ c, c = c3 ++ ([41, 32, 123] : Str) := ⟨_, rfl⟩
          have lc4 : c4.length = c3.length + 3 := by rw [hc4]; exact List.length_append
          have jc4 : ∀ w, (Op.stringOp .add (bs c3) (⟨#[41, 32, 123]⟩ : ByteArray)).run Tryz.prog w = .ok (.string (bs c4)) w := fun w => by rw [hc4]; exact add_big c3 ([41, 32, 123] : Str) (by first | omega | (simp; omega)) w
          obtain ⟨tb, htb⟩ : ∃ t, t = txSs 1 xb := ⟨_, rfl⟩
          have hTX : operT ⟨xn, xp, xb⟩ = lineT 0 c4 ++ tb ++ lineT 0 [125] := by rw [operT, hc4, hc3, hc2, hc1, htj, htb]
          have hTXl := congrArg List.length hTX
          simp only [List.length_append, lineT_len] at hTXl
          simp only [List.length_cons, List.length_nil] at hTXl
          obtain ⟨l0, hl0⟩ : ∃ l, l = TD ++ ((os.take q).map operT).flatten := ⟨_, rfl⟩
          have hl0l := congrArg List.length hl0
          rw [List.length_append] at hl0l
          have hsd := HSD.out
          have z0 : Pz w1.heap.size w1.heap.size wr wr.heap.size 76 #[.string (bs xn), .slice P2 np2 cp2, .slice B2 nb2 cb2] l0 (wr.alloc (.cells #[.string (bs xn), .slice P2 np2 cp2, .slice B2 nb2 cb2] 76)) := Pz.start (by rw [hl0]; exact Z.out.1) Z.out.2.2 (by decide)
          have HBS := Lib.hid (show ∀ W, Below w1.heap.size wr W → Below w.heap.size w W from fun W h => (HXW.out W (Z.out.2.1.trans h)).2)
          have HJN := Lib.hid (show ∀ l' W, Pz w1.heap.size w1.heap.size wr wr.heap.size 76 #[.string (bs xn), .slice P2 np2 cp2, .slice B2 nb2 cb2] l' W → Calls Tryz.prog 26 #[.slice P2 np2 cp2, .string ⟨#[44, 32]⟩] W fun e w' => e = .returned (.string (bs tj)) ∧ Below W.heap.size W w' from fun l' W z => hJ W (HBS.out W z.bl))
          have HC := Lib.hid (show ∀ l' W, Pz w1.heap.size w1.heap.size wr wr.heap.size 76 #[.string (bs xn), .slice P2 np2 cp2, .slice B2 nb2 cb2] l' W → (W.cell? ⟨wr.heap.size, 0, none⟩ = some (.string (bs xn)) ∧ W.cell? ⟨wr.heap.size, 1, none⟩ = some (.slice P2 np2 cp2) ∧ W.cell? ⟨wr.heap.size, 2, none⟩ = some (.slice B2 nb2 cb2)) from fun l' W z => cells3 z.bx)
          have HL1 := Lib.hid (show ∀ W, Pz w1.heap.size w1.heap.size wr wr.heap.size 76 #[.string (bs xn), .slice P2 np2 cp2, .slice B2 nb2 cb2] l0 W → Calls Tryz.prog 25 #[.pointer (some ⟨w1.heap.size, 0, none⟩), .int .i64 0, .string (bs c4)] W fun e w' => e = .returned (.tuple #[]) ∧ PB w1.heap.size w1.heap.size (l0 ++ lineT 0 c4) w' ∧ Below w1.heap.size W w' ∧ Fr w1.heap.size W w' from fun W z => line_any w1.heap.size w1.heap.size l0 c4 0 W (by decide) z.pb (by omega) z.sz)
          have HA1 := Lib.hid (show ∀ W, Pz w1.heap.size w1.heap.size wr wr.heap.size 76 #[.string (bs xn), .slice P2 np2 cp2, .slice B2 nb2 cb2] (l0 ++ lineT 0 c4) W → Calls Tryz.prog 27 #[.pointer (some ⟨w1.heap.size, 0, none⟩), .int .i64 1, .slice B2 nb2 cb2] W fun e w' => e = .returned (.tuple #[]) ∧ PB w1.heap.size w1.heap.size (l0 ++ lineT 0 c4 ++ tb) w' ∧ Below w1.heap.size W w' ∧ Fr w1.heap.size W w' from fun W z => by
            rw [htb]
            exact allAt_any xb 1 1 w S B2 nb2 cb2 w1.heap.size w1.heap.size (l0 ++ lineT 0 c4) W rfl HWS.out hxl.2.2.2 (by omega) (by rw [← htb, List.length_append, lineT_len]; omega) hsb (HBS.out W z.bl) (Nat.le_of_lt HLT1.out) z.sz z.pb)
          have HL2 := Lib.hid (show ∀ W, Pz w1.heap.size w1.heap.size wr wr.heap.size 76 #[.string (bs xn), .slice P2 np2 cp2, .slice B2 nb2 cb2] (l0 ++ lineT 0 c4 ++ tb) W → Calls Tryz.prog 25 #[.pointer (some ⟨w1.heap.size, 0, none⟩), .int .i64 0, .string ⟨#[125]⟩] W fun e w' => e = .returned (.tuple #[]) ∧ PB w1.heap.size w1.heap.size (l0 ++ lineT 0 c4 ++ tb ++ lineT 0 ([125] : Str)) w' ∧ Below w1.heap.size W w' ∧ Fr w1.heap.size W w' from fun W z => line_any w1.heap.size w1.heap.size (l0 ++ lineT 0 c4 ++ tb) [125] 0 W (by decide) z.pb (by rw [List.length_append, List.length_append, lineT_len]; simp only [List.length_cons, List.length_nil]; omega) z.sz)
          have HEND := Lib.hid (show l0 ++ lineT 0 c4 ++ tb ++ lineT 0 ([125] : Str) = TD ++ ((os.take (q + 1)).map operT).flatten by rw [HSN.out, hTX, hl0]; simp only [List.append_assoc])
          clear hx hb hS hrow hrow2 hl hq hxl hxf hxw hss hsb hl1 hl2 hJ htj htb hTX hTXl hl0 hl0l hsd hbase hol hol2 hc1 lc1 hc2 lc2 hc3 lc3 hc4 lc4
          go_upto_region 13 with fail
          have z1 := z0.drew
          go_region_held3 (fun W => (W.cell? ⟨wr.heap.size, 0, none⟩ = some (.string (bs xn)) ∧ W.cell? ⟨wr.heap.size, 1, none⟩ = some (.slice P2 np2 cp2) ∧ W.cell? ⟨wr.heap.size, 2, none⟩ = some (.slice B2 nb2 cb2))) (exact HC.out _ _ (by assumption)) (first
            | (go_at_call 26; refine (HJN.out _ _ (by assumption)).mono ?_; rintro e wt ⟨rfl, hb⟩; have zt := Pz.next (by assumption) hb; clear hb)
            | (go_at_call 25; refine (HL1.out _ (by assumption)).mono ?_; rintro e ws ⟨rfl, hp', hb', hf'⟩; have zs := Pz.put (by assumption) hp' hb' hf'; clear hp' hb' hf'))
          all_goals
            obtain ⟨c0, c1', c2'⟩ := HC.out _ _ zs
            go_wp2_with fail
            refine (HA1.out _ zs).mono ?_
            rintro e w5 ⟨rfl, hp', hb', hf'⟩
            have z5 := zs.put hp' hb' hf'
            clear hp' hb' hf' c0 c1' c2'
            go_wp2_with fail
            refine (HL2.out _ z5).mono ?_
            rintro e w6 ⟨rfl, hp', hb', hf'⟩
            have z6 := z5.put hp' hb' hf'
            clear hp' hb' hf'
            have Z6 : Hid (PB w1.heap.size w1.heap.size (TD ++ ((os.take (q + 1)).map operT).flatten) w6 ∧ Below w1.heap.size w2 w6 ∧ w1.heap.size ≤ w6.heap.size) := Lib.hid ⟨by rw [← HEND.out]; exact z6.pb, Z.out.2.1.trans z6.bl, z6.sz⟩
            go_wp2
            go_roundw
            case rel => exact ⟨q + 1, HQL.out, by go_num, Z6⟩
            case measure => exact meas_up _ _ HQL.out
        · have hi2 : ¬ (q : Int) < (no : Int) := by have := HNO.out; omega
          have hqo : os.take q = os := List.take_of_length_le (by omega)
          have HOD := Lib.hid (HOL.out q)
          rw [hqo] at Z HOD
          obtain ⟨T, hT⟩ : ∃ T, T = TD ++ (os.map operT).flatten := ⟨_, rfl⟩
          have hTP : txP ⟨ds, os⟩ = T := by rw [hT, HTD.out]; rfl
          have HLEN := Lib.hid (show T.length ≤ 98000000 by rw [hT, List.length_append]; have := HSD.out; have := HOD.out; omega)
          rw [hTP] at HTS HTE
          rw [← hT] at Z
          have HLN := Lib.hid (len_any w1.heap.size w1.heap.size T wr Z.out.1.1)
          have HST := Lib.hid (string_any w1.heap.size w1.heap.size T wr Z.out.1)
          clear hl hq hqo hT hTP HOL
          go_wp2_with fail
          refine HLN.out.mono ?_
          rintro e w5 ⟨rfl, h⟩
          subst w5
          by_cases hbig : 65536 < (T.length : Int)
          · have HR1 := Lib.hid (show TS = [] by rw [HTS.out, if_pos (by omega)])
            have HR2 := Lib.hid (show TE = 7 by rw [HTE.out, if_pos (by omega)])
            go_wp2
            go_ret2
            exact ⟨by rw [HR1.out, HR2.out]; rfl, (HXW.out _ Z.out.2.1).2⟩
          · have HR1 := Lib.hid (show TS = T by rw [HTS.out, if_neg (by omega)])
            have HR2 := Lib.hid (show TE = 0 by rw [HTE.out, if_neg (by omega)])
            go_wp2_with fail
            refine HST.out.mono ?_
            rintro e w6 ⟨rfl, hb6⟩
            have HB6 := Lib.hid ((HXW.out _ (Z.out.2.1.trans hb6)).2)
            clear hb6
            go_wp2
            go_ret2
            exact ⟨by rw [HR1.out, HR2.out]; rfl, HB6.out⟩
theorem print_any (p : Prog') (v : Value) (S : Nat → Prop) (w : World) (hw : SxW w) (hp : PV w S p v) (hf : p.Few2) :
    Calls Tryz.prog 11 #[v] w fun e w' => e = .returned (.tuple #[.string (bs (printS p)), .int .i64 (printE p)]) ∧ Below w.heap.size w w' := by
  unfold printS printE
  by_cases hc : chkP p = 0
  · rw [if_neg (show ¬ chkP p ≠ 0 by simp [hc]), if_neg (show ¬ chkP p ≠ 0 by simp [hc])]
    exact print_ok p v S w hw hp hf hc
  · rw [if_pos hc, if_pos hc]
    exact print_bad p v S w hw hp hf hc
end Go.Proofs.YtkakbidllpjopaaGreatDoor
namespace Go.Proofs.YtkakbidllpjopaaGreatDoor
open Go.RowKit

theorem alone_few2 {e : Ex} (h : e.size ≤ 9000) : (aloneP e).Few2 := by
  refine ⟨Nat.zero_le _, show 1 ≤ 10000 from by omega, fun o ho => ?_⟩
  rw [List.mem_singleton.1 ho]
  simp only [St.sizes, St.size]
  omega
set_option maxRecDepth 100000 in
set_option maxHeartbeats 12800000 in
theorem alone_any (x : Ex) (cs : List Value) (w : World) (S : Nat → Prop) (h : XV w S x cs) : Calls Tryz.prog 12 #[.agg cs.toArray] w fun e w' => ∃ v, e = .returned v ∧ PV w' (fun _ => True) (aloneP x) v ∧ Below w.heap.size w w' := by
  obtain ⟨xx, hxx⟩ : ∃ z, z = x := ⟨_, rfl⟩
  have HXX := Lib.hid hxx
  rw [← hxx]
  obtain ⟨k1, n1, s1, m1, a1, o1⟩ := x
  obtain ⟨A1, na1, ca1, O1, no1, co1, rfl, -, -⟩ := h.open_
  rw [show (exC k1 n1 s1 m1 A1 na1 ca1 O1 no1 co1).toArray = #[.int .i64 k1, .int .i64 n1, .string (bs s1), .string (bs m1), .slice A1 na1 ca1, .slice O1 no1 co1] from rfl]
  obtain ⟨wa, hwa⟩ : ∃ W, W = w.alloc (.cells #[.int .i64 k1, .int .i64 n1, .string (bs s1), .string (bs m1), .slice A1 na1 ca1, .slice O1 no1 co1] 27) := ⟨_, rfl⟩
  obtain ⟨wb, hwb⟩ : ∃ W, W = wa.alloc (.cells #[.slice none 0 0, .slice none 0 0] 36) := ⟨_, rfl⟩
  obtain ⟨wS, hwS⟩ : ∃ W, W = wb.alloc (.cells #[.int .i64 5, .string { data := #[] }, .int .i64 0, .int .i64 k1, .int .i64 n1, .string (bs s1), .string (bs m1), .slice A1 na1 ca1, .slice O1 no1 co1, .slice none 0 0, .slice none 0 0] 74) := ⟨_, rfl⟩
  obtain ⟨wO, hwO⟩ : ∃ W, W = wS.alloc (.cells #[.string { data := #[120] }, .slice none 0 0, .slice (some ⟨w.heap.size + 2, 0, none⟩) 1 1] 76) := ⟨_, rfl⟩
  have ha : Below w.heap.size w wa := by rw [hwa]; exact (Below.refl _ _).alloc (Nat.le_refl _) _
  have hb : Below wa.heap.size wa wb := by rw [hwb]; exact (Below.refl _ _).alloc (Nat.le_refl _) _
  have hS : Below wb.heap.size wb wS := by rw [hwS]; exact (Below.refl _ _).alloc (Nat.le_refl _) _
  have hO : Below wS.heap.size wS wO := by rw [hwO]; exact (Below.refl _ _).alloc (Nat.le_refl _) _
  have sa : wa.heap.size = w.heap.size + 1 := by rw [hwa]; exact World.size_alloc ..
  have sb : wb.heap.size = w.heap.size + 2 := by rw [hwb, World.size_alloc, sa]
  have sS : wS.heap.size = w.heap.size + 3 := by rw [hwS, World.size_alloc, sb]
  have qx : XB wb w.heap.size #[.int .i64 k1, .int .i64 n1, .string (bs s1), .string (bs m1), .slice A1 na1 ca1, .slice O1 no1 co1] := XB.below (w := wa) (show wa.heap[w.heap.size]? = _ from by rw [hwa]; exact heap_alloc_new w _) hb
  have qr : HB 36 wO (w.heap.size + 1) #[.slice none 0 0, .slice none 0 0] := HB.below (HB.below (show HB 36 wb _ _ from by rw [← sa, hwb]; exact heap_alloc_new wa _) hS) hO
  have qS : wO.heap[w.heap.size + 2]? = some (.cells #[.int .i64 5, .string { data := #[] }, .int .i64 0, .int .i64 k1, .int .i64 n1, .string (bs s1), .string (bs m1), .slice A1 na1 ca1, .slice O1 no1 co1, .slice none 0 0, .slice none 0 0] 74 (0, 0)) := by rw [hO.block _ (by omega), ← sb, hwS]; exact heap_alloc_new wb _
  have qO : wO.heap[w.heap.size + 3]? = some (.cells #[.string { data := #[120] }, .slice none 0 0, .slice (some ⟨w.heap.size + 2, 0, none⟩) 1 1] 76 (0, 0)) := by rw [← sS, hwO]; exact heap_alloc_new wS _
  have hbO : Below w.heap.size w wO := ha.trans ((hb.mono (by omega)).trans ((hS.mono (by omega)).trans (hO.mono (by omega))))
  have QX := Lib.hid qx
  have QR := Lib.hid qr
  have BO := Lib.hid hbO
  have PVO := Lib.hid (alone_pv (S := fun k => k ≠ w.heap.size + 1) (by rw [HXX.out]; exact XV.keep (S' := fun k => k ≠ w.heap.size + 1) hbO.size (fun k hk _ => hbO.block k hk) (fun k hk _ => by omega) h) qS qO (by omega) (by omega) : PV wO (fun k => k ≠ w.heap.size + 1) (aloneP xx) _)
  clear h ha hb hS hO sa sb sS qx qr qS qO hbO hxx
  rw [hwa] at hwb
  rw [hwb] at hwS
  rw [hwS] at hwO
  go_enter Tryz.func12, Tryz.ntmps12
  go_upto_region 1 with fail
  rw [← hwb]
  go_wp2_with (with_reducible refine at_load_ (t := 27) ?_; refine Hid.out ?_)
  refine Lib.hid ?_
  refine xb_load rfl _ rfl w.heap.size rfl QX.out rfl ?_
  go_wp2_with (with_reducible refine at_store_ (t := 36) ?_; refine Hid.out ?_)
  refine Lib.hid ?_
  rw [show w.heap.size + 1 + 1 + 1 = w.heap.size + 3 from rfl, show w.heap.size + 1 + 1 = w.heap.size + 2 from rfl]
  rw [← hwO]
  clear hwO hwb hwS hwa
  refine hb_put rfl _ _ rfl rfl (w.heap.size + 1) rfl rfl pr_size (by simp [Value.oneCell']) QR.out rfl ?_
  intro wz hxz hgz hsz
  clear hsz
  have XZ := Lib.hid hxz
  have BZ := Lib.hid (BO.out.trans (below_gr hgz (B := w.heap.size) BO.out.size (Nat.le_succ _)))
  have HVZ := Lib.hid (PVO.out.gr (S' := fun _ => True) hgz (fun k _ hk => ⟨hk, trivial⟩))
  clear hxz hgz QX QR BO PVO
  go_wp2_with fail
  refine bodyPost_ret (results_cell_row rfl _ _ (w.heap.size + 1) _ _ _ _ rfl XZ.out Tryz.underlying36 rfl pr_size) rfl ?_
  exact ⟨_, rfl, HVZ.out, BZ.out⟩
/-- The chapter's example. -/
def exX : Ex := .mk 5 0 [] [45] [.mk 5 0 [] [43] [.mk 0 1 [] [] [] [], .mk 5 0 [] [42] [.mk 0 2 [] [] [] [], .mk 4 0 [] [] [.mk 2 0 [120] [] [] []] []] []] [], .mk 0 3 [] [] [] []] []
def exXs : Str := [49, 32, 43, 32, 50, 32, 42, 32, 45, 120, 32, 45, 32, 51]
def exXt : Str := [111, 112, 32, 120, 40, 41, 32, 123, 10, 32, 32, 114, 101, 116, 117, 114, 110, 32, 40, 49, 32, 43, 32, 40, 50, 32, 42, 32, 40, 45, 120, 41, 41, 41, 32, 45, 32, 51, 59, 10, 125, 10]
def exYs : Str := [111, 112, 32, 102, 40, 41, 32, 123, 32, 49, 59, 32, 125]
theorem exX_prE : prE exXs = (exX, 0, 0) := by kernel_rfl
theorem exX_txt : printS (aloneP exX) = exXt := by decide +kernel
theorem exX_err : printE (aloneP exX) = 0 := by decide +kernel
theorem exY_prP : prP exYs = (emP, 9, 5) := by kernel_rfl
set_option maxRecDepth 100000 in
set_option maxHeartbeats 12800000 in
theorem awake_any (w : World) (hw : WW w) : Calls Tryz.prog 13 #[] w fun e w' => e = .returned (.bool true) ∧ Below w.heap.size w w' := by
  have hk := pexpr_any exXs w hw (by decide)
  rw [exX_prE] at hk
  dsimp only at hk
  have K := Lib.hid (show Calls _ _ #[.string { data := #[49, 32, 43, 32, 50, 32, 42, 32, 45, 120, 32, 45, 32, 51] }] _ _ from hk)
  have HW := Lib.hid hw
  have K3 := Lib.hid (show ∀ W, WW W → Calls Tryz.prog 14 #[.string { data := #[111, 112, 32, 102, 40, 41, 32, 123, 32, 49, 59, 32, 125] }] W fun e w' => ∃ v, e = .returned (.tuple #[v, .int .i64 9, .int .i64 5]) ∧ PV w' (fun b => W.heap.size ≤ b) emP v ∧ Below W.heap.size W w' from fun W hW => by
    have h := parse_any exYs W hW (by decide)
    rw [exY_prP] at h
    exact h)
  clear hw hk
  go_enter Tryz.func13, Tryz.ntmps13
  go_wp2_with fail
  refine K.out.mono ?_
  rintro e w1 ⟨cs, rfl, hv, hb⟩
  obtain ⟨A1, na1, ca1, O1, no1, co1, rfl, -, -⟩ := XV.open_ (show XV w1 _ exX cs from hv)
  rw [show (exC 5 0 [] [45] A1 na1 ca1 O1 no1 co1).toArray = #[.int .i64 5, .int .i64 0, .string { data := #[] }, .string { data := #[45] }, .slice A1 na1 ca1, .slice O1 no1 co1] from rfl]
  obtain ⟨w2, hw2⟩ : ∃ W, W = w1.alloc (.cells #[.int .i64 5, .int .i64 0, .string { data := #[] }, .string { data := #[45] }, .slice A1 na1 ca1, .slice O1 no1 co1] 27) := ⟨_, rfl⟩
  have hb2 : Below w1.heap.size w1 w2 := by rw [hw2]; exact (Below.refl _ _).alloc (Nat.le_refl _) _
  have YB := Lib.hid (show XB w2 w1.heap.size _ from by rw [hw2]; exact heap_alloc_new w1 _)
  have HV := Lib.hid (hv.below hb2)
  have B2 := Lib.hid (hb.trans (hb2.mono hb.size))
  clear hv hb hb2 K
  go_upto_region 2 with fail
  rw [← hw2]
  clear hw2
  go_wp2_with (with_reducible refine at_load_ (t := 27) ?_; refine Hid.out ?_)
  refine Lib.hid ?_
  refine xb_load rfl _ rfl w1.heap.size rfl YB.out rfl ?_
  have KA := Lib.hid (alone_any exX _ w2 _ HV.out)
  clear HV YB
  go_wp2_with fail
  refine KA.out.mono ?_
  rintro e w3 ⟨v, rfl, hp, hb⟩
  have B3 := Lib.hid (B2.out.trans (hb.mono B2.out.size))
  have HP := Lib.hid hp
  clear hp hb KA B2
  have kp := print_any (aloneP exX) v _ w3 (HW.out.below B3.out).sx HP.out (alone_few2 (by decide))
  rw [exX_txt, exX_err] at kp
  have KP := Lib.hid kp
  clear kp HP
  go_wp2_with fail
  refine KP.out.mono ?_
  rintro e w4 ⟨rfl, hb⟩
  have B4 := Lib.hid (B3.out.trans (hb.mono B3.out.size))
  clear hb KP B3
  go_wp2_with fail
  refine (K3.out w4 (HW.out.below B4.out)).mono ?_
  rintro e w5 ⟨u, rfl, hp, hb⟩
  obtain ⟨D, nd, cd, O, no, co, rfl, -, -⟩ := hp
  have B5 := Lib.hid (B4.out.trans (hb.mono B4.out.size))
  have hxt : (bs exXt).toList = [111, 112, 32, 120, 40, 41, 32, 123, 10, 32, 32, 114, 101, 116, 117, 114, 110, 32, 40, 49, 32, 43, 32, 40, 50, 32, 42, 32, 40, 45, 120, 41, 41, 41, 32, 45, 32, 51, 59, 10, 125, 10] := bs_toList _
  have hxe : (bs exXt) = { data := #[111, 112, 32, 120, 40, 41, 32, 123, 10, 32, 32, 114, 101, 116, 117, 114, 110, 32, 40, 49, 32, 43, 32, 40, 50, 32, 42, 32, 40, 45, 120, 41, 41, 41, 32, 45, 32, 51, 59, 10, 125, 10] } := rfl
  clear hb K3 B4
  go_wp2
  go_ret
  exact ⟨rfl, B5.out.alloc B5.out.size _⟩
end Go.Proofs.YtkakbidllpjopaaGreatDoor
namespace Go.Proofs.YtkakbidllpjopaaGreatDoor
open Go.RowKit

/-- Whether two things are equal. -/
noncomputable def eqC {α : Type} (a b : α) : Bool := @decide (a = b) (Classical.propDecidable _)
theorem eqC_pos {α : Type} {a b : α} (h : a = b) : eqC a b = true := by unfold eqC; simpa using h
theorem eqC_neg {α : Type} {a b : α} (h : a ≠ b) : eqC a b = false := by unfold eqC; simpa using h
theorem take_next {α : Type} {l1 l2 : List α} {q : Nat} {x y : α} (h : l1.take q = l2.take q) (h1 : l1[q]? = some x) (h2 : l2[q]? = some y) (e : x = y) : l1.take (q + 1) = l2.take (q + 1) := by
  rw [List.take_add_one, List.take_add_one, h, h1, h2, e]
theorem range3 {w : World} {b o : Nat} {u0 u1 u2 : Value} (h : w.rangeAt b o [u0, u1, u2]) : w.cell? ⟨b, o, none⟩ = some u0 ∧ w.cell? ⟨b, o + 1, none⟩ = some u1 ∧ w.cell? ⟨b, o + 2, none⟩ = some u2 := ⟨h 0 _ rfl, h 1 _ rfl, h 2 _ rfl⟩
def SameE (x y : Ex) : Prop := ∀ (w : World) (S S' : Nat → Prop) (cs ds : List Value), XV w S x cs → XV w S' y ds →
  Calls Tryz.prog 95 #[.agg cs.toArray, .agg ds.toArray] w fun e' w' => e' = .returned (.bool (eqC x y)) ∧ Below w.heap.size w w'
def SameS (x y : St) : Prop := ∀ (w : World) (S S' : Nat → Prop) (cs ds : List Value), SV w S x cs → SV w S' y ds →
  Calls Tryz.prog 68 #[.agg cs.toArray, .agg ds.toArray] w fun e' w' => e' = .returned (.bool (eqC x y)) ∧ Below w.heap.size w w'
def SameO (x y : Oper') : Prop := ∀ (w : World) (S S' : Nat → Prop) (cs ds : List Value), OV w S x cs → OV w S' y ds →
  Calls Tryz.prog 38 #[.agg cs.toArray, .agg ds.toArray] w fun e' w' => e' = .returned (.bool (eqC x y)) ∧ Below w.heap.size w w'
def SameEL (l1 l2 : List Ex) : Prop := ∀ (w : World) (S S' : Nat → Prop) (A A' : Option Addr) (n c n' c' : Nat), XL w S A n c l1 → XL w S' A' n' c' l2 → n ≤ 1000000 →
  Calls Tryz.prog 119 #[.slice A n c, .slice A' n' c', .func (.func 95) #[] #[]] w fun e' w' => e' = .returned (.bool (eqC l1 l2)) ∧ Below w.heap.size w w'
def SameSL (l1 l2 : List St) : Prop := ∀ (w : World) (S S' : Nat → Prop) (A A' : Option Addr) (n c n' c' : Nat), SL w S A n c l1 → SL w S' A' n' c' l2 → n ≤ 1000000 →
  Calls Tryz.prog 67 #[.slice A n c, .slice A' n' c', .func (.func 68) #[] #[]] w fun e' w' => e' = .returned (.bool (eqC l1 l2)) ∧ Below w.heap.size w w'
def SameOL (l1 l2 : List Oper') : Prop := ∀ (w : World) (S S' : Nat → Prop) (A A' : Option Addr) (n c n' c' : Nat), OL w S A n c l1 → OL w S' A' n' c' l2 → n ≤ 1000000 →
  Calls Tryz.prog 37 #[.slice A n c, .slice A' n' c', .func (.func 38) #[] #[]] w fun e' w' => e' = .returned (.bool (eqC l1 l2)) ∧ Below w.heap.size w w'
set_option maxRecDepth 100000 in
set_option maxHeartbeats 12800000 in
theorem SameEL.of {l1 l2 : List Ex} (h : ∀ x ∈ l1, ∀ y ∈ l2, SameE x y) : SameEL l1 l2 := by
  intro w S S' A A' n c n' c' hl hl2 hn
  have HIN := Lib.hid h
  have HL := Lib.hid hl
  have HL2 := Lib.hid hl2
  have HLEN := Lib.hid hl.1.1
  have HLEN2 := Lib.hid hl2.1.1
  have hn6 : (n : Int) ≤ 1000000 := by omega
  have HPOS := Lib.hid (show l1 = l2 → eqC l1 l2 = true from eqC_pos)
  have HNEG := Lib.hid (show l1 ≠ l2 → eqC l1 l2 = false from eqC_neg)
  generalize eqC l1 l2 = E at *
  have hb0 : Below w.heap.size w w := Below.refl _ _
  clear h hl hl2 hn
  by_cases hnn : n' = n
  · subst hnn
    go_enter Tryz.func119, Tryz.ntmps119
    go_wp2_with fail
    go_loopw [17] (fun i wx => ∃ q : Nat, q ≤ l1.length ∧ i = .int .i64 q ∧ Hid (l1.take q = l2.take q) ∧ Below w.heap.size w wx) (fun i _ => l1.length - (intOf i).toNat)
    case atStart => exact ⟨0, Nat.zero_le _, rfl, Lib.hid (by rw [List.take_zero, List.take_zero]), hb0⟩
    case round =>
      clear hb0
      obtain ⟨q, hq, rfl, n3, zq⟩ := hrel
      by_cases hlq : q < l1.length
      · have hi2 : (q : Int) < (n' : Int) := by have := HLEN.out; omega
        obtain ⟨x, b, off, cs, hx, rfl, hb, hS, hxv, hrow⟩ := HL.out.at q (by have := HLEN.out; omega)
        obtain ⟨y, b2, off2, ds, hy, rfl, hb2, hS2, hyv, hrow2⟩ := HL2.out.at q (by have := HLEN.out; omega)
        have HXV := Lib.hid hxv
        have HYV := Lib.hid hyv
        have HQL := Lib.hid hlq
        have HXQ := Lib.hid hx
        have HYQ := Lib.hid hy
        have HIH := Lib.hid (HIN.out x (List.mem_of_getElem? hx) y (List.mem_of_getElem? hy))
        have EP := Lib.hid (show x = y → eqC x y = true from eqC_pos)
        have EN := Lib.hid (show x ≠ y → eqC x y = false from eqC_neg)
        unfold SameE at HIH
        generalize eqC x y = v at *
        have hrow3 := rangeAt_keep hrow (zq.block b hb)
        obtain ⟨k1, n1, s1, m1, a1, o1⟩ := x
        obtain ⟨A1, na1, ca1, O1, no1, co1, rfl, -, -⟩ := hxv.open_
        obtain ⟨c0, c1, c2, c3, c4, c5⟩ := exC_at hrow3
        have zq1 := zq.alloc zq.size (.cells #[.int .i64 k1, .int .i64 n1, .string (bs s1), .string (bs m1), .slice A1 na1 ca1, .slice O1 no1 co1] 27)
        have hrow4 := rangeAt_keep hrow2 (zq1.block b2 hb2)
        obtain ⟨k2, n2, s2, m2, a2, o2⟩ := y
        obtain ⟨A2, na2, ca2, O2, no2, co2, rfl, -, -⟩ := hyv.open_
        obtain ⟨d0, d1, d2, d3, d4, d5⟩ := exC_at hrow4
        clear hx hy hb hb2 hS hS2 hxv hyv hrow hrow2 hrow3 hrow4 hlq hq
        unfold exC at HXV HYV
        have zq2 := zq1.alloc zq1.size (.cells #[.int .i64 k2, .int .i64 n2, .string (bs s2), .string (bs m2), .slice A2 na2 ca2, .slice O2 no2 co2] 27)
        have HXV := Lib.hid (HXV.out.below zq2)
        have HYV := Lib.hid (HYV.out.below zq2)
        have HC2 := HIH.out _ S S' _ _ HXV.out HYV.out
        have HC2 := Lib.hid HC2
        go_wp2_with fail
        refine HC2.out.mono ?_
        rintro e' w2 ⟨rfl, hb2⟩
        have zq3 := zq2.trans (hb2.mono zq2.size)
        clear HC2 hb2 c0 c1 c2 c3 c4 c5 d0 d1 d2 d3 d4 d5 zq zq1 zq2 HIH HXV HYV
        cases v with
        | true =>
          go_wp2
          go_roundw
          case rel => exact ⟨q + 1, HQL.out, by go_num, Lib.hid (take_next n3.out HXQ.out HYQ.out (Classical.byContradiction fun h => by have := EN.out h; cases this)), zq3⟩
          case measure => exact meas_up _ _ HQL.out
        | false =>
          have HR := Lib.hid (show E = false from HNEG.out fun e => by
            have h1 := HXQ.out
            rw [e, HYQ.out] at h1
            have := EP.out (Option.some.inj h1).symm
            cases this)
          go_wp2
          go_ret
          exact ⟨congrArg (fun v => Ending.returned (.bool v)) HR.out.symm, zq3⟩
      · have hi2 : ¬ (q : Int) < (n' : Int) := by have := HLEN.out; omega
        have HR := Lib.hid (show E = true from HPOS.out (by
          have h := n3.out
          rwa [List.take_of_length_le (by omega), List.take_of_length_le (by have := HLEN.out; have := HLEN2.out; omega)] at h))
        clear hlq hq n3
        go_wp2
        go_ret
        exact ⟨congrArg (fun v => Ending.returned (.bool v)) HR.out.symm, zq⟩
  · have HR := Lib.hid (show E = false from HNEG.out fun e => hnn (by have h1 := HLEN.out; have h2 := HLEN2.out; rw [e] at h1; omega))
    have hne : ¬ (n : Int) = (n' : Int) := by omega
    clear hnn HL HL2 HIN
    go_enter Tryz.func119, Tryz.ntmps119
    go_wp2
    go_ret
    exact ⟨congrArg (fun v => Ending.returned (.bool v)) HR.out.symm, hb0⟩
set_option maxRecDepth 100000 in
set_option maxHeartbeats 12800000 in
theorem SameSL.of {l1 l2 : List St} (h : ∀ x ∈ l1, ∀ y ∈ l2, SameS x y) : SameSL l1 l2 := by
  intro w S S' A A' n c n' c' hl hl2 hn
  have HIN := Lib.hid h
  have HL := Lib.hid hl
  have HL2 := Lib.hid hl2
  have HLEN := Lib.hid hl.1.1
  have HLEN2 := Lib.hid hl2.1.1
  have hn6 : (n : Int) ≤ 1000000 := by omega
  have HPOS := Lib.hid (show l1 = l2 → eqC l1 l2 = true from eqC_pos)
  have HNEG := Lib.hid (show l1 ≠ l2 → eqC l1 l2 = false from eqC_neg)
  generalize eqC l1 l2 = E at *
  have hb0 : Below w.heap.size w w := Below.refl _ _
  clear h hl hl2 hn
  by_cases hnn : n' = n
  · subst hnn
    go_enter Tryz.func67, Tryz.ntmps67
    go_wp2_with fail
    go_loopw [17] (fun i wx => ∃ q : Nat, q ≤ l1.length ∧ i = .int .i64 q ∧ Hid (l1.take q = l2.take q) ∧ Below w.heap.size w wx) (fun i _ => l1.length - (intOf i).toNat)
    case atStart => exact ⟨0, Nat.zero_le _, rfl, Lib.hid (by rw [List.take_zero, List.take_zero]), hb0⟩
    case round =>
      clear hb0
      obtain ⟨q, hq, rfl, n3, zq⟩ := hrel
      by_cases hlq : q < l1.length
      · have hi2 : (q : Int) < (n' : Int) := by have := HLEN.out; omega
        obtain ⟨x, b, off, cs, hx, rfl, hb, hS, hxv, hrow⟩ := HL.out.at q (by have := HLEN.out; omega)
        obtain ⟨y, b2, off2, ds, hy, rfl, hb2, hS2, hyv, hrow2⟩ := HL2.out.at q (by have := HLEN.out; omega)
        have HXV := Lib.hid hxv
        have HYV := Lib.hid hyv
        have HQL := Lib.hid hlq
        have HXQ := Lib.hid hx
        have HYQ := Lib.hid hy
        have HIH := Lib.hid (HIN.out x (List.mem_of_getElem? hx) y (List.mem_of_getElem? hy))
        have EP := Lib.hid (show x = y → eqC x y = true from eqC_pos)
        have EN := Lib.hid (show x ≠ y → eqC x y = false from eqC_neg)
        unfold SameS at HIH
        generalize eqC x y = v at *
        have hrow3 := rangeAt_keep hrow (zq.block b hb)
        obtain ⟨k1, s1, n1, e1, b1, l1⟩ := x
        obtain ⟨ex1, B1, nb1, cb1, L1, nl1, cl1, rfl, hex1, -, -⟩ := hxv.open_
        obtain ⟨ek1, en1, es1, em1, ea1, eo1⟩ := e1
        obtain ⟨A1, na1, ca1, O1, no1, co1, rfl, -, -⟩ := hex1.open_
        clear hex1
        obtain ⟨c0, c1, c2, c3, c4, c5, c6, c7, c8, c9, c10⟩ := stC_at hrow3
        have zq1 := zq.alloc zq.size (.cells #[.int .i64 k1, .string (bs s1), .int .i64 n1, .int .i64 ek1, .int .i64 en1, .string (bs es1), .string (bs em1), .slice A1 na1 ca1, .slice O1 no1 co1, .slice B1 nb1 cb1, .slice L1 nl1 cl1] 74)
        have hrow4 := rangeAt_keep hrow2 (zq1.block b2 hb2)
        obtain ⟨k2, s2, n2, e2, b2, l2⟩ := y
        obtain ⟨ex2, B2, nb2, cb2, L2, nl2, cl2, rfl, hex2, -, -⟩ := hyv.open_
        obtain ⟨ek2, en2, es2, em2, ea2, eo2⟩ := e2
        obtain ⟨A2, na2, ca2, O2, no2, co2, rfl, -, -⟩ := hex2.open_
        clear hex2
        obtain ⟨d0, d1, d2, d3, d4, d5, d6, d7, d8, d9, d10⟩ := stC_at hrow4
        clear hx hy hb hb2 hS hS2 hxv hyv hrow hrow2 hrow3 hrow4 hlq hq
        unfold stC exC at HXV HYV
        simp only [List.cons_append, List.nil_append] at HXV HYV
        have zq2 := zq1.alloc zq1.size (.cells #[.int .i64 k2, .string (bs s2), .int .i64 n2, .int .i64 ek2, .int .i64 en2, .string (bs es2), .string (bs em2), .slice A2 na2 ca2, .slice O2 no2 co2, .slice B2 nb2 cb2, .slice L2 nl2 cl2] 74)
        have HXV := Lib.hid (HXV.out.below zq2)
        have HYV := Lib.hid (HYV.out.below zq2)
        have HC2 := HIH.out _ S S' _ _ HXV.out HYV.out
        have HC2 := Lib.hid HC2
        go_wp2_with fail
        refine HC2.out.mono ?_
        rintro e' w2 ⟨rfl, hb2⟩
        have zq3 := zq2.trans (hb2.mono zq2.size)
        clear HC2 hb2 c0 c1 c2 c3 c4 c5 c6 c7 c8 c9 c10 d0 d1 d2 d3 d4 d5 d6 d7 d8 d9 d10 zq zq1 zq2 HIH HXV HYV
        cases v with
        | true =>
          go_wp2
          go_roundw
          case rel => exact ⟨q + 1, HQL.out, by go_num, Lib.hid (take_next n3.out HXQ.out HYQ.out (Classical.byContradiction fun h => by have := EN.out h; cases this)), zq3⟩
          case measure => exact meas_up _ _ HQL.out
        | false =>
          have HR := Lib.hid (show E = false from HNEG.out fun e => by
            have h1 := HXQ.out
            rw [e, HYQ.out] at h1
            have := EP.out (Option.some.inj h1).symm
            cases this)
          go_wp2
          go_ret
          exact ⟨congrArg (fun v => Ending.returned (.bool v)) HR.out.symm, zq3⟩
      · have hi2 : ¬ (q : Int) < (n' : Int) := by have := HLEN.out; omega
        have HR := Lib.hid (show E = true from HPOS.out (by
          have h := n3.out
          rwa [List.take_of_length_le (by omega), List.take_of_length_le (by have := HLEN.out; have := HLEN2.out; omega)] at h))
        clear hlq hq n3
        go_wp2
        go_ret
        exact ⟨congrArg (fun v => Ending.returned (.bool v)) HR.out.symm, zq⟩
  · have HR := Lib.hid (show E = false from HNEG.out fun e => hnn (by have h1 := HLEN.out; have h2 := HLEN2.out; rw [e] at h1; omega))
    have hne : ¬ (n : Int) = (n' : Int) := by omega
    clear hnn HL HL2 HIN
    go_enter Tryz.func67, Tryz.ntmps67
    go_wp2
    go_ret
    exact ⟨congrArg (fun v => Ending.returned (.bool v)) HR.out.symm, hb0⟩
set_option maxRecDepth 100000 in
set_option maxHeartbeats 12800000 in
theorem SameOL.of {l1 l2 : List Oper'} (h : ∀ x ∈ l1, ∀ y ∈ l2, SameO x y) : SameOL l1 l2 := by
  intro w S S' A A' n c n' c' hl hl2 hn
  have HIN := Lib.hid h
  have HL := Lib.hid hl
  have HL2 := Lib.hid hl2
  have HLEN := Lib.hid hl.1
  have HLEN2 := Lib.hid hl2.1
  have hn6 : (n : Int) ≤ 1000000 := by omega
  have HPOS := Lib.hid (show l1 = l2 → eqC l1 l2 = true from eqC_pos)
  have HNEG := Lib.hid (show l1 ≠ l2 → eqC l1 l2 = false from eqC_neg)
  generalize eqC l1 l2 = E at *
  have hb0 : Below w.heap.size w w := Below.refl _ _
  clear h hl hl2 hn
  by_cases hnn : n' = n
  · subst hnn
    go_enter Tryz.func37, Tryz.ntmps37
    go_wp2_with fail
    go_loopw [17] (fun i wx => ∃ q : Nat, q ≤ l1.length ∧ i = .int .i64 q ∧ Hid (l1.take q = l2.take q) ∧ Below w.heap.size w wx) (fun i _ => l1.length - (intOf i).toNat)
    case atStart => exact ⟨0, Nat.zero_le _, rfl, Lib.hid (by rw [List.take_zero, List.take_zero]), hb0⟩
    case round =>
      clear hb0
      obtain ⟨q, hq, rfl, n3, zq⟩ := hrel
      by_cases hlq : q < l1.length
      · have hi2 : (q : Int) < (n' : Int) := by have := HLEN.out; omega
        obtain ⟨b, off, cs, rfl, hb, hS, ⟨x, hx, hxv⟩, hrow⟩ := HL.out.2.at q (by have := HLEN.out; omega)
        obtain ⟨b2, off2, ds, rfl, hb2, hS2, ⟨y, hy, hyv⟩, hrow2⟩ := HL2.out.2.at q (by have := HLEN.out; omega)
        have HXV := Lib.hid hxv
        have HYV := Lib.hid hyv
        have HQL := Lib.hid hlq
        have HXQ := Lib.hid hx
        have HYQ := Lib.hid hy
        have HIH := Lib.hid (HIN.out x (List.mem_of_getElem? hx) y (List.mem_of_getElem? hy))
        have EP := Lib.hid (show x = y → eqC x y = true from eqC_pos)
        have EN := Lib.hid (show x ≠ y → eqC x y = false from eqC_neg)
        unfold SameO at HIH
        generalize eqC x y = v at *
        have hrow3 := rangeAt_keep hrow (zq.block b hb)
        obtain ⟨P1, np1, cp1, B1, nb1, cb1, rfl, -, -⟩ := id hxv
        obtain ⟨c0, c1, c2⟩ := range3 hrow3
        have zq1 := zq.alloc zq.size (.cells #[.string (bs x.name), .slice P1 np1 cp1, .slice B1 nb1 cb1] 76)
        have hrow4 := rangeAt_keep hrow2 (zq1.block b2 hb2)
        obtain ⟨P2, np2, cp2, B2, nb2, cb2, rfl, -, -⟩ := id hyv
        obtain ⟨d0, d1, d2⟩ := range3 hrow4
        clear hx hy hb hb2 hS hS2 hxv hyv hrow hrow2 hrow3 hrow4 hlq hq
        have ha1 : True := trivial
        have zq2 := zq1.alloc zq1.size (.cells #[.string (bs y.name), .slice P2 np2 cp2, .slice B2 nb2 cb2] 76)
        have HXV := Lib.hid (HXV.out.keep zq2.size (fun b hlt _ => zq2.block b hlt) (fun _ _ h => h))
        have HYV := Lib.hid (HYV.out.keep zq2.size (fun b hlt _ => zq2.block b hlt) (fun _ _ h => h))
        have HC2 := HIH.out _ S S' _ _ HXV.out HYV.out
        have HC2 := Lib.hid HC2
        go_wp2_with fail
        refine HC2.out.mono ?_
        rintro e' w2 ⟨rfl, hb2⟩
        have zq3 := zq2.trans (hb2.mono zq2.size)
        clear HC2 hb2 c0 c1 c2 d0 d1 d2 zq zq1 zq2 HIH HXV HYV
        cases v with
        | true =>
          go_wp2
          go_roundw
          case rel => exact ⟨q + 1, HQL.out, by go_num, Lib.hid (take_next n3.out HXQ.out HYQ.out (Classical.byContradiction fun h => by have := EN.out h; cases this)), zq3⟩
          case measure => exact meas_up _ _ HQL.out
        | false =>
          have HR := Lib.hid (show E = false from HNEG.out fun e => by
            have h1 := HXQ.out
            rw [e, HYQ.out] at h1
            have := EP.out (Option.some.inj h1).symm
            cases this)
          go_wp2
          go_ret
          exact ⟨congrArg (fun v => Ending.returned (.bool v)) HR.out.symm, zq3⟩
      · have hi2 : ¬ (q : Int) < (n' : Int) := by have := HLEN.out; omega
        have HR := Lib.hid (show E = true from HPOS.out (by
          have h := n3.out
          rwa [List.take_of_length_le (by omega), List.take_of_length_le (by have := HLEN.out; have := HLEN2.out; omega)] at h))
        clear hlq hq n3
        go_wp2
        go_ret
        exact ⟨congrArg (fun v => Ending.returned (.bool v)) HR.out.symm, zq⟩
  · have HR := Lib.hid (show E = false from HNEG.out fun e => hnn (by have h1 := HLEN.out; have h2 := HLEN2.out; rw [e] at h1; omega))
    have hne : ¬ (n : Int) = (n' : Int) := by omega
    clear hnn HL HL2 HIN
    go_enter Tryz.func37, Tryz.ntmps37
    go_wp2
    go_ret
    exact ⟨congrArg (fun v => Ending.returned (.bool v)) HR.out.symm, hb0⟩
end Go.Proofs.YtkakbidllpjopaaGreatDoor
namespace Go.Proofs.YtkakbidllpjopaaGreatDoor
open Go.RowKit

theorem beq_int {a b : Int} : (a = b → (a == b) = true) ∧ (a ≠ b → (a == b) = false) := ⟨fun h => by simp [h], fun h => by simp [h]⟩
theorem eqC_ne {α : Type} {a b : α} (h : a = b → False) : eqC a b = false := eqC_neg h
set_option maxRecDepth 100000 in
set_option maxHeartbeats 25600000 in
theorem sameE_of (k1 n1 : Int) (s1 m1 : Str) (a1 o1 : List Ex) (iha : ∀ l, SameEL a1 l) (iho : ∀ l, SameEL o1 l) (hz : (Ex.mk k1 n1 s1 m1 a1 o1).size ≤ 1000000) (y : Ex) : SameE (.mk k1 n1 s1 m1 a1 o1) y := by
  intro w S S' cs ds hx hy
  obtain ⟨k2, n2, s2, m2, a2, o2⟩ := y
  obtain ⟨A1, na1, ca1, O1, no1, co1, rfl, hA1, hO1⟩ := hx.open_
  obtain ⟨A2, na2, ca2, O2, no2, co2, rfl, hA2, hO2⟩ := hy.open_
  rw [Ex.size] at hz
  have lna : na1 ≤ 1000000 := by have := hA1.1.1; have := Ex.len_sizes a1; omega
  have lno : no1 ≤ 1000000 := by have := hO1.1.1; have := Ex.len_sizes o1; omega
  obtain ⟨W0, hW0⟩ : ∃ W0 : World, W0 = (w.alloc (.cells #[.int .i64 k1, .int .i64 n1, .string (bs s1), .string (bs m1), .slice A1 na1 ca1, .slice O1 no1 co1] 27)).alloc (.cells #[.int .i64 k2, .int .i64 n2, .string (bs s2), .string (bs m2), .slice A2 na2 ca2, .slice O2 no2 co2] 27) := ⟨_, rfl⟩
  have hba : Below w.heap.size w (w.alloc (.cells #[.int .i64 k1, .int .i64 n1, .string (bs s1), .string (bs m1), .slice A1 na1 ca1, .slice O1 no1 co1] 27)) := (Below.refl _ _).alloc (Nat.le_refl _) _
  have hb0 : Below w.heap.size w W0 := by rw [hW0]; exact hba.alloc hba.size _
  have HF := Lib.hid (show ∀ W, Bz W0 W → (W.cell? ⟨w.heap.size, 0, none⟩ = some (.int .i64 k1) ∧ W.cell? ⟨w.heap.size, 1, none⟩ = some (.int .i64 n1) ∧ W.cell? ⟨w.heap.size, 2, none⟩ = some (.string (bs s1)) ∧ W.cell? ⟨w.heap.size, 3, none⟩ = some (.string (bs m1)) ∧ W.cell? ⟨w.heap.size, 4, none⟩ = some (.slice A1 na1 ca1) ∧ W.cell? ⟨w.heap.size, 5, none⟩ = some (.slice O1 no1 co1) ∧ W.cell? ⟨w.heap.size + 1, 0, none⟩ = some (.int .i64 k2) ∧ W.cell? ⟨w.heap.size + 1, 1, none⟩ = some (.int .i64 n2) ∧ W.cell? ⟨w.heap.size + 1, 2, none⟩ = some (.string (bs s2)) ∧ W.cell? ⟨w.heap.size + 1, 3, none⟩ = some (.string (bs m2)) ∧ W.cell? ⟨w.heap.size + 1, 4, none⟩ = some (.slice A2 na2 ca2) ∧ W.cell? ⟨w.heap.size + 1, 5, none⟩ = some (.slice O2 no2 co2)) from fun W h => by
    subst hW0
    have hs1 : (w.alloc (.cells #[.int .i64 k1, .int .i64 n1, .string (bs s1), .string (bs m1), .slice A1 na1 ca1, .slice O1 no1 co1] 27)).heap.size = w.heap.size + 1 := World.size_alloc ..
    have hq := heap_alloc_new w (.cells #[.int .i64 k1, .int .i64 n1, .string (bs s1), .string (bs m1), .slice A1 na1 ca1, .slice O1 no1 co1] 27)
    have hq2 := heap_alloc_new (w.alloc (.cells #[.int .i64 k1, .int .i64 n1, .string (bs s1), .string (bs m1), .slice A1 na1 ca1, .slice O1 no1 co1] 27)) (.cells #[.int .i64 k2, .int .i64 n2, .string (bs s2), .string (bs m2), .slice A2 na2 ca2, .slice O2 no2 co2] 27)
    have hq1 := (((Below.refl _ (w.alloc (.cells #[.int .i64 k1, .int .i64 n1, .string (bs s1), .string (bs m1), .slice A1 na1 ca1, .slice O1 no1 co1] 27))).alloc (Nat.le_refl _) (.cells #[.int .i64 k2, .int .i64 n2, .string (bs s2), .string (bs m2), .slice A2 na2 ca2, .slice O2 no2 co2] 27)).block w.heap.size (lt_of_block hq)).trans hq
    rw [hs1] at hq2
    have h1 := fun j v (hv : (#[.int .i64 k1, .int .i64 n1, .string (bs s1), .string (bs m1), .slice A1 na1 ca1, .slice O1 no1 co1] : Array Value)[j]? = some v) => cell_of_Bz h (g := w.heap.size) (j := j) (v := v) (by rw [cell_of_row _ _ _ _ _ _ hq1]; exact hv) (lt_of_block hq1)
    have h2 := fun j v (hv : (#[.int .i64 k2, .int .i64 n2, .string (bs s2), .string (bs m2), .slice A2 na2 ca2, .slice O2 no2 co2] : Array Value)[j]? = some v) => cell_of_Bz h (g := w.heap.size + 1) (j := j) (v := v) (by rw [cell_of_row _ _ _ _ _ _ hq2]; exact hv) (lt_of_block hq2)
    exact ⟨h1 0 _ rfl, h1 1 _ rfl, h1 2 _ rfl, h1 3 _ rfl, h1 4 _ rfl, h1 5 _ rfl, h2 0 _ rfl, h2 1 _ rfl, h2 2 _ rfl, h2 3 _ rfl, h2 4 _ rfl, h2 5 _ rfl⟩)
  have HG := Lib.hid (show ∀ W, Bz W0 W → Below w.heap.size w W from fun W h => hb0.trans (h.b.mono hb0.size))
  have z0 : Bz W0 W0 := ⟨Below.refl _ _⟩
  have KA := Lib.hid (show ∀ W, Bz W0 W → _ from fun W h => iha a2 W S S' A1 A2 na1 ca1 na2 ca2 (hA1.below (HG.out W h)) (hA2.below (HG.out W h)) lna)
  have KO := Lib.hid (show ∀ W, Bz W0 W → _ from fun W h => iho o2 W S S' O1 O2 no1 co1 no2 co2 (hO1.below (HG.out W h)) (hO2.below (HG.out W h)) lno)
  have NE := Lib.hid (show (k1 ≠ k2 ∨ n1 ≠ n2 ∨ s1 ≠ s2 ∨ m1 ≠ m2 ∨ eqC a1 a2 = false ∨ eqC o1 o2 = false) → eqC (Ex.mk k1 n1 s1 m1 a1 o1) (.mk k2 n2 s2 m2 a2 o2) = false from fun h => eqC_neg fun e => by
    injection e with e1 e2 e3 e4 e5 e6
    rcases h with h | h | h | h | h | h
    · exact h e1
    · exact h e2
    · exact h e3
    · exact h e4
    · rw [eqC_pos e5] at h; cases h
    · rw [eqC_pos e6] at h; cases h)
  have YE := Lib.hid (show k1 = k2 → n1 = n2 → s1 = s2 → m1 = m2 → eqC a1 a2 = true → eqC o1 o2 = true → eqC (Ex.mk k1 n1 s1 m1 a1 o1) (.mk k2 n2 s2 m2 a2 o2) = true from fun h1 h2 h3 h4 h5 h6 => by
    have e5 : a1 = a2 := Classical.byContradiction fun h => by rw [eqC_neg h] at h5; cases h5
    have e6 : o1 = o2 := Classical.byContradiction fun h => by rw [eqC_neg h] at h6; cases h6
    exact eqC_pos (by rw [h1, h2, h3, h4, e5, e6]))
  generalize eqC (Ex.mk k1 n1 s1 m1 a1 o1) (.mk k2 n2 s2 m2 a2 o2) = E at *
  generalize eqC a1 a2 = ea at *
  generalize eqC o1 o2 = eo at *
  clear hx hy hA1 hO1 hA2 hO2 iha iho hz lna lno hb0 hba
  unfold exC
  by_cases h : k1 = k2
  · subst h
    have qk : (k1 == k1) = true := beq_self_eq_true _
    by_cases h : n1 = n2
    · subst h
      have qn : (n1 == n1) = true := beq_self_eq_true _
      by_cases h : s1 = s2
      · subst h
        have qs : ((bs s1).toList == (bs s1).toList) = true := beq_self_eq_true _
        by_cases h : m1 = m2
        · subst h
          have qm : ((bs m1).toList == (bs m1).toList) = true := beq_self_eq_true _
          go_enter Tryz.func95, Tryz.ntmps95
          go_upto_region 1 with fail
          rw [← hW0]
          clear hW0
          obtain ⟨c0, c1, c2, c3, c4, c5, d0, d1, d2, d3, d4, d5⟩ := HF.out _ z0
          go_wp2_with fail
          refine (KA.out _ z0).mono ?_
          rintro e w1 ⟨rfl, hb⟩
          have z1 := z0.next hb
          clear hb c0 c1 c2 c3 c4 c5 d0 d1 d2 d3 d4 d5
          obtain ⟨c0, c1, c2, c3, c4, c5, d0, d1, d2, d3, d4, d5⟩ := HF.out _ z1
          cases ea with
          | false =>
            have h : False ∨ false = false := .inr rfl
            have HR := Lib.hid (NE.out (.inr (.inr (.inr (.inr (.inl rfl))))))
            obtain rfl := HR.out
            go_wp2_with fail
            go_ret
            exact ⟨rfl, HG.out _ z1⟩
          | true =>
            go_wp2_with fail
            refine (KO.out _ z1).mono ?_
            rintro e w2 ⟨rfl, hb⟩
            have z2 := z1.next hb
            clear hb c0 c1 c2 c3 c4 c5 d0 d1 d2 d3 d4 d5
            obtain ⟨c0, c1, c2, c3, c4, c5, d0, d1, d2, d3, d4, d5⟩ := HF.out _ z2
            cases eo with
            | false =>
              have h : False ∨ false = false := .inr rfl
              have HR := Lib.hid (NE.out (.inr (.inr (.inr (.inr (.inr rfl))))))
              obtain rfl := HR.out
              go_wp2_with fail
              go_ret
              exact ⟨rfl, HG.out _ z2⟩
            | true =>
              have HR := Lib.hid (YE.out (by first | trivial | rfl) (by first | trivial | rfl) (by first | trivial | rfl) (by first | trivial | rfl) (by first | trivial | rfl) (by first | trivial | rfl))
              obtain rfl := HR.out
              go_wp2_with fail
              go_ret
              exact ⟨rfl, HG.out _ z2⟩
        · have HR := Lib.hid (NE.out (.inr (.inr (.inr (.inl h)))))
          obtain rfl := HR.out
          have qm : ((bs m1).toList == (bs m2).toList) = false := by rw [bs_toList, bs_toList]; simp [h]
          have qm2 : ¬ (bs m1).toList = (bs m2).toList := by rw [bs_toList, bs_toList]; exact h
          go_enter Tryz.func95, Tryz.ntmps95
          go_upto_region 1 with fail
          rw [← hW0]
          clear hW0
          obtain ⟨c0, c1, c2, c3, c4, c5, d0, d1, d2, d3, d4, d5⟩ := HF.out _ z0
          go_wp2_with fail
          go_ret
          exact ⟨rfl, HG.out _ z0⟩
      · have HR := Lib.hid (NE.out (.inr (.inr (.inl h))))
        obtain rfl := HR.out
        have qs : ((bs s1).toList == (bs s2).toList) = false := by rw [bs_toList, bs_toList]; simp [h]
        have qs2 : ¬ (bs s1).toList = (bs s2).toList := by rw [bs_toList, bs_toList]; exact h
        go_enter Tryz.func95, Tryz.ntmps95
        go_upto_region 1 with fail
        rw [← hW0]
        clear hW0
        obtain ⟨c0, c1, c2, c3, c4, c5, d0, d1, d2, d3, d4, d5⟩ := HF.out _ z0
        go_wp2_with fail
        go_ret
        exact ⟨rfl, HG.out _ z0⟩
    · have HR := Lib.hid (NE.out (.inr (.inl h)))
      obtain rfl := HR.out
      have qn : (n1 == n2) = false := by simp [h]
      go_enter Tryz.func95, Tryz.ntmps95
      go_upto_region 1 with fail
      rw [← hW0]
      clear hW0
      obtain ⟨c0, c1, c2, c3, c4, c5, d0, d1, d2, d3, d4, d5⟩ := HF.out _ z0
      go_wp2_with fail
      go_ret
      exact ⟨rfl, HG.out _ z0⟩
  · have HR := Lib.hid (NE.out (.inl h))
    obtain rfl := HR.out
    have qk : (k1 == k2) = false := by simp [h]
    go_enter Tryz.func95, Tryz.ntmps95
    go_upto_region 1 with fail
    rw [← hW0]
    clear hW0
    obtain ⟨c0, c1, c2, c3, c4, c5, d0, d1, d2, d3, d4, d5⟩ := HF.out _ z0
    go_wp2_with fail
    go_ret
    exact ⟨rfl, HG.out _ z0⟩
theorem sameE_any : ∀ (N : Nat) (x : Ex), x.size ≤ N → N ≤ 1000000 → ∀ y, SameE x y := by
  intro N
  induction N with
  | zero => intro x h; obtain ⟨_, _, _, _, _, _⟩ := x; rw [Ex.size] at h; omega
  | succ N ih =>
    intro x h hN y
    obtain ⟨k, n, s, m, a, o⟩ := x
    have hz := h
    rw [Ex.size] at h
    exact sameE_of k n s m a o (fun l => SameEL.of fun x hx y hy => ih x (by have := Ex.sizes_mem hx; omega) (by omega) y) (fun l => SameEL.of fun x hx y hy => ih x (by have := Ex.sizes_mem hx; omega) (by omega) y) (by omega) y
theorem sameE {x : Ex} (h : x.size ≤ 1000000) (y : Ex) : SameE x y := sameE_any x.size x (Nat.le_refl _) h y
set_option maxRecDepth 100000 in
set_option maxHeartbeats 25600000 in
theorem sameS_of (k1 : Int) (s1 : Str) (n1 : Int) (x1 : Ex) (b1 l1 : List St) (ihb : ∀ l, SameSL b1 l) (ihl : ∀ l, SameSL l1 l) (hz : (St.mk k1 s1 n1 x1 b1 l1).size ≤ 1000000) (y : St) : SameS (.mk k1 s1 n1 x1 b1 l1) y := by
  intro w S S' cs ds hx hy
  obtain ⟨k2, s2, n2, x2, b2, l2⟩ := y
  obtain ⟨ex1, B1, nb1, cb1, L1, nl1, cl1, rfl, hX1, hA1, hO1⟩ := hx.open_
  obtain ⟨ex2, B2, nb2, cb2, L2, nl2, cl2, rfl, hX2, hA2, hO2⟩ := hy.open_
  rw [St.size] at hz
  have lna : nb1 ≤ 1000000 := by have := hA1.1.1; have := St.len_sizes b1; omega
  have lno : nl1 ≤ 1000000 := by have := hO1.1.1; have := St.len_sizes l1; omega
  have KXX := Lib.hid (sameE (x := x1) (by omega) x2)
  obtain ⟨xx1, hxx1⟩ : ∃ z, z = x1 := ⟨_, rfl⟩
  obtain ⟨xx2, hxx2⟩ : ∃ z, z = x2 := ⟨_, rfl⟩
  rw [← hxx1, ← hxx2] at KXX
  rw [← hxx1] at hX1
  rw [← hxx2] at hX2
  have HX1 := Lib.hid hX1
  have HX2 := Lib.hid hX2
  obtain ⟨ek1, en1, es1, em1, ea1, eo1⟩ := xx1
  obtain ⟨ek2, en2, es2, em2, ea2, eo2⟩ := xx2
  obtain ⟨A1, na1, ca1, O1, no1, co1, rfl, -, -⟩ := hX1.open_
  obtain ⟨A2, na2, ca2, O2, no2, co2, rfl, -, -⟩ := hX2.open_
  rw [hxx1, hxx2] at KXX
  rw [hxx1] at HX1
  rw [hxx2] at HX2
  clear hxx1 hxx2 hX1 hX2
  obtain ⟨W0, hW0⟩ : ∃ W0 : World, W0 = (w.alloc (.cells #[.int .i64 k1, .string (bs s1), .int .i64 n1, .int .i64 ek1, .int .i64 en1, .string (bs es1), .string (bs em1), .slice A1 na1 ca1, .slice O1 no1 co1, .slice B1 nb1 cb1, .slice L1 nl1 cl1] 74)).alloc (.cells #[.int .i64 k2, .string (bs s2), .int .i64 n2, .int .i64 ek2, .int .i64 en2, .string (bs es2), .string (bs em2), .slice A2 na2 ca2, .slice O2 no2 co2, .slice B2 nb2 cb2, .slice L2 nl2 cl2] 74) := ⟨_, rfl⟩
  have hba : Below w.heap.size w (w.alloc (.cells #[.int .i64 k1, .string (bs s1), .int .i64 n1, .int .i64 ek1, .int .i64 en1, .string (bs es1), .string (bs em1), .slice A1 na1 ca1, .slice O1 no1 co1, .slice B1 nb1 cb1, .slice L1 nl1 cl1] 74)) := (Below.refl _ _).alloc (Nat.le_refl _) _
  have hb0 : Below w.heap.size w W0 := by rw [hW0]; exact hba.alloc hba.size _
  have HF := Lib.hid (show ∀ W, Bz W0 W → (W.cell? ⟨w.heap.size, 0, none⟩ = some (.int .i64 k1) ∧ W.cell? ⟨w.heap.size, 1, none⟩ = some (.string (bs s1)) ∧ W.cell? ⟨w.heap.size, 2, none⟩ = some (.int .i64 n1) ∧ W.cell? ⟨w.heap.size, 3, none⟩ = some (.int .i64 ek1) ∧ W.cell? ⟨w.heap.size, 4, none⟩ = some (.int .i64 en1) ∧ W.cell? ⟨w.heap.size, 5, none⟩ = some (.string (bs es1)) ∧ W.cell? ⟨w.heap.size, 6, none⟩ = some (.string (bs em1)) ∧ W.cell? ⟨w.heap.size, 7, none⟩ = some (.slice A1 na1 ca1) ∧ W.cell? ⟨w.heap.size, 8, none⟩ = some (.slice O1 no1 co1) ∧ W.cell? ⟨w.heap.size, 9, none⟩ = some (.slice B1 nb1 cb1) ∧ W.cell? ⟨w.heap.size, 10, none⟩ = some (.slice L1 nl1 cl1) ∧ W.cell? ⟨w.heap.size + 1, 0, none⟩ = some (.int .i64 k2) ∧ W.cell? ⟨w.heap.size + 1, 1, none⟩ = some (.string (bs s2)) ∧ W.cell? ⟨w.heap.size + 1, 2, none⟩ = some (.int .i64 n2) ∧ W.cell? ⟨w.heap.size + 1, 3, none⟩ = some (.int .i64 ek2) ∧ W.cell? ⟨w.heap.size + 1, 4, none⟩ = some (.int .i64 en2) ∧ W.cell? ⟨w.heap.size + 1, 5, none⟩ = some (.string (bs es2)) ∧ W.cell? ⟨w.heap.size + 1, 6, none⟩ = some (.string (bs em2)) ∧ W.cell? ⟨w.heap.size + 1, 7, none⟩ = some (.slice A2 na2 ca2) ∧ W.cell? ⟨w.heap.size + 1, 8, none⟩ = some (.slice O2 no2 co2) ∧ W.cell? ⟨w.heap.size + 1, 9, none⟩ = some (.slice B2 nb2 cb2) ∧ W.cell? ⟨w.heap.size + 1, 10, none⟩ = some (.slice L2 nl2 cl2)) from fun W h => by
    subst hW0
    have hs1 : (w.alloc (.cells #[.int .i64 k1, .string (bs s1), .int .i64 n1, .int .i64 ek1, .int .i64 en1, .string (bs es1), .string (bs em1), .slice A1 na1 ca1, .slice O1 no1 co1, .slice B1 nb1 cb1, .slice L1 nl1 cl1] 74)).heap.size = w.heap.size + 1 := World.size_alloc ..
    have hq := heap_alloc_new w (.cells #[.int .i64 k1, .string (bs s1), .int .i64 n1, .int .i64 ek1, .int .i64 en1, .string (bs es1), .string (bs em1), .slice A1 na1 ca1, .slice O1 no1 co1, .slice B1 nb1 cb1, .slice L1 nl1 cl1] 74)
    have hq2 := heap_alloc_new (w.alloc (.cells #[.int .i64 k1, .string (bs s1), .int .i64 n1, .int .i64 ek1, .int .i64 en1, .string (bs es1), .string (bs em1), .slice A1 na1 ca1, .slice O1 no1 co1, .slice B1 nb1 cb1, .slice L1 nl1 cl1] 74)) (.cells #[.int .i64 k2, .string (bs s2), .int .i64 n2, .int .i64 ek2, .int .i64 en2, .string (bs es2), .string (bs em2), .slice A2 na2 ca2, .slice O2 no2 co2, .slice B2 nb2 cb2, .slice L2 nl2 cl2] 74)
    have hq1 := (((Below.refl _ (w.alloc (.cells #[.int .i64 k1, .string (bs s1), .int .i64 n1, .int .i64 ek1, .int .i64 en1, .string (bs es1), .string (bs em1), .slice A1 na1 ca1, .slice O1 no1 co1, .slice B1 nb1 cb1, .slice L1 nl1 cl1] 74))).alloc (Nat.le_refl _) (.cells #[.int .i64 k2, .string (bs s2), .int .i64 n2, .int .i64 ek2, .int .i64 en2, .string (bs es2), .string (bs em2), .slice A2 na2 ca2, .slice O2 no2 co2, .slice B2 nb2 cb2, .slice L2 nl2 cl2] 74)).block w.heap.size (lt_of_block hq)).trans hq
    rw [hs1] at hq2
    have h1 := fun j v (hv : (#[.int .i64 k1, .string (bs s1), .int .i64 n1, .int .i64 ek1, .int .i64 en1, .string (bs es1), .string (bs em1), .slice A1 na1 ca1, .slice O1 no1 co1, .slice B1 nb1 cb1, .slice L1 nl1 cl1] : Array Value)[j]? = some v) => cell_of_Bz h (g := w.heap.size) (j := j) (v := v) (by rw [cell_of_row _ _ _ _ _ _ hq1]; exact hv) (lt_of_block hq1)
    have h2 := fun j v (hv : (#[.int .i64 k2, .string (bs s2), .int .i64 n2, .int .i64 ek2, .int .i64 en2, .string (bs es2), .string (bs em2), .slice A2 na2 ca2, .slice O2 no2 co2, .slice B2 nb2 cb2, .slice L2 nl2 cl2] : Array Value)[j]? = some v) => cell_of_Bz h (g := w.heap.size + 1) (j := j) (v := v) (by rw [cell_of_row _ _ _ _ _ _ hq2]; exact hv) (lt_of_block hq2)
    exact ⟨h1 0 _ rfl, h1 1 _ rfl, h1 2 _ rfl, h1 3 _ rfl, h1 4 _ rfl, h1 5 _ rfl, h1 6 _ rfl, h1 7 _ rfl, h1 8 _ rfl, h1 9 _ rfl, h1 10 _ rfl, h2 0 _ rfl, h2 1 _ rfl, h2 2 _ rfl, h2 3 _ rfl, h2 4 _ rfl, h2 5 _ rfl, h2 6 _ rfl, h2 7 _ rfl, h2 8 _ rfl, h2 9 _ rfl, h2 10 _ rfl⟩)
  have HG := Lib.hid (show ∀ W, Bz W0 W → Below w.heap.size w W from fun W h => hb0.trans (h.b.mono hb0.size))
  have z0 : Bz W0 W0 := ⟨Below.refl _ _⟩
  have KX := Lib.hid (show ∀ W, Bz W0 W → _ from fun W h => KXX.out W S S' _ _ (HX1.out.below (HG.out W h)) (HX2.out.below (HG.out W h)))
  have KA := Lib.hid (show ∀ W, Bz W0 W → _ from fun W h => ihb b2 W S S' B1 B2 nb1 cb1 nb2 cb2 (hA1.below (HG.out W h)) (hA2.below (HG.out W h)) lna)
  have KO := Lib.hid (show ∀ W, Bz W0 W → _ from fun W h => ihl l2 W S S' L1 L2 nl1 cl1 nl2 cl2 (hO1.below (HG.out W h)) (hO2.below (HG.out W h)) lno)
  have NE := Lib.hid (show (k1 ≠ k2 ∨ s1 ≠ s2 ∨ n1 ≠ n2 ∨ eqC x1 x2 = false ∨ eqC b1 b2 = false ∨ eqC l1 l2 = false) → eqC (St.mk k1 s1 n1 x1 b1 l1) (.mk k2 s2 n2 x2 b2 l2) = false from fun h => eqC_neg fun e => by
    injection e with e1 e2 e3 e4 e5 e6
    rcases h with h | h | h | h | h | h
    · exact h e1
    · exact h e2
    · exact h e3
    · rw [eqC_pos e4] at h; cases h
    · rw [eqC_pos e5] at h; cases h
    · rw [eqC_pos e6] at h; cases h)
  have YE := Lib.hid (show k1 = k2 → s1 = s2 → n1 = n2 → eqC x1 x2 = true → eqC b1 b2 = true → eqC l1 l2 = true → eqC (St.mk k1 s1 n1 x1 b1 l1) (.mk k2 s2 n2 x2 b2 l2) = true from fun h1 h2 h3 h4 h5 h6 => by
    have e4 : x1 = x2 := Classical.byContradiction fun h => by rw [eqC_neg h] at h4; cases h4
    have e5 : b1 = b2 := Classical.byContradiction fun h => by rw [eqC_neg h] at h5; cases h5
    have e6 : l1 = l2 := Classical.byContradiction fun h => by rw [eqC_neg h] at h6; cases h6
    exact eqC_pos (by rw [h1, h2, h3, e4, e5, e6]))
  generalize eqC (St.mk k1 s1 n1 x1 b1 l1) (.mk k2 s2 n2 x2 b2 l2) = E at *
  generalize eqC x1 x2 = ex at *
  generalize eqC b1 b2 = ea at *
  generalize eqC l1 l2 = eo at *
  clear hx hy hA1 hO1 hA2 hO2 ihb ihl hz lna lno hb0 hba KXX HX1 HX2
  unfold exC at KX
  unfold stC exC
  simp only [List.cons_append, List.nil_append]
  by_cases h : k1 = k2
  · subst h
    have qk : (k1 == k1) = true := beq_self_eq_true _
    by_cases h : s1 = s2
    · subst h
      have qs : ((bs s1).toList == (bs s1).toList) = true := beq_self_eq_true _
      by_cases h : n1 = n2
      · subst h
        have qn : (n1 == n1) = true := beq_self_eq_true _
        go_enter Tryz.func68, Tryz.ntmps68
        go_upto_region 1 with fail
        rw [← hW0]
        clear hW0
        obtain ⟨c0, c1, c2, c3, c4, c5, c6, c7, c8, c9, c10, d0, d1, d2, d3, d4, d5, d6, d7, d8, d9, d10⟩ := HF.out _ z0
        go_wp2_with fail
        refine (KX.out _ z0).mono ?_
        rintro e w1 ⟨rfl, hb⟩
        have z1 := z0.next hb
        clear hb c0 c1 c2 c3 c4 c5 c6 c7 c8 c9 c10 d0 d1 d2 d3 d4 d5 d6 d7 d8 d9 d10
        obtain ⟨c0, c1, c2, c3, c4, c5, c6, c7, c8, c9, c10, d0, d1, d2, d3, d4, d5, d6, d7, d8, d9, d10⟩ := HF.out _ z1
        cases ex with
        | false =>
          have h : False ∨ false = false := .inr rfl
          have HR := Lib.hid (NE.out (.inr (.inr (.inr (.inl rfl)))))
          obtain rfl := HR.out
          go_wp2_with fail
          go_ret
          exact ⟨rfl, HG.out _ z1⟩
        | true =>
          go_wp2_with fail
          refine (KA.out _ z1).mono ?_
          rintro e w2 ⟨rfl, hb⟩
          have z2 := z1.next hb
          clear hb c0 c1 c2 c3 c4 c5 c6 c7 c8 c9 c10 d0 d1 d2 d3 d4 d5 d6 d7 d8 d9 d10
          obtain ⟨c0, c1, c2, c3, c4, c5, c6, c7, c8, c9, c10, d0, d1, d2, d3, d4, d5, d6, d7, d8, d9, d10⟩ := HF.out _ z2
          cases ea with
          | false =>
            have h : False ∨ false = false := .inr rfl
            have HR := Lib.hid (NE.out (.inr (.inr (.inr (.inr (.inl rfl))))))
            obtain rfl := HR.out
            go_wp2_with fail
            go_ret
            exact ⟨rfl, HG.out _ z2⟩
          | true =>
            go_wp2_with fail
            refine (KO.out _ z2).mono ?_
            rintro e w3 ⟨rfl, hb⟩
            have z3 := z2.next hb
            clear hb c0 c1 c2 c3 c4 c5 c6 c7 c8 c9 c10 d0 d1 d2 d3 d4 d5 d6 d7 d8 d9 d10
            obtain ⟨c0, c1, c2, c3, c4, c5, c6, c7, c8, c9, c10, d0, d1, d2, d3, d4, d5, d6, d7, d8, d9, d10⟩ := HF.out _ z3
            cases eo with
            | false =>
              have h : False ∨ false = false := .inr rfl
              have HR := Lib.hid (NE.out (.inr (.inr (.inr (.inr (.inr rfl))))))
              obtain rfl := HR.out
              go_wp2_with fail
              go_ret
              exact ⟨rfl, HG.out _ z3⟩
            | true =>
              have HR := Lib.hid (YE.out (by first | trivial | rfl) (by first | trivial | rfl) (by first | trivial | rfl) (by first | trivial | rfl) (by first | trivial | rfl) (by first | trivial | rfl))
              obtain rfl := HR.out
              go_wp2_with fail
              go_ret
              exact ⟨rfl, HG.out _ z3⟩
      · have HR := Lib.hid (NE.out (.inr (.inr (.inl h))))
        obtain rfl := HR.out
        have qn : (n1 == n2) = false := by simp [h]
        go_enter Tryz.func68, Tryz.ntmps68
        go_upto_region 1 with fail
        rw [← hW0]
        clear hW0
        obtain ⟨c0, c1, c2, c3, c4, c5, c6, c7, c8, c9, c10, d0, d1, d2, d3, d4, d5, d6, d7, d8, d9, d10⟩ := HF.out _ z0
        go_wp2_with fail
        go_ret
        exact ⟨rfl, HG.out _ z0⟩
    · have HR := Lib.hid (NE.out (.inr (.inl h)))
      obtain rfl := HR.out
      have qs : ((bs s1).toList == (bs s2).toList) = false := by rw [bs_toList, bs_toList]; simp [h]
      have qs2 : ¬ (bs s1).toList = (bs s2).toList := by rw [bs_toList, bs_toList]; exact h
      go_enter Tryz.func68, Tryz.ntmps68
      go_upto_region 1 with fail
      rw [← hW0]
      clear hW0
      obtain ⟨c0, c1, c2, c3, c4, c5, c6, c7, c8, c9, c10, d0, d1, d2, d3, d4, d5, d6, d7, d8, d9, d10⟩ := HF.out _ z0
      go_wp2_with fail
      go_ret
      exact ⟨rfl, HG.out _ z0⟩
  · have HR := Lib.hid (NE.out (.inl h))
    obtain rfl := HR.out
    have qk : (k1 == k2) = false := by simp [h]
    go_enter Tryz.func68, Tryz.ntmps68
    go_upto_region 1 with fail
    rw [← hW0]
    clear hW0
    obtain ⟨c0, c1, c2, c3, c4, c5, c6, c7, c8, c9, c10, d0, d1, d2, d3, d4, d5, d6, d7, d8, d9, d10⟩ := HF.out _ z0
    go_wp2_with fail
    go_ret
    exact ⟨rfl, HG.out _ z0⟩
theorem sameS_any : ∀ (N : Nat) (x : St), x.size ≤ N → N ≤ 1000000 → ∀ y, SameS x y := by
  intro N
  induction N with
  | zero => intro x h; obtain ⟨_, _, _, _, _, _⟩ := x; rw [St.size] at h; omega
  | succ N ih =>
    intro x h hN y
    obtain ⟨k, s, n, e, b, l⟩ := x
    have hz := h
    rw [St.size] at h
    exact sameS_of k s n e b l (fun l => SameSL.of fun x hx y hy => ih x (by have := St.sizes_mem hx; omega) (by omega) y) (fun l => SameSL.of fun x hx y hy => ih x (by have := St.sizes_mem hx; omega) (by omega) y) (by omega) y
theorem sameS {x : St} (h : x.size ≤ 1000000) (y : St) : SameS x y := sameS_any x.size x (Nat.le_refl _) h y
theorem sameSL {l : List St} (h : St.sizes l ≤ 1000000) (l2 : List St) : SameSL l l2 := SameSL.of fun x hx y hy => sameS (by have := St.sizes_mem hx; omega) y
end Go.Proofs.YtkakbidllpjopaaGreatDoor
namespace Go.Proofs
open Go.Shelf
def Tryz.lays193_ren : Go.Shelf.Ren := ⟨fun | 193 => 66 | n => n, fun | 31 => 22 | 9 => 9 | 4 => 4 | 3 => 3 | 0 => 0 | n => n, fun | n => n⟩
theorem Tryz.lays193 : Go.Proofs.Lays.n193 Tryz.prog Tryz.lays193_ren := {
  mixed := by kernel_rfl
  f193 := Tryz.func66.trans (congrArg some (by kernel_rfl))
  t0 := Tryz.underlying0
  a0 := Tryz.isAgg0
  z0 := Tryz.sizeOf0
  v0 := Tryz.zeroValue0
  t3 := Tryz.underlying3
  a3 := Tryz.isAgg3
  z3 := Tryz.sizeOf3
  v3 := Tryz.zeroValue3
  t4 := Tryz.underlying4
  a4 := Tryz.isAgg4
  z4 := Tryz.sizeOf4
  v4 := Tryz.zeroValue4
  t9 := Tryz.underlying9
  a9 := Tryz.isAgg9
  z9 := Tryz.sizeOf9
  v9 := Tryz.zeroValue9
  t31 := Tryz.underlying22
  a31 := Tryz.isAgg22
  z31 := Tryz.sizeOf22
  v31 := Tryz.zeroValue22 }
open Go.RowKit Go.Sort Go.Lib in
theorem Tryz.slices_Equal_string (b1 o1 n c b2 o2 m d : Nat) (xs ys : List ByteArray) (w : World) (hx : n ≤ xs.length) (hy : m ≤ ys.length) (hbig : n ≤ 9223372036854775807) (hbig2 : m ≤ 9223372036854775807) (hc1 : ∀ j, j < xs.length → w.cell? ⟨b1, o1 + j, none⟩ = some (.string (xs.getD j ByteArray.empty))) (hc2 : ∀ j, j < ys.length → w.cell? ⟨b2, o2 + j, none⟩ = some (.string (ys.getD j ByteArray.empty))) :
    Calls Tryz.prog 66 #[.slice (some ⟨b1, o1, none⟩) n c, .slice (some ⟨b2, o2, none⟩) m d] w fun e w' => e = .returned (.bool (decide (xs.take n = ys.take m))) ∧ ∃ q, w' = w.drewN q := Any.slices_Equal_string Tryz.lays193 b1 o1 n c b2 o2 m d xs ys w hx hy hbig hbig2 hc1 hc2
open Go.RowKit Go.Sort Go.Lib in
theorem Tryz.slices_Equal_string_empty (a1 a2 : Option Addr) (c m d : Nat) (w : World) (hbig2 : m ≤ 9223372036854775807) :
    Calls Tryz.prog 66 #[.slice a1 0 c, .slice a2 m d] w fun e w' => e = .returned (.bool (decide (m = 0))) ∧ w' = w := Any.slices_Equal_string_empty Tryz.lays193 a1 a2 c m d w hbig2
open Go.RowKit Go.Sort Go.Lib in
theorem Tryz.slices_Equal_string_lens (a1 a2 : Option Addr) (n c m d : Nat) (w : World) (hnm : n ≠ m) :
    Calls Tryz.prog 66 #[.slice a1 n c, .slice a2 m d] w fun e w' => e = .returned (.bool false) ∧ w' = w := Any.slices_Equal_string_lens Tryz.lays193 a1 a2 n c m d w hnm
end Go.Proofs
