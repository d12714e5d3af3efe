/- The walk of syntax.Print (printed by wip/gensxy.py). Conditions: the library's tables are laid (SxW); at most 10000 parts an operation. -/
import Derived.Test.YthfjkdgaiaokdaaDoorSxX
set_option linter.unusedVariables false
set_option linter.unusedSimpArgs false
namespace Go.Proofs.YthfjkdgaiaokdaaDoor
open Go.RowKit

/-- A store's line. -/
def storeT (d : Decl') : Str := lineT 0 (([115, 116, 111, 114, 101, 32] : Str) ++ d.name ++ [32] ++ d.kind ++ [59])
/-- An operation's lines. -/
def operT (o : Oper') : Str := lineT 0 (([111, 112, 32] : Str) ++ o.name ++ [40] ++ Lib.join o.params [44, 32] ++ [41, 32, 123]) ++ txSs 1 o.body ++ lineT 0 [125]
/-- A program's text. -/
def txP (p : Prog') : Str := (p.stores.map storeT).flatten ++ (p.opers.map operT).flatten
/-- What Print answers: the text. -/
def printS (p : Prog') : Str := if chkP p ≠ 0 then [] else if 65536 < (txP p).length then [] else txP p
/-- .. and the error. -/
def printE (p : Prog') : Int := if chkP p ≠ 0 then chkP p else if 65536 < (txP p).length then 7 else 0
theorem runC_all {α : Type} {c : List Str → α → Int} {nm : α → Str} : ∀ {l : List α} {met : List Str}, runC c nm met l = 0 → ∀ x ∈ l, ∃ m, c m x = 0
  | [], _, _, x, h => by cases h
  | e :: t, met, h, x, hx => by
    rw [runC] at h
    split at h
    · exact absurd h (by assumption)
    · rename_i h3
      rcases List.mem_cons.1 hx with rfl | hx
      · exact ⟨met, Classical.not_not.1 h3⟩
      · exact runC_all h x hx
theorem freshL_all : ∀ {l met : List Str}, freshL met l = 0 → ∀ s ∈ l, nameOk s = true
  | [], _, _, x, h => by cases h
  | e :: t, met, h, x, hx => by
    rw [freshL] at h
    split at h
    · cases h
    · rename_i h3
      split at h
      · cases h
      · rcases List.mem_cons.1 hx with rfl | hx
        · simpa using h3
        · exact freshL_all h x hx
theorem freshC_ok {met : List Str} {s : Str} {r : Bool} (h : freshC met s r = 0) : nameOk s = true ∧ r = false ∧ met.contains s = false := by
  unfold freshC at h
  split at h
  · cases h
  · rename_i h1
    split at h
    · cases h
    · rename_i h2
      refine ⟨?_, ?_, by simpa using h2⟩
      · cases hq : nameOk s with
        | true => rfl
        | false => exact absurd (.inl hq) h1
      · cases r with
        | false => rfl
        | true => exact absurd (.inr rfl) h1
theorem decl_ok {met : List Str} {d : Decl'} (h : declC met d = 0) : nameOk d.name = true ∧ nameOk d.kind = true := by
  obtain ⟨h1, h2, _⟩ := freshC_ok h
  exact ⟨h1, by simpa using h2⟩
theorem oper_ok {met : List Str} {o : Oper'} (h : operC met o = 0) : nameOk o.name = true ∧ o.params.length ≤ 4 ∧ freshL [] o.params = 0 ∧ chkSs 1 o.body = 0 ∧ met.contains o.name = false := by
  unfold operC at h
  split at h
  · exact absurd h (by assumption)
  rename_i h0
  split at h
  · cases h
  rename_i h1
  split at h
  · exact absurd h (by assumption)
  rename_i h2
  obtain ⟨h3, _, h4⟩ := freshC_ok (Classical.not_not.1 h0)
  exact ⟨h3, by omega, Classical.not_not.1 h2, h, h4⟩
/-- What a valid program's parts are. -/
theorem chkP_ok {p : Prog'} (h : chkP p = 0) : p.stores.length ≤ 12 ∧ p.opers.length ≤ 32 ∧ (∀ d ∈ p.stores, nameOk d.name = true ∧ nameOk d.kind = true) ∧ (∀ o ∈ p.opers, nameOk o.name = true ∧ o.params.length ≤ 4 ∧ freshL [] o.params = 0 ∧ chkSs 1 o.body = 0) ∧ runC declC Decl'.name [] p.stores = 0 ∧ runC operC Oper'.name [] p.opers = 0 := by
  unfold chkP at h
  split at h
  · cases h
  rename_i h0
  split at h
  · exact absurd h (by assumption)
  rename_i h1
  have h2 := Classical.not_not.1 h1
  rw [storesL_run] at h2
  rw [opersL_run] at h
  refine ⟨by omega, by omega, fun d hd => ?_, fun o ho => ?_, h2, h⟩
  · obtain ⟨m, hm⟩ := runC_all h2 d hd
    exact decl_ok hm
  · obtain ⟨m, hm⟩ := runC_all h o ho
    obtain ⟨a1, a2, a3, a4, _⟩ := oper_ok hm
    exact ⟨a1, a2, a3, a4⟩
theorem sum_names : ∀ {l : List Str}, (∀ s ∈ l, nameOk s = true) → (l.map List.length).sum ≤ 24 * l.length
  | [], _ => by simp
  | e :: t, h => by
    have h1 := name_len (h e (by simp))
    have h2 := sum_names (l := t) fun s hs => h s (by simp [hs])
    simp only [List.map_cons, List.sum_cons, List.length_cons]
    omega
theorem params_len {l : List Str} (h : ∀ s ∈ l, nameOk s = true) (h4 : l.length ≤ 4) : (Lib.join l [44, 32]).length ≤ 104 := by
  have h1 := join_len [44, 32] l
  have h2 := sum_names h
  simp only [List.length_cons, List.length_nil] at h1
  omega
theorem flat_take {α : Type} {f : α → Str} {l : List α} {q : Nat} {x : α} (h : l[q]? = some x) : ((l.take (q + 1)).map f).flatten = ((l.take q).map f).flatten ++ f x := by
  rw [List.take_add_one, h]
  simp
theorem flat_len {α : Type} {f : α → Str} {c : Nat} : ∀ {l : List α}, (∀ x ∈ l, (f x).length ≤ c) → (l.map f).flatten.length ≤ l.length * c
  | [], _ => by simp
  | e :: t, h => by
    have h1 := h e (by simp)
    have h2 := flat_len (l := t) fun s hs => h s (by simp [hs])
    simp only [List.map_cons, List.flatten_cons, List.length_append, List.length_cons, Nat.succ_mul]
    omega
/-- Few parts an operation. -/
def Prog'.Few2 (p : Prog') : Prop := p.stores.length ≤ 10000 ∧ p.opers.length ≤ 10000 ∧ ∀ o ∈ p.opers, St.sizes o.body ≤ 10000
theorem Prog'.Few2.few {p : Prog'} (h : p.Few2) : p.Few := ⟨by have := h.1; omega, by have := h.2.1; omega, fun o ho => by have := h.2.2 o ho; omega⟩
theorem storeT_len {d : Decl'} (h : nameOk d.name = true ∧ nameOk d.kind = true) : (storeT d).length ≤ 60 := by
  have h1 := name_len h.1
  have h2 := name_len h.2
  rw [storeT, lineT_len]
  simp only [List.length_append, List.length_cons, List.length_nil]
  omega
theorem operT_len {o : Oper'} (h : nameOk o.name = true ∧ o.params.length ≤ 4 ∧ freshL [] o.params = 0 ∧ chkSs 1 o.body = 0) (hw : St.Wds o.body) (hz : St.sizes o.body ≤ 10000) : (operT o).length ≤ 3000200 := by
  have h1 := name_len h.1
  have h2 := params_len (freshL_all h.2.2.1) h.2.1
  have h3 : (txSs 1 o.body).length ≤ 300 * St.sizes o.body := txSs_len fun x hx => txS_len x 1 (chkSs_all h.2.2.2 x hx) (St.Wds_mem hw x hx)
  rw [operT, List.length_append, List.length_append, lineT_len, lineT_len]
  simp only [List.length_append, List.length_cons, List.length_nil]
  omega
theorem PV.wd {w : World} {S : Nat → Prop} {p : Prog'} {v : Value} (h : PV w S p v) : ∀ o ∈ p.opers, St.Wds o.body := by
  obtain ⟨D, nd, cd, O, no, co, _, _, h2, h3⟩ := h
  intro o ho
  obtain ⟨i, hi⟩ := List.mem_iff_getElem?.1 ho
  obtain ⟨b, q, cs, _, _, _, ⟨o', ho', hov⟩, _⟩ := h3.at i (by rw [h2]; exact (List.getElem?_eq_some_iff.1 hi).1)
  rw [hi] at ho'
  injection ho' with ho'
  subst ho'
  obtain ⟨P, np, cp, B, nb, cb, _, _, hb⟩ := hov
  exact hb.wds
set_option maxRecDepth 100000 in
set_option maxHeartbeats 12800000 in
theorem print_bad (p : Prog') (v : Value) (S : Nat → Prop) (w : World) (hw : SxW w) (hp : PV w S p v) (hf : p.Few2) (hc : chkP p ≠ 0) :
    Calls Tryd.prog 12 #[v] w fun e w' => e = .returned (.tuple #[.string (bs []), .int .i64 (chkP p)]) ∧ Below w.heap.size w w' := by
  have HB := Lib.hid (show ∀ X, Below w.heap.size w (w.alloc X) from fun X => (Below.refl _ _).alloc (Nat.le_refl _) X)
  have HCK := Lib.hid (show ∀ X, Calls Tryd.prog 10 #[v] (w.alloc X) fun e w' => e = .returned (.int .i64 (chkP p)) ∧ Below (w.alloc X).heap.size (w.alloc X) w' from fun X => check_any p v S _ (hw.below (HB.out X)) (hp.below (HB.out X)) hf.few)
  obtain ⟨D, nd, cd, O, no, co, rfl, -, -⟩ := hp
  generalize chkP p = C at *
  have hc1 : (C != 0) = true := by simp [hc]
  clear hw hf
  go_enter Tryd.func12, Tryd.ntmps12
  go_wp2_with fail
  refine (HCK.out _).mono ?_
  rintro e w1 ⟨rfl, hb⟩
  go_wp2
  go_ret2
  exact ⟨rfl, below_new hb⟩
set_option maxRecDepth 100000 in
set_option maxHeartbeats 12800000 in
theorem print_ok (p : Prog') (v : Value) (S : Nat → Prop) (w : World) (hw : SxW w) (hp : PV w S p v) (hf : p.Few2) (hc : chkP p = 0) :
    Calls Tryd.prog 12 #[v] w fun e w' => e = .returned (.tuple #[.string (bs (if 65536 < (txP p).length then [] else txP p)), .int .i64 (if 65536 < (txP p).length then 7 else 0)]) ∧ Below w.heap.size w w' := by
  have HB := Lib.hid (show ∀ X, Below w.heap.size w (w.alloc X) from fun X => (Below.refl _ _).alloc (Nat.le_refl _) X)
  have HCK := Lib.hid (show ∀ X, Calls Tryd.prog 10 #[v] (w.alloc X) fun e w' => e = .returned (.int .i64 0) ∧ Below (w.alloc X).heap.size (w.alloc X) w' from fun X => by
    have := check_any p v S _ (hw.below (HB.out X)) (hp.below (HB.out X)) hf.few
    rwa [hc] at this)
  obtain ⟨h12, h32, hds, hos, -, -⟩ := chkP_ok hc
  have hwd := hp.wd
  obtain ⟨TS, hTS⟩ : ∃ T, T = (if 65536 < (txP p).length then [] else txP p) := ⟨_, rfl⟩
  obtain ⟨TE, hTE⟩ : ∃ T : Int, T = (if 65536 < (txP p).length then 7 else 0) := ⟨_, rfl⟩
  rw [← hTS, ← hTE]
  have HTS := Lib.hid hTS
  have HTE := Lib.hid hTE
  obtain ⟨ds, os⟩ := p
  dsimp only at h12 h32 hds hos hwd
  have HSL := Lib.hid (show ∀ q, ((ds.take q).map storeT).flatten.length ≤ 1000 from fun q => by
    have h1 := flat_len (f := storeT) (c := 60) (l := ds.take q) fun x hx => storeT_len (hds x (List.mem_of_mem_take hx))
    have h2 : (ds.take q).length ≤ 12 := by rw [List.length_take]; omega
    have h3 := Nat.mul_le_mul_right 60 h2
    omega)
  have HOL := Lib.hid (show ∀ q, ((os.take q).map operT).flatten.length ≤ 97000000 from fun q => by
    have h1 := flat_len (f := operT) (c := 3000200) (l := os.take q) fun x hx => operT_len (hos x (List.mem_of_mem_take hx)) (hwd x (List.mem_of_mem_take hx)) (hf.2.2 x (List.mem_of_mem_take hx))
    have h2 : (os.take q).length ≤ 32 := by rw [List.length_take]; omega
    have h3 := Nat.mul_le_mul_right 3000200 h2
    omega)
  obtain ⟨D, nd, cd, O, no, co, rfl, hd, ho⟩ := hp
  dsimp only at hd ho
  have HD := Lib.hid hd
  have HO := Lib.hid ho
  have HND := Lib.hid hd.1
  have HNO := Lib.hid ho.1
  have HWS := Lib.hid hw
  have HDS := Lib.hid hds
  have HOS := Lib.hid hos
  have HWD := Lib.hid hwd
  have HFW := Lib.hid hf
  have hnd : (nd : Int) ≤ 12 := by have := hd.1; omega
  have hno : (no : Int) ≤ 32 := by have := ho.1; omega
  clear hw hf hc h12 h32 hds hos hwd hd ho hTS hTE
  go_enter Tryd.func12, Tryd.ntmps12
  go_wp2_with fail
  refine (HCK.out _).mono ?_
  rintro e w1 ⟨rfl, hb⟩
  have hX1 : w1.heap[w.heap.size]? = some (.cells #[.slice D nd cd, .slice O no co] 25 (0, 0)) := (hb.block _ (lt_alloc w _)).trans (heap_alloc_new w _)
  have HB1 := Lib.hid (below_new hb)
  have hlt1 : w.heap.size < w1.heap.size := lt_of_block hX1
  have HX1 := Lib.hid hX1
  have HLT1 := Lib.hid hlt1
  obtain ⟨d0, d1⟩ := cells2 ((heap_alloc_old w1 (.cells #[.pointer none, .slice none 0 0] 65) hlt1).trans hX1)
  clear hb HCK HB hX1 hlt1
  go_wp2_with fail
  obtain ⟨w2, hw2⟩ : ∃ w2 : World, w2 = w1.alloc (.cells #[.pointer none, .slice none 0 0] 65) := ⟨_, rfl⟩
  have HXW := Lib.hid (show ∀ W, Below w1.heap.size w2 W → (W.heap[w.heap.size]? = some (.cells #[.slice D nd cd, .slice O no co] 25 (0, 0))) ∧ Below w.heap.size w W from fun W h => by
    subst hw2
    refine ⟨(h.block _ HLT1.out).trans ((heap_alloc_old _ _ HLT1.out).trans HX1.out), (HB1.out.alloc HB1.out.size _).trans (h.mono (Nat.le_of_lt HLT1.out))⟩)
  have HZ := Lib.hid (show PB w1.heap.size w1.heap.size (((ds.take 0).map storeT).flatten) w2 ∧ Below w1.heap.size w2 w2 ∧ w1.heap.size ≤ w2.heap.size from by
    rw [hw2]
    exact ⟨PB.fresh w1, Below.refl _ _, by simp⟩)
  rw [← hw2]
  clear hw2 d0 d1 HX1
  go_loopw [18] (fun i wr => ∃ q : Nat, q ≤ ds.length ∧ i = .int .i64 q ∧ Hid (PB w1.heap.size w1.heap.size (((ds.take q).map storeT).flatten) wr ∧ Below w1.heap.size w2 wr ∧ w1.heap.size ≤ wr.heap.size)) (fun i _ => ds.length - (intOf i).toNat)
  case atStart => exact ⟨0, Nat.zero_le _, rfl, HZ⟩
  case round =>
    clear HZ
    obtain ⟨q, hq, rfl, Z⟩ := hrel
    by_cases hl : q < ds.length
    · have hi2 : (q : Int) < (nd : Int) := by have := HND.out; omega
      obtain ⟨b, off, cs, rfl, hb, hS, ⟨x, hx, rfl⟩, hrow⟩ := HD.out.2.at q (by have := HND.out; omega)
      have HQL := Lib.hid hl
      have hrow2 := rangeAt_keep hrow ((HXW.out _ Z.out.2.1).2.block b hb)
      have e0 := hrow2 0 _ rfl
      have e1 := hrow2 1 _ rfl
      simp only [Nat.add_zero] at e0
      have hxl := HDS.out x (List.mem_of_getElem? hx)
      have HSN := Lib.hid (show ((ds.take (q + 1)).map storeT).flatten = ((ds.take q).map storeT).flatten ++ storeT x from flat_take hx)
      obtain ⟨xn, xk⟩ := x
      have hl1 := name_len hxl.1
      have hl2 := name_len hxl.2
      dsimp only at hl1 hl2 e0 e1
      obtain ⟨c1, hc1⟩ : ∃ c, c = ([115, 116, 111, 114, 101, 32] : Str) ++ xn := ⟨_, rfl⟩
      have lc1 : c1.length = 6 + xn.length := by rw [hc1]; exact List.length_append
      have jc1 : ∀ w, (Op.stringOp .add (⟨#[115, 116, 111, 114, 101, 32]⟩ : ByteArray) (bs xn)).run Tryd.prog w = .ok (.string (bs c1)) w := fun w => by rw [hc1]; exact add_big ([115, 116, 111, 114, 101, 32] : Str) xn (by first | omega | (simp; omega)) w
      obtain ⟨c2, hc2⟩ : ∃ c, c = c1 ++ ([32] : Str) := ⟨_, rfl⟩
      have lc2 : c2.length = c1.length + 1 := by rw [hc2]; exact List.length_append
      have jc2 : ∀ w, (Op.stringOp .add (bs c1) (⟨#[32]⟩ : ByteArray)).run Tryd.prog w = .ok (.string (bs c2)) w := fun w => by rw [hc2]; exact add_big c1 ([32] : Str) (by first | omega | (simp; omega)) w
      obtain ⟨c3, hc3⟩ : ∃ c, c = c2 ++ xk := ⟨_, rfl⟩
      have lc3 : c3.length = c2.length + xk.length := by rw [hc3]; exact List.length_append
      have jc3 : ∀ w, (Op.stringOp .add (bs c2) (bs xk)).run Tryd.prog w = .ok (.string (bs c3)) w := fun w => by rw [hc3]; exact add_big c2 xk (by first | omega | (simp; omega)) w
      obtain ⟨c4, hc4⟩ : ∃ c, c = c3 ++ ([59] : Str) := ⟨_, rfl⟩
      have lc4 : c4.length = c3.length + 1 := by rw [hc4]; exact List.length_append
      have jc4 : ∀ w, (Op.stringOp .add (bs c3) (⟨#[59]⟩ : ByteArray)).run Tryd.prog w = .ok (.string (bs c4)) w := fun w => by rw [hc4]; exact add_big c3 ([59] : Str) (by first | omega | (simp; omega)) w
      have HTX := Lib.hid (show storeT ⟨xn, xk⟩ = lineT 0 c4 from by rw [storeT, hc4, hc3, hc2, hc1])
      have ha : Below wr.heap.size wr ((wr.alloc (.cells #[.string (bs xn), .string (bs xk)] 50))) := (Below.refl _ _).alloc (Nat.le_refl _) _
      have HA := Lib.hid ha
      have HLN := Lib.hid (line_any w1.heap.size w1.heap.size (((ds.take q).map storeT).flatten) c4 0 _ (by decide) (Z.out.1.keep ha) (by have := HSL.out q; omega) (Nat.le_trans Z.out.2.2 ha.size))
      clear hx hb hS hrow hrow2 hl hq ha hxl hl1 hl2 hc1 lc1 hc2 lc2 hc3 lc3 hc4 lc4
      go_wp2_with fail
      refine HLN.out.mono ?_
      rintro e w4 ⟨rfl, hp4, hb4, -⟩
      have Z4 : Hid (PB w1.heap.size w1.heap.size (((ds.take (q + 1)).map storeT).flatten) w4 ∧ Below w1.heap.size w2 w4 ∧ w1.heap.size ≤ w4.heap.size) := Lib.hid ⟨by rw [HSN.out, HTX.out]; exact hp4, (Z.out.2.1.trans (HA.out.mono Z.out.2.2)).trans hb4, Nat.le_trans (Nat.le_trans Z.out.2.2 HA.out.size) hb4.size⟩
      clear hp4 hb4 e0 e1 HLN
      go_wp2
      go_roundw
      case rel => exact ⟨q + 1, HQL.out, by go_num, Z4⟩
      case measure => exact meas_up _ _ HQL.out
    · have hi2 : ¬ (q : Int) < (nd : Int) := by have := HND.out; omega
      have hqd : ds.take q = ds := List.take_of_length_le (by omega)
      have HSD := Lib.hid (HSL.out q)
      rw [hqd] at Z HSD
      obtain ⟨TD, hTD⟩ : ∃ T, T = (ds.map storeT).flatten := ⟨_, rfl⟩
      have HTD := Lib.hid hTD
      rw [← hTD] at Z HSD
      clear hl hq hqd hTD HSL
      obtain ⟨d0, d1⟩ := cells2 (HXW.out _ Z.out.2.1).1
      go_wp2_with fail
      have Z0 : Hid (PB w1.heap.size w1.heap.size (TD ++ ((os.take 0).map operT).flatten) wr ∧ Below w1.heap.size w2 wr ∧ w1.heap.size ≤ wr.heap.size) := Lib.hid ⟨by simpa using Z.out.1, Z.out.2⟩
      clear d0 d1 Z
      go_loopw [35] (fun i wr => ∃ q : Nat, q ≤ os.length ∧ i = .int .i64 q ∧ Hid (PB w1.heap.size w1.heap.size (TD ++ ((os.take q).map operT).flatten) wr ∧ Below w1.heap.size w2 wr ∧ w1.heap.size ≤ wr.heap.size)) (fun i _ => os.length - (intOf i).toNat)
      case atStart => exact ⟨0, Nat.zero_le _, rfl, Z0⟩
      case round =>
        clear Z0
        obtain ⟨q, hq, rfl, Z⟩ := hrel
        by_cases hl : q < os.length
        · have hi2 : (q : Int) < (no : Int) := by have := HNO.out; omega
          obtain ⟨b, off, cs, rfl, hb, hS, ⟨x, hx, hov⟩, hrow⟩ := HO.out.2.at q (by have := HNO.out; omega)
          have HQL := Lib.hid hl
          have hbase := (HXW.out _ Z.out.2.1).2
          have hrow2 := rangeAt_keep hrow (hbase.block b hb)
          have hxl := HOS.out x (List.mem_of_getElem? hx)
          have hxf := HFW.out.2.2 x (List.mem_of_getElem? hx)
          have hxw := HWD.out x (List.mem_of_getElem? hx)
          have HSN := Lib.hid (show TD ++ ((os.take (q + 1)).map operT).flatten = (TD ++ ((os.take q).map operT).flatten) ++ operT x by rw [flat_take hx, List.append_assoc])
          have hol := HOL.out q
          have hol2 := operT_len hxl hxw hxf
          obtain ⟨xn, xp, xb⟩ := x
          obtain ⟨P2, np2, cp2, B2, nb2, cb2, rfl, hss, hsb⟩ := hov
          dsimp only at hxl hxf hss hsb hrow2 hxw
          have e0 := hrow2 0 _ rfl
          have e1 := hrow2 1 _ rfl
          have e2 := hrow2 2 _ rfl
          simp only [Nat.add_zero] at e0
          have hl1 := name_len hxl.1
          have hl2 := params_len (freshL_all hxl.2.2.1) hxl.2.1
          have hJ := fun W (h : Below w.heap.size w W) => join_ss (hss.keep h.size (fun b hlt _ => h.block b hlt) (S' := S) (fun _ _ h => h)) [44, 32] (by have := hxl.2.1; omega) (by omega)
          obtain ⟨tj, htj⟩ : ∃ t, t = Lib.join xp [44, 32] := ⟨_, rfl⟩
          rw [← htj] at hl2 hJ
          obtain ⟨c1, hc1⟩ : ∃ c, c = ([111, 112, 32] : Str) ++ xn := ⟨_, rfl⟩
          have lc1 : c1.length = 3 + xn.length := by rw [hc1]; exact List.length_append
          have jc1 : ∀ w, (Op.stringOp .add (⟨#[111, 112, 32]⟩ : ByteArray) (bs xn)).run Tryd.prog w = .ok (.string (bs c1)) w := fun w => by rw [hc1]; exact add_big ([111, 112, 32] : Str) xn (by first | omega | (simp; omega)) w
          obtain ⟨c2, hc2⟩ : ∃ c, c = c1 ++ ([40] : Str) := ⟨_, rfl⟩
          have lc2 : c2.length = c1.length + 1 := by rw [hc2]; exact List.length_append
          have jc2 : ∀ w, (Op.stringOp .add (bs c1) (⟨#[40]⟩ : ByteArray)).run Tryd.prog w = .ok (.string (bs c2)) w := fun w => by rw [hc2]; exact add_big c1 ([40] : Str) (by first | omega | (simp; omega)) w
          obtain ⟨c3, hc3⟩ : ∃ c, c = c2 ++ tj := ⟨_, rfl⟩
          have lc3 : c3.length = c2.length + tj.length := by rw [hc3]; exact List.length_append
          have jc3 : ∀ w, (Op.stringOp .add (bs c2) (bs tj)).run Tryd.prog w = .ok (.string (bs c3)) w := fun w => by rw [hc3]; exact add_big c2 tj (by first | omega | (simp; omega)) w
          obtain ⟨c4, hc4⟩ : ∃ c, c = c3 ++ ([41, 32, 123] : Str) := ⟨_, rfl⟩
          have lc4 : c4.length = c3.length + 3 := by rw [hc4]; exact List.length_append
          have jc4 : ∀ w, (Op.stringOp .add (bs c3) (⟨#[41, 32, 123]⟩ : ByteArray)).run Tryd.prog w = .ok (.string (bs c4)) w := fun w => by rw [hc4]; exact add_big c3 ([41, 32, 123] : Str) (by first | omega | (simp; omega)) w
          obtain ⟨tb, htb⟩ : ∃ t, t = txSs 1 xb := ⟨_, rfl⟩
          have hTX : operT ⟨xn, xp, xb⟩ = lineT 0 c4 ++ tb ++ lineT 0 [125] := by rw [operT, hc4, hc3, hc2, hc1, htj, htb]
          have hTXl := congrArg List.length hTX
          simp only [List.length_append, lineT_len] at hTXl
          simp only [List.length_cons, List.length_nil] at hTXl
          obtain ⟨l0, hl0⟩ : ∃ l, l = TD ++ ((os.take q).map operT).flatten := ⟨_, rfl⟩
          have hl0l := congrArg List.length hl0
          rw [List.length_append] at hl0l
          have hsd := HSD.out
          have z0 : Pz w1.heap.size w1.heap.size wr wr.heap.size 41 #[.string (bs xn), .slice P2 np2 cp2, .slice B2 nb2 cb2] l0 (wr.alloc (.cells #[.string (bs xn), .slice P2 np2 cp2, .slice B2 nb2 cb2] 41)) := Pz.start (by rw [hl0]; exact Z.out.1) Z.out.2.2 (by decide)
          have HBS := Lib.hid (show ∀ W, Below w1.heap.size wr W → Below w.heap.size w W from fun W h => (HXW.out W (Z.out.2.1.trans h)).2)
          have HJN := Lib.hid (show ∀ l' W, Pz w1.heap.size w1.heap.size wr wr.heap.size 41 #[.string (bs xn), .slice P2 np2 cp2, .slice B2 nb2 cb2] l' W → Calls Tryd.prog 25 #[.slice P2 np2 cp2, .string ⟨#[44, 32]⟩] W fun e w' => e = .returned (.string (bs tj)) ∧ Below W.heap.size W w' from fun l' W z => hJ W (HBS.out W z.bl))
          have HC := Lib.hid (show ∀ l' W, Pz w1.heap.size w1.heap.size wr wr.heap.size 41 #[.string (bs xn), .slice P2 np2 cp2, .slice B2 nb2 cb2] l' W → (W.cell? ⟨wr.heap.size, 0, none⟩ = some (.string (bs xn)) ∧ W.cell? ⟨wr.heap.size, 1, none⟩ = some (.slice P2 np2 cp2) ∧ W.cell? ⟨wr.heap.size, 2, none⟩ = some (.slice B2 nb2 cb2)) from fun l' W z => cells3 z.bx)
          have HL1 := Lib.hid (show ∀ W, Pz w1.heap.size w1.heap.size wr wr.heap.size 41 #[.string (bs xn), .slice P2 np2 cp2, .slice B2 nb2 cb2] l0 W → Calls Tryd.prog 24 #[.pointer (some ⟨w1.heap.size, 0, none⟩), .int .i64 0, .string (bs c4)] W fun e w' => e = .returned (.tuple #[]) ∧ PB w1.heap.size w1.heap.size (l0 ++ lineT 0 c4) w' ∧ Below w1.heap.size W w' ∧ Fr w1.heap.size W w' from fun W z => line_any w1.heap.size w1.heap.size l0 c4 0 W (by decide) z.pb (by omega) z.sz)
          have HA1 := Lib.hid (show ∀ W, Pz w1.heap.size w1.heap.size wr wr.heap.size 41 #[.string (bs xn), .slice P2 np2 cp2, .slice B2 nb2 cb2] (l0 ++ lineT 0 c4) W → Calls Tryd.prog 26 #[.pointer (some ⟨w1.heap.size, 0, none⟩), .int .i64 1, .slice B2 nb2 cb2] W fun e w' => e = .returned (.tuple #[]) ∧ PB w1.heap.size w1.heap.size (l0 ++ lineT 0 c4 ++ tb) w' ∧ Below w1.heap.size W w' ∧ Fr w1.heap.size W w' from fun W z => by
            rw [htb]
            exact allAt_any xb 1 1 w S B2 nb2 cb2 w1.heap.size w1.heap.size (l0 ++ lineT 0 c4) W rfl HWS.out hxl.2.2.2 (by omega) (by rw [← htb, List.length_append, lineT_len]; omega) hsb (HBS.out W z.bl) (Nat.le_of_lt HLT1.out) z.sz z.pb)
          have HL2 := Lib.hid (show ∀ W, Pz w1.heap.size w1.heap.size wr wr.heap.size 41 #[.string (bs xn), .slice P2 np2 cp2, .slice B2 nb2 cb2] (l0 ++ lineT 0 c4 ++ tb) W → Calls Tryd.prog 24 #[.pointer (some ⟨w1.heap.size, 0, none⟩), .int .i64 0, .string ⟨#[125]⟩] W fun e w' => e = .returned (.tuple #[]) ∧ PB w1.heap.size w1.heap.size (l0 ++ lineT 0 c4 ++ tb ++ lineT 0 ([125] : Str)) w' ∧ Below w1.heap.size W w' ∧ Fr w1.heap.size W w' from fun W z => line_any w1.heap.size w1.heap.size (l0 ++ lineT 0 c4 ++ tb) [125] 0 W (by decide) z.pb (by rw [List.length_append, List.length_append, lineT_len]; simp only [List.length_cons, List.length_nil]; omega) z.sz)
          have HEND := Lib.hid (show l0 ++ lineT 0 c4 ++ tb ++ lineT 0 ([125] : Str) = TD ++ ((os.take (q + 1)).map operT).flatten by rw [HSN.out, hTX, hl0]; simp only [List.append_assoc])
          clear hx hb hS hrow hrow2 hl hq hxl hxf hxw hss hsb hl1 hl2 hJ htj htb hTX hTXl hl0 hl0l hsd hbase hol hol2 hc1 lc1 hc2 lc2 hc3 lc3 hc4 lc4
          go_upto_region 13 with fail
          have z1 := z0.drew
          go_region_held3 (fun W => (W.cell? ⟨wr.heap.size, 0, none⟩ = some (.string (bs xn)) ∧ W.cell? ⟨wr.heap.size, 1, none⟩ = some (.slice P2 np2 cp2) ∧ W.cell? ⟨wr.heap.size, 2, none⟩ = some (.slice B2 nb2 cb2))) (exact HC.out _ _ (by assumption)) (first
            | (go_at_call 25; refine (HJN.out _ _ (by assumption)).mono ?_; rintro e wt ⟨rfl, hb⟩; have zt := Pz.next (by assumption) hb; clear hb)
            | (go_at_call 24; refine (HL1.out _ (by assumption)).mono ?_; rintro e ws ⟨rfl, hp', hb', hf'⟩; have zs := Pz.put (by assumption) hp' hb' hf'; clear hp' hb' hf'))
          all_goals
            obtain ⟨c0, c1', c2'⟩ := HC.out _ _ zs
            go_wp2_with fail
            refine (HA1.out _ zs).mono ?_
            rintro e w5 ⟨rfl, hp', hb', hf'⟩
            have z5 := zs.put hp' hb' hf'
            clear hp' hb' hf' c0 c1' c2'
            go_wp2_with fail
            refine (HL2.out _ z5).mono ?_
            rintro e w6 ⟨rfl, hp', hb', hf'⟩
            have z6 := z5.put hp' hb' hf'
            clear hp' hb' hf'
            have Z6 : Hid (PB w1.heap.size w1.heap.size (TD ++ ((os.take (q + 1)).map operT).flatten) w6 ∧ Below w1.heap.size w2 w6 ∧ w1.heap.size ≤ w6.heap.size) := Lib.hid ⟨by rw [← HEND.out]; exact z6.pb, Z.out.2.1.trans z6.bl, z6.sz⟩
            go_wp2
            go_roundw
            case rel => exact ⟨q + 1, HQL.out, by go_num, Z6⟩
            case measure => exact meas_up _ _ HQL.out
        · have hi2 : ¬ (q : Int) < (no : Int) := by have := HNO.out; omega
          have hqo : os.take q = os := List.take_of_length_le (by omega)
          have HOD := Lib.hid (HOL.out q)
          rw [hqo] at Z HOD
          obtain ⟨T, hT⟩ : ∃ T, T = TD ++ (os.map operT).flatten := ⟨_, rfl⟩
          have hTP : txP ⟨ds, os⟩ = T := by rw [hT, HTD.out]; rfl
          have HLEN := Lib.hid (show T.length ≤ 98000000 by rw [hT, List.length_append]; have := HSD.out; have := HOD.out; omega)
          rw [hTP] at HTS HTE
          rw [← hT] at Z
          have HLN := Lib.hid (len_any w1.heap.size w1.heap.size T wr Z.out.1.1)
          have HST := Lib.hid (string_any w1.heap.size w1.heap.size T wr Z.out.1)
          clear hl hq hqo hT hTP HOL
          go_wp2_with fail
          refine HLN.out.mono ?_
          rintro e w5 ⟨rfl, h⟩
          subst w5
          by_cases hbig : 65536 < (T.length : Int)
          · have HR1 := Lib.hid (show TS = [] by rw [HTS.out, if_pos (by omega)])
            have HR2 := Lib.hid (show TE = 7 by rw [HTE.out, if_pos (by omega)])
            go_wp2
            go_ret2
            exact ⟨by rw [HR1.out, HR2.out]; rfl, (HXW.out _ Z.out.2.1).2⟩
          · have HR1 := Lib.hid (show TS = T by rw [HTS.out, if_neg (by omega)])
            have HR2 := Lib.hid (show TE = 0 by rw [HTE.out, if_neg (by omega)])
            go_wp2_with fail
            refine HST.out.mono ?_
            rintro e w6 ⟨rfl, hb6⟩
            have HB6 := Lib.hid ((HXW.out _ (Z.out.2.1.trans hb6)).2)
            clear hb6
            go_wp2
            go_ret2
            exact ⟨by rw [HR1.out, HR2.out]; rfl, HB6.out⟩
theorem print_any (p : Prog') (v : Value) (S : Nat → Prop) (w : World) (hw : SxW w) (hp : PV w S p v) (hf : p.Few2) :
    Calls Tryd.prog 12 #[v] w fun e w' => e = .returned (.tuple #[.string (bs (printS p)), .int .i64 (printE p)]) ∧ Below w.heap.size w w' := by
  unfold printS printE
  by_cases hc : chkP p = 0
  · rw [if_neg (show ¬ chkP p ≠ 0 by simp [hc]), if_neg (show ¬ chkP p ≠ 0 by simp [hc])]
    exact print_ok p v S w hw hp hf hc
  · rw [if_pos hc, if_pos hc]
    exact print_bad p v S w hw hp hf hc
end Go.Proofs.YthfjkdgaiaokdaaDoor
