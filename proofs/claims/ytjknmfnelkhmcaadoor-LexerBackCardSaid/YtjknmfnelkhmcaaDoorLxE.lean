/- The walk of the lexer's next. Conditions: at most 65536 bytes; the package's tables are laid. -/
import Derived.Test.YtjknmfnelkhmcaaDoorLxD
import Derived.Great.BuildSlice
import Derived.Laws.CopyOwn
set_option linter.unusedVariables false
set_option linter.unusedSimpArgs false
namespace Go.Proofs.YtjknmfnelkhmcaaDoor
open Go.RowKit

/-- What the lexer's package variables hold, and strconv.ErrRange. -/
structure LxW (w : World) : Prop where
  kw : ∃ t fr, w.heap[0]? = some (.cells (kws.map fun x => Value.string (bs x)).toArray t fr)
  sg : ∃ t fr, w.heap[1]? = some (.cells (sgs.map fun x => Value.string (bs x)).toArray t fr)
  er : ∃ ev, w.cell? ⟨4, 0, none⟩ = some ev ∧ (ev = .nilIface ∨ ∃ te pe, ev = .iface te pe)
theorem LxW.below {w w' : World} (h : LxW w) (hb : Below w.heap.size w w') : LxW w' := by
  obtain ⟨⟨t1, f1, h1⟩, ⟨t2, f2, h2⟩, ev, h3, h4⟩ := h
  exact ⟨⟨t1, f1, (hb.block _ (lt_of_block h1)).trans h1⟩, ⟨t2, f2, (hb.block _ (lt_of_block h2)).trans h2⟩, ev, (hb.cell (p := ⟨4, 0, none⟩) (World.block_lt_of_cell? _ _ h3)).trans h3, h4⟩
theorem LxW.kcell {w : World} (h : LxW w) (j : Nat) (hj : j < (kws.map bs).length) : w.cell? ⟨0, 0 + j, none⟩ = some (.string ((kws.map bs).getD j ByteArray.empty)) := by
  obtain ⟨t1, f1, h1⟩ := h.kw
  rw [Nat.zero_add, cell_of_row _ _ _ _ _ _ h1, List.getElem?_toArray, List.getElem?_map, List.getD_eq_getElem?_getD, List.getElem?_map]
  rw [List.length_map] at hj
  rw [List.getElem?_eq_getElem hj]
  rfl
theorem has_kw (x : List UInt8) : Lib.containsS ((kws.map bs).take 14) (bs x) = kws.contains x := by
  have e : (kws.map bs).take 14 = kws.map bs := rfl
  rw [e]
  by_cases h : kws.contains x = true
  · rw [h, Lib.containsS_iff]
    exact List.mem_map_of_mem (List.contains_iff_mem.1 h)
  · have hf : kws.contains x = false := by simpa using h
    rw [hf]
    cases hq : Lib.containsS (kws.map bs) (bs x) with
    | false => rfl
    | true =>
      rw [Lib.containsS_iff] at hq
      obtain ⟨y, hy, he⟩ := List.mem_map.1 hq
      rw [bs_inj he] at hy
      exact absurd (List.contains_iff_mem.2 hy) h
theorem word_ascii (l : List UInt8) : ∀ b ∈ word l, b.toNat < 128 := by
  unfold word
  induction l with
  | nil => intro b hb; cases hb
  | cons a t ih =>
    intro b hb
    rw [List.takeWhile_cons] at hb
    by_cases ha : partB a = true
    · rw [if_pos ha] at hb
      rcases List.mem_cons.1 hb with rfl | hb
      · exact part_low ha
      · exact ih b hb
    · rw [if_neg ha] at hb; cases hb
theorem bs_toList (l : List UInt8) : (bs l).toList = l := Lib.toList_data (bs l)
theorem sgs_at (k : Nat) (hk : k < 19) : (sgs.map fun x => Value.string (bs x)).toArray[k]? = some (.string (bs (sgs.getD k []))) := by
  have hk' : k < sgs.length := hk
  rw [List.getElem?_toArray, List.getElem?_map, List.getElem?_eq_getElem hk', List.getD_eq_getElem?_getD, List.getElem?_eq_getElem hk']
  rfl
theorem sgs_size : (sgs.map fun x => Value.string (bs x)).toArray.size = 19 := rfl
theorem Tryd.size49 : (Tryd.prog.info? 49).map (·.size) = some 19 := by kernel_rfl
theorem idx_run (SA : Array Value) (k : Nat) (s : ByteArray) (hk : k < 19) (hat : SA[k]? = some (.string s)) (W : World) : (Instr.index 49 (.agg SA) (.int .i64 k)).run Tryd.prog W = .ok (.string s) W := by
  have h1 : (0 : Int) ≤ (k : Int) ∧ (k : Int) < ((19 : Nat) : Int) := by omega
  simp [Instr.index, asIntOf, run_underlying Tryd.underlying49, h1, hat, part, Tryd.isAgg9, Tryd.sizeOf9, Result.andThen]
  exact fun h => absurd h (by omega)
theorem find_first {α : Type} (p : α → Bool) (z : α) : ∀ (l : List α) (k : Nat), k < l.length → (∀ j, j < k → p (l.getD j z) = false) → p (l.getD k z) = true → l.find? p = some (l.getD k z) := by
  intro l
  induction l with
  | nil => intro k hk; cases hk
  | cons a t ih =>
    intro k hk h1 h2
    cases k with
    | zero =>
      have h2 : p a = true := h2
      rw [List.find?_cons_of_pos h2]; rfl
    | succ k =>
      have h0 := h1 0 (by omega)
      rw [List.find?_cons_of_neg (by rw [show (a :: t).getD 0 z = a from rfl] at h0; rw [h0]; decide)]
      exact ih k (by simpa using hk) (fun j hj => h1 (j + 1) (by omega)) h2
theorem sgs_find (l : List UInt8) (k : Nat) (hk : k < 19) (h1 : ∀ j, j < k → (sgs.getD j []).isPrefixOf l = false) (h2 : (sgs.getD k []).isPrefixOf l = true) : sgs.find? (fun x => x.isPrefixOf l) = some (sgs.getD k []) :=
  find_first (fun x => x.isPrefixOf l) [] sgs k hk h1 h2
theorem sgs_none (l : List UInt8) (h1 : ∀ j, j < 19 → (sgs.getD j []).isPrefixOf l = false) : sgs.find? (fun x => x.isPrefixOf l) = none := by
  rw [List.find?_eq_none]
  intro x hx
  obtain ⟨j, hj, rfl⟩ := List.mem_iff_getElem.1 hx
  have := h1 j hj
  rw [List.getD_eq_getElem?_getD, List.getElem?_eq_getElem hj] at this
  rw [show sgs[j] = (some sgs[j]).getD [] from rfl, this]
  decide
def tokV (t : Int × List UInt8 × Int) : Value := .tuple #[.agg #[.int .i64 t.1, .string (bs t.2.1), .int .i64 0], .int .i64 t.2.2]
theorem word_len (l : List UInt8) : (word l).length ≤ l.length := (word_prefix l).length_le

theorem not_frozen {w : World} {b : Nat} {cs : Array Value} {t : TypeId} (h : w.heap[b]? = some (.cells cs t (0, 0))) (o : Nat) : w.frozen? ⟨b, o, none⟩ = false := by simp [World.frozen?, h]
def Touch (g : Nat) (w w' : World) : Prop := ∃ cs, w' = w.setRow g cs
theorem Touch.size {g : Nat} {w w' : World} (h : Touch g w w') : w'.heap.size = w.heap.size := by
  obtain ⟨cs, rfl⟩ := h
  simp [World.setRow]
theorem Touch.block {g b : Nat} {w w' : World} (h : Touch g w w') (hb : b ≠ g) : w'.heap[b]? = w.heap[b]? := by
  obtain ⟨cs, rfl⟩ := h
  exact setRow_other w g b cs hb
theorem Touch.below {g B : Nat} {w0 w w' : World} (h : Touch g w w') (hb : Below B w0 w) (hB : B ≤ g) : Below B w0 w' := by
  obtain ⟨cs, rfl⟩ := h
  exact below_setRow hb hB cs
section
variable {P : Program} {ops : Array Oper} {rest : List Oper} {a : Act} {w : World} {Q : Exit → Act → World → Prop} {d : Option Tmp} {ty t : TypeId} {pos : String} {x y : Operand}
theorem at_store_ {aft} {g} (h : wpList P ops Q (⟨d, .store t x y, ty, pos, aft, g⟩ :: rest) a w) : wpList P ops Q (⟨d, .store t x y, ty, pos, aft, g⟩ :: rest) a w := h
theorem at_load_ {aft} {g} (h : wpList P ops Q (⟨d, .load t x, ty, pos, aft, g⟩ :: rest) a w) : wpList P ops Q (⟨d, .load t x, ty, pos, aft, g⟩ :: rest) a w := h
theorem at_alloc_ {aft} {g} (h : wpList P ops Q (⟨d, .alloc t, ty, pos, aft, g⟩ :: rest) a w) : wpList P ops Q (⟨d, .alloc t, ty, pos, aft, g⟩ :: rest) a w := h
end
/-- A variable of the type Token, in memory. -/
def Box (w : World) (g : Nat) (u0 u1 u2 : Value) : Prop := w.heap[g]? = some (.cells #[u0, u1, u2] 33 (0, 0))
theorem Box.below {w w' : World} {g : Nat} {u0 u1 u2 : Value} (h : Box w g u0 u1 u2) (hb : Below w.heap.size w w') : Box w' g u0 u1 u2 := (hb.block _ (lt_of_block h)).trans h
theorem Box.cells {w : World} {g : Nat} {u0 u1 u2 : Value} (h : Box w g u0 u1 u2) : w.cell? ⟨g, 0, none⟩ = some u0 ∧ w.cell? ⟨g, 1, none⟩ = some u1 ∧ w.cell? ⟨g, 2, none⟩ = some u2 := by
  refine ⟨?_, ?_, ?_⟩ <;> (rw [cell_of_row _ _ _ _ _ _ h]; rfl)
theorem Tryd.size33 : (Tryd.prog.info? 33).map (·.size) = some 3 := by kernel_rfl
theorem Box.load {w : World} {g : Nat} {u0 u1 u2 : Value} (h : Box w g u0 u1 u2) : (loadVar 33 ⟨g, 0, none⟩).run Tryd.prog w = .ok (.agg #[u0, u1, u2]) w :=
  run_loadVar_row w g _ _ _ _ _ h Tryd.underlying33 rfl Tryd.size33
section
variable {ops : Array Oper} {rest : List Oper} {a : Act} {w : World} {Q : Exit → Act → World → Prop} {o : Oper} {u0 u1 u2 v0 v1 v2 : Value}
theorem put_box (hg : o.guard = none) (x y : Operand) (ho : o.op = .store 33 x y) (hd : o.dst = none) (g : Nat) (hx : a.eval x = .pointer (some ⟨g, 0, none⟩)) (hy : a.eval y = .agg #[v0, v1, v2])
    (h0 : Box w g u0 u1 u2) (h1 : (#[v0, v1, v2] : Array Value).all (·.oneCell') = true) (k : ∀ w', Box w' g v0 v1 v2 → Touch g w w' → wpList Tryd.prog ops Q rest a w') : wpList Tryd.prog ops Q (o :: rest) a w :=
  wpList_store_rowTo hg _ x y ho hd g _ hx hy 33 _ h0 Tryd.size33 rfl h1 (k _ (setRow_heap _ _ _ _ _ _ h0) ⟨_, rfl⟩)
theorem get_box (hg : o.guard = none) (x : Operand) (ho : o.op = .load 33 x) (g : Nat) (hx : a.eval x = .pointer (some ⟨g, 0, none⟩)) (h0 : Box w g u0 u1 u2)
    (h : wpList Tryd.prog ops Q rest (a.put o.dst (.agg #[u0, u1, u2])) w) : wpList Tryd.prog ops Q (o :: rest) a w :=
  wpList_load_row hg _ x ho g hx _ _ _ _ h0 Tryd.underlying33 rfl Tryd.size33 h
end
set_option maxRecDepth 100000 in
set_option maxHeartbeats 6400000 in
theorem next_num (l : List UInt8) (w : World) (hl : l.length ≤ 65536) (hw : LxW w) (hd : headDig (word l) = true) :
    Calls Tryd.prog 18 #[.string (bs l)] w fun e w' => e = .returned (tokV (nextT l)) ∧ Below w.heap.size w w' := by
  have HN := Lib.hid (show nextT l = (2, word l, numE (word l)) by unfold nextT; rw [if_pos hd])
  have HW := Lib.hid hw
  have HWL := Lib.hid (Nat.le_trans (word_len l) hl)
  have HWA := Lib.hid (word_ascii l)
  have HR := Lib.hid fun w => run_any l w
  generalize word l = wd at *
  cases wd with
  | nil => cases hd
  | cons b t =>
    have hdig : digN b.toNat = true := hd
    have HD := Lib.hid fun w => digit_any (b.toNat : Int) w
    have hx0 : 0 < (bs (b :: t)).size := by rw [bs_size]; simp
    have hge : ((bs (b :: t))[0]'hx0).toNat = b.toNat := rfl
    have hsz : (bs (b :: t)).size = t.length + 1 := rfl
    have he : (bs (b :: t)).toList = b :: t := bs_toList _
    have hwr : wrap32 (b.toNat : Int) = b.toNat := by have := HWA.out b (.head _); simp [wrap32]; omega
    rw [digZ_nat, hdig] at HD
    clear hw hl hd hdig
    generalize b.toNat = c at *
    go_enter Tryd.func18, Tryd.ntmps18
    go_wp2_with fail
    refine (HR.out _).mono ?_
    rintro e w1 ⟨rfl, hb⟩
    have HB := Lib.hid (((Below.refl _ _).alloc (Nat.le_refl _) _ : Below w.heap.size w (w.alloc (.cells #[.int .i64 0, .string { data := #[] }, .int .i64 0] 33))).trans (hb.mono (by simp)))
    have HX := Lib.hid (show Box w1 w.heap.size (.int .i64 0) (.string { data := #[] }) (.int .i64 0) from (hb.block w.heap.size (by simp)).trans (heap_alloc_new w _))
    have HW1 := Lib.hid (HW.out.below HB.out)
    clear hb HW HR
    go_wp2_with fail
    refine (HD.out _).mono ?_
    rintro e w2 ⟨rfl, rfl⟩
    go_wp2_with fail
    obtain ⟨ev, hv, hev⟩ := HW1.out.er
    refine (number_any (b :: t) w2 (by simp) HWA.out HWL.out ev hv hev).mono ?_
    rintro e w3 ⟨rfl, hb⟩
    have HB3 := Lib.hid (HB.out.trans (hb.mono HB.out.size))
    have HX3 := Lib.hid (HX.out.below hb)
    clear hb hv hev HB HW1 HX
    go_wp2_with (with_reducible refine at_store_ (t := 33) ?_; refine Hid.out ?_)
    refine Lib.hid ?_
    refine put_box (v0 := .int .i64 2) (v1 := .string (bs (b :: t))) (v2 := .int .i64 0) rfl (.tmp 2) (.tmp 19) rfl rfl w.heap.size rfl rfl HX3.out (by simp [Value.oneCell']) ?_
    intro wz hx ht
    have HL := hx.load
    have HBz := Lib.hid (ht.below HB3.out (Nat.le_refl _))
    clear hx ht HX3 HB3
    go_wp2
    refine bodyPost_ret (v := .tuple #[.agg #[.int .i64 2, .string (bs (b :: t)), .int .i64 0], .int .i64 (numE (b :: t))]) ?_ rfl ⟨by rw [HN.out]; rfl, HBz.out⟩
    simp [results, Tryd.results18, asAddr, HL, Result.andThen]

set_option maxRecDepth 100000 in
set_option maxHeartbeats 6400000 in
theorem next_kw (l : List UInt8) (w : World) (hl : l.length ≤ 65536) (hw : LxW w) (hd : headDig (word l) = false) (hk : kws.contains (word l) = true) :
    Calls Tryd.prog 18 #[.string (bs l)] w fun e w' => e = .returned (tokV (nextT l)) ∧ Below w.heap.size w w' := by
  have HN := Lib.hid (show nextT l = (4, word l, 0) by unfold nextT; rw [if_neg (by rw [hd]; decide), if_pos hk])
  have HW := Lib.hid hw
  have HWL := Lib.hid (Nat.le_trans (word_len l) hl)
  have HWA := Lib.hid (word_ascii l)
  have HR := Lib.hid fun w => run_any l w
  have HK := Lib.hid hk
  generalize word l = wd at *
  cases wd with
  | nil => cases hk
  | cons b t =>
    clear hk
    have hdig : digN b.toNat = false := by simpa [headDig, digB] using hd
    have HD := Lib.hid fun w => digit_any (b.toNat : Int) w
    have hx0 : 0 < (bs (b :: t)).size := by rw [bs_size]; simp
    have hge : ((bs (b :: t))[0]'hx0).toNat = b.toNat := rfl
    have hsz : (bs (b :: t)).size = t.length + 1 := rfl
    have he : (bs (b :: t)).toList = b :: t := bs_toList _
    have hwr : wrap32 (b.toNat : Int) = b.toNat := by have := HWA.out b (.head _); simp [wrap32]; omega
    rw [digZ_nat, hdig] at HD
    clear hw hl hd hdig
    generalize b.toNat = c at *
    go_enter Tryd.func18, Tryd.ntmps18
    go_wp2_with fail
    refine (HR.out _).mono ?_
    rintro e w1 ⟨rfl, hb⟩
    have HB := Lib.hid (((Below.refl _ _).alloc (Nat.le_refl _) _ : Below w.heap.size w (w.alloc (.cells #[.int .i64 0, .string { data := #[] }, .int .i64 0] 33))).trans (hb.mono (by simp)))
    have HX := Lib.hid (show Box w1 w.heap.size (.int .i64 0) (.string { data := #[] }) (.int .i64 0) from (hb.block w.heap.size (by simp)).trans (heap_alloc_new w _))
    have HW1 := Lib.hid (HW.out.below HB.out)
    clear hb HW HR
    go_wp2_with fail
    refine (HD.out _).mono ?_
    rintro e w2 ⟨rfl, rfl⟩
    go_wp2_with fail
    refine (Tryd.slices_Contains_string 0 0 14 14 (kws.map bs) (bs (b :: t)) _ (by decide) (by decide) (fun j hj => HW1.out.kcell j hj)).mono ?_
    rintro e w4 ⟨rfl, rfl⟩
    rw [has_kw, HK.out]
    go_wp2_with (with_reducible refine at_store_ (t := 33) ?_; refine Hid.out ?_)
    refine Lib.hid ?_
    refine put_box (v0 := .int .i64 4) (v1 := .string (bs (b :: t))) (v2 := .int .i64 0) rfl (.tmp 2) (.tmp 27) rfl rfl w.heap.size rfl rfl HX.out (by simp [Value.oneCell']) ?_
    intro wz hx ht
    have HL := hx.load
    have HBz := Lib.hid (ht.below HB.out (Nat.le_refl _))
    clear hx ht HX HB
    go_wp2
    refine bodyPost_ret (v := .tuple #[.agg #[.int .i64 4, .string (bs (b :: t)), .int .i64 0], .int .i64 0]) ?_ rfl ⟨by rw [HN.out]; rfl, HBz.out⟩
    simp [results, Tryd.results18, asAddr, HL, Result.andThen]

set_option maxRecDepth 100000 in
set_option maxHeartbeats 6400000 in
theorem next_long (l : List UInt8) (w : World) (hl : l.length ≤ 65536) (hw : LxW w) (hd : headDig (word l) = false) (hk : kws.contains (word l) = false) (hlong : 24 < (word l).length) :
    Calls Tryd.prog 18 #[.string (bs l)] w fun e w' => e = .returned (tokV (nextT l)) ∧ Below w.heap.size w w' := by
  have HN := Lib.hid (show nextT l = (0, [], 16) by unfold nextT; rw [if_neg (by rw [hd]; decide), if_neg (by rw [hk]; decide), if_pos hlong])
  have HW := Lib.hid hw
  have HWL := Lib.hid (Nat.le_trans (word_len l) hl)
  have HWA := Lib.hid (word_ascii l)
  have HR := Lib.hid fun w => run_any l w
  have HK := Lib.hid hk
  generalize word l = wd at *
  cases wd with
  | nil => exact absurd hlong (by decide)
  | cons b t =>
    have hli : (24 : Int) < (t.length : Int) + 1 := by simp at hlong; omega
    have HLI := Lib.hid hli
    clear hk hlong
    have hdig : digN b.toNat = false := by simpa [headDig, digB] using hd
    have HD := Lib.hid fun w => digit_any (b.toNat : Int) w
    have hx0 : 0 < (bs (b :: t)).size := by rw [bs_size]; simp
    have hge : ((bs (b :: t))[0]'hx0).toNat = b.toNat := rfl
    have hsz : (bs (b :: t)).size = t.length + 1 := rfl
    have he : (bs (b :: t)).toList = b :: t := bs_toList _
    have hwr : wrap32 (b.toNat : Int) = b.toNat := by have := HWA.out b (.head _); simp [wrap32]; omega
    rw [digZ_nat, hdig] at HD
    clear hw hl hd hdig
    generalize b.toNat = c at *
    go_enter Tryd.func18, Tryd.ntmps18
    go_wp2_with fail
    refine (HR.out _).mono ?_
    rintro e w1 ⟨rfl, hb⟩
    have HB := Lib.hid (((Below.refl _ _).alloc (Nat.le_refl _) _ : Below w.heap.size w (w.alloc (.cells #[.int .i64 0, .string { data := #[] }, .int .i64 0] 33))).trans (hb.mono (by simp)))
    have HX := Lib.hid (show Box w1 w.heap.size (.int .i64 0) (.string { data := #[] }) (.int .i64 0) from (hb.block w.heap.size (by simp)).trans (heap_alloc_new w _))
    have HW1 := Lib.hid (HW.out.below HB.out)
    clear hb HW HR
    go_wp2_with fail
    refine (HD.out _).mono ?_
    rintro e w2 ⟨rfl, rfl⟩
    go_wp2_with fail
    refine (Tryd.slices_Contains_string 0 0 14 14 (kws.map bs) (bs (b :: t)) _ (by decide) (by decide) (fun j hj => HW1.out.kcell j hj)).mono ?_
    rintro e w4 ⟨rfl, rfl⟩
    rw [has_kw, HK.out]
    go_wp2_with (with_reducible refine at_store_ (t := 33) ?_; refine Hid.out ?_)
    refine Lib.hid ?_
    refine put_box (v0 := .int .i64 0) (v1 := .string { data := #[] }) (v2 := .int .i64 0) rfl (.tmp 2) (.tmp 32) rfl rfl w.heap.size rfl rfl HX.out (by simp [Value.oneCell']) ?_
    intro wz hx ht
    have HL := hx.load
    have HBz := Lib.hid (ht.below HB.out (Nat.le_refl _))
    clear hx ht HX HB
    go_wp2
    refine bodyPost_ret (v := .tuple #[.agg #[.int .i64 0, .string { data := #[] }, .int .i64 0], .int .i64 16]) ?_ rfl ⟨by rw [HN.out]; rfl, HBz.out⟩
    simp [results, Tryd.results18, asAddr, HL, Result.andThen]

set_option maxRecDepth 100000 in
set_option maxHeartbeats 6400000 in
theorem next_name (l : List UInt8) (w : World) (hl : l.length ≤ 65536) (hw : LxW w) (hd : headDig (word l) = false) (hk : kws.contains (word l) = false) (hlong : ¬ 24 < (word l).length) (hne : word l ≠ []) :
    Calls Tryd.prog 18 #[.string (bs l)] w fun e w' => e = .returned (tokV (nextT l)) ∧ Below w.heap.size w w' := by
  have HN := Lib.hid (show nextT l = (1, word l, 0) by unfold nextT; rw [if_neg (by rw [hd]; decide), if_neg (by rw [hk]; decide), if_neg hlong, if_pos hne])
  have HW := Lib.hid hw
  have HWL := Lib.hid (Nat.le_trans (word_len l) hl)
  have HWA := Lib.hid (word_ascii l)
  have HR := Lib.hid fun w => run_any l w
  have HK := Lib.hid hk
  generalize word l = wd at *
  cases wd with
  | nil => exact absurd rfl hne
  | cons b t =>
    have hli : (t.length : Int) + 1 ≤ 24 := by simp at hlong; omega
    clear hk hlong hne
    have hdig : digN b.toNat = false := by simpa [headDig, digB] using hd
    have HD := Lib.hid fun w => digit_any (b.toNat : Int) w
    have hx0 : 0 < (bs (b :: t)).size := by rw [bs_size]; simp
    have hge : ((bs (b :: t))[0]'hx0).toNat = b.toNat := rfl
    have hsz : (bs (b :: t)).size = t.length + 1 := rfl
    have he : (bs (b :: t)).toList = b :: t := bs_toList _
    have hwr : wrap32 (b.toNat : Int) = b.toNat := by have := HWA.out b (.head _); simp [wrap32]; omega
    rw [digZ_nat, hdig] at HD
    clear hw hl hd hdig
    generalize b.toNat = c at *
    go_enter Tryd.func18, Tryd.ntmps18
    go_wp2_with fail
    refine (HR.out _).mono ?_
    rintro e w1 ⟨rfl, hb⟩
    have HB := Lib.hid (((Below.refl _ _).alloc (Nat.le_refl _) _ : Below w.heap.size w (w.alloc (.cells #[.int .i64 0, .string { data := #[] }, .int .i64 0] 33))).trans (hb.mono (by simp)))
    have HX := Lib.hid (show Box w1 w.heap.size (.int .i64 0) (.string { data := #[] }) (.int .i64 0) from (hb.block w.heap.size (by simp)).trans (heap_alloc_new w _))
    have HW1 := Lib.hid (HW.out.below HB.out)
    clear hb HW HR
    go_wp2_with fail
    refine (HD.out _).mono ?_
    rintro e w2 ⟨rfl, rfl⟩
    go_wp2_with fail
    refine (Tryd.slices_Contains_string 0 0 14 14 (kws.map bs) (bs (b :: t)) _ (by decide) (by decide) (fun j hj => HW1.out.kcell j hj)).mono ?_
    rintro e w4 ⟨rfl, rfl⟩
    rw [has_kw, HK.out]
    go_wp2_with (with_reducible refine at_store_ (t := 33) ?_; refine Hid.out ?_)
    refine Lib.hid ?_
    refine put_box (v0 := .int .i64 1) (v1 := .string (bs (b :: t))) (v2 := .int .i64 0) rfl (.tmp 2) (.tmp 37) rfl rfl w.heap.size rfl rfl HX.out (by simp [Value.oneCell']) ?_
    intro wz hx ht
    have HL := hx.load
    have HBz := Lib.hid (ht.below HB.out (Nat.le_refl _))
    clear hx ht HX HB
    go_wp2
    refine bodyPost_ret (v := .tuple #[.agg #[.int .i64 1, .string (bs (b :: t)), .int .i64 0], .int .i64 0]) ?_ rfl ⟨by rw [HN.out]; rfl, HBz.out⟩
    simp [results, Tryd.results18, asAddr, HL, Result.andThen]

set_option maxRecDepth 100000 in
set_option maxHeartbeats 6400000 in
theorem next_sign (l : List UInt8) (w : World) (hl : l.length ≤ 65536) (hw : LxW w) (hne : word l = []) :
    Calls Tryd.prog 18 #[.string (bs l)] w fun e w' => e = .returned (tokV (nextT l)) ∧ Below w.heap.size w w' := by
  have HN := Lib.hid (show nextT l = match sgs.find? (fun x => x.isPrefixOf l) with | some x => (3, x, 0) | none => (0, [], 5) by unfold nextT; rw [hne]; rfl)
  have HW := Lib.hid hw
  have HWL := Lib.hid (Nat.le_trans (word_len l) hl)
  have HWA := Lib.hid (word_ascii l)
  have HR := Lib.hid fun w => run_any l w
  have HK := Lib.hid (show kws.contains ([] : List UInt8) = false by decide)
  rw [hne] at HR HWL HWA
  have he : (bs ([] : List UInt8)).toList = [] := bs_toList _
  have hsz : (bs ([] : List UInt8)).size = 0 := rfl
  clear hw hne
  go_enter Tryd.func18, Tryd.ntmps18
  go_wp2_with fail
  refine (HR.out _).mono ?_
  rintro e w1 ⟨rfl, hb⟩
  have HB := Lib.hid (((Below.refl _ _).alloc (Nat.le_refl _) _ : Below w.heap.size w (w.alloc (.cells #[.int .i64 0, .string { data := #[] }, .int .i64 0] 33))).trans (hb.mono (by simp)))
  have HX := Lib.hid (show Box w1 w.heap.size (.int .i64 0) (.string { data := #[] }) (.int .i64 0) from (hb.block w.heap.size (by simp)).trans (heap_alloc_new w _))
  have HW1 := Lib.hid (HW.out.below HB.out)
  clear hb HW HR
  go_wp2_with fail
  refine (Tryd.slices_Contains_string 0 0 14 14 (kws.map bs) (bs ([] : List UInt8)) _ (by decide) (by decide) (fun j hj => HW1.out.kcell j hj)).mono ?_
  rintro e w4 ⟨rfl, rfl⟩
  rw [has_kw, HK.out]
  obtain ⟨ts, fs, hs⟩ := HW1.out.sg
  have HSA := Lib.hid sgs_at
  have hss := sgs_size
  generalize (sgs.map fun x => Value.string (bs x)).toArray = SA at *
  go_wp2_with (with_reducible refine at_load_ (t := 49) ?_; refine wpList_load_row rfl _ _ rfl 1 rfl ts SA fs _ hs Tryd.underlying49 rfl (by rw [hss]; exact Tryd.size49) ?_)
  clear hs HW1
  try simp only [Act.put, List.setIfInBounds_toArray, List.set_cons_zero, List.set_cons_succ]
  go_wp2
  go_loopw [39] (fun i wr => ∃ k : Nat, k ≤ 19 ∧ i = .int .i64 k ∧ Hid (∀ j, j < k → (sgs.getD j []).isPrefixOf l = false) ∧ wr = w4) (fun i _ => 19 - (intOf i).toNat)
  case atStart => exact ⟨0, by omega, rfl, Lib.hid (fun j hj => absurd hj (by omega)), rfl⟩
  case round =>
    obtain ⟨k, hk, rfl, HP, rfl⟩ := hrel
    by_cases hlt : k < 19
    · skip
      have hki : (k : Int) < 19 := by omega
      have hks : k < SA.size := by omega
      have HK2 := Lib.hid hlt
      have hat := HSA.out k hlt
      have hix := fun W => idx_run SA k _ hlt hat W
      clear hk hat hks
      cases hpx : (sgs.getD k []).isPrefixOf l with
      | true =>
        have HF := Lib.hid (sgs_find l k hlt HP.out hpx)
        have HPX := Lib.hid hpx
        clear hpx hlt HP
        generalize sgs.getD k [] = x at *
        go_wp2_with fail
        refine (Tryd.strings_HasPrefix _ _ _).mono ?_
        rintro e w5 ⟨rfl, rfl⟩
        rw [show Lib.hasPrefix (bs l).data.toList (bs x).data.toList = true from HPX.out]
        go_wp2_with (with_reducible refine at_store_ (t := 33) ?_; refine Hid.out ?_)
        refine Lib.hid ?_
        refine put_box (v0 := .int .i64 3) (v1 := .string (bs x)) (v2 := .int .i64 0) rfl (.tmp 2) (.tmp 46) rfl rfl w.heap.size rfl rfl HX.out (by simp [Value.oneCell']) ?_
        intro wz hx ht
        have HL := hx.load
        have HBz := Lib.hid (ht.below HB.out (Nat.le_refl _))
        clear hx ht HX HB
        go_wp2
        refine bodyPost_ret (v := .tuple #[.agg #[.int .i64 3, .string (bs x), .int .i64 0], .int .i64 0]) ?_ rfl ⟨by rw [HN.out, HF.out]; rfl, HBz.out⟩
        simp [results, Tryd.results18, asAddr, HL, Result.andThen]
      | false =>
        have HPX := Lib.hid hpx
        have HPN := Lib.hid (show ∀ j, j < k + 1 → (sgs.getD j []).isPrefixOf l = false from fun j hj => by
          by_cases e : j = k
          · rw [e]; exact hpx
          · exact HP.out j (by omega))
        clear hpx hlt HP
        generalize sgs.getD k [] = x at *
        go_wp2_with fail
        refine (Tryd.strings_HasPrefix _ _ _).mono ?_
        rintro e w5 ⟨rfl, rfl⟩
        rw [show Lib.hasPrefix (bs l).data.toList (bs x).data.toList = false from HPX.out]
        go_wp2
        go_roundw
        case rel => exact ⟨k + 1, HK2.out, by go_num, HPN, by first | rfl | trivial⟩
        case measure => exact meas_up _ _ HK2.out
    · skip
      obtain rfl : k = 19 := by omega
      have HF := Lib.hid (sgs_none l HP.out)
      have hki : ¬ ((19 : Nat) : Int) < 19 := by omega
      clear hk hlt HP
      rw [show ((19 : Nat) : Int) = 19 from rfl]
      go_wp2_with (with_reducible refine at_store_ (t := 33) ?_; refine Hid.out ?_)
      refine Lib.hid ?_
      refine put_box (v0 := .int .i64 0) (v1 := .string { data := #[] }) (v2 := .int .i64 0) rfl (.tmp 2) (.tmp 48) rfl rfl w.heap.size rfl rfl HX.out (by simp [Value.oneCell']) ?_
      intro wz hx ht
      have HL := hx.load
      have HBz := Lib.hid (ht.below HB.out (Nat.le_refl _))
      clear hx ht HX HB
      go_wp2
      refine bodyPost_ret (v := .tuple #[.agg #[.int .i64 0, .string { data := #[] }, .int .i64 0], .int .i64 5]) ?_ rfl ⟨by rw [HN.out, HF.out]; rfl, HBz.out⟩
      simp [results, Tryd.results18, asAddr, HL, Result.andThen]
theorem next_any (l : List UInt8) (w : World) (hl : l.length ≤ 65536) (hw : LxW w) :
    Calls Tryd.prog 18 #[.string (bs l)] w fun e w' => e = .returned (tokV (nextT l)) ∧ Below w.heap.size w w' := by
  cases hd : headDig (word l) with
  | true => exact next_num l w hl hw hd
  | false =>
    cases hk : kws.contains (word l) with
    | true => exact next_kw l w hl hw hd hk
    | false =>
      by_cases hlong : 24 < (word l).length
      · exact next_long l w hl hw hd hk hlong
      · by_cases hne : word l = []
        · exact next_sign l w hl hw hne
        · exact next_name l w hl hw hd hk hlong hne
end Go.Proofs.YtjknmfnelkhmcaaDoor
