/- The printer's walk: strings.Builder inside the printer, line. Condition: the text stays short. -/
import Derived.Test.YthfjkdgaiaokdaaDoorSxT
import Derived.Shelf.Strings.Builder1
set_option linter.unusedVariables false
set_option linter.unusedSimpArgs false
namespace Go.Proofs.YthfjkdgaiaokdaaDoor
open Go.RowKit

/-- A printer in a block of its own that holds these bytes. -/
def PB (B b : Nat) (l : Str) (w : World) : Prop := Lib.IsBuilder 65 5 B b (Lib.byteCells l) w ∧ (l = [] → w.heap[b]? = some (.cells #[.pointer none, .slice none 0 0] 65 (0, 0)))
theorem u63 : (Tryd.prog.info? 63).map (·.size) = some 2 := by kernel_rfl
theorem lies63 : liesAt Tryd.prog Tryd.prog.depth 65 (2 / Tryd.prog.cellsOf 65) 0 63 1 = true := by kernel_rfl
theorem infoU8 : (Tryd.prog.info? 5).map (fun i => (i.zero, i.size, i.bytes)) = some (some (.int .u8 0), 1, 1) := by kernel_rfl
/-- No cells but the printer's and bytes have changed. -/
structure Fr (b : Nat) (w w' : World) : Prop where
  size : w.heap.size ≤ w'.heap.size
  block : ∀ k cs T fr, k ≠ b → T ≠ 5 → w.heap[k]? = some (.cells cs T fr) → w'.heap[k]? = some (.cells cs T fr)
theorem Fr.trans {b : Nat} {w w1 w2 : World} (h : Fr b w w1) (h' : Fr b w1 w2) : Fr b w w2 :=
  ⟨Nat.le_trans h.size h'.size, fun k cs T fr hk hT hc => h'.block k cs T fr hk hT (h.block k cs T fr hk hT hc)⟩
theorem Fr.of_below {b : Nat} {w w' : World} (h : Below w.heap.size w w') : Fr b w w' :=
  ⟨h.size, fun k cs T fr _ _ hc => (h.block k (lt_of_block hc)).trans hc⟩
set_option maxRecDepth 100000 in
theorem copyCheck_used (b : Nat) (w : World) (h0 : w.cell? ⟨b, 0, none⟩ = some (.pointer (some ⟨b, 0, none⟩))) :
    Calls Tryd.prog 62 #[.pointer (some ⟨b, 0, none⟩)] w fun e w' => e = .returned (.tuple #[]) ∧ w' = w := by
  obtain ⟨j, hj, _⟩ := Option.map_eq_some_iff.1 u63
  go_enter Tryd.func62, Tryd.ntmps62
  go_wp2
  try rw [Lib.run_neq_ptr_same w _ Tryd.underlying60 hj]
  try go_wp2
  go_end0
  exact ⟨rfl, rfl⟩
set_option maxRecDepth 100000 in
theorem copyCheck_fresh (b : Nat) (w : World) (h0 : w.cell? ⟨b, 0, none⟩ = some (.pointer none)) (hsh : w.shape? b = some (65, 2)) (hfz : w.frozen? ⟨b, 0, none⟩ = false) :
    Calls Tryd.prog 62 #[.pointer (some ⟨b, 0, none⟩)] w fun e w' => e = .returned (.tuple #[]) ∧ w' = w.setCell ⟨b, 0, none⟩ (.pointer (some ⟨b, 0, none⟩)) := by
  obtain ⟨j, hj, hjs⟩ := Option.map_eq_some_iff.1 u63
  go_enter Tryd.func62, Tryd.ntmps62
  go_wp2
  rw [Lib.run_to_unsafe w ⟨b, 0, none⟩ Tryd.underlying60 Tryd.underlying120 hj (by rw [hjs]; decide) hsh (Nat.zero_lt_succ 1)]
  simp only [Result.andThen]
  rw [Oper.upon_value]
  go_wp2
  rw [run_callFunc_extern Tryd.func76 (by kernel_rfl) (by kernel_rfl) (by kernel_rfl) (e := Extern.AbiNoEscape.same) (by kernel_rfl)]
  rw [Lib.run_noEscape]
  simp only [Result.andThen]
  rw [Oper.upon_value]
  go_wp2
  rw [Lib.run_from_unsafe w ⟨b, 0, none⟩ Tryd.underlying120 Tryd.underlying60 hj hsh lies63]
  simp only [Result.andThen]
  rw [Oper.upon_value]
  go_wp2
  go_end0
  exact ⟨rfl, rfl⟩
theorem copyCheck_any (B b : Nat) (bs : List Value) (w : World) (h : Lib.IsBuilder 65 5 B b bs w) :
    Calls Tryd.prog 62 #[.pointer (some ⟨b, 0, none⟩)] w fun e w' => e = .returned (.tuple #[]) ∧ (Lib.BuilderAt 65 5 B b (.pointer (some ⟨b, 0, none⟩)) bs w' ∧ Below B w w' ∧ Fr b w w') := by
  rcases h with h | h
  · refine (copyCheck_fresh b w h.cell0 h.shape h.frozen0).mono ?_
    rintro e w' ⟨rfl, rfl⟩
    exact ⟨rfl, h.used _, (Below.refl B w).setCell (p := ⟨b, 0, none⟩) h.1 _, ⟨by simp [World.setCell], fun k cs T fr hk _ hc => (Below.heap_setCell _ _ _ _ (fun e => hk (by simp [e]))).trans hc⟩⟩
  · refine (copyCheck_used b w h.cell0).mono ?_
    rintro e w' ⟨rfl, rfl⟩
    exact ⟨rfl, h, Below.refl B _, Fr.of_below (Below.refl _ _)⟩
set_option maxHeartbeats 2000000 in
set_option maxRecDepth 100000 in
theorem write_any (B b : Nat) (l s : Str) (w : World) (h : Lib.IsBuilder 65 5 B b (Lib.byteCells l) w) (hlen : l.length + s.length ≤ 1000000000) (hBw : B ≤ w.heap.size) :
    Calls Tryd.prog 42 #[.pointer (some ⟨b, 0, none⟩), .string (bs s)] w fun e w' => e = .returned (.tuple #[.int .i64 (bs s).size, .nilIface]) ∧ (Lib.BuilderAt 65 5 B b (.pointer (some ⟨b, 0, none⟩)) (Lib.byteCells (l ++ s)) w' ∧ Below B w w' ∧ Fr b w w') := by
  obtain ⟨i0, hi, hz0, hz1, hz2⟩ := info_parts (P := Tryd.prog) infoU8
  have e1 : Lib.byteCells (l ++ s) = Lib.byteCells l ++ Lib.strCells (bs s) := by unfold Lib.byteCells Lib.strCells; rw [List.map_append, bs_list]
  have e2 : (Lib.byteCells l).length = l.length := Lib.byteCells_length l
  have e3 : (bs s).size = s.length := rfl
  rw [e1]
  generalize Lib.byteCells l = L at *
  have hl2 : L.length + (bs s).size ≤ 140737488355328 := by omega
  generalize bs s = bsS at *
  clear e1 e3
  go_enter Tryd.func42, Tryd.ntmps42
  go_wp2_with (go_at_call 62; refine (copyCheck_any B b L _ h).mono ?_)
  rintro e w1 ⟨rfl, h1, hb1, hf1⟩
  obtain ⟨hB, v, hbk, hown, hne⟩ := h1
  have c0 : w1.cell? ⟨b, 0, none⟩ = some (.pointer (some ⟨b, 0, none⟩)) := by rw [Lib.cell_of_heap hbk]; rfl
  have c1 : w1.cell? ⟨b, 1, none⟩ = some v := by rw [Lib.cell_of_heap hbk]; rfl
  go_wp2_with (at_builtin; refine Lib.wpList_append_own_string _ rfl _ _ 61 9 rfl B 5 i0 Tryd.underlying61 Tryd.underlying9 hi hz0 hz1 hz2 _ _ _ rfl hown bsS rfl ?c3 ?c4 ?c5 ?_)
  case c3 => unfold maxLen; omega
  case c4 => omega
  case c5 => have := hb1.size; omega
  intro v' w2 hown' hgrow _
  have hlt : b < w1.heap.size := by
    rcases Nat.lt_or_ge b w1.heap.size with h' | h'
    · exact h'
    · simp [Array.getElem?_eq_none h'] at hbk
  have hb2 : w2.heap[b]? = some (.cells #[.pointer (some ⟨b, 0, none⟩), v] 65 (0, 0)) := by
    rw [hgrow.block b hlt (fun e => hne e.symm)]
    exact hbk
  have d0 : w2.cell? ⟨b, 0, none⟩ = some (.pointer (some ⟨b, 0, none⟩)) := by rw [Lib.cell_of_heap hb2]; rfl
  have d1 : w2.cell? ⟨b, 1, none⟩ = some v := by rw [Lib.cell_of_heap hb2]; rfl
  have f1 : w2.frozen? ⟨b, 1, none⟩ = false := Lib.frozen_of_heap hb2 1
  have hf2 := hf1.trans (b := b) (w2 := w2.setCell ⟨b, 1, none⟩ v') ⟨by have := hgrow.size; simp [World.setCell]; exact this, fun k cs T fr hkb hT hc =>
    (Below.heap_setCell _ _ _ _ (fun e => hkb (by simp [e]))).trans ((hgrow.block k (lt_of_block hc) (fun e => Lib.ownBlock_ne hown hc hT e.symm)).trans hc)⟩
  obtain ⟨ao, n', cap, rfl⟩ : ∃ ao n' cap, v' = .slice ao n' cap := by
    rcases hown'.2 with ⟨hv, _⟩ | ⟨g, cap, cur, hv, _⟩
    · exact ⟨_, _, _, hv⟩
    · exact ⟨_, _, _, hv⟩
  go_wp2
  go_ret2
  refine ⟨rfl, ?_, ?_, hf2⟩
  · exact Lib.BuilderAt.put (T := 65) (e := 5) hB hb2 (bs' := L ++ Lib.strCells bsS) (by rw [List.length_append, Lib.strCells_length, e2]; simpa [e2] using hown') (by decide)
  · exact (hb1.grown hgrow (by have := hb1.size; omega) (fun k hk => (hown.lt k hk).1)).setCell (p := ⟨b, 1, none⟩) hB _
set_option maxRecDepth 100000 in
theorem len_any (B b : Nat) (l : Str) (w : World) (h : Lib.IsBuilder 65 5 B b (Lib.byteCells l) w) :
    Calls Tryd.prog 27 #[.pointer (some ⟨b, 0, none⟩)] w fun e w' => e = .returned (.int .i64 l.length) ∧ w' = w := by
  obtain ⟨p, hB, v, hbk, hown, hne⟩ : ∃ p, Lib.BuilderAt 65 5 B b p (Lib.byteCells l) w := by
    rcases h with h | h
    · exact ⟨_, h⟩
    · exact ⟨_, h⟩
  rw [Lib.byteCells_length] at hown
  obtain ⟨A, c, rfl⟩ : ∃ A c, v = .slice A l.length c := by
    rcases hown.2 with ⟨hv, h0⟩ | ⟨g, cap, cur, hv, _⟩
    · exact ⟨none, 0, by rw [hv, h0]⟩
    · exact ⟨_, _, hv⟩
  have c1 : w.cell? ⟨b, 1, none⟩ = some (.slice A l.length c) := by rw [Lib.cell_of_heap hbk]; rfl
  clear hown hbk h hne
  go_enter Tryd.func27, Tryd.ntmps27
  go_wp2
  go_ret
  exact ⟨rfl, rfl⟩
theorem cellsU8 : Tryd.prog.cellsOf 5 = 1 := by kernel_rfl
set_option maxHeartbeats 2000000 in
set_option maxRecDepth 100000 in
theorem string_some (B b : Nat) (l : Str) (w : World) (h : Lib.IsBuilder 65 5 B b (Lib.byteCells l) w) (h0 : l ≠ []) :
    Calls Tryd.prog 28 #[.pointer (some ⟨b, 0, none⟩)] w fun e w' => e = .returned (.string (bs l)) ∧ Below B w w' := by
  obtain ⟨p, hB, v, hbk, hown, hne⟩ : ∃ p, Lib.BuilderAt 65 5 B b p (Lib.byteCells l) w := by
    rcases h with h | h
    · exact ⟨_, h⟩
    · exact ⟨_, h⟩
  have hl0 : l.length ≠ 0 := by simpa using h0
  rw [Lib.byteCells_length] at hown
  obtain ⟨g, cap, cur, rfl, hbg, hg, hnc, hcm, hcs, htake⟩ : ∃ g cap cur, v = .slice (some ⟨g, 0, none⟩) l.length cap ∧ B ≤ g ∧ w.heap[g]? = some (.cells cur 5 (0, 0)) ∧ l.length ≤ cap ∧ cap ≤ maxLen ∧ cur.size = cap * 1 ∧ cur.toList.take (l.length * 1) = Lib.byteCells l := by
    rcases hown.2 with ⟨_, hz⟩ | ⟨g, cap, cur, hv, r⟩
    · exact absurd hz hl0
    · exact ⟨g, cap, cur, hv, r⟩
  have c1 : w.drew.cell? ⟨b, 1, none⟩ = some (.slice (some ⟨g, 0, none⟩) l.length cap) := by
    have : w.drew.heap[b]? = some (.cells #[p, .slice (some ⟨g, 0, none⟩) l.length cap] 65 (0, 0)) := hbk
    rw [Lib.cell_of_heap this]; rfl
  have hSD : (Builtin.unsafeSliceData_ #[61] 95 #[.slice (some ⟨g, 0, none⟩) l.length cap]).run Tryd.prog w.drew = .ok (.pointer (some ⟨g, 0, none⟩)) w.drew :=
    Lib.run_unsafeSliceData_row _ _ _ _ _ _ (by omega)
  have hUS : (Builtin.unsafeString_ #[95, 3] 9 #[.pointer (some ⟨g, 0, none⟩), .int .i64 l.length]).run Tryd.prog w.drew = .ok (.string (bs l)) (w.drew.freeze ⟨g, 0, none⟩ l.length) := by
    refine Lib.run_unsafeString_row w.drew 95 3 9 5 Tryd.underlying95 cellsU8 g cur.size (by have hg' : w.drew.heap[g]? = some (.cells cur 5 (0, 0)) := hg; simp [World.shape?, hg']) l h0 (by omega) (by unfold maxLen at hcm; omega) ?_
    intro j x hx
    have := hown.cells (g := g) rfl j (.int .u8 x.toNat) (by simp [Lib.byteCells, hx])
    exact this
  clear hown hcs htake hcm hnc hne h
  go_enter Tryd.func28, Tryd.ntmps28
  go_wp2
  go_region
  all_goals (go_wp2; go_ret; exact ⟨rfl, Lib.below_freeze (Below.drew (Below.refl B w)) (p := ⟨g, 0, none⟩) hbg _⟩)
set_option maxHeartbeats 2000000 in
set_option maxRecDepth 100000 in
theorem string_nil (B b : Nat) (p : Value) (w : World) (hbk : w.heap[b]? = some (.cells #[p, .slice none 0 0] 65 (0, 0))) :
    Calls Tryd.prog 28 #[.pointer (some ⟨b, 0, none⟩)] w fun e w' => e = .returned (.string (bs [])) ∧ Below B w w' := by
  have hUS : ∀ (W : World) (q : Option Addr), (Builtin.unsafeString_ #[95, 3] 9 #[.pointer q, .int .i64 0]).run Tryd.prog W = .ok (.string .empty) W := fun W q => Lib.run_unsafeString_none W _ _ _ q
  have c1 : w.drew.cell? ⟨b, 1, none⟩ = some (.slice none 0 0) := by
    have : w.drew.heap[b]? = some (.cells #[p, .slice none 0 0] 65 (0, 0)) := hbk
    rw [Lib.cell_of_heap this]; rfl
  have hSD : (Builtin.unsafeSliceData_ #[61] 95 #[.slice none 0 0]).run Tryd.prog w.drew = .ok (.pointer none) w.drew := rfl
  go_enter Tryd.func28, Tryd.ntmps28
  go_wp2
  go_region
  all_goals (go_wp2; go_ret; exact ⟨rfl, Below.drew (Below.refl B w)⟩)
theorem PB.lt {B b : Nat} {l : Str} {w : World} (h : PB B b l w) : B ≤ b ∧ b < w.heap.size := by
  rcases h.1 with h | h
  · exact ⟨h.1, h.lt⟩
  · exact ⟨h.1, h.lt⟩
theorem BuilderAt.keep_ {T e : TypeId} {B b : Nat} {p : Value} {bs : List Value} {w w' : World} (h : Lib.BuilderAt T e B b p bs w) (hb : Below w.heap.size w w') : Lib.BuilderAt T e B b p bs w' := by
  obtain ⟨hB, v, hbk, hown, hne⟩ := h
  have hlt : b < w.heap.size := Lib.BuilderAt.lt ⟨hB, v, hbk, hown, hne⟩
  exact ⟨hB, v, (hb.block b hlt).trans hbk, hown.kept (row := none) ⟨hb.os, hb.tape, hb.output, hb.size, fun k hk _ => hb.block k hk⟩ (by cases hv : v.ownBlock <;> simp), hne⟩
theorem PB.keep {B b : Nat} {l : Str} {w w' : World} (h : PB B b l w) (hb : Below w.heap.size w w') : PB B b l w' := by
  refine ⟨?_, fun hl => (hb.block b h.lt.2).trans (h.2 hl)⟩
  rcases h.1 with h1 | h1
  · exact .inl (BuilderAt.keep_ h1 hb)
  · exact .inr (BuilderAt.keep_ h1 hb)
theorem PB.fresh (w : World) : PB w.heap.size w.heap.size [] (w.alloc (.cells #[.pointer none, .slice none 0 0] 65)) :=
  ⟨Lib.fresh_isBuilder _ _ w, fun _ => heap_alloc_new w _⟩
theorem string_any (B b : Nat) (l : Str) (w : World) (h : PB B b l w) :
    Calls Tryd.prog 28 #[.pointer (some ⟨b, 0, none⟩)] w fun e w' => e = .returned (.string (bs l)) ∧ Below B w w' := by
  by_cases hl : l = []
  · subst hl
    exact string_nil B b _ w (h.2 rfl)
  · exact string_some B b l w h.1 hl
/-- A line's text. -/
def lineT (d : Nat) (s : Str) : Str := Lib.repeatL [32, 32] d ++ s ++ [10]
theorem repeat_any (d : Nat) (w : World) (hd : d ≤ 1000) : Calls Tryd.prog 43 #[.string ⟨#[32, 32]⟩, .int .i64 (d : Int)] w fun e w' => e = .returned (.string (bs (Lib.repeatL [32, 32] d))) ∧ Below w.heap.size w w' :=
  Tryd.strings_Repeat ⟨#[32, 32]⟩ d w (by omega) (by rw [show (⟨#[32, 32]⟩ : ByteArray).size = 2 from rfl]; omega)
set_option maxHeartbeats 2000000 in
set_option maxRecDepth 100000 in
theorem line_any (B b : Nat) (l s : Str) (d : Nat) (w : World) (hd : d ≤ 1000) (h : PB B b l w) (hlen : l.length + s.length ≤ 900000000) (hBw : B ≤ w.heap.size) :
    Calls Tryd.prog 24 #[.pointer (some ⟨b, 0, none⟩), .int .i64 (d : Int), .string (bs s)] w fun e w' => e = .returned (.tuple #[]) ∧ PB B b (l ++ lineT d s) w' ∧ Below B w w' ∧ Fr b w w' := by
  have HR := Lib.hid (fun W => repeat_any d W hd)
  have hr : (Lib.repeatL [32, 32] d).length = d * 2 := Lib.repeatL_length _ _
  obtain ⟨R, hR⟩ : ∃ R, R = Lib.repeatL [32, 32] d := ⟨_, rfl⟩
  rw [← hR] at HR hr
  obtain ⟨c1, hc1⟩ : ∃ c, c = R ++ s := ⟨_, rfl⟩
  have l1 : c1.length = R.length + s.length := by rw [hc1, List.length_append]
  have j1 : ∀ w, (Op.stringOp .add (bs R) (bs s)).run Tryd.prog w = .ok (.string (bs c1)) w := fun w => by rw [hc1]; exact add_big R s (by omega) w
  obtain ⟨c2, hc2⟩ : ∃ c, c = c1 ++ ([10] : Str) := ⟨_, rfl⟩
  have l2 : c2.length = c1.length + 1 := by rw [hc2]; exact List.length_append
  have j2 : ∀ w, (Op.stringOp .add (bs c1) (⟨#[10]⟩ : ByteArray)).run Tryd.prog w = .ok (.string (bs c2)) w := fun w => by rw [hc2]; exact add_big c1 [10] (by simp; omega) w
  have hF : lineT d s = c2 := by rw [lineT, ← hR, hc2, hc1]
  have hne : c2 ≠ [] := by rw [hc2]; simp
  rw [hF]
  have HH := Lib.hid h
  have HW := Lib.hid (show ∀ W, Below w.heap.size w W → Calls Tryd.prog 42 #[.pointer (some ⟨b, 0, none⟩), .string (bs c2)] W fun e w' => e = .returned (.tuple #[.int .i64 (bs c2).size, .nilIface]) ∧ (Lib.BuilderAt 65 5 B b (.pointer (some ⟨b, 0, none⟩)) (Lib.byteCells (l ++ c2)) w' ∧ Below B W w' ∧ Fr b W w') from fun W hb => write_any B b l c2 W (h.keep hb).1 (by omega) (by have := hb.size; omega))
  have HNE := Lib.hid hne
  have HBW := Lib.hid hBw
  clear hR hc1 l1 hc2 l2 hF hlen hd hr h hne
  have zz : Bz w w.drew := ⟨(Below.refl _ _).drew⟩
  go_enter Tryd.func24, Tryd.ntmps24
  go_upto_region 0 with fail
  go_region_held3 (fun W => True) (trivial) (first
    | (go_at_call 43; refine (HR.out _).mono ?_; rintro e w1 ⟨rfl, hb⟩; have z1 := Bz.next zz hb; clear hb)
    | (go_at_call 42; refine (HW.out _ z1.b).mono ?_; rintro e w2 ⟨rfl, h2, hb2, hf2⟩; have H2 := Lib.hid h2; have HB2 := Lib.hid ((z1.b.mono HBW.out).trans hb2); have HF2 := Lib.hid ((Fr.of_below z1.b).trans hf2); clear h2 hb2 hf2))
  all_goals
    go_end0
    exact ⟨rfl, ⟨.inr H2.out, fun h => absurd (List.append_eq_nil_iff.1 h).2 HNE.out⟩, HB2.out, HF2.out⟩
end Go.Proofs.YthfjkdgaiaokdaaDoor
