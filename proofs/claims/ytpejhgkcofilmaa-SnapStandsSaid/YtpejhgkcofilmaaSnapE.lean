/- The walk of the store's with: new maps, laid over the old ones. Conditions: the maps and lists lie in blocks that meet S. -/
import Derived.Test.YtpejhgkcofilmaaSnapD
import Derived.Laws.CopyOwn
set_option linter.unusedVariables false
namespace Go.Proofs.Ytpejhgkcofilmaa
open Go.RowKit

/-- The blocks of a call of with: the store, the result, the two maps. -/
def WithI (p : Nat) (cs : Array Value) (w wr : World) (F1 F2 : Int → Option Value) : Prop :=
  wr.heap[p]? = some (.cells cs 57) ∧ wr.heap[p + 1]? = some (.cells (stoZ 0) 57) ∧ IntMap wr (p + 2) F1 ∧ IntMap wr (p + 3) F2 ∧ Below p w wr ∧ p + 4 ≤ wr.heap.size
section
variable {p : Nat} {cs : Array Value} {w wr w1 : World} {F1 F2 F : Int → Option Value}
theorem WithI.grown (h : WithI p cs w wr F1 F2) {r : Nat} (hg : wr.grownBy w1 (some r)) (hr : p + 4 ≤ r) : WithI p cs w w1 F1 F2 := by
  obtain ⟨h1, h2, h3, h4, h5, h6⟩ := h
  have k := fun i (hi : i < p + 4) => hg.block i (by omega) (by intro e; cases e; omega)
  exact ⟨(k p (by omega)).trans h1, (k (p + 1) (by omega)).trans h2, h3.keep (k (p + 2) (by omega)), h4.keep (k (p + 3) (by omega)), h5.grown hg (by omega) (by rintro j rfl' ; cases rfl'; omega), by have := hg.size; omega⟩
theorem WithI.alloc (h : WithI p cs w wr F1 F2) (o : Obj) : WithI p cs w (wr.alloc o) F1 F2 := by
  obtain ⟨h1, h2, h3, h4, h5, h6⟩ := h
  have k := fun i (hi : i < p + 4) => heap_alloc_old wr o (r := i) (by omega)
  exact ⟨(k p (by omega)).trans h1, (k (p + 1) (by omega)).trans h2, h3.keep (k (p + 2) (by omega)), h4.keep (k (p + 3) (by omega)), h5.alloc (by omega) o, by simp; omega⟩
theorem WithI.upd1 (h : WithI p cs w wr F1 F2) (hm : IntMap w1 (p + 2) F) (hg : wr.grownBy w1 (some (p + 2))) : WithI p cs w w1 F F2 := by
  obtain ⟨h1, h2, h3, h4, h5, h6⟩ := h
  have k := fun i (hi : i < p + 4) (hne : i ≠ p + 2) => hg.block i (by omega) (by intro e; cases e; omega)
  exact ⟨(k p (by omega) (by omega)).trans h1, (k (p + 1) (by omega) (by omega)).trans h2, hm, h4.keep (k (p + 3) (by omega) (by omega)), h5.grown hg (by omega) (by rintro j rfl'; cases rfl'; omega), by have := hg.size; omega⟩
theorem WithI.upd2 (h : WithI p cs w wr F1 F2) (hm : IntMap w1 (p + 3) F) (hg : wr.grownBy w1 (some (p + 3))) : WithI p cs w w1 F1 F := by
  obtain ⟨h1, h2, h3, h4, h5, h6⟩ := h
  have k := fun i (hi : i < p + 4) (hne : i ≠ p + 3) => hg.block i (by omega) (by intro e; cases e; omega)
  exact ⟨(k p (by omega) (by omega)).trans h1, (k (p + 1) (by omega) (by omega)).trans h2, h3.keep (k (p + 2) (by omega) (by omega)), hm, h5.grown hg (by omega) (by rintro j rfl'; cases rfl'; omega), by have := hg.size; omega⟩
end
/-- An iterator over a map that lies below, behind a write elsewhere. -/
theorem Iter.grown {w wr w1 : World} {r q : Nat} {v : Value} {f : Int → Option Value} {left : List Int} {S : Nat → Prop} (h : Iter wr r v f left) (hm : IsMap w S v f) (hr : r < wr.heap.size) (hw : w.heap.size ≤ wr.heap.size) (hg : wr.grownBy w1 (some q)) (hq : w.heap.size ≤ q) (hqr : q ≠ r) :
    Iter w1 r v f left ∧ iterLeft w1 r v = iterLeft wr r v := by
  have k := fun i (hi : i < wr.heap.size) (hne : i ≠ q) => hg.block i hi (by intro e; cases e; omega)
  have hb : ∀ b, v = .map (some b) → w1.heap[b]? = wr.heap[b]? := by
    rintro b rfl
    rcases hm with ⟨h0, _⟩ | ⟨b', h0, _, hlt, _⟩
    · cases h0
    · cases h0
      exact k b (by omega) (by omega)
  exact ⟨h.keep (k r hr (by omega)) hb, iterLeft_keep (k r hr (by omega)) hb⟩
theorem Iter.alloc {w wr : World} {r : Nat} {v : Value} {f : Int → Option Value} {left : List Int} {S : Nat → Prop} (h : Iter wr r v f left) (hm : IsMap w S v f) (hr : r < wr.heap.size) (hw : w.heap.size ≤ wr.heap.size) (o : Obj) :
    Iter (wr.alloc o) r v f left ∧ iterLeft (wr.alloc o) r v = iterLeft wr r v := by
  have k := fun i (hi : i < wr.heap.size) => heap_alloc_old wr o (r := i) hi
  have hb : ∀ b, v = .map (some b) → (wr.alloc o).heap[b]? = wr.heap[b]? := by
    rintro b rfl
    rcases hm with ⟨h0, _⟩ | ⟨b', h0, _, hlt, _⟩
    · cases h0
    · cases h0
      exact k b (by omega)
  exact ⟨h.keep (k r hr) hb, iterLeft_keep (k r hr) hb⟩
/-- A map's part without the keys still to come. -/
def part (f : Int → Option Value) (left : List Int) : Int → Option Value := fun k => if k ∈ left then none else f k
theorem part_all {f : Int → Option Value} {left : List Int} (h : ∀ k, k ∈ left ↔ (f k).isSome = true) : part f left = fun _ => none := by
  funext k
  unfold part
  split
  · rfl
  · rename_i hk
    rw [h] at hk
    simpa using hk
theorem part_nil (f : Int → Option Value) : part f [] = f := by
  funext k
  simp [part]
theorem part_step {f : Int → Option Value} {left : List Int} (hn : left.Nodup) {k : Int} {u : Value} (hf : f k = some u) : upd (part f left) k u = part f (left.erase k) := by
  funext i
  unfold upd part
  by_cases h : i = k
  · subst h
    rw [if_pos rfl, if_neg (by rw [hn.mem_erase_iff]; simp), hf]
  · rw [if_neg h]
    by_cases hi : i ∈ left
    · rw [if_pos hi, if_pos (by rw [hn.mem_erase_iff]; exact ⟨h, hi⟩)]
    · rw [if_neg hi, if_neg (by rw [hn.mem_erase_iff]; exact fun x => hi x.2)]

/-- A map laid over another, but for the keys still to come. -/
def ovr (f3 f : Int → Option Value) (left : List Int) : Int → Option Value := fun k => if k ∈ left then f k else (f3 k).or (f k)
theorem ovr_all {f3 f : Int → Option Value} {left : List Int} (h : ∀ k, k ∈ left ↔ (f3 k).isSome = true) : ovr f3 f left = f := by
  funext k
  unfold ovr
  split
  · rfl
  · rename_i hk
    rw [h] at hk
    cases hf : f3 k with
    | none => rfl
    | some u => rw [hf] at hk; exact absurd rfl hk
theorem ovr_nil (f3 f : Int → Option Value) : ovr f3 f [] = fun k => (f3 k).or (f k) := by
  funext k
  simp [ovr]
theorem ovr_step {f3 f : Int → Option Value} {left : List Int} (hn : left.Nodup) {k : Int} {u : Value} (hf : f3 k = some u) : upd (ovr f3 f left) k u = ovr f3 f (left.erase k) := by
  funext i
  unfold upd ovr
  by_cases h : i = k
  · subst h
    rw [if_pos rfl, if_neg (by rw [hn.mem_erase_iff]; simp), hf]
    rfl
  · rw [if_neg h]
    by_cases hi : i ∈ left
    · rw [if_pos hi, if_pos (by rw [hn.mem_erase_iff]; exact ⟨h, hi⟩)]
    · rw [if_neg hi, if_neg (by rw [hn.mem_erase_iff]; exact fun x => hi x.2)]
/-- The numbers of writes, counted up where written. -/
def wov (f3 f4 : Int → Option Value) (W : Int → Option Int) (left : List Int) : Int → Option Int := fun k => if k ∈ left then W k else if (f3 k).isSome ∧ (f4 k).isSome then some (((W k).getD 0 + 1) % 4294967296) else W k
theorem wov_all {f3 f4 : Int → Option Value} {W : Int → Option Int} {left : List Int} (h : ∀ k, k ∈ left ↔ (f3 k).isSome = true) : wov f3 f4 W left = W := by
  funext k
  unfold wov
  split
  · rfl
  · rename_i hk
    rw [h] at hk
    rw [if_neg (fun x => hk x.1)]
theorem wov_nil (f3 f4 : Int → Option Value) (W : Int → Option Int) : wov f3 f4 W [] = fun k => if (f3 k).isSome ∧ (f4 k).isSome then some (((W k).getD 0 + 1) % 4294967296) else W k := by
  funext k
  simp [wov]
theorem wov_in {f3 f4 : Int → Option Value} {W : Int → Option Int} {left : List Int} {k : Int} (h : k ∈ left) : wov f3 f4 W left k = W k := if_pos h
theorem wov_skip {f3 f4 : Int → Option Value} {W : Int → Option Int} {left : List Int} (hn : left.Nodup) {k : Int} (hf : f4 k = none) : wov f3 f4 W left = wov f3 f4 W (left.erase k) := by
  funext i
  unfold wov
  by_cases h : i = k
  · subst h
    rw [if_neg (show i ∉ left.erase i by rw [hn.mem_erase_iff]; simp), if_neg (show ¬ ((f3 i).isSome = true ∧ (f4 i).isSome = true) by rw [hf]; simp), ite_self]
  · by_cases hi : i ∈ left
    · rw [if_pos hi, if_pos (show i ∈ left.erase k by rw [hn.mem_erase_iff]; exact ⟨h, hi⟩)]
    · rw [if_neg hi, if_neg (show i ∉ left.erase k by rw [hn.mem_erase_iff]; exact fun x => hi x.2)]
theorem wov_step {f3 f4 : Int → Option Value} {W : Int → Option Int} {left : List Int} (hn : left.Nodup) {k : Int} {u v : Value} (hf : f3 k = some u) (hv : f4 k = some v) :
    upd (wmap (wov f3 f4 W left)) k (.int .u32 (((W k).getD 0 + 1) % 4294967296)) = wmap (wov f3 f4 W (left.erase k)) := by
  funext i
  unfold upd wmap wov
  by_cases h : i = k
  · subst h
    rw [if_pos rfl, if_neg (show i ∉ left.erase i by rw [hn.mem_erase_iff]; simp), if_pos (by rw [hf, hv]; simp)]
    rfl
  · rw [if_neg h]
    by_cases hi : i ∈ left
    · rw [if_pos hi, if_pos (show i ∈ left.erase k by rw [hn.mem_erase_iff]; exact ⟨h, hi⟩)]
    · rw [if_neg hi, if_neg (show i ∉ left.erase k by rw [hn.mem_erase_iff]; exact fun x => hi x.2)]
theorem bool_zero (w : World) : (zeroValue 4).run Try.prog w = .ok (.bool false) w := by simp [go_sem]

set_option maxRecDepth 100000 in
set_option maxHeartbeats 12800000 in
theorem with_any {S : Nat → Prop} (c n : Int) (b1 b2 b3 b4 : Option Nat) (B : Nat → Bool) (T : Nat → Int) (f f3 f4 : Int → Option Value) (g g3 : Int → Option (List (Int × Int))) (W : Int → Option Int) (w : World) (hS : ∀ b, w.heap.size ≤ b → S b)
    (hm : IsMap w S (.map b1) f) (hg : LMap w S f g) (h2 : IsMap w S (.map b2) (wmap W)) (hm3 : IsMap w S (.map b3) f3) (hg3 : LMap w S f3 g3) (hm4 : IsMap w S (.map b4) f4) (hf4 : ∀ k, f4 k = none ∨ f4 k = some (.bool true)) :
    Calls Try.prog 63 #[sto c n (.map b1) (.map b2) B T, .map b3, .map b4] w fun e w' =>
      ∃ b5 b6, e = .returned (sto c n (.map (some b5)) (.map (some b6)) B T) ∧ IsMap w' S (.map (some b5)) (fun k => (f3 k).or (f k)) ∧
        IsMap w' S (.map (some b6)) (wmap fun k => if (f3 k).isSome ∧ (f4 k).isSome then some (((W k).getD 0 + 1) % 4294967296) else W k) ∧ Below w.heap.size w w' := by
  have hmm := @run_makeMap Try.prog
  have hx : ∀ o1 o2 o3, ((((w.alloc (.cells (stoCells c n (.map b1) (.map b2) B T) 57)).alloc o1).alloc o2).alloc o3).cell? ⟨w.heap.size, 2, none⟩ = some (.map b1) := fun o1 o2 o3 => by
    have h0 := heap_alloc_new w (.cells (stoCells c n (.map b1) (.map b2) B T) 57)
    have h1 := (((Below.refl _ (w.alloc (.cells (stoCells c n (.map b1) (.map b2) B T) 57))).alloc (Nat.le_refl _) o1).alloc (by simp) o2).alloc (by simp <;> omega) o3
    rw [cell_of_row _ _ _ _ _ _ ((h1.block w.heap.size (by simp)).trans h0)]
    rfl
  go_enter Try.func63, Try.ntmps63
  go_wp2_with (first
    | (with_reducible refine at_box_ (t := 57) ?_; refine box_sto rfl _ rfl _ rfl (c := c) (n := n) (ml := .map b1) (mw := .map b2) (B := B) (T := T) rfl ?_)
    | (with_reducible refine at_alloc_ (t := 57) ?_; refine wpList_alloc_mine rfl 57 rfl _ rfl (stoZ 0) stoZ_zero rfl ?_)
    | (at_range; refine Hid.out ?_))
  refine Lib.hid ?_
  clear hx
  have base : WithI w.heap.size (stoCells c n (.map b1) (.map b2) B T) w ((((w.alloc (.cells (stoCells c n (.map b1) (.map b2) B T) 57)).alloc (.cells (stoZ 0) 57)).alloc (.map #[] 0)).alloc (.map #[] 0)) (fun _ => none) (fun _ => none) := by
    have e0 := heap_alloc_new w (.cells (stoCells c n (.map b1) (.map b2) B T) 57)
    have e1 := heap_alloc_new (w.alloc (.cells (stoCells c n (.map b1) (.map b2) B T) 57)) (.cells (stoZ 0) 57)
    have e2 := IntMap.made ((w.alloc (.cells (stoCells c n (.map b1) (.map b2) B T) 57)).alloc (.cells (stoZ 0) 57))
    have e3 := IntMap.made (((w.alloc (.cells (stoCells c n (.map b1) (.map b2) B T) 57)).alloc (.cells (stoZ 0) 57)).alloc (.map #[] 0))
    have k := fun (W : World) (o : Obj) (i : Nat) (hi : i < W.heap.size) => heap_alloc_old W o (r := i) hi
    refine ⟨?_, ?_, ?_, ?_, ?_, ?_⟩
    · rw [k _ _ _ (by simp; omega), k _ _ _ (by simp; omega), k _ _ _ (by simp)]; exact e0
    · rw [k _ _ _ (by simp), k _ _ _ (by simp)]
      simpa using e1
    · have := e2.below ((Below.refl _ _).alloc (Nat.le_refl _) (.map #[] 0))
      simpa using this
    · simpa using e3
    · exact ((((Below.refl _ _).alloc (Nat.le_refl _) _).alloc (by simp) _).alloc (by simp; omega) _).alloc (by simp; omega) _
    · simp
  have hm' : IsMap _ S (.map b1) f := hm.below base.2.2.2.2.1
  generalize hw0 : ((((w.alloc (.cells (stoCells c n (.map b1) (.map b2) B T) 57)).alloc (.cells (stoZ 0) 57)).alloc (.map #[] 0)).alloc (.map #[] 0)) = w0 at *
  have hs0 : w0.heap.size = w.heap.size + 4 := by rw [← hw0]; simp
  clear hw0
  refine wpList_range_mine rfl (.tmp 18) 51 rfl 67 27 Try.underlying51 S (.map b1) f rfl hm' fun x left hit hnd hkeys => ?_
  have BI := Lib.hid (base.alloc x)
  have IT := Lib.hid hit
  have ND := Lib.hid hnd
  have KEYS := Lib.hid (part_all hkeys)
  rw [hs0] at IT ⊢
  clear base hm' hit hnd hkeys
  have hs1 : (w0.alloc x).heap.size = w.heap.size + 5 := by simp [hs0]
  generalize w0.alloc x = w1 at *
  have HSZ := Lib.hid hs1
  clear hs0 hs1
  go_wp2
  go_loopw [20] (fun _ wr => ∃ left, Hid (Iter wr (w.heap.size + 4) (.map b1) f left) ∧ Hid left.Nodup ∧ Hid (WithI w.heap.size (stoCells c n (.map b1) (.map b2) B T) w wr (part f left) (fun _ => none)) ∧ Hid (w.heap.size + 5 ≤ wr.heap.size)) (fun _ wr => iterLeft wr (w.heap.size + 4) (.map b1))
  case atStart => exact ⟨left, IT, ND, by rw [KEYS.out]; exact BI, Lib.hid (Nat.le_of_eq HSZ.out.symm)⟩
  case round =>
    clear IT ND BI KEYS HSZ
    obtain ⟨left2, IT, ND, BI, HSZ⟩ := hrel
    go_wp2_with (at_next; refine Hid.out ?_)
    refine Lib.hid ?_
    refine wpList_next_mine rfl (.tmp 19) rfl (w.heap.size + 4) (.map b1) f left2 rfl IT.out (fun hleft => ?_) (fun k u w2 hk hf hent hit hgr hsz hlt => ?_)
    · subst hleft
      have BI2 := BI.out
      rw [part_nil] at BI2
      have hm2 : IsMap wr S (.map b2) (wmap W) := h2.below BI2.2.2.2.2.1
      have x3 : wr.cell? ⟨w.heap.size, 3, none⟩ = some (.map b2) := by rw [cell_of_row _ _ _ _ _ _ BI2.1]; rfl
      go_wp2_with (at_range; refine Hid.out ?_)
      refine Lib.hid ?_
      refine wpList_range_mine rfl (.tmp 29) 52 rfl 67 60 Try.underlying52 S (.map b2) (wmap W) rfl hm2 fun x left hit hnd hkeys => ?_
      have BI3 := Lib.hid (BI2.alloc x)
      have IT2 := Lib.hid hit
      have ND2 := Lib.hid hnd
      have KEYS := Lib.hid (part_all hkeys)
      have RLT := Lib.hid (show w.heap.size + 5 ≤ wr.heap.size from HSZ.out)
      have HS1 := Lib.hid (show wr.heap.size < (wr.alloc x).heap.size by simp)
      clear BI2 hm2 hit hnd hkeys IT ND BI HSZ x3
      generalize wr.heap.size = r2 at *
      generalize wr.alloc x = w1 at *
      try simp only [Act.put, List.setIfInBounds_toArray, List.set_cons_zero, List.set_cons_succ]
      go_wp2
      go_loopw [31] (fun _ wr => ∃ left, Hid (Iter wr r2 (.map b2) (wmap W) left) ∧ Hid left.Nodup ∧ Hid (WithI w.heap.size (stoCells c n (.map b1) (.map b2) B T) w wr f (part (wmap W) left)) ∧ Hid (r2 < wr.heap.size)) (fun _ wr => iterLeft wr r2 (.map b2))
      case atStart => exact ⟨left, IT2, ND2, by rw [KEYS.out]; exact BI3, HS1⟩
      case round =>
        clear IT2 ND2 BI3 KEYS HS1
        obtain ⟨left2, IT, ND, BI, HSZ⟩ := hrel
        go_wp2_with (at_next; refine Hid.out ?_)
        refine Lib.hid ?_
        refine wpList_next_mine rfl (.tmp 30) rfl r2 (.map b2) (wmap W) left2 rfl IT.out (fun hleft => ?_) (fun k u w2 hk hf hent hit hgr hsz hlt => ?_)
        · subst hleft
          have BI2 := BI.out
          rw [part_nil] at BI2
          have hm2 : IsMap wr S (.map b3) f3 := hm3.below BI2.2.2.2.2.1
          go_wp2_with (at_range; refine Hid.out ?_)
          refine Lib.hid ?_
          refine wpList_range_mine rfl (.tmp 39) 51 rfl 67 27 Try.underlying51 S (.map b3) f3 rfl hm2 fun x left hit hnd hkeys => ?_
          have BI3 := Lib.hid (BI2.alloc x)
          have IT3 := Lib.hid hit
          have ND3 := Lib.hid hnd
          have KEYS := Lib.hid hkeys
          have RLT3 := Lib.hid (show w.heap.size + 4 ≤ wr.heap.size from BI2.2.2.2.2.2)
          have HS1 := Lib.hid (show wr.heap.size < (wr.alloc x).heap.size by simp)
          clear BI2 hm2 hit hnd hkeys IT ND BI HSZ RLT
          generalize wr.heap.size = r3 at *
          generalize wr.alloc x = w1 at *
          try simp only [Act.put, List.setIfInBounds_toArray, List.set_cons_zero, List.set_cons_succ]
          go_wp2
          go_loopw [41] (fun _ wr => ∃ left, Hid (Iter wr r3 (.map b3) f3 left) ∧ Hid left.Nodup ∧ Hid (WithI w.heap.size (stoCells c n (.map b1) (.map b2) B T) w wr (ovr f3 f left) (wmap (wov f3 f4 W left))) ∧ Hid (r3 < wr.heap.size)) (fun _ wr => iterLeft wr r3 (.map b3))
          case atStart => exact ⟨left, IT3, ND3, by rw [ovr_all KEYS.out, wov_all KEYS.out]; exact BI3, HS1⟩
          case round =>
            clear IT3 ND3 BI3 KEYS HS1
            obtain ⟨left2, IT, ND, BI, HSZ⟩ := hrel
            go_wp2_with (at_next; refine Hid.out ?_)
            refine Lib.hid ?_
            refine wpList_next_mine rfl (.tmp 40) rfl r3 (.map b3) f3 left2 rfl IT.out (fun hleft => ?_) (fun k u w2 hk hf hent hit hgr hsz hlt => ?_)
            · subst hleft
              have BI2 := BI.out
              rw [ovr_nil, wov_nil] at BI2
              obtain ⟨k1, k2, k3, k4, k5, k6⟩ := BI2
              have x2 : wr.cell? ⟨w.heap.size, 2, none⟩ = some (.map b1) := by rw [cell_of_row _ _ _ _ _ _ k1]; rfl
              have x3 : wr.cell? ⟨w.heap.size, 3, none⟩ = some (.map b2) := by rw [cell_of_row _ _ _ _ _ _ k1]; rfl
              have xz := not_frozen k1
              obtain ⟨w7, hw7⟩ : ∃ w7, w7 = (wr.setCell ⟨w.heap.size, 2, none⟩ (.map (some (w.heap.size + 1 + 1)))).setCell ⟨w.heap.size, 3, none⟩ (.map (some (w.heap.size + 1 + 1 + 1))) := ⟨_, rfl⟩
              have e3 : w7.heap[w.heap.size]? = some (.cells (stoCells c n (.map (some (w.heap.size + 1 + 1))) (.map (some (w.heap.size + 1 + 1 + 1))) B T) 57 (0, 0)) := by
                rw [hw7, setCell_block (setCell_block k1 _) _]
                rfl
              have o7 : ∀ i, i ≠ w.heap.size → w7.heap[i]? = wr.heap[i]? := fun i hi => by
                rw [hw7, heap_setCell_other _ ⟨w.heap.size, 3, none⟩ i _ hi, heap_setCell_other _ ⟨w.heap.size, 2, none⟩ i _ hi]
              have e4 := (o7 (w.heap.size + 1) (by omega)).trans k2
              have b7 : Below w.heap.size w w7 := by rw [hw7]; exact (k5.setCell (by simp) _).setCell (by simp) _
              have fin : ∀ cs, IsMap (w7.setRow (w.heap.size + 1) cs) S (.map (some (w.heap.size + 2))) (fun k => (f3 k).or (f k)) ∧ IsMap (w7.setRow (w.heap.size + 1) cs) S (.map (some (w.heap.size + 3))) (wmap fun k => if (f3 k).isSome ∧ (f4 k).isSome then some (((W k).getD 0 + 1) % 4294967296) else W k) ∧ Below w.heap.size w (w7.setRow (w.heap.size + 1) cs) := fun cs => by
                have m1 := k3.keep ((setRow_other w7 (w.heap.size + 1) (w.heap.size + 2) cs (by omega)).trans (o7 (w.heap.size + 2) (by omega)))
                have m2 := k4.keep ((setRow_other w7 (w.heap.size + 1) (w.heap.size + 3) cs (by omega)).trans (o7 (w.heap.size + 3) (by omega)))
                exact ⟨.inr ⟨_, rfl, hS _ (by omega), m1.lt, m1⟩, .inr ⟨_, rfl, hS _ (by omega), m2.lt, m2⟩, below_setRow b7 (by omega) cs⟩
              have FIN := Lib.hid fin
              have E3 := Lib.hid e3
              have E4 := Lib.hid e4
              have HW7 := Lib.hid hw7
              clear k1 k2 k3 k4 k5 k6 IT ND BI HSZ e3 e4 o7 b7 fin hw7
              go_wp2_with (first
                | (with_reducible refine at_load_ (t := 57) ?_; refine Hid.out ?_)
                | (with_reducible refine at_store_ (t := 57) ?_; refine Hid.out ?_))
              refine Lib.hid ?_
              rw [← HW7.out]
              refine get_sto rfl (.tmp 3) rfl w.heap.size rfl E3.out ?_
              clear x2 x3 xz
              try simp only [Act.put, List.setIfInBounds_toArray, List.set_cons_zero, List.set_cons_succ]
              refine put_sto rfl (.tmp 6) (.tmp 60) rfl rfl (w.heap.size + 1) rfl rfl E4.out rfl ?_
              go_wp2_with fail
              have e5 := setRow_heap w7 (w.heap.size + 1) _ (stoCells c n (.map (some (w.heap.size + 1 + 1))) (.map (some (w.heap.size + 1 + 1 + 1))) B T) _ _ E4.out
              obtain ⟨g1, g2, g3⟩ := FIN.out (stoCells c n (.map (some (w.heap.size + 1 + 1))) (.map (some (w.heap.size + 1 + 1 + 1))) B T)
              exact bodyPost_ret (results_cell_row rfl _ _ (w.heap.size + 1) _ _ _ _ rfl e5 Try.underlying57 rfl Try.size57) rfl ⟨_, _, rfl, g1, g2, g3⟩
            · obtain ⟨A, m, cc, rfl⟩ : ∃ A m cc, u = .agg #[.slice A m cc] := by
                rcases hg3 k with ⟨h, _⟩ | ⟨u', l, h1, _, A, m, cc, rfl, _⟩
                · rw [h] at hf; cases hf
                · rw [h1] at hf; cases hf; exact ⟨A, m, cc, rfl⟩
              have BI3 := Lib.hid ((BI.out.grown hgr RLT3.out).alloc (.cells #[.slice A m cc] 27))
              have IT3 := Lib.hid (hit.alloc hm3 (by rw [hsz]; exact HSZ.out) (by rw [hsz]; have := HSZ.out; have := RLT3.out; omega) (.cells #[.slice A m cc] 27))
              have HF := Lib.hid (ovr_step (f := f) ND.out hf)
              have HFK := Lib.hid hf
              have HKL := Lib.hid hk
              have HLT := Lib.hid hlt
              have HS2 := Lib.hid hsz
              clear hk hf hit hgr hlt hsz BI IT
              go_wp2_with (at_mapUpdate; refine Hid.out ?_)
              refine Lib.hid ?_
              have HS3 := Lib.hid (show r3 + 1 < (w2.alloc (.cells #[.slice A m cc] 27)).heap.size by have h1 := HS2.out; have h2 := HSZ.out; simp; omega)
              generalize w2.alloc (.cells #[.slice A m cc] 27) = w3 at *
              refine wpList_mapUpdate_mine rfl (.tmp 46) (.tmp 47) (.tmp 48) 51 rfl 67 27 Try.underlying51 Try.underlying67 (w.heap.size + 2) (ovr f3 f left2) BI3.out.2.2.1 rfl k rfl (.agg #[.slice A m cc]) rfl (fun w5 hm5 hg5 hs5 => ?_)
              have BI5 := BI3.out.upd1 hm5 hg5
              rw [HF.out] at BI5
              have IT5 := Lib.hid (IT3.out.1.grown hm3 (by have := HS3.out; omega) (by have := HS3.out; have := RLT3.out; omega) hg5 (by omega) (by have := RLT3.out; omega))
              have HS5 := Lib.hid (show r3 < w5.heap.size by rw [hs5]; have := HS3.out; omega)
              have hm44 : IsMap w5 S (.map b4) f4 := hm4.below BI5.2.2.2.2.1
              have HM4 := Lib.hid hm44
              have BI6 := Lib.hid BI5
              clear hm5 hg5 hs5 BI5 BI3 hm44 HF
              have HML := Lib.hid (show iterLeft w5 r3 (.map b3) < iterLeft wr r3 (.map b3) by rw [IT5.out.2, IT3.out.2]; exact HLT.out)
              clear IT3 HLT HS3 HS2
              rcases hf4 k with h4 | h4
              · have hz4 : (f4 k).getD (.bool false) = .bool false := by rw [h4]; rfl
                have HWS := Lib.hid (wov_skip (f3 := f3) (W := W) ND.out h4)
                clear h4
                go_wp2_with (at_lookup; refine wpList_lookup_mine rfl _ _ 133 false rfl 67 4 Try.underlying133 Try.underlying67 (.bool false) bool_zero _ _ f4 HM4.out rfl k rfl ?_; rw [hz4]; simp only [if_false, Bool.false_eq_true])
                go_roundw
                case rel =>
                  (repeat apply Exists.intro)
                  exact ⟨⟨left2.erase k, Lib.hid IT5.out.1, Lib.hid (ND.out.erase _), by rw [← HWS.out]; exact BI6, HS5⟩, rfl⟩
                case measure => exact HML.out
              · have hz4 : (f4 k).getD (.bool false) = .bool true := by rw [h4]; rfl
                have HWS := Lib.hid (wov_step (W := W) ND.out HFK.out h4)
                have hlk : (wmap (wov f3 f4 W left2) k).getD (.int .u32 0) = .int .u32 ((W k).getD 0) := by
                  unfold wmap
                  rw [wov_in HKL.out]
                  cases W k <;> rfl
                have hwr : IntKind.u32.wrap ((W k).getD 0 + 1) = ((W k).getD 0 + 1) % 4294967296 := IntKind.wrap_u32 _
                clear h4
                generalize (W k).getD 0 = y at *
                generalize (y + 1) % 4294967296 = z at *
                go_wp2_with (first
                  | (at_lookup; refine wpList_lookup_mine rfl _ _ 133 false rfl 67 4 Try.underlying133 Try.underlying67 (.bool false) bool_zero _ _ f4 HM4.out rfl k rfl ?_; rw [hz4]; simp only [if_false, Bool.false_eq_true])
                  | (at_lookup; refine wpList_lookup_mine rfl _ _ 52 false rfl 67 60 Try.underlying52 Try.underlying67 (.int .u32 0) u32_zero (fun _ => True) _ (wmap (wov f3 f4 W left2)) (.inr ⟨w.heap.size + 3, rfl, trivial, BI6.out.2.2.2.1.lt, BI6.out.2.2.2.1⟩) rfl k rfl ?_; rw [hlk]; simp only [if_false, Bool.false_eq_true])
                  | (at_mapUpdate; refine Hid.out ?_))
                refine Lib.hid ?_
                refine wpList_mapUpdate_mine rfl (.tmp 52) (.tmp 53) (.tmp 55) 52 rfl 67 60 Try.underlying52 Try.underlying67 (w.heap.size + 3) (wmap (wov f3 f4 W left2)) BI6.out.2.2.2.1 rfl k rfl (.int .u32 z) rfl (fun w6 hm6 hg6 hs6 => ?_)
                have BI7 := BI6.out.upd2 hm6 hg6
                rw [HWS.out] at BI7
                have BI8 := Lib.hid BI7
                have IT6 := Lib.hid (IT5.out.1.grown hm3 HS5.out (by have := HS5.out; have := RLT3.out; omega) hg6 (by omega) (by have := RLT3.out; omega))
                have HS6 := Lib.hid (show r3 < w6.heap.size by rw [hs6]; exact HS5.out)
                clear hm6 hg6 hs6 BI7
                go_wp2
                go_roundw
                case rel =>
                  (repeat apply Exists.intro)
                  exact ⟨⟨left2.erase k, Lib.hid IT6.out.1, Lib.hid (ND.out.erase _), BI8, HS6⟩, rfl⟩
                case measure => rw [IT6.out.2]; exact HML.out
        · obtain ⟨y, rfl⟩ : ∃ y, u = .int .u32 y := by
            unfold wmap at hf
            cases hw : W k with
            | none => rw [hw] at hf; cases hf
            | some y => rw [hw] at hf; cases hf; exact ⟨y, rfl⟩
          have BI3 := Lib.hid (BI.out.grown hgr (by have := RLT.out; omega))
          have IT3 := Lib.hid (And.intro hit hlt)
          have HF := Lib.hid (part_step ND.out hf)
          have HS2 := Lib.hid (show r2 < w2.heap.size by rw [hsz]; exact HSZ.out)
          clear hk hf hit hgr hlt hsz BI IT HSZ
          go_wp2_with (at_mapUpdate; refine Hid.out ?_)
          refine Lib.hid ?_
          refine wpList_mapUpdate_mine rfl (.tmp 36) (.tmp 37) (.tmp 38) 52 rfl 67 60 Try.underlying52 Try.underlying67 (w.heap.size + 3) (part (wmap W) left2) BI3.out.2.2.2.1 rfl k rfl (.int .u32 y) rfl (fun w5 hm5 hg5 hs5 => ?_)
          have BI5 := Lib.hid (BI3.out.upd2 hm5 hg5)
          have IT5 := Lib.hid (IT3.out.1.grown h2 HS2.out (by have := HS2.out; have := RLT.out; omega) hg5 (by omega) (by have := RLT.out; omega))
          have HS5 := Lib.hid (show r2 < w5.heap.size by rw [hs5]; exact HS2.out)
          clear hm5 hg5 hs5
          go_wp2
          go_roundw
          case rel =>
            (repeat apply Exists.intro)
            exact ⟨⟨left2.erase k, Lib.hid IT5.out.1, Lib.hid (ND.out.erase _), by rw [← HF.out]; exact BI5, HS5⟩, rfl⟩
          case measure => rw [IT5.out.2]; exact IT3.out.2
    · obtain ⟨A, m, cc, rfl⟩ : ∃ A m cc, u = .agg #[.slice A m cc] := by
        rcases hg k with ⟨h, _⟩ | ⟨u', l, h1, _, A, m, cc, rfl, _⟩
        · rw [h] at hf; cases hf
        · rw [h1] at hf; cases hf; exact ⟨A, m, cc, rfl⟩
      have BI3 := Lib.hid ((BI.out.grown hgr (Nat.le_refl _)).alloc (.cells #[.slice A m cc] 27))
      have IT3 := Lib.hid (hit.alloc hm (by rw [hsz]; exact HSZ.out) (by rw [hsz]; have := HSZ.out; omega) (.cells #[.slice A m cc] 27))
      have HF := Lib.hid (part_step ND.out hf)
      have HLT := Lib.hid hlt
      have HS2 := Lib.hid hsz
      clear hk hf hit hgr hlt hsz BI IT
      go_wp2_with (at_mapUpdate; refine Hid.out ?_)
      refine Lib.hid ?_
      have HS3 := Lib.hid (show w.heap.size + 6 ≤ (w2.alloc (.cells #[.slice A m cc] 27)).heap.size by have h1 := HS2.out; have h2 := HSZ.out; simp; omega)
      generalize w2.alloc (.cells #[.slice A m cc] 27) = w3 at *
      refine wpList_mapUpdate_mine rfl (.tmp 25) (.tmp 26) (.tmp 27) 51 rfl 67 27 Try.underlying51 Try.underlying67 (w.heap.size + 2) (part f left2) BI3.out.2.2.1 rfl k rfl (.agg #[.slice A m cc]) rfl (fun w5 hm5 hg5 hs5 => ?_)
      have BI5 := Lib.hid (BI3.out.upd1 hm5 hg5)
      have IT5 := Lib.hid (IT3.out.1.grown hm (by have := HS3.out; omega) (by have := HS3.out; omega) hg5 (by omega) (by omega))
      have HS5 := Lib.hid (show w.heap.size + 5 ≤ w5.heap.size by rw [hs5]; have := HS3.out; omega)
      clear hm5 hg5 hs5
      go_wp2
      go_roundw
      case rel =>
        (repeat apply Exists.intro)
        exact ⟨⟨left2.erase k, Lib.hid IT5.out.1, Lib.hid (ND.out.erase _), by rw [← HF.out]; exact BI5, HS5⟩, rfl⟩
      case measure => rw [IT5.out.2, IT3.out.2]; exact HLT.out
end Go.Proofs.Ytpejhgkcofilmaa
