/- The walk of slices.Insert over entries: one entry put into a full row. Conditions: at most 1000 entries. -/
import Derived.Test.YtilapnejkdgomaaDoorMgC
set_option linter.unusedVariables false
set_option linter.unusedSimpArgs false
namespace Go.Proofs.YtilapnejkdgomaaDoor
open Go.RowKit

theorem drew_cell (w : World) (y : Addr) : w.drew.cell? y = w.cell? y := rfl
theorem drew_frozen (w : World) (y : Addr) : w.drew.frozen? y = w.frozen? y := rfl
def zE : Value := entV ⟨0, 0, 0, 0, 0, false⟩
theorem zero_size (k : Nat) : (Builtin.zeroCells zE.cells k).size = k * 6 := by
  simp [Builtin.zeroCells, zE, entV, Value.cells]
set_option maxRecDepth 100000 in
set_option maxHeartbeats 12800000 in
theorem insI_grow (base g n i q : Nat) (L : List Ent) (x : Ent) (w : World) (hO : OwnE w base (.slice (some ⟨g, 0, none⟩) n n) L) (hx : EBox w q x) (hb : base ≤ w.heap.size) (hi : i < n) (hn : n ≤ 1000) :
    Calls Tryd.prog 38 #[.slice (some ⟨g, 0, none⟩) n n, .int .i64 i, .slice (some ⟨q, 0, none⟩) 1 1] w fun e w' =>
      ∃ v', e = .returned v' ∧ OwnE w' base v' (L.take i ++ x :: L.drop i) ∧ Below w.heap.size w w' ∧ v'.ownBlock = some w.heap.size := by
  obtain ⟨cur, p1, p2, p3, p4, p5, p6⟩ := hO.parts
  have hE := hO.er
  obtain ⟨i0, hi0, hz0, hzs, hzb⟩ := infoE
  have hsz := Tryd.sizeE
  have hbw : g < w.heap.size := hE.lt
  have hvw : q < w.heap.size := hx.lt
  have hkk : (n : Int) + 1 - (i : Int) = ((n + 1 - i : Nat) : Int) := by omega
  have hik : i + (n + 1 - i) = n + 1 := by omega
  have hold : (Builtin.firstCells i0.size i (.slice (some ⟨g, 0, none⟩) i n)).run Tryd.prog w.drew = .ok (flatE (L.take i)).toArray w.drew := by
    rw [hzs]
    exact run_firstCells_some w.drew 6 i ⟨g, 0, none⟩ i n (flatE (L.take i)) (by rw [flatE_length, List.length_take]; omega) (fun j v hj => by
      rw [Addr.add_lit]
      have h := hE.tail 0 j v (by
        rw [List.drop_zero]
        have e2 : flatE L = flatE (L.take i) ++ flatE (L.drop i) := by unfold flatE; rw [← List.flatMap_append, List.take_append_drop]
        rw [e2, List.getElem?_append_left (List.getElem?_eq_some_iff.1 hj).1]
        exact hj)
      rwa [Nat.zero_mul] at h)
  have hrz : ∀ ty, (Builtin.append_ #[22, 3] ty #[.slice (some ⟨g, 0, none⟩) i n, .int .i64 ((n : Int) + 1 - (i : Int))]).run Tryd.prog w =
      .ok (.slice (some ⟨w.heap.size, 0, none⟩) (n + 1) (grownCap w (n + 1) n 46)) (w.drew.alloc (.cells ((flatE (L.take i)).toArray ++ Builtin.zeroCells zE.cells (n + 1 - i) ++ Builtin.zeroCells zE.cells (grownCap w (n + 1) n 46 - (n + 1))) 46)) := fun ty => by
    have h := Lib.run_append_grow_zeros w 22 3 ty 46 i0 _ .i64 .i64 Tryd.underlying22 Tryd.underlying3 hi0 hz0 (some ⟨g, 0, none⟩) i n (flatE (L.take i)) hold (n + 1 - i) (by omega) (by omega) (by omega) (by omega) (by rw [hzb]; omega) (by rw [hzb, hik]; exact growslice_fits (by omega) (by omega))
    rw [hik] at h
    rw [hkk]
    exact h
  obtain ⟨G, hG⟩ : ∃ G, G = grownCap w (n + 1) n 46 := ⟨_, rfl⟩
  have hGn : n + 1 ≤ G := by rw [hG]; exact grownCap_ge w _ _ _
  have hG63 : G ≤ maxLen := by rw [hG]; exact grownCap_le_maxLen w (n + 1) n _ (by unfold maxLen; omega)
  obtain ⟨ROW, hROW⟩ : ∃ ROW : Array Value, ROW = (flatE (L.take i)).toArray ++ Builtin.zeroCells zE.cells (n + 1 - i) ++ Builtin.zeroCells zE.cells (G - (n + 1)) := ⟨_, rfl⟩
  rw [← hG, ← hROW] at hrz
  have hRl : ROW.size = G * 6 := by
    rw [hROW, Array.size_append, Array.size_append, zero_size, zero_size, List.size_toArray, flatE_length, List.length_take]
    omega
  have hRg : ∀ j, j < i * 6 → ROW[j]? = (flatE L)[j]? := fun j hj => by
    have e2 : flatE L = flatE (L.take i) ++ flatE (L.drop i) := by unfold flatE; rw [← List.flatMap_append, List.take_append_drop]
    have e3 : (flatE (L.take i)).length = i * 6 := by rw [flatE_length, List.length_take]; omega
    rw [hROW, e2, List.getElem?_append_left (by omega), Array.append_assoc, Array.getElem?_append_left (by rw [List.size_toArray]; omega), List.getElem?_toArray]
  obtain ⟨W1, hW1⟩ : ∃ W1, W1 = w.drew.alloc (.cells ROW 46) := ⟨_, rfl⟩
  rw [← hW1] at hrz
  have hH1 : W1.heap[w.heap.size]? = some (.cells ROW 46) := by rw [hW1]; exact heap_alloc_new w.drew _
  have hth := there_row hH1 hRl
  have hB1 : Below w.heap.size w W1 := by rw [hW1]; exact (Below.refl w.heap.size w).drew.alloc (Nat.le_refl _) _
  have hx1 : EBox W1 q x := hx.below hB1
  have hE1 : ER W1 g L := hE.below hB1
  have hsz1 : W1.heap.size = w.heap.size + 1 := by rw [hW1]; simp
  have hgN : g ≠ w.heap.size := by omega
  have hcpA : ∀ (W : World), (∀ x, W.cell? x = W1.cell? x) → (∀ x, W.frozen? x = W1.frozen? x) → ∀ ty dc, (Builtin.copy_ #[22, 22] ty #[.slice (some ⟨w.heap.size, i * 6, none⟩) (n + 1 - i) dc, .slice (some ⟨q, 0, none⟩) 1 1]).run Tryd.prog W = .ok (goInt 1) (W.setCells w.heap.size (i * 6) (entC x)) := fun W hWc hWf ty dc =>
    run_copyS W _ _ ty 46 6 1 w.heap.size (i * 6) (n + 1 - i) dc ⟨q, 0, none⟩ 1 1 (entC x) Tryd.underlying22 hsz (by simp only [Nat.min_def]; split <;> omega) rfl
      (fun j v hj => by rw [hWc]; exact hx1.range j v hj)
      (fun j hj => by rw [hWc, hWf]; exact there_part hth (m := 6) (k := i * 6) (by omega) j hj) (ent_ones x)
  have hdl : (flatE (L.drop i)).length = (n - i) * 6 := by rw [flatE_length, List.length_drop, p3]
  have hcpB : ∀ (W : World), (∀ y, W.cell? y = (W1.setCells w.heap.size (i * 6) (entC x)).cell? y) → (∀ y, W.frozen? y = (W1.setCells w.heap.size (i * 6) (entC x)).frozen? y) → ∀ ty dc sc, (Builtin.copy_ #[22, 22] ty #[.slice (some ⟨w.heap.size, (i + 1) * 6, none⟩) (n - i) dc, .slice (some ⟨g, i * 6, none⟩) (n - i) sc]).run Tryd.prog W = .ok (goInt ((n - i : Nat) : Int)) (W.setCells w.heap.size ((i + 1) * 6) (flatE (L.drop i))) := fun W hWc hWf ty dc sc =>
    run_copyS W _ _ ty 46 6 (n - i) w.heap.size ((i + 1) * 6) (n - i) dc ⟨g, i * 6, none⟩ (n - i) sc (flatE (L.drop i)) Tryd.underlying22 hsz (by simp) hdl
      (fun j v hj => by
        rw [hWc, World.cell?_setCells_out _ _ _ _ _ (fun h _ => absurd h (by rw [Addr.add_lit]; exact hgN)), Addr.add_lit]
        exact hE1.tail i j v hj)
      (fun j hj => by rw [hWc, hWf]; exact World.there_setCells (there_part hth (m := (n - i) * 6) (k := (i + 1) * 6) (by omega)) _ _ _ j (by rw [hdl] at hj; exact hj)) (flatE_one _)
  obtain ⟨W2, hW2⟩ : ∃ W2, W2 = W1.setCells w.heap.size (i * 6) (entC x) := ⟨_, rfl⟩
  have hcA := hcpA W1 (fun _ => rfl) (fun _ => rfl) 3 (G - i)
  rw [← hW2] at hcA
  have hcB := hcpB W2 (fun _ => by rw [hW2]) (fun _ => by rw [hW2]) 3 (G - (i + 1)) (n - i)
  have hcB2 := hcpB W2.drew (fun y => by rw [drew_cell, hW2]) (fun y => by rw [drew_frozen, hW2]) 3 (G - (i + 1)) (n - i)
  have HF := Lib.hid (show OwnE (W2.drew.setCells w.heap.size ((i + 1) * 6) (flatE (L.drop i))) base (.slice (some ⟨w.heap.size, 0, none⟩) (n + 1) G) (L.take i ++ x :: L.drop i) from by
    obtain ⟨cur', g1, g2⟩ := (Shp.setCells (entC x) W1 w.heap.size (i * 6)).trans (Shp.setCells (flatE (L.drop i)) _ w.heap.size ((i + 1) * 6)) w.heap.size ROW _ _ hH1
    have hl : (L.take i ++ x :: L.drop i).length = n + 1 := by rw [List.length_append, List.length_cons, List.length_take, List.length_drop]; omega
    have hER := ER.ins_grow (w := W1) (g := w.heap.size) (L := L) (x := x) (i := i) (by omega) (by omega) (by rw [p3]; exact there_part hth (k := 0) (by omega)) (fun j hj hji t v hv => by
      have ht : t < 6 := by rw [← entC_len L[j]]; exact (List.getElem?_eq_some_iff.1 hv).1
      have hc : ∀ o, W1.cell? ⟨w.heap.size, o, none⟩ = ROW[o]? := fun o => by simp [World.cell?, hH1]
      rw [hc, hRg _ (by omega), show j * 6 + t = 6 * j + t by omega, flatE_get L j hj t ht]
      exact hv)
    have hf := OwnE.of_er (base := base) g1 hb hG63 (g2.trans hRl) (by rw [hl]; exact hGn) hER
    rw [hl] at hf
    rw [hW2, ← drew_setCells]
    exact World.ownsRow.drew hf)
  have HBW := Lib.hid (show Below w.heap.size w (W2.drew.setCells w.heap.size ((i + 1) * 6) (flatE (L.drop i))) from by
    rw [hW2, ← drew_setCells]
    have hg := (grown_setCells (entC x) W1 w.heap.size (i * 6)).trans (grown_setCells (flatE (L.drop i)) _ w.heap.size ((i + 1) * 6))
    have := hB1.grown hg (by omega) (fun k hk => by have : w.heap.size = k := Option.some.inj hk; omega)
    exact this.drew)
  have hz2 : ¬ ((i : Int) = (n : Int)) := by omega
  have hz3 : (n : Int) < (n : Int) + 1 := by omega
  have hi1 : (i : Int) ≤ (n : Int) := by omega
  have hi2 : (i : Int) + 1 ≤ (n : Int) + 1 := by omega
  have hi3 : (i : Int) ≤ (n : Int) + 1 := by omega
  have hnn : (n : Int) ≤ 1000 := by omega
  have hb2 : ¬ (G = i + 1) := by omega
  have hb4 : ¬ (G = i) := by omega
  have hb5 : ¬ (n = i) := by omega
  have htn : ((i : Int) + 1).toNat = i + 1 := by omega
  have htn2 : ((n : Int) + 1).toNat = n + 1 := by omega
  have hw1 : IntKind.i64.wrap ((i : Int) + 1) = (i : Int) + 1 := by rw [IntKind.wrap_i64]; omega
  have hw2 : IntKind.i64.wrap ((n : Int) + 1 - (i : Int)) = (n : Int) + 1 - (i : Int) := by rw [IntKind.wrap_i64]; omega
  have hb1 : (0 : Int) ≤ (i : Int) + 1 := by omega
  have mixed : Tryd.prog.follows Departure.mixedOrders = true := by kernel_rfl
  have HRZ := Lib.hid hrz
  clear hrz hcpA hcpB hO hx p1 p2 p3 p4 p5 p6 hth hE hdl hsz hi hn hW1 hRg hRl hG hROW hH1 hB1 hx1 hE1 hsz1 hold hi0 hz0 hzs hzb hbw hvw hb hGn hG63 hgN hW2 hkk hik
  go_enter Tryd.func38, Tryd.ntmps38
  go_wp2_with (at_builtin; refine Lib.wpList_append_run _ rfl _ _ _ _ rfl _ _ rfl rfl _ _ (HRZ.out _) ?_)
  go_region_law_o (refine step_copy_runI rfl _ _ 22 22 rfl (.slice (some ⟨w.heap.size, (i + 1) * 6, none⟩) (n - i) (G - (i + 1))) (.slice (some ⟨g, i * 6, none⟩) (n - i) (n - i)) (by simp [Act.eval, Act.put]) (by simp [Act.eval, Act.put]) hcB2 ?_)
  go_wp2
  go_ret
  exact ⟨_, rfl, HF.out, HBW.out, rfl⟩
end Go.Proofs.YtilapnejkdgomaaDoor
