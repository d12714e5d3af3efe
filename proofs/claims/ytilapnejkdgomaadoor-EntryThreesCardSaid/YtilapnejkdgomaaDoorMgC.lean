/- The walk of slices.Insert over entries: one entry put into a row of the call's own. Conditions: at most 1000 entries. -/
import Derived.Test.YtilapnejkdgomaaDoorMgB
set_option linter.unusedVariables false
set_option linter.unusedSimpArgs false
namespace Go.Proofs.YtilapnejkdgomaaDoor
open Go.RowKit

theorem sizeE_run (w : World) : (Go.sizeOf 46).run Tryd.prog w = .ok 6 w := by
  obtain ⟨i, h0, h1, h2, h3⟩ := infoE
  simp [sizeOf, typeInfo, h0, h2]
theorem EBox.shape {w : World} {q : Nat} {x : Ent} (h : EBox w q x) : w.shape? q = some (46, 6) := by
  simp only [World.shape?]; rw [h]; rfl
theorem EBox.range {w : World} {q : Nat} {x : Ent} (h : EBox w q x) : ∀ j v, (entC x)[j]? = some v → w.cell? ((⟨q, 0, none⟩ : Addr).add j) = some v := fun j v hv => by
  have := (ER.box h).get 0 (by simp) j v hv
  rw [Addr.add_lit]
  exact this
theorem EBox.unfrozen {w : World} {q : Nat} {x : Ent} (h : EBox w q x) (o : Nat) : w.frozen? ⟨q, o, none⟩ = false := by
  simp only [World.frozen?]; rw [h]; simp [entO]
theorem ent_ones (x : Ent) : ∀ v ∈ entC x, v.oneCell' = true := fun v hv => flatE_one [x] v (by unfold flatE; simpa using hv)

theorem ER.tail {w : World} {g : Nat} {L : List Ent} (h : ER w g L) (i : Nat) : w.rangeAt g (i * 6) (flatE (L.drop i)) := fun j v hv => by
  have hj : j < (L.drop i).length * 6 := by rw [← flatE_length]; exact (List.getElem?_eq_some_iff.1 hv).1
  rw [List.length_drop] at hj
  have hg := flatE_get (L.drop i) (j / 6) (by rw [List.length_drop]; omega) (j % 6) (by omega)
  rw [show 6 * (j / 6) + j % 6 = j by omega] at hg
  have hk : i + j / 6 < L.length := by omega
  rw [List.getElem_drop] at hg
  have := h.get (i + j / 6) hk (j % 6) v (by rw [← hg]; exact hv)
  rwa [show (i + j / 6) * 6 + j % 6 = i * 6 + j by omega] at this
set_option maxRecDepth 100000 in
set_option maxHeartbeats 12800000 in
theorem insI_shift (base g n c i q : Nat) (L : List Ent) (x : Ent) (w : World) (hO : OwnE w base (.slice (some ⟨g, 0, none⟩) n c) L) (hx : EBox w q x) (hq : q ≠ g) (hi : i < n) (hc : n + 1 ≤ c) (hn : n ≤ 1000) :
    Calls Tryd.prog 38 #[.slice (some ⟨g, 0, none⟩) n c, .int .i64 i, .slice (some ⟨q, 0, none⟩) 1 1] w fun e w' =>
      e = .returned (.slice (some ⟨g, 0, none⟩) (n + 1) c) ∧ OwnE w' base (.slice (some ⟨g, 0, none⟩) (n + 1) c) (L.take i ++ x :: L.drop i) ∧ w.grownBy w' (some g) := by
  obtain ⟨cur, p1, p2, p3, p4, p5, p6⟩ := hO.parts
  have hE := hO.er
  have hth := there_row p1 p6
  have hov : ∀ lb cb o, (callFunc 58 #[.slice (some ⟨q, 0, none⟩) 1 1, .slice (some ⟨g, o, none⟩) lb cb]).run Tryd.prog w = .ok (.value (.bool false)) w := fun lb cb o => by
    rw [run_callFunc_extern Tryd.func58 (by kernel_rfl) (by kernel_rfl) (by kernel_rfl) (e := Extern.SlicesOverlaps.overlaps #[22, 22] #[4]) (by kernel_rfl),
      Lib.run_overlaps_apart w 22 4 46 Tryd.underlying22 6 sizeE_run ⟨q, 0, none⟩ ⟨g, o, none⟩ 1 1 lb cb hq 46 46 6 (c * 6) hx.shape (by simp only [World.shape?]; rw [p1]; simp [p6]) (by omega) (hx.unfrozen _) (hx.unfrozen _)]
    rfl
  have hdl : (flatE (L.drop i)).length = (n - i) * 6 := by rw [flatE_length, List.length_drop, p3]
  have hsz := Tryd.sizeE
  have hcp1 : ∀ ty dc sc, (Builtin.copy_ #[22, 22] ty #[.slice (some ⟨g, (i + 1) * 6, none⟩) (n - i) dc, .slice (some ⟨g, i * 6, none⟩) (n + 1 - i) sc]).run Tryd.prog w.drew = .ok (goInt ((n - i : Nat) : Int)) (w.drew.setCells g ((i + 1) * 6) (flatE (L.drop i))) := fun ty dc sc =>
    run_copyS w.drew _ _ ty 46 6 (n - i) g ((i + 1) * 6) (n - i) dc ⟨g, i * 6, none⟩ (n + 1 - i) sc (flatE (L.drop i)) Tryd.underlying22 hsz (by simp only [Nat.min_def]; split <;> omega) hdl
      (fun j v hj => by
        rw [Addr.add_lit]
        exact hE.tail i j v hj)
      (there_part (n := c * 6) hth (by rw [hdl]; omega)) (flatE_one _)
  obtain ⟨W1, hW1⟩ : ∃ W1, W1 = w.drew.setCells g ((i + 1) * 6) (flatE (L.drop i)) := ⟨_, rfl⟩
  have hcp2 : ∀ (W : World), (∀ x, W.cell? x = W1.cell? x) → (∀ x, W.frozen? x = W1.frozen? x) → ∀ ty dc, (Builtin.copy_ #[22, 22] ty #[.slice (some ⟨g, i * 6, none⟩) (n + 1 - i) dc, .slice (some ⟨q, 0, none⟩) 1 1]).run Tryd.prog W = .ok (goInt 1) (W.setCells g (i * 6) (entC x)) := fun W hWc hWf ty dc =>
    run_copyS W _ _ ty 46 6 1 g (i * 6) (n + 1 - i) dc ⟨q, 0, none⟩ 1 1 (entC x) Tryd.underlying22 hsz (by simp only [Nat.min_def]; split <;> omega) rfl
      (fun j v hj => by
        rw [hWc, hW1, World.cell?_setCells_out _ _ _ _ _ (fun h _ => absurd h (by rw [Addr.add_lit]; exact hq))]
        exact hx.range j v hj)
      (fun j hj => by rw [hWc, hWf, hW1]; exact World.there_setCells (w := w.drew) (there_part (n := c * 6) hth (m := 6) (k := i * 6) (by omega)) _ _ _ j hj) (ent_ones x)
  rw [← hW1] at hcp1
  have hz2 : ¬ ((i : Int) = (n : Int)) := by omega
  have hz3 : ¬ ((c : Int) < (n : Int) + 1) := by omega
  have hi1 : (i : Int) ≤ (n : Int) := by omega
  have hi2 : (i : Int) + 1 ≤ (n : Int) + 1 := by omega
  have hi3 : (i : Int) ≤ (n : Int) + 1 := by omega
  have hc1 : (n : Int) + 1 ≤ (c : Int) := by omega
  have hnn : (n : Int) ≤ 1000 := by omega
  have hw1 : IntKind.i64.wrap ((i : Int) + 1) = (i : Int) + 1 := by rw [IntKind.wrap_i64]; omega
  have hb1 : (0 : Int) ≤ (i : Int) + 1 := by omega
  have mixed : Tryd.prog.follows Departure.mixedOrders = true := by kernel_rfl
  have hb2 : ¬ (c = i + 1) := by omega
  have hb4 : ¬ (c = i) := by omega
  have htn : ((i : Int) + 1).toNat = i + 1 := by omega
  have htn2 : ((n : Int) + 1).toNat = n + 1 := by omega
  have HCP1 := Lib.hid hcp1
  have HCP2 := Lib.hid hcp2
  have HP := Lib.hid (show w.heap[g]? = some (.cells cur 46) ∧ base ≤ g ∧ L.length = n ∧ n ≤ c ∧ c ≤ maxLen ∧ cur.size = c * 6 from ⟨p1, p2, p3, p4, p5, p6⟩)
  have HTH := Lib.hid hth
  have HE := Lib.hid hE
  have HW1 := Lib.hid hW1
  clear hcp1 hcp2 hO hx p1 p2 p3 p4 p5 p6 hth hE hdl hsz hi hc hn hW1
  go_enter Tryd.func38, Tryd.ntmps38
  go_wp2_with (simp only [hov])
  go_region_law_o (refine step_copy_runI rfl _ _ 22 22 rfl (.slice (some ⟨g, (i + 1) * 6, none⟩) (n - i) (c - (i + 1))) (.slice (some ⟨g, i * 6, none⟩) (n + 1 - i) (c - i)) (by simp [Act.eval, Act.put]) (by simp [Act.eval, Act.put]) (HCP1.out 3 (c - (i + 1)) (c - i)) ?_)
  have hc2 := HCP2.out W1 (fun _ => rfl) (fun _ => rfl) 3 (c - i)
  go_wp2
  go_ret
  obtain ⟨p1, p2, p3, p4, p5, p6⟩ := HP.out
  obtain rfl := HW1.out
  obtain ⟨cur', g1, g2⟩ := (Shp.setCells (flatE (L.drop i)) w.drew g ((i + 1) * 6)).trans (Shp.setCells (entC x) _ g (i * 6)) g cur _ _ p1
  have hl : (L.take i ++ x :: L.drop i).length = n + 1 := by rw [List.length_append, List.length_cons, List.length_take, List.length_drop]; omega
  have hf := OwnE.of_er (base := base) g1 p2 p5 (g2.trans p6) (by rw [hl]; omega) (ER.ins_shift (w := w.drew) (x := x) (i := i) (by omega) HE.out (there_part (n := c * 6) HTH.out (k := 0) (by omega)))
  rw [hl] at hf
  have h := (grown_setCells (flatE (L.drop i)) w.drew g ((i + 1) * 6)).trans (grown_setCells (entC x) _ g (i * 6))
  exact ⟨rfl, hf, ⟨h.os, h.tape, h.output, h.size, h.block⟩⟩
theorem EBox.reads {w : World} {q : Nat} {x : Ent} (h : EBox w q x) : Reads w (fun _ => True) 6 (some ⟨q, 0, none⟩) 1 (entC x) :=
  ⟨rfl, fun _ => ⟨q, 0, rfl, h.lt, trivial, fun j u hu => by have := h.range j u hu; rwa [Addr.add_lit] at this⟩⟩
--END--
set_option maxRecDepth 100000 in
set_option maxHeartbeats 12800000 in
theorem end_nil (base q : Nat) (L : List Ent) (x : Ent) (w : World) (hO : OwnE w base (.slice none 0 0) L) (hx : EBox w q x) (hb : base ≤ w.heap.size) (hn : 0 ≤ 1000) (hl : L.length = 0) :
    Calls Tryd.prog 38 #[.slice none 0 0, .int .i64 0, .slice (some ⟨q, 0, none⟩) 1 1] w fun e w' =>
      ∃ v', e = .returned v' ∧ OwnE w' base v' (L ++ [x]) ∧ w.grownBy w' (Value.slice none 0 0).ownBlock ∧ (v'.ownBlock = (Value.slice none 0 0).ownBlock ∨ v'.ownBlock = some w.heap.size) := by
  obtain ⟨ie, hie0, hie1, hie2, hie3⟩ := infoE
  have HR := Lib.hid hx.reads
  have HO := Lib.hid (show w.ownsRow base 46 6 (.slice none 0 0) 0 (flatE L) from hl ▸ hO)
  have HL := Lib.hid hl
  have HB := Lib.hid hb
  have hnn : True := trivial
  clear hO hx hl hb
  go_enter Tryd.func38, Tryd.ntmps38
  go_wp2_with (at_builtin; (refine wpList_append_any rfl (.tmp 23) (.tmp 24) 22 rfl base 46 ie _ 6 40 Tryd.underlying22 hie0 hie1 hie2 hie3 rfl (by omega) _ 0 (flatE L) rfl HO.out _ _ 1 1 _ rfl HR.out ?k1 ?k2 ?k3 ?k4 ?k5))
  case k1 => exact ent_ones x
  case k2 => simp only [maxLen]; omega
  case k3 => omega
  case k4 => exact HB.out
  case k5 =>
    intro v' wg ho hg hor
    have HO2 := Lib.hid (show OwnE wg base v' (L ++ [x]) from by
      have h : wg.ownsRow base 46 6 v' (0 + 1) (flatE L ++ entC x) := ho
      have e1 : (L ++ [x]).length = 0 + 1 := by rw [List.length_append, HL.out]; rfl
      have e2 : flatE (L ++ [x]) = flatE L ++ entC x := by unfold flatE; rw [List.flatMap_append]; simp
      unfold OwnE
      rw [e1, e2]
      exact h)
    have HG := Lib.hid hg
    have HR2 := Lib.hid hor
    clear ho hg hor
    go_wp2
    go_ret
    exact ⟨v', rfl, HO2.out, HG.out, HR2.out⟩

set_option maxRecDepth 100000 in
set_option maxHeartbeats 12800000 in
theorem end_full (base g n q : Nat) (L : List Ent) (x : Ent) (w : World) (hO : OwnE w base (.slice (some ⟨g, 0, none⟩) n n) L) (hx : EBox w q x) (hb : base ≤ w.heap.size) (hn : n ≤ 1000) (hl : L.length = n) :
    Calls Tryd.prog 38 #[.slice (some ⟨g, 0, none⟩) n n, .int .i64 n, .slice (some ⟨q, 0, none⟩) 1 1] w fun e w' =>
      ∃ v', e = .returned v' ∧ OwnE w' base v' (L ++ [x]) ∧ w.grownBy w' (Value.slice (some ⟨g, 0, none⟩) n n).ownBlock ∧ (v'.ownBlock = (Value.slice (some ⟨g, 0, none⟩) n n).ownBlock ∨ v'.ownBlock = some w.heap.size) := by
  obtain ⟨ie, hie0, hie1, hie2, hie3⟩ := infoE
  have HR := Lib.hid hx.reads
  have HO := Lib.hid (show w.ownsRow base 46 6 (.slice (some ⟨g, 0, none⟩) n n) n (flatE L) from hl ▸ hO)
  have HL := Lib.hid hl
  have HB := Lib.hid hb
  have hnn : (n : Int) ≤ 1000 := by omega
  clear hO hx hl hb
  go_enter Tryd.func38, Tryd.ntmps38
  go_wp2_with (at_builtin; (refine wpList_append_any rfl (.tmp 23) (.tmp 24) 22 rfl base 46 ie _ 6 40 Tryd.underlying22 hie0 hie1 hie2 hie3 rfl (by omega) _ n (flatE L) rfl HO.out _ _ 1 1 _ rfl HR.out ?k1 ?k2 ?k3 ?k4 ?k5))
  case k1 => exact ent_ones x
  case k2 => simp only [maxLen]; omega
  case k3 => omega
  case k4 => exact HB.out
  case k5 =>
    intro v' wg ho hg hor
    have HO2 := Lib.hid (show OwnE wg base v' (L ++ [x]) from by
      have h : wg.ownsRow base 46 6 v' (n + 1) (flatE L ++ entC x) := ho
      have e1 : (L ++ [x]).length = n + 1 := by rw [List.length_append, HL.out]; rfl
      have e2 : flatE (L ++ [x]) = flatE L ++ entC x := by unfold flatE; rw [List.flatMap_append]; simp
      unfold OwnE
      rw [e1, e2]
      exact h)
    have HG := Lib.hid hg
    have HR2 := Lib.hid hor
    clear ho hg hor
    go_wp2
    go_ret
    exact ⟨v', rfl, HO2.out, HG.out, HR2.out⟩

set_option maxRecDepth 100000 in
set_option maxHeartbeats 12800000 in
theorem end_room (base g n c q : Nat) (L : List Ent) (x : Ent) (w : World) (hO : OwnE w base (.slice (some ⟨g, 0, none⟩) n c) L) (hx : EBox w q x) (hb : base ≤ w.heap.size) (hn : n ≤ 1000) (hl : L.length = n) (hc : n < c) :
    Calls Tryd.prog 38 #[.slice (some ⟨g, 0, none⟩) n c, .int .i64 n, .slice (some ⟨q, 0, none⟩) 1 1] w fun e w' =>
      ∃ v', e = .returned v' ∧ OwnE w' base v' (L ++ [x]) ∧ w.grownBy w' (Value.slice (some ⟨g, 0, none⟩) n c).ownBlock ∧ (v'.ownBlock = (Value.slice (some ⟨g, 0, none⟩) n c).ownBlock ∨ v'.ownBlock = some w.heap.size) := by
  obtain ⟨ie, hie0, hie1, hie2, hie3⟩ := infoE
  have HR := Lib.hid hx.reads
  have HO := Lib.hid (show w.ownsRow base 46 6 (.slice (some ⟨g, 0, none⟩) n c) n (flatE L) from hl ▸ hO)
  have HL := Lib.hid hl
  have HB := Lib.hid hb
  have hnn : (n : Int) ≤ 1000 := by omega
  have hnc : ¬ c = n := by omega
  have hnc2 : (n : Int) ≤ (c : Int) := by omega
  clear hO hx hl hb
  go_enter Tryd.func38, Tryd.ntmps38
  go_wp2_with (at_builtin; (refine wpList_append_any rfl (.tmp 23) (.tmp 24) 22 rfl base 46 ie _ 6 40 Tryd.underlying22 hie0 hie1 hie2 hie3 rfl (by omega) _ n (flatE L) rfl HO.out _ _ 1 1 _ rfl HR.out ?k1 ?k2 ?k3 ?k4 ?k5))
  case k1 => exact ent_ones x
  case k2 => simp only [maxLen]; omega
  case k3 => omega
  case k4 => exact HB.out
  case k5 =>
    intro v' wg ho hg hor
    have HO2 := Lib.hid (show OwnE wg base v' (L ++ [x]) from by
      have h : wg.ownsRow base 46 6 v' (n + 1) (flatE L ++ entC x) := ho
      have e1 : (L ++ [x]).length = n + 1 := by rw [List.length_append, HL.out]; rfl
      have e2 : flatE (L ++ [x]) = flatE L ++ entC x := by unfold flatE; rw [List.flatMap_append]; simp
      unfold OwnE
      rw [e1, e2]
      exact h)
    have HG := Lib.hid hg
    have HR2 := Lib.hid hor
    clear ho hg hor
    go_wp2
    go_ret
    exact ⟨v', rfl, HO2.out, HG.out, HR2.out⟩

end Go.Proofs.YtilapnejkdgomaaDoor
