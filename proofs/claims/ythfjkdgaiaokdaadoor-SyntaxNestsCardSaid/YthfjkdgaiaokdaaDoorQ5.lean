/- The walks of slices.Equal, sameOper and Same (printed by wip/genpzi.py). Conditions: at most 1000000 parts a list. The walks of syntax.walk, size and Size (printed by wip/genpzj.py). Conditions: at most 1000000 parts. The walks of size and Size (printed by wip/genpzk.py). Conditions: at most 1000000 parts. -/
import Derived.Test.YthfjkdgaiaokdaaDoorQ4
import Derived.Test.YthfjkdgaiaokdaaDoorSxS3
set_option linter.unusedVariables false
set_option linter.unusedSimpArgs false
namespace Go.Proofs.YthfjkdgaiaokdaaDoor
open Go.RowKit

theorem SS.at {w : World} {S : Nat → Prop} {A : Option Addr} {n c : Nat} {l : List Str} (h : SS w S A n c l) (hn : 0 < n) : ∃ b q, A = some ⟨b, q, none⟩ ∧ b < w.heap.size ∧ S b ∧ ∀ j, j < (l.map bs).length → w.cell? ⟨b, q + j, none⟩ = some (.string ((l.map bs).getD j ByteArray.empty)) := by
  obtain ⟨b, q, e1, hb, hS, hx⟩ := h.2.2 hn
  refine ⟨b, q, e1, hb, hS, fun j hj => ?_⟩
  rw [List.length_map] at hj
  obtain ⟨cs, ⟨s, hs, rfl⟩, h2⟩ := hx j (by have := h.1; omega)
  have := h2 0 _ rfl
  rw [Nat.mul_one] at this
  have e : (l.map bs).getD j ByteArray.empty = bs s := by rw [List.getD_eq_getElem?_getD, List.getElem?_map, hs]; rfl
  rw [e]
  exact this
theorem map_bs_inj : ∀ {a b : List Str}, a.map bs = b.map bs → a = b
  | [], [], _ => rfl
  | [], y :: t, h => by cases h
  | x :: s, [], h => by cases h
  | x :: s, y :: t, h => by
    injection h with h1 h2
    rw [bs_inj h1, map_bs_inj h2]
/-- Whether two rows of strings are equal. -/
theorem sameP (l1 l2 : List Str) (w : World) (S S' : Nat → Prop) (A A' : Option Addr) (n c n' c' : Nat) (h1 : SS w S A n c l1) (h2 : SS w S' A' n' c' l2) (hn : n ≤ 1000000) :
    Calls Tryd.prog 51 #[.slice A n c, .slice A' n' c'] w fun e w' => e = .returned (.bool (eqC l1 l2)) ∧ Below w.heap.size w w' := by
  by_cases hnn : n = n'
  · subst hnn
    by_cases h0 : n = 0
    · subst h0
      refine (Tryd.slices_Equal_string_empty A A' c 0 c' w (by omega)).mono ?_
      rintro e w' ⟨rfl, rfl⟩
      have e1 : l1 = [] := List.eq_nil_of_length_eq_zero h1.1.symm
      have e2 : l2 = [] := List.eq_nil_of_length_eq_zero h2.1.symm
      refine ⟨?_, Below.refl _ _⟩
      rw [eqC_pos (by rw [e1, e2])]
      rfl
    · obtain ⟨b, q, rfl, -, -, hx⟩ := h1.at (by omega)
      obtain ⟨b2, q2, rfl, -, -, hy⟩ := h2.at (by omega)
      refine (Tryd.slices_Equal_string b q n c b2 q2 n c' (l1.map bs) (l2.map bs) w (by rw [List.length_map]; exact Nat.le_of_eq h1.1) (by rw [List.length_map]; exact Nat.le_of_eq h2.1) (by omega) (by omega) hx hy).mono ?_
      rintro e w' ⟨rfl, q, rfl⟩
      refine ⟨?_, ⟨rfl, rfl, rfl, Nat.le_refl _, fun _ _ => rfl⟩⟩
      rw [List.take_of_length_le (by rw [List.length_map]; exact Nat.le_of_eq h1.1.symm), List.take_of_length_le (by rw [List.length_map]; exact Nat.le_of_eq h2.1.symm)]
      by_cases h : l1 = l2
      · rw [eqC_pos h, decide_eq_true (by rw [h])]
      · rw [eqC_neg h, decide_eq_false (fun e => h (map_bs_inj e))]
  · refine (Tryd.slices_Equal_string_lens A A' n c n' c' w hnn).mono ?_
    rintro e w' ⟨rfl, rfl⟩
    refine ⟨?_, Below.refl _ _⟩
    rw [eqC_neg (fun e => hnn (by rw [h1.1, h2.1, e]))]
set_option maxRecDepth 100000 in
set_option maxHeartbeats 25600000 in
theorem sameO {x : Oper'} (hz : x.params.length ≤ 1000000 ∧ St.sizes x.body ≤ 1000000) (y : Oper') : SameO x y := by
  intro w S S' cs ds hx hy
  obtain ⟨P1, np1, cp1, B1, nb1, cb1, rfl, hp1, hb1⟩ := hx
  obtain ⟨P2, np2, cp2, B2, nb2, cb2, rfl, hp2, hb2⟩ := hy
  obtain ⟨s1, p1, b1⟩ := x
  obtain ⟨s2, p2, b2⟩ := y
  dsimp only at *
  have lnp : np1 ≤ 1000000 := by have := hp1.1; omega
  have lnb : nb1 ≤ 1000000 := by have := hb1.1.1; have := St.len_sizes b1; omega
  have ihb := sameSL hz.2
  obtain ⟨W0, hW0⟩ : ∃ W0 : World, W0 = (w.alloc (.cells #[.string (bs s1), .slice P1 np1 cp1, .slice B1 nb1 cb1] 41)).alloc (.cells #[.string (bs s2), .slice P2 np2 cp2, .slice B2 nb2 cb2] 41) := ⟨_, rfl⟩
  have hba : Below w.heap.size w (w.alloc (.cells #[.string (bs s1), .slice P1 np1 cp1, .slice B1 nb1 cb1] 41)) := (Below.refl _ _).alloc (Nat.le_refl _) _
  have hb0 : Below w.heap.size w W0 := by rw [hW0]; exact hba.alloc hba.size _
  have HF := Lib.hid (show ∀ W, Bz W0 W → (W.cell? ⟨w.heap.size, 0, none⟩ = some (.string (bs s1)) ∧ W.cell? ⟨w.heap.size, 1, none⟩ = some (.slice P1 np1 cp1) ∧ W.cell? ⟨w.heap.size, 2, none⟩ = some (.slice B1 nb1 cb1) ∧ W.cell? ⟨w.heap.size + 1, 0, none⟩ = some (.string (bs s2)) ∧ W.cell? ⟨w.heap.size + 1, 1, none⟩ = some (.slice P2 np2 cp2) ∧ W.cell? ⟨w.heap.size + 1, 2, none⟩ = some (.slice B2 nb2 cb2)) from fun W h => by
    subst hW0
    have hs1 : (w.alloc (.cells #[.string (bs s1), .slice P1 np1 cp1, .slice B1 nb1 cb1] 41)).heap.size = w.heap.size + 1 := World.size_alloc ..
    have hq := heap_alloc_new w (.cells #[.string (bs s1), .slice P1 np1 cp1, .slice B1 nb1 cb1] 41)
    have hq2 := heap_alloc_new (w.alloc (.cells #[.string (bs s1), .slice P1 np1 cp1, .slice B1 nb1 cb1] 41)) (.cells #[.string (bs s2), .slice P2 np2 cp2, .slice B2 nb2 cb2] 41)
    have hq1 := (((Below.refl _ (w.alloc (.cells #[.string (bs s1), .slice P1 np1 cp1, .slice B1 nb1 cb1] 41))).alloc (Nat.le_refl _) (.cells #[.string (bs s2), .slice P2 np2 cp2, .slice B2 nb2 cb2] 41)).block w.heap.size (lt_of_block hq)).trans hq
    rw [hs1] at hq2
    have h1 := fun j v (hv : (#[.string (bs s1), .slice P1 np1 cp1, .slice B1 nb1 cb1] : Array Value)[j]? = some v) => cell_of_Bz h (g := w.heap.size) (j := j) (v := v) (by rw [cell_of_row _ _ _ _ _ _ hq1]; exact hv) (lt_of_block hq1)
    have h2 := fun j v (hv : (#[.string (bs s2), .slice P2 np2 cp2, .slice B2 nb2 cb2] : Array Value)[j]? = some v) => cell_of_Bz h (g := w.heap.size + 1) (j := j) (v := v) (by rw [cell_of_row _ _ _ _ _ _ hq2]; exact hv) (lt_of_block hq2)
    exact ⟨h1 0 _ rfl, h1 1 _ rfl, h1 2 _ rfl, h2 0 _ rfl, h2 1 _ rfl, h2 2 _ rfl⟩)
  have HG := Lib.hid (show ∀ W, Bz W0 W → Below w.heap.size w W from fun W h => hb0.trans (h.b.mono hb0.size))
  have z0 : Bz W0 W0 := ⟨Below.refl _ _⟩
  have bl : ∀ {W : World}, Below w.heap.size w W → ∀ (S : Nat → Prop) b, b < w.heap.size → S b → W.heap[b]? = w.heap[b]? := fun h S b hlt _ => h.block b hlt
  have KP := Lib.hid (show ∀ W, Bz W0 W → _ from fun W h => sameP p1 p2 W S S' P1 P2 np1 cp1 np2 cp2 (hp1.keep (HG.out W h).size (bl (HG.out W h) S) fun _ _ h => h) (hp2.keep (HG.out W h).size (bl (HG.out W h) S') fun _ _ h => h) lnp)
  have KA := Lib.hid (show ∀ W, Bz W0 W → _ from fun W h => ihb b2 W S S' B1 B2 nb1 cb1 nb2 cb2 (hb1.below (HG.out W h)) (hb2.below (HG.out W h)) lnb)
  have NE := Lib.hid (show (s1 ≠ s2 ∨ eqC p1 p2 = false ∨ eqC b1 b2 = false) → eqC (Oper'.mk s1 p1 b1) (.mk s2 p2 b2) = false from fun h => eqC_neg fun e => by
    injection e with e1 e2 e3
    rcases h with h | h | h
    · exact h e1
    · rw [eqC_pos e2] at h; cases h
    · rw [eqC_pos e3] at h; cases h)
  have YE := Lib.hid (show s1 = s2 → eqC p1 p2 = true → eqC b1 b2 = true → eqC (Oper'.mk s1 p1 b1) (.mk s2 p2 b2) = true from fun h1 h2 h3 => by
    have e2 : p1 = p2 := Classical.byContradiction fun h => by rw [eqC_neg h] at h2; cases h2
    have e3 : b1 = b2 := Classical.byContradiction fun h => by rw [eqC_neg h] at h3; cases h3
    exact eqC_pos (by rw [h1, e2, e3]))
  generalize eqC (Oper'.mk s1 p1 b1) (.mk s2 p2 b2) = E at *
  generalize eqC p1 p2 = ep at *
  generalize eqC b1 b2 = eb at *
  clear hp1 hb1 hp2 hb2 ihb hz lnp lnb hb0 hba bl
  by_cases h : s1 = s2
  · subst h
    have qs : ((bs s1).toList == (bs s1).toList) = true := beq_self_eq_true _
    go_enter Tryd.func33, Tryd.ntmps33
    go_upto_region 1 with fail
    rw [← hW0]
    clear hW0
    obtain ⟨c0, c1, c2, d0, d1, d2⟩ := HF.out _ z0
    go_wp2_with fail
    refine (KP.out _ z0).mono ?_
    rintro e w1 ⟨rfl, hb⟩
    have z1 := z0.next hb
    clear hb c0 c1 c2 d0 d1 d2
    obtain ⟨c0, c1, c2, d0, d1, d2⟩ := HF.out _ z1
    cases ep with
    | false =>
      have h : False ∨ false = false := .inr rfl
      have HR := Lib.hid (NE.out (.inr (.inl rfl)))
      obtain rfl := HR.out
      go_wp2_with fail
      go_ret
      exact ⟨rfl, HG.out _ z1⟩
    | true =>
      go_wp2_with fail
      refine (KA.out _ z1).mono ?_
      rintro e w2 ⟨rfl, hb⟩
      have z2 := z1.next hb
      clear hb c0 c1 c2 d0 d1 d2
      obtain ⟨c0, c1, c2, d0, d1, d2⟩ := HF.out _ z2
      cases eb with
      | false =>
        have h : False ∨ false = false := .inr rfl
        have HR := Lib.hid (NE.out (.inr (.inr rfl)))
        obtain rfl := HR.out
        go_wp2_with fail
        go_ret
        exact ⟨rfl, HG.out _ z2⟩
      | true =>
        have HR := Lib.hid (YE.out (by first | trivial | rfl) (by first | trivial | rfl) (by first | trivial | rfl))
        obtain rfl := HR.out
        go_wp2_with fail
        go_ret
        exact ⟨rfl, HG.out _ z2⟩
  · have HR := Lib.hid (NE.out (.inl h))
    obtain rfl := HR.out
    have qs : ((bs s1).toList == (bs s2).toList) = false := by rw [bs_toList, bs_toList]; simp [h]
    have qs2 : ¬ (bs s1).toList = (bs s2).toList := by rw [bs_toList, bs_toList]; exact h
    go_enter Tryd.func33, Tryd.ntmps33
    go_upto_region 1 with fail
    rw [← hW0]
    clear hW0
    obtain ⟨c0, c1, c2, d0, d1, d2⟩ := HF.out _ z0
    go_wp2_with fail
    go_ret
    exact ⟨rfl, HG.out _ z0⟩
theorem sameOL {l : List Oper'} (h : ∀ o ∈ l, o.params.length ≤ 1000000 ∧ St.sizes o.body ≤ 1000000) (l2 : List Oper') : SameOL l l2 := SameOL.of fun x hx y hy => sameO (h x hx) y
theorem range2 {w : World} {b o : Nat} {u0 u1 : Value} (h : w.rangeAt b o [u0, u1]) : w.cell? ⟨b, o, none⟩ = some u0 ∧ w.cell? ⟨b, o + 1, none⟩ = some u1 := ⟨h 0 _ rfl, h 1 _ rfl⟩
set_option maxRecDepth 100000 in
set_option maxHeartbeats 25600000 in
theorem sameD (l1 l2 : List Decl') (w : World) (S S' : Nat → Prop) (A A' : Option Addr) (n c n' c' : Nat) (hl : DL w S A n c l1) (hl2 : DL w S' A' n' c' l2) (hn : n ≤ 1000000) :
    Calls Tryd.prog 31 #[.slice A n c, .slice A' n' c'] w fun e w' => e = .returned (.bool (eqC l1 l2)) ∧ Below w.heap.size w w' := by
  have HL := Lib.hid hl
  have HL2 := Lib.hid hl2
  have HLEN := Lib.hid hl.1
  have HLEN2 := Lib.hid hl2.1
  have hn6 : (n : Int) ≤ 1000000 := by omega
  have HPOS := Lib.hid (show l1 = l2 → eqC l1 l2 = true from eqC_pos)
  have HNEG := Lib.hid (show l1 ≠ l2 → eqC l1 l2 = false from eqC_neg)
  generalize eqC l1 l2 = E at *
  have hb0 : Below w.heap.size w w := Below.refl _ _
  clear hl hl2 hn
  by_cases hnn : n' = n
  · subst hnn
    go_enter Tryd.func31, Tryd.ntmps31
    go_wp2_with fail
    go_loopw [13] (fun i wx => ∃ q : Nat, q ≤ l1.length ∧ i = .int .i64 q ∧ Hid (l1.take q = l2.take q) ∧ Below w.heap.size w wx) (fun i _ => l1.length - (intOf i).toNat)
    case atStart => exact ⟨0, Nat.zero_le _, rfl, Lib.hid (by rw [List.take_zero, List.take_zero]), hb0⟩
    case round =>
      clear hb0
      obtain ⟨q, hq, rfl, n3, zq⟩ := hrel
      by_cases hlq : q < l1.length
      · have hi2 : (q : Int) < (n' : Int) := by have := HLEN.out; omega
        obtain ⟨b, off, cs, rfl, hb, hS, ⟨x, hx, rfl⟩, hrow⟩ := HL.out.2.at q (by have := HLEN.out; omega)
        obtain ⟨b2, off2, ds, rfl, hb2, hS2, ⟨y, hy, rfl⟩, hrow2⟩ := HL2.out.2.at q (by have := HLEN.out; omega)
        have HQL := Lib.hid hlq
        have HXQ := Lib.hid hx
        have HYQ := Lib.hid hy
        have hrow3 := rangeAt_keep hrow (zq.block b hb)
        have hrow4 := rangeAt_keep hrow2 (zq.block b2 hb2)
        obtain ⟨c0, c1⟩ := range2 hrow3
        obtain ⟨d0, d1⟩ := range2 hrow4
        obtain ⟨x1, x2⟩ := x
        obtain ⟨y1, y2⟩ := y
        dsimp only at c0 c1 d0 d1
        obtain ⟨wv, hwv⟩ : ∃ wv, wv = wr := ⟨_, rfl⟩
        subst hwv
        have HB2 := Lib.hid (fun k => show Below w.heap.size w (wv.drewN k) from ⟨zq.os, zq.tape, zq.output, zq.size, zq.block⟩)
        clear hx hy hb hb2 hS hS2 hrow hrow2 hrow3 hrow4 hlq hq zq
        by_cases hxy : x1 = y1 ∧ x2 = y2
        · obtain ⟨rfl, rfl⟩ := hxy
          go_wp2
          go_quiet (fail)
          go_wp2
          go_roundw
          case rel => exact ⟨q + 1, HQL.out, by go_num, Lib.hid (take_next n3.out HXQ.out HYQ.out rfl), HB2.out _⟩
          case measure => exact meas_up _ _ HQL.out
        · have HR := Lib.hid (show E = false from HNEG.out fun e => by
            have h1 := HXQ.out
            rw [e, HYQ.out] at h1
            injection h1 with h1
            injection h1 with h1 h2
            exact hxy ⟨h1.symm, h2.symm⟩)
          have HH := Lib.hid (show ((bs x1).toList == (bs y1).toList && (bs x2).toList == (bs y2).toList) = false by
            rw [bs_toList, bs_toList, bs_toList, bs_toList]
            by_cases h1 : x1 = y1
            · have h2 : ¬ x2 = y2 := fun h2 => hxy ⟨h1, h2⟩
              simp [h2]
            · simp [h1])
          have hne : ∀ W : World, (Op.equalIn 10000 50 (.agg #[.string (bs x1), .string (bs x2)]) (.agg #[.string (bs y1), .string (bs y2)])).run Tryd.prog W = .ok false W := fun W => by
            go_simp
            have := HH.out
            simpa using this
          clear hxy
          go_wp2
          go_quiet (fail)
          go_wp2
          go_ret
          exact ⟨congrArg (fun v => Ending.returned (.bool v)) HR.out.symm, HB2.out _⟩
      · have hi2 : ¬ (q : Int) < (n' : Int) := by have := HLEN.out; omega
        have HR := Lib.hid (show E = true from HPOS.out (by
          have h := n3.out
          rwa [List.take_of_length_le (by omega), List.take_of_length_le (by have := HLEN.out; have := HLEN2.out; omega)] at h))
        clear hlq hq n3
        go_wp2
        go_ret
        exact ⟨congrArg (fun v => Ending.returned (.bool v)) HR.out.symm, zq⟩
  · have HR := Lib.hid (show E = false from HNEG.out fun e => hnn (by have h1 := HLEN.out; have h2 := HLEN2.out; rw [e] at h1; omega))
    have hne : ¬ (n : Int) = (n' : Int) := by omega
    clear hnn HL HL2
    go_enter Tryd.func31, Tryd.ntmps31
    go_wp2
    go_ret
    exact ⟨congrArg (fun v => Ending.returned (.bool v)) HR.out.symm, hb0⟩
/-- Whether two programs are equal. -/
def Prog'.Fit (p : Prog') : Prop := p.stores.length ≤ 1000000 ∧ p.opers.length ≤ 1000000 ∧ ∀ o ∈ p.opers, o.params.length ≤ 1000000 ∧ St.sizes o.body ≤ 1000000
set_option maxRecDepth 100000 in
set_option maxHeartbeats 25600000 in
theorem same_any (p q : Prog') (hf : p.Fit) (w : World) (S S' : Nat → Prop) (v u : Value) (hp : PV w S p v) (hq : PV w S' q u) :
    Calls Tryd.prog 15 #[v, u] w fun e w' => e = .returned (.bool (eqC p q)) ∧ Below w.heap.size w w' := by
  obtain ⟨D1, nd1, cd1, O1, no1, co1, rfl, hd1, ho1⟩ := hp
  obtain ⟨D2, nd2, cd2, O2, no2, co2, rfl, hd2, ho2⟩ := hq
  obtain ⟨ds1, os1⟩ := p
  obtain ⟨ds2, os2⟩ := q
  dsimp only at *
  have lnd : nd1 ≤ 1000000 := by have := hd1.1; have := hf.1; dsimp only at this; omega
  have lno : no1 ≤ 1000000 := by have := ho1.1; have := hf.2.1; dsimp only at this; omega
  have iho := sameOL (l := os1) hf.2.2
  obtain ⟨W0, hW0⟩ : ∃ W0 : World, W0 = (w.alloc (.cells #[.slice D1 nd1 cd1, .slice O1 no1 co1] 25)).alloc (.cells #[.slice D2 nd2 cd2, .slice O2 no2 co2] 25) := ⟨_, rfl⟩
  have hba : Below w.heap.size w (w.alloc (.cells #[.slice D1 nd1 cd1, .slice O1 no1 co1] 25)) := (Below.refl _ _).alloc (Nat.le_refl _) _
  have hb0 : Below w.heap.size w W0 := by rw [hW0]; exact hba.alloc hba.size _
  have HF := Lib.hid (show ∀ W, Bz W0 W → (W.cell? ⟨w.heap.size, 0, none⟩ = some (.slice D1 nd1 cd1) ∧ W.cell? ⟨w.heap.size, 1, none⟩ = some (.slice O1 no1 co1) ∧ W.cell? ⟨w.heap.size + 1, 0, none⟩ = some (.slice D2 nd2 cd2) ∧ W.cell? ⟨w.heap.size + 1, 1, none⟩ = some (.slice O2 no2 co2)) from fun W h => by
    subst hW0
    have hs1 : (w.alloc (.cells #[.slice D1 nd1 cd1, .slice O1 no1 co1] 25)).heap.size = w.heap.size + 1 := World.size_alloc ..
    have hq := heap_alloc_new w (.cells #[.slice D1 nd1 cd1, .slice O1 no1 co1] 25)
    have hq2 := heap_alloc_new (w.alloc (.cells #[.slice D1 nd1 cd1, .slice O1 no1 co1] 25)) (.cells #[.slice D2 nd2 cd2, .slice O2 no2 co2] 25)
    have hq1 := (((Below.refl _ (w.alloc (.cells #[.slice D1 nd1 cd1, .slice O1 no1 co1] 25))).alloc (Nat.le_refl _) (.cells #[.slice D2 nd2 cd2, .slice O2 no2 co2] 25)).block w.heap.size (lt_of_block hq)).trans hq
    rw [hs1] at hq2
    have h1 := fun j v (hv : (#[.slice D1 nd1 cd1, .slice O1 no1 co1] : Array Value)[j]? = some v) => cell_of_Bz h (g := w.heap.size) (j := j) (v := v) (by rw [cell_of_row _ _ _ _ _ _ hq1]; exact hv) (lt_of_block hq1)
    have h2 := fun j v (hv : (#[.slice D2 nd2 cd2, .slice O2 no2 co2] : Array Value)[j]? = some v) => cell_of_Bz h (g := w.heap.size + 1) (j := j) (v := v) (by rw [cell_of_row _ _ _ _ _ _ hq2]; exact hv) (lt_of_block hq2)
    exact ⟨h1 0 _ rfl, h1 1 _ rfl, h2 0 _ rfl, h2 1 _ rfl⟩)
  have HG := Lib.hid (show ∀ W, Bz W0 W → Below w.heap.size w W from fun W h => hb0.trans (h.b.mono hb0.size))
  have z0 : Bz W0 W0 := ⟨Below.refl _ _⟩
  have bl : ∀ {W : World}, Below w.heap.size w W → ∀ (S : Nat → Prop) b, b < w.heap.size → S b → W.heap[b]? = w.heap[b]? := fun h S b hlt _ => h.block b hlt
  have KD := Lib.hid (show ∀ W, Bz W0 W → _ from fun W h => sameD ds1 ds2 W S S' D1 D2 nd1 cd1 nd2 cd2 (hd1.keep (HG.out W h).size (bl (HG.out W h) S) fun _ _ h => h) (hd2.keep (HG.out W h).size (bl (HG.out W h) S') fun _ _ h => h) lnd)
  have KO := Lib.hid (show ∀ W, Bz W0 W → _ from fun W h => iho os2 W S S' O1 O2 no1 co1 no2 co2 (ho1.keep (HG.out W h).size (bl (HG.out W h) S) fun _ _ h => h) (ho2.keep (HG.out W h).size (bl (HG.out W h) S') fun _ _ h => h) lno)
  have NE := Lib.hid (show (eqC ds1 ds2 = false ∨ eqC os1 os2 = false) → eqC (Prog'.mk ds1 os1) (.mk ds2 os2) = false from fun h => eqC_neg fun e => by
    injection e with e1 e2
    rcases h with h | h
    · rw [eqC_pos e1] at h; cases h
    · rw [eqC_pos e2] at h; cases h)
  have YE := Lib.hid (show eqC ds1 ds2 = true → eqC os1 os2 = true → eqC (Prog'.mk ds1 os1) (.mk ds2 os2) = true from fun h1 h2 => by
    have e1 : ds1 = ds2 := Classical.byContradiction fun h => by rw [eqC_neg h] at h1; cases h1
    have e2 : os1 = os2 := Classical.byContradiction fun h => by rw [eqC_neg h] at h2; cases h2
    exact eqC_pos (by rw [e1, e2]))
  generalize eqC (Prog'.mk ds1 os1) (.mk ds2 os2) = E at *
  generalize eqC ds1 ds2 = ed at *
  generalize eqC os1 os2 = eo at *
  clear hd1 ho1 hd2 ho2 iho hf lnd lno hb0 hba bl
  go_enter Tryd.func15, Tryd.ntmps15
  go_upto_region 1 with fail
  rw [← hW0]
  clear hW0
  obtain ⟨c0, c1, d0, d1⟩ := HF.out _ z0
  go_wp2_with fail
  refine (KD.out _ z0).mono ?_
  rintro e w1 ⟨rfl, hb⟩
  have z1 := z0.next hb
  clear hb c0 c1 d0 d1
  obtain ⟨c0, c1, d0, d1⟩ := HF.out _ z1
  cases ed with
  | false =>
    have h : False ∨ false = false := .inr rfl
    have HR := Lib.hid (NE.out (.inl rfl))
    obtain rfl := HR.out
    go_wp2_with fail
    go_ret
    exact ⟨rfl, HG.out _ z1⟩
  | true =>
    go_wp2_with fail
    refine (KO.out _ z1).mono ?_
    rintro e w2 ⟨rfl, hb⟩
    have z2 := z1.next hb
    clear hb c0 c1 d0 d1
    obtain ⟨c0, c1, d0, d1⟩ := HF.out _ z2
    cases eo with
    | false =>
      have h : False ∨ false = false := .inr rfl
      have HR := Lib.hid (NE.out (.inr rfl))
      obtain rfl := HR.out
      go_wp2_with fail
      go_ret
      exact ⟨rfl, HG.out _ z2⟩
    | true =>
      have HR := Lib.hid (YE.out (by first | trivial | rfl) (by first | trivial | rfl))
      obtain rfl := HR.out
      go_wp2_with fail
      go_ret
      exact ⟨rfl, HG.out _ z2⟩
end Go.Proofs.YthfjkdgaiaokdaaDoor
namespace Go.Proofs.YthfjkdgaiaokdaaDoor
open Go.RowKit

theorem grown_set (W : World) (b : Nat) (v : Value) : W.grownBy (W.setCell ⟨b, 0, none⟩ v) (some b) :=
  ⟨rfl, rfl, rfl, by simp, fun k _ hk => Below.heap_setCell _ _ _ k (fun e => hk (by rw [e]))⟩
/-- Since w0 nothing old has changed but block g, which holds the number c. -/
structure Cnt (g : Nat) (w0 : World) (c : Int) (w : World) : Prop where
  gr : w0.grownBy w (some g)
  bx : w.heap[g]? = some (.cells #[.int .i64 c] 3 (0, 0))
section
variable {g : Nat} {w0 w w' : World} {c c' : Int}
theorem Cnt.lt (h : Cnt g w0 c w) : g < w.heap.size := lt_of_block h.bx
theorem Cnt.next (h : Cnt g w0 c w) (hb : Below w.heap.size w w') : Cnt g w0 c w' := ⟨World.grownBy.trans h.gr (Below.grown_ hb _), (hb.block g h.lt).trans h.bx⟩
theorem Cnt.step (h : Cnt g w0 c w) (h2 : Cnt g w c' w') : Cnt g w0 c' w' := ⟨World.grownBy.trans h.gr h2.gr, h2.bx⟩
theorem Cnt.refl (h : w.heap[g]? = some (.cells #[.int .i64 c] 3 (0, 0))) : Cnt g w c w := ⟨World.grownBy.refl _ _, h⟩
theorem Cnt.cell (h : Cnt g w0 c w) : w.cell? ⟨g, 0, none⟩ = some (.int .i64 c) := by rw [cell_of_row _ _ _ _ _ _ h.bx]; rfl
theorem Cnt.block (h : Cnt g w0 c w) {b : Nat} (hb : b < w0.heap.size) (hg : b ≠ g) : w.heap[b]? = w0.heap[b]? := h.gr.block b hb (fun e => hg (Option.some.inj e))
theorem Cnt.xl {S : Nat → Prop} {A : Option Addr} {n k : Nat} {l : List Ex} (h : Cnt g w0 c w) (hS : ∀ b, S b → b ≠ g) (hx : XL w0 S A n k l) : XL w S A n k l := hx.keep h.gr.size (fun b hb hs => h.block hb (hS b hs)) fun _ _ h => h
theorem Cnt.xv {S : Nat → Prop} {e : Ex} {cs : List Value} (h : Cnt g w0 c w) (hS : ∀ b, S b → b ≠ g) (hx : XV w0 S e cs) : XV w S e cs := XV.keep h.gr.size (fun b hb hs => h.block hb (hS b hs)) (fun _ _ h => h) hx
theorem Cnt.sl {S : Nat → Prop} {A : Option Addr} {n k : Nat} {l : List St} (h : Cnt g w0 c w) (hS : ∀ b, S b → b ≠ g) (hx : SL w0 S A n k l) : SL w S A n k l := hx.keep h.gr.size (fun b hb hs => h.block hb (hS b hs)) fun _ _ h => h
theorem Cnt.cellOf (h : Cnt g w0 c w) {b j : Nat} {v : Value} (hg : b ≠ g) (hv : w0.cell? ⟨b, j, none⟩ = some v) : w.cell? ⟨b, j, none⟩ = some v := by
  have hb : b < w0.heap.size := World.block_lt_of_cell? _ _ hv
  rw [World.cell?_of_block (a := ⟨b, j, none⟩) (h.block hb hg)]; exact hv
theorem Cnt.free (h : Cnt g w0 c w) : w.frozen? ⟨g, 0, none⟩ = false := by simp [World.frozen?, h.bx]
theorem Cnt.set (h : Cnt g w0 c w) (v : Int) : Cnt g w0 v (w.setCell ⟨g, 0, none⟩ (.int .i64 v)) := by
  refine ⟨World.grownBy.trans h.gr (grown_set w g _), ?_⟩
  rw [setCell_eq_setRow w g 0 _ _ _ _ h.bx]
  exact setRow_heap _ _ _ _ _ _ h.bx
end
set_option maxRecDepth 100000 in
set_option maxHeartbeats 12800000 in
theorem do_any (k n : Int) (s m : Str) (A : Option Addr) (na ca : Nat) (O : Option Addr) (no co : Nat) (g : Nat) (w0 w : World) (c : Int) (h : Cnt g w0 c w) (h0 : 0 ≤ c) (hc : c ≤ 1000000000) :
    Calls Tryd.prog 50 #[.agg #[.int .i64 k, .int .i64 n, .string (bs s), .string (bs m), .slice A na ca, .slice O no co], .pointer (some ⟨g, 0, none⟩)] w fun e w' => e = .returned (.tuple #[]) ∧ Cnt g w0 (c + 1) w' := by
  have hb := (Below.refl w.heap.size w).alloc (Nat.le_refl _) (.cells #[.int .i64 k, .int .i64 n, .string (bs s), .string (bs m), .slice A na ca, .slice O no co] 44)
  have H := Lib.hid (h.next hb)
  have hc0 := H.out.cell
  have hfz := H.out.free
  have hw1 : IntKind.i64.wrap (c + 1) = c + 1 := by simp [IntKind.wrap, IntKind.bits, IntKind.signed]; omega
  clear h hb
  go_enter Tryd.func50, Tryd.ntmps50
  go_wp2
  go_end0
  exact ⟨rfl, H.out.set _⟩
def WalkAt (e : Ex) : Prop := ∀ (w : World) (S : Nat → Prop) (cs : List Value) (g : Nat) (c : Int), XV w S e cs → (∀ b, S b → b ≠ g) → w.heap[g]? = some (.cells #[.int .i64 c] 3 (0, 0)) → 0 ≤ c → c + e.size ≤ 1000000000 →
  Calls Tryd.prog 49 #[.agg cs.toArray, .func (.func 50) #[] #[.pointer (some ⟨g, 0, none⟩)]] w fun e' w' => e' = .returned (.tuple #[]) ∧ Cnt g w (c + e.size) w'
theorem sizes_up {l : List Ex} {q : Nat} {x : Ex} (h : l[q]? = some x) : Ex.sizes (l.take (q + 1)) = Ex.sizes (l.take q) + x.size := by
  induction l generalizing q with
  | nil => simp at h
  | cons a t ih =>
    cases q with
    | zero =>
      obtain rfl : a = x := by simpa using h
      simp [Ex.sizes]
    | succ q =>
      have h' : t[q]? = some x := by simpa using h
      have := ih h'
      rw [List.take_succ_cons, List.take_succ_cons, Ex.sizes, Ex.sizes, this]
      omega
theorem sizes_tk : ∀ (l : List Ex) (q : Nat), Ex.sizes (l.take q) ≤ Ex.sizes l
  | [], q => by rw [List.take_nil]; exact Nat.le_refl _
  | e :: t, 0 => by rw [List.take_zero, Ex.sizes]; exact Nat.zero_le _
  | e :: t, q + 1 => by
    have := sizes_tk t q
    rw [List.take_succ_cons, Ex.sizes, Ex.sizes]
    omega
set_option maxRecDepth 100000 in
set_option maxHeartbeats 12800000 in
theorem walk_of (k n : Int) (s m : Str) (a o : List Ex) (ih : ∀ x ∈ a ++ o, WalkAt x) : WalkAt (.mk k n s m a o) := by
  intro w S cs g c hx hS hg hc0 hc1
  have hgl : g < w.heap.size := lt_of_block hg
  have hsz : ((Ex.mk k n s m a o).size : Int) = 1 + Ex.sizes a + Ex.sizes o := by rw [Ex.size]; omega
  rw [hsz] at hc1 ⊢
  obtain ⟨A, na, ca, O, no, co, rfl, hA, hO⟩ := hx.open_
  have HI := Lib.hid ih
  have HS := Lib.hid hS
  have HA := Lib.hid hA
  have HO := Lib.hid hO
  obtain ⟨W0, hW0⟩ : ∃ W0 : World, W0 = w.alloc (.cells (exC k n s m A na ca O no co).toArray 44) := ⟨_, rfl⟩
  have hb0 : Below w.heap.size w W0 := by rw [hW0]; exact (Below.refl _ _).alloc (Nat.le_refl _) _
  have HG0 := Lib.hid (show w.grownBy W0 (some g) from Below.grown_ hb0 _)
  have C0 : Cnt g W0 c W0 := Cnt.refl ((hb0.block g hgl).trans hg)
  have HF := Lib.hid (show ∀ W c, Cnt g W0 c W → (W.cell? ⟨w.heap.size, 0, none⟩ = some (.int .i64 k) ∧ W.cell? ⟨w.heap.size, 1, none⟩ = some (.int .i64 n) ∧ W.cell? ⟨w.heap.size, 2, none⟩ = some (.string (bs s)) ∧ W.cell? ⟨w.heap.size, 3, none⟩ = some (.string (bs m)) ∧ W.cell? ⟨w.heap.size, 4, none⟩ = some (.slice A na ca) ∧ W.cell? ⟨w.heap.size, 5, none⟩ = some (.slice O no co)) from fun W c h => by
    subst hW0
    have hq := heap_alloc_new w (.cells (exC k n s m A na ca O no co).toArray 44)
    have h2 := fun j v (hv : (exC k n s m A na ca O no co).toArray[j]? = some v) => h.cellOf (b := w.heap.size) (j := j) (v := v) (by omega) (by rw [cell_of_row _ _ _ _ _ _ hq]; exact hv)
    exact ⟨h2 0 _ rfl, h2 1 _ rfl, h2 2 _ rfl, h2 3 _ rfl, h2 4 _ rfl, h2 5 _ rfl⟩)
  have HD := Lib.hid (do_any k n s m A na ca O no co g W0 W0 c C0 hc0 (by omega))
  have HGL := Lib.hid hgl
  have lza : 0 ≤ (Ex.sizes a : Int) ∧ 0 ≤ (Ex.sizes o : Int) := ⟨by omega, by omega⟩
  obtain ⟨za, hza⟩ : ∃ z : Nat, z = Ex.sizes a := ⟨_, rfl⟩
  obtain ⟨zo, hzo⟩ : ∃ z : Nat, z = Ex.sizes o := ⟨_, rfl⟩
  rw [← hza, ← hzo] at hc1 ⊢
  have HZA := Lib.hid hza
  have HZO := Lib.hid hzo
  have hA1 := hA.1.1
  have hO1 := hO.1.1
  have hla : (na : Int) ≤ za := by have := Ex.len_sizes a; omega
  have hlo : (no : Int) ≤ zo := by have := Ex.len_sizes o; omega
  have HX0 := Lib.hid (show ∀ (W : World), w.grownBy W (some g) → XL W S A na ca a ∧ XL W S O no co o from fun W h => ⟨hA.keep h.size (fun b hb hs => h.block b hb (fun e => hS b hs (Option.some.inj e))) (fun _ _ h => h), hO.keep h.size (fun b hb hs => h.block b hb (fun e => hS b hs (Option.some.inj e))) (fun _ _ h => h)⟩)
  clear hx hS hg hA hO ih hb0 hza hzo hA1 hO1 hsz lza
  unfold exC at hW0
  unfold exC
  obtain ⟨c0, c1, c2, c3, c4, c5⟩ := HF.out _ _ C0
  clear C0
  go_enter Tryd.func49, Tryd.ntmps49
  go_upto_region 1 with fail
  rw [← hW0]
  clear hW0
  go_wp2_with fail
  refine HD.out.mono ?_
  rintro e w1 ⟨rfl, C1⟩
  have C1 := C1
  clear HD c0 c1 c2 c3 c4 c5
  obtain ⟨-, -, -, -, c4, c5⟩ := HF.out _ _ C1
  have HG1 := Lib.hid (World.grownBy.trans HG0.out C1.gr)
  have HB1 := Lib.hid C1.bx
  clear C1 HF HG0
  go_wp2_with fail
  obtain ⟨W1, hW1⟩ : ∃ W1 : World, W1 = w1.alloc (.cells #[.slice A na ca, .slice O no co] 42) := ⟨_, rfl⟩
  have hbb : Below w1.heap.size w1 W1 := by rw [hW1]; exact (Below.refl _ _).alloc (Nat.le_refl _) _
  have HC := Lib.hid (show ∀ W c, Cnt g W1 c W → W.cell? ⟨w1.heap.size, 0, none⟩ = some (.slice A na ca) ∧ W.cell? ⟨w1.heap.size, 1, none⟩ = some (.slice O no co) from fun W c h => by
    subst hW1
    have hq := heap_alloc_new w1 (.cells #[.slice A na ca, .slice O no co] 42)
    have hne : w1.heap.size ≠ g := by have := lt_of_block HB1.out; omega
    exact ⟨h.cellOf hne (by rw [cell_of_row _ _ _ _ _ _ hq]; rfl), h.cellOf hne (by rw [cell_of_row _ _ _ _ _ _ hq]; rfl)⟩)
  have HG := Lib.hid (World.grownBy.trans HG1.out (Below.grown_ hbb (some g)))
  have v0 : Cnt g W1 (c + 1) W1 := Cnt.refl ((hbb.block g (lt_of_block HB1.out)).trans HB1.out)
  rw [← hW1]
  clear hW1 HG1 HB1 hbb c4 c5
  go_loopw [17] (fun i wr => ∃ k : Nat, k ≤ 2 ∧ i = .int .i64 k ∧ Cnt g W1 (c + 1 + (if 1 ≤ k then (za : Int) else 0) + (if 2 ≤ k then (zo : Int) else 0)) wr) (fun i _ => 2 - (intOf i).toNat)
  case atStart => exact ⟨0, by omega, rfl, by simpa using v0⟩
  case round =>
    clear v0
    obtain ⟨k, hk, rfl, zr⟩ := hrel
    by_cases hlt : k < 2
    · obtain ⟨A', n', c', l', b0, hc, hX, hin, hb, hnext, hn'⟩ : ∃ (A' : Option Addr) (n' c' : Nat) (l' : List Ex) (b0 : Int), (∀ W c, Cnt g W1 c W → W.cell? ⟨w1.heap.size, k, none⟩ = some (.slice A' n' c')) ∧ (∀ W : World, w.grownBy W (some g) → XL W S A' n' c' l') ∧ (∀ e ∈ l', WalkAt e) ∧ (c + 1 + (if 1 ≤ k then (za : Int) else 0) + (if 2 ≤ k then (zo : Int) else 0) = b0 ∧ 0 ≤ b0 ∧ b0 + Ex.sizes l' ≤ 1000000000) ∧ c + 1 + (if 1 ≤ k + 1 then (za : Int) else 0) + (if 2 ≤ k + 1 then (zo : Int) else 0) = b0 + Ex.sizes l' ∧ (n' : Int) ≤ 1000000000 := by
        rcases (by omega : k = 0 ∨ k = 1) with rfl | rfl
        · refine ⟨A, na, ca, a, c + 1, fun W c h => (HC.out W c h).1, fun W h => (HX0.out W h).1, fun e he => HI.out e (List.mem_append_left _ he), ⟨by simp, by omega, by rw [← HZA.out]; omega⟩, by rw [← HZA.out]; simp, by omega⟩
        · refine ⟨O, no, co, o, c + 1 + za, fun W c h => (HC.out W c h).2, fun W h => (HX0.out W h).2, fun e he => HI.out e (List.mem_append_right _ he), ⟨by simp, by omega, by rw [← HZO.out]; omega⟩, by rw [← HZO.out]; simp, by omega⟩
      rw [hb.1] at zr
      have HL := Lib.hid hX
      have HIN := Lib.hid hin
      have HNEXT := Lib.hid hnext
      have HBD := Lib.hid hb.2
      have HLEN := Lib.hid (hX _ HG.out).1.1
      have HLT := Lib.hid hlt
      have hi : (k : Int) < 2 := by omega
      have hcell := hc _ _ zr
      clear hc hX hin hnext hlt hk hb
      go_wp2_with fail
      go_loopw [23] (fun i wx => ∃ q : Nat, q ≤ l'.length ∧ i = .int .i64 q ∧ Cnt g W1 (b0 + Ex.sizes (l'.take q)) wx) (fun i _ => l'.length - (intOf i).toNat)
      case atStart => exact ⟨0, Nat.zero_le _, rfl, by rw [List.take_zero, Ex.sizes]; simpa using zr⟩
      case round =>
        clear zr hcell
        obtain ⟨q, hq, rfl, zq⟩ := hrel
        obtain ⟨wv, hwv⟩ : ∃ wv, wv = wr := ⟨_, rfl⟩
        subst hwv
        by_cases hl : q < l'.length
        · have hi2 : (q : Int) < (n' : Int) := by have := HLEN.out; omega
          have hgr := World.grownBy.trans HG.out zq.gr
          obtain ⟨x, b, off, cs, hx, rfl, hb, hS, hxv, hrow⟩ := (HL.out _ hgr).at q (by have := HLEN.out; omega)
          have HXV := Lib.hid hxv
          have HQL := Lib.hid hl
          have HXQ := Lib.hid hx
          have HIH := Lib.hid (HIN.out x (List.mem_of_getElem? hx))
          have HUP := Lib.hid (sizes_up hx)
          have HTK := Lib.hid (sizes_tk l' (q + 1))
          obtain ⟨xk, xn, xs, xm, xa, xo⟩ := x
          obtain ⟨A2, na2, ca2, O2, no2, co2, rfl, -, -⟩ := hxv.open_
          obtain ⟨e0, e1, e2, e3, e4, e5⟩ := exC_at hrow
          clear hx hb hS hxv hrow hl hq hgr
          unfold exC at HXV
          go_wp2_with fail
          have hbq : Below wv.heap.size wv (wv.alloc (.cells #[.int .i64 xk, .int .i64 xn, .string (bs xs), .string (bs xm), .slice A2 na2 ca2, .slice O2 no2 co2] 44)) := (Below.refl _ _).alloc (Nat.le_refl _) _
          have zq1 := zq.next hbq
          have HC2 := HIH.out _ S _ g _ (HXV.out.below hbq) HS.out zq1.bx (by have := HBD.out; omega) (by have := HBD.out; have := HUP.out; have := HTK.out; omega)
          refine HC2.mono ?_
          rintro e' w2 ⟨rfl, z2⟩
          have zq2 := zq1.step z2
          rw [show b0 + (Ex.sizes (l'.take q) : Int) + ((Ex.mk xk xn xs xm xa xo).size : Int) = b0 + (Ex.sizes (l'.take (q + 1)) : Int) by have := HUP.out; omega] at zq2
          clear HC2 z2 e0 e1 e2 e3 e4 e5 zq zq1 HIH HXV hbq HUP HTK
          go_wp2
          go_roundw
          case rel => exact ⟨q + 1, HQL.out, by go_num, zq2⟩
          case measure => exact meas_up _ _ HQL.out
        · have hi2 : ¬ (q : Int) < (n' : Int) := by have := HLEN.out; omega
          rw [List.take_of_length_le (by omega), ← HNEXT.out] at zq
          clear hl hq
          go_wp2
          go_roundw
          case rel => exact ⟨k + 1, HLT.out, by go_num, zq⟩
          case measure => exact meas_up _ _ HLT.out
    · have hi : ¬ (k : Int) < 2 := by omega
      rw [if_pos (by omega), if_pos (by omega)] at zr
      have ZR := Lib.hid zr
      clear zr
      go_wp2
      go_end0
      exact ⟨rfl, World.grownBy.trans HG.out ZR.out.gr, by rw [ZR.out.bx]; congr 5; omega⟩
theorem walk_any : ∀ (N : Nat) (x : Ex), x.size ≤ N → WalkAt x := by
  intro N
  induction N with
  | zero => intro x h; obtain ⟨_, _, _, _, _, _⟩ := x; rw [Ex.size] at h; omega
  | succ N ih =>
    intro x h
    obtain ⟨k, n, s, m, a, o⟩ := x
    rw [Ex.size] at h
    exact walk_of k n s m a o fun x hx => ih x (by
      rcases List.mem_append.1 hx with h1 | h1
      · have := Ex.sizes_mem h1; omega
      · have := Ex.sizes_mem h1; omega)
end Go.Proofs.YthfjkdgaiaokdaaDoor
namespace Go.Proofs.YthfjkdgaiaokdaaDoor
open Go.RowKit

mutual
/-- The number of statements .. -/
def St.ns : St → Nat
  | .mk _ _ _ _ b l => 1 + St.nss b + St.nss l
def St.nss : List St → Nat
  | [] => 0
  | s :: t => s.ns + St.nss t
end
mutual
/-- .. and of expressions. -/
def St.xs : St → Nat
  | .mk k _ _ e b l => (if hasX k = true then e.size else 0) + St.xss b + St.xss l
def St.xss : List St → Nat
  | [] => 0
  | s :: t => s.xs + St.xss t
end
/-- The statements inside a list's statements. -/
def St.nks : List St → Nat
  | [] => 0
  | s :: t => (St.nss s.body + St.nss s.els) + St.nks t
theorem St.nss_nks : ∀ l : List St, St.nss l = l.length + St.nks l
  | [] => rfl
  | s :: t => by
    obtain ⟨k, n, m, e, b, l⟩ := s
    rw [St.nss, St.ns, St.nks, St.nss_nks t, List.length_cons]
    show _ = t.length + 1 + (St.nss b + St.nss l + St.nks t)
    omega
mutual
theorem St.ns_le : ∀ s : St, s.ns + s.xs ≤ s.size
  | .mk k n m e b l => by
    have h1 := St.nss_le b
    have h2 := St.nss_le l
    rw [St.ns, St.xs, St.size]
    split <;> omega
theorem St.nss_le : ∀ l : List St, St.nss l + St.xss l ≤ St.sizes l
  | [] => Nat.le_refl _
  | s :: t => by
    have h1 := St.ns_le s
    have h2 := St.nss_le t
    rw [St.nss, St.xss, St.sizes]
    omega
end
theorem nks_up {l : List St} {q : Nat} {x : St} (h : l[q]? = some x) : St.nks (l.take (q + 1)) = St.nks (l.take q) + (St.nss x.body + St.nss x.els) ∧ St.xss (l.take (q + 1)) = St.xss (l.take q) + x.xs := by
  induction l generalizing q with
  | nil => simp at h
  | cons a t ih =>
    cases q with
    | zero =>
      obtain rfl : a = x := by simpa using h
      simp [St.nks, St.xss]
    | succ q =>
      have h' : t[q]? = some x := by simpa using h
      have := ih h'
      rw [List.take_succ_cons, List.take_succ_cons, St.nks, St.nks, St.xss, St.xss, this.1, this.2]
      omega
theorem nks_tk : ∀ (l : List St) (q : Nat), St.nks (l.take q) ≤ St.nks l ∧ St.xss (l.take q) ≤ St.xss l
  | [], q => by rw [List.take_nil]; exact ⟨Nat.le_refl _, Nat.le_refl _⟩
  | e :: t, 0 => by rw [List.take_zero, St.nks, St.xss]; exact ⟨Nat.zero_le _, Nat.zero_le _⟩
  | e :: t, q + 1 => by
    have := nks_tk t q
    rw [List.take_succ_cons, St.nks, St.nks, St.xss, St.xss]
    omega
def SizeAt (l : List St) : Prop := ∀ (w : World) (S : Nat → Prop) (A : Option Addr) (n c : Nat), SL w S A n c l → St.sizes l ≤ 1000000 →
  Calls Tryd.prog 30 #[.slice A n c] w fun e' w' => e' = .returned (.tuple #[.int .i64 (St.nss l), .int .i64 (St.xss l)]) ∧ Below w.heap.size w w'
set_option maxRecDepth 100000 in
set_option maxHeartbeats 12800000 in
theorem size_of (l : List St) (ih : ∀ x ∈ l, SizeAt x.body ∧ SizeAt x.els) : SizeAt l := by
  intro w S A n c hl hz
  have HN := Lib.hid hl.1.1
  have hn6 : (n : Int) ≤ 1000000 := by have := hl.1.1; have := St.len_sizes l; omega
  have HI := Lib.hid ih
  have HZ := Lib.hid hz
  have HLZ := Lib.hid (St.nss_le l)
  have HNK := Lib.hid (St.nss_nks l)
  have HL0 := Lib.hid hl
  have HL := Lib.hid (show ∀ W : World, w.grownBy W (some w.heap.size) → SL W (fun b => b < w.heap.size) A n c l from fun W h => hl.keep h.size (fun b hb hs => h.block b hb (fun e => by have := Option.some.inj e; omega)) fun b h _ => h)
  obtain ⟨W0, hW0⟩ : ∃ W0 : World, W0 = w.alloc (.cells #[.int .i64 0] 3) := ⟨_, rfl⟩
  have hb0 : Below w.heap.size w W0 := by rw [hW0]; exact (Below.refl _ _).alloc (Nat.le_refl _) _
  have HG0 := Lib.hid (show w.grownBy W0 (some w.heap.size) from Below.grown_ hb0 _)
  have C0 : Cnt w.heap.size W0 0 W0 := Cnt.refl (by rw [hW0]; exact heap_alloc_new w _)
  have hsz0 : w.heap.size < W0.heap.size := lt_of_block C0.bx
  clear hl ih hz hb0
  go_enter Tryd.func30, Tryd.ntmps30
  go_upto_region 2 with fail
  rw [← hW0]
  clear hW0
  go_wp2_with fail
  go_loopw [4, 16] (fun st i wr => ∃ (q : Nat) (s : Int), q ≤ l.length ∧ st = .int .i64 s ∧ i = .int .i64 q ∧ Hid (s = (n : Int) + St.nks (l.take q)) ∧ Cnt w.heap.size W0 (St.xss (l.take q)) wr) (fun _ i _ => l.length - (intOf i).toNat)
  case atStart => exact ⟨0, _, Nat.zero_le _, rfl, rfl, Lib.hid (by rw [List.take_zero, St.nks]; simp), by rw [List.take_zero, St.xss]; exact C0⟩
  case round =>
    clear C0
    obtain ⟨q, N, hq, rfl, rfl, n1, zr⟩ := hrel
    obtain ⟨wv, hwv⟩ : ∃ wv, wv = wr := ⟨_, rfl⟩
    subst hwv
    by_cases hlq : q < l.length
    · have hi2 : (q : Int) < (n : Int) := by have := HN.out; omega
      have HQL := Lib.hid hlq
      obtain ⟨x, b, off, cs, hx, rfl, hb, hS, hxv, hrow⟩ := (HL.out _ (World.grownBy.trans HG0.out zr.gr)).at q (by have := HN.out; omega)
      have hup := nks_up hx
      have htk := nks_tk l (q + 1)
      have htk0 := nks_tk l q
      have hI := HI.out x (List.mem_of_getElem? hx)
      have hxz := St.sizes_mem (List.mem_of_getElem? hx)
      have hbig := HLZ.out
      have hzz := HZ.out
      have hnk := HNK.out
      obtain ⟨xk, xs, xn, xe, xb, xl⟩ := x
      rw [St.size] at hxz
      rw [St.xs] at hup
      dsimp only [St.body, St.els] at hup hI
      obtain ⟨ex, B2, nb2, cb2, L2, nl2, cl2, rfl, hex, hB, hLl⟩ := hxv.open_
      have hWK := walk_any xe.size xe (Nat.le_refl _)
      obtain ⟨ez, hez⟩ : ∃ z : Nat, z = xe.size := ⟨_, rfl⟩
      rw [← hez] at hup
      have HEZ := Lib.hid hez
      obtain ⟨nb, hnb⟩ : ∃ z : Nat, z = St.nss xb := ⟨_, rfl⟩
      obtain ⟨nl, hnl⟩ : ∃ z : Nat, z = St.nss xl := ⟨_, rfl⟩
      obtain ⟨xbb, hxbb⟩ : ∃ z : Nat, z = St.xss xb := ⟨_, rfl⟩
      obtain ⟨xll, hxll⟩ : ∃ z : Nat, z = St.xss xl := ⟨_, rfl⟩
      rw [← hnb, ← hnl, ← hxbb, ← hxll] at hup
      have sB := St.nss_le xb
      have sL := St.nss_le xl
      have HK := Lib.hid (show ∀ W : World, wv.grownBy W (some w.heap.size) → (Calls Tryd.prog 30 #[.slice B2 nb2 cb2] W fun e' w' => e' = .returned (.tuple #[.int .i64 nb, .int .i64 xbb]) ∧ Below W.heap.size W w') ∧ (Calls Tryd.prog 30 #[.slice L2 nl2 cl2] W fun e' w' => e' = .returned (.tuple #[.int .i64 nl, .int .i64 xll]) ∧ Below W.heap.size W w') from fun W h => by
        rw [hnb, hnl, hxbb, hxll]
        have kp : ∀ b, b < wv.heap.size → b < w.heap.size → W.heap[b]? = wv.heap[b]? := fun b hb hs => h.block b hb (fun e => by have := Option.some.inj e; omega)
        exact ⟨hI.1 W _ B2 nb2 cb2 (hB.keep h.size kp fun _ _ h => h) (by omega), hI.2 W _ L2 nl2 cl2 (hLl.keep h.size kp fun _ _ h => h) (by omega)⟩)
      rw [← hxbb, ← hnb] at sB
      rw [← hxll, ← hnl] at sL
      have HUN := Lib.hid hup.1
      obtain ⟨X0, hX0⟩ : ∃ z : Nat, z = St.xss (l.take q) := ⟨_, rfl⟩
      rw [← hX0] at hup zr htk0
      have hNb : N ≤ 2000000 ∧ 0 ≤ N := by have := n1.out; have := HN.out; omega
      have HX := Lib.hid (show ∀ W : World, wv.grownBy W (some w.heap.size) → XV W (fun b => b < w.heap.size) xe ex from fun W h => XV.keep h.size (fun b hb hs => h.block b hb (fun e => by have := Option.some.inj e; omega)) (fun _ _ h => h) hex)
      have hbnd : nb ≤ 1000000 ∧ nl ≤ 1000000 ∧ xbb ≤ 1000000 ∧ xll ≤ 1000000 ∧ ez ≤ 1000000 ∧ X0 ≤ 1000000 := by omega
      have HUX := Lib.hid hup.2
      have HNN := n1
      have HWK := Lib.hid hWK
      obtain ⟨ek, en, es, em, ea, eo⟩ := xe
      obtain ⟨EA, ena, eca, EO, eno, eco, rfl, -, -⟩ := hex.open_
      obtain ⟨e0, e1, e2, e3, e4, e5, e6, e7, e8, e9, e10⟩ := stC_at hrow
      obtain ⟨V, hV⟩ : ∃ V : World, V = wv.alloc (.cells #[.int .i64 xk, .string (bs xs), .int .i64 xn, .int .i64 ek, .int .i64 en, .string (bs es), .string (bs em), .slice EA ena eca, .slice EO eno eco, .slice B2 nb2 cb2, .slice L2 nl2 cl2] 46) := ⟨_, rfl⟩
      have hbv : Below wv.heap.size wv V := by rw [hV]; exact (Below.refl _ _).alloc (Nat.le_refl _) _
      have ZV := Lib.hid (zr.next hbv)
      have HGV := Lib.hid (show wv.grownBy V (some w.heap.size) from Below.grown_ hbv _)
      have HF := Lib.hid (show ∀ W c, Cnt w.heap.size V c W → (W.cell? ⟨wv.heap.size, 0, none⟩ = some (.int .i64 xk) ∧ W.cell? ⟨wv.heap.size, 1, none⟩ = some (.string (bs xs)) ∧ W.cell? ⟨wv.heap.size, 2, none⟩ = some (.int .i64 xn) ∧ W.cell? ⟨wv.heap.size, 3, none⟩ = some (.int .i64 ek) ∧ W.cell? ⟨wv.heap.size, 4, none⟩ = some (.int .i64 en) ∧ W.cell? ⟨wv.heap.size, 5, none⟩ = some (.string (bs es)) ∧ W.cell? ⟨wv.heap.size, 6, none⟩ = some (.string (bs em)) ∧ W.cell? ⟨wv.heap.size, 7, none⟩ = some (.slice EA ena eca) ∧ W.cell? ⟨wv.heap.size, 8, none⟩ = some (.slice EO eno eco) ∧ W.cell? ⟨wv.heap.size, 9, none⟩ = some (.slice B2 nb2 cb2) ∧ W.cell? ⟨wv.heap.size, 10, none⟩ = some (.slice L2 nl2 cl2)) from fun W c h => by
        have hn : V.heap[wv.heap.size]? = some (.cells #[.int .i64 xk, .string (bs xs), .int .i64 xn, .int .i64 ek, .int .i64 en, .string (bs es), .string (bs em), .slice EA ena eca, .slice EO eno eco, .slice B2 nb2 cb2, .slice L2 nl2 cl2] 46 (0, 0)) := by rw [hV]; exact heap_alloc_new wv _
        exact st_cells ((h.block (lt_of_block hn) (by have := zr.lt; omega)).trans hn))
      have HK := Lib.hid (show ∀ W : World, V.grownBy W (some w.heap.size) → _ from fun W h => HK.out W (World.grownBy.trans HGV.out h))
      have HX := Lib.hid (show ∀ W : World, V.grownBy W (some w.heap.size) → _ from fun W h => HX.out W (World.grownBy.trans HGV.out h))
      have hbg : w.heap.size < V.heap.size := ZV.out.lt
      have v0 : Cnt w.heap.size V X0 V := Cnt.refl ZV.out.bx
      have HZV := Lib.hid (show W0.grownBy V (some w.heap.size) from ZV.out.gr)
      clear hx hb hS hxv hrow hlq hq hup htk htk0 hI hxz hbig hzz hnk hWK hez hnb hnl hxbb hxll sB sL n1 zr hbv hex hB hLl hX0 HGV ZV
      unfold exC at HX
      unfold stC exC at *
      go_upto_region 5 with fail
      rw [← hV]
      clear hV e0 e1 e2 e3 e4 e5 e6 e7 e8 e9 e10
      obtain ⟨f0, f1, f2, f3, f4, f5, f6, f7, f8, f9, f10⟩ := HF.out _ _ v0
      go_wp2_with fail
      refine (hasExpr_any xk V).mono ?_
      rintro e wq ⟨rfl, hwq⟩
      subst wq
      obtain ⟨hh, hhx⟩ : ∃ hh, hh = hasX xk := ⟨_, rfl⟩
      rw [← hhx] at HUX ⊢
      clear hhx
      cases hh with
      | true =>
        have HUY := Lib.hid (show (St.xss (l.take (q + 1)) : Int) = (X0 : Int) + ez + xbb + xll by have := HUX.out; simp at this; omega)
        clear HUX
        have HW2 := Lib.hid (HWK.out V _ _ w.heap.size (X0 : Int) (HX.out V (World.grownBy.refl _ _)) (fun b hb => by omega) v0.bx (by omega) (by rw [← HEZ.out]; omega))
        rw [← HEZ.out] at HW2
        go_wp2_with fail
        refine HW2.out.mono ?_
        rintro e wc ⟨rfl, ZC⟩
        have ZC := Lib.hid ZC
        clear f0 f1 f2 f3 f4 f5 f6 f7 f8 f9 f10 HW2 v0
        obtain ⟨f0, f1, f2, f3, f4, f5, f6, f7, f8, f9, f10⟩ := HF.out _ _ ZC.out
        obtain ⟨M, hM⟩ : ∃ M : Int, M = (X0 : Int) + ez := ⟨_, rfl⟩
        rw [← hM] at ZC
        have HUX := Lib.hid (show (St.xss (l.take (q + 1)) : Int) = M + xbb + xll by rw [hM]; exact HUY.out)
        have hMb : 0 ≤ M ∧ M ≤ 3000000 := by omega
        clear hM
        go_wp2_with fail
        obtain ⟨W1, hW1⟩ : ∃ W1 : World, W1 = wc.alloc (.cells #[.slice B2 nb2 cb2, .slice L2 nl2 cl2] 39) := ⟨_, rfl⟩
        have hbb : Below wc.heap.size wc W1 := by rw [hW1]; exact (Below.refl _ _).alloc (Nat.le_refl _) _
        have HC := Lib.hid (show ∀ W c, Cnt w.heap.size W1 c W → W.cell? ⟨wc.heap.size, 0, none⟩ = some (.slice B2 nb2 cb2) ∧ W.cell? ⟨wc.heap.size, 1, none⟩ = some (.slice L2 nl2 cl2) from fun W c h => by
          subst hW1
          have hq := heap_alloc_new wc (.cells #[.slice B2 nb2 cb2, .slice L2 nl2 cl2] 39)
          have hne : wc.heap.size ≠ w.heap.size := by have := ZC.out.lt; omega
          exact ⟨h.cellOf hne (by rw [cell_of_row _ _ _ _ _ _ hq]; rfl), h.cellOf hne (by rw [cell_of_row _ _ _ _ _ _ hq]; rfl)⟩)
        have HG := Lib.hid (World.grownBy.trans ZC.out.gr (Below.grown_ hbb (some w.heap.size)))
        have v0 : Cnt w.heap.size W1 M W1 := Cnt.refl ((hbb.block _ ZC.out.lt).trans ZC.out.bx)
        rw [← hW1]
        clear hW1 hbb ZC f0 f1 f2 f3 f4 f5 f6 f7 f8 f9 f10
        go_loopw [4, 33] (fun st i wr => ∃ (k : Nat) (s : Int), k ≤ 2 ∧ i = .int .i64 k ∧ st = .int .i64 s ∧ Hid (s = N + (if 1 ≤ k then (nb : Int) else 0) + (if 2 ≤ k then (nl : Int) else 0)) ∧ Cnt w.heap.size W1 (M + (if 1 ≤ k then (xbb : Int) else 0) + (if 2 ≤ k then (xll : Int) else 0)) wr) (fun _ i _ => 2 - (intOf i).toNat)
        case atStart => exact ⟨0, _, by omega, rfl, rfl, Lib.hid (by simp), by simpa using v0⟩
        case round =>
          clear v0
          obtain ⟨k, s, hk, rfl, rfl, n1, zq⟩ := hrel
          by_cases hlt : k < 2
          · obtain ⟨A', n', c', p, u, m0, hc, hcall, hm, hp, hst2, hm2⟩ : ∃ (A' : Option Addr) (n' c' : Nat) (p u : Int) (m0 : Int), (∀ W c, Cnt w.heap.size W1 c W → W.cell? ⟨wc.heap.size, k, none⟩ = some (.slice A' n' c')) ∧ (∀ W c, Cnt w.heap.size W1 c W → Calls Tryd.prog 30 #[.slice A' n' c'] W fun e' w' => e' = .returned (.tuple #[.int .i64 p, .int .i64 u]) ∧ Below W.heap.size W w') ∧ M + (if 1 ≤ k then (xbb : Int) else 0) + (if 2 ≤ k then (xll : Int) else 0) = m0 ∧ (0 ≤ p ∧ 0 ≤ u ∧ 0 ≤ s ∧ 0 ≤ m0 ∧ p ≤ 1000000 ∧ u ≤ 1000000 ∧ s ≤ 100000000 ∧ m0 ≤ 100000000) ∧ s + p = N + (if 1 ≤ k + 1 then (nb : Int) else 0) + (if 2 ≤ k + 1 then (nl : Int) else 0) ∧ M + (if 1 ≤ k + 1 then (xbb : Int) else 0) + (if 2 ≤ k + 1 then (xll : Int) else 0) = m0 + u := by
              have e := n1.out
              rcases (by omega : k = 0 ∨ k = 1) with rfl | rfl
              · rw [if_neg (by omega), if_neg (by omega)] at e
                exact ⟨B2, nb2, cb2, nb, xbb, M, fun W c h => (HC.out W c h).1, fun W c h => (HK.out W (World.grownBy.trans HG.out h.gr)).1, by simp, ⟨by omega, by omega, by omega, by omega, by omega, by omega, by omega, by omega⟩, by simp; omega, by simp⟩
              · rw [if_pos (by omega), if_neg (by omega)] at e
                exact ⟨L2, nl2, cl2, nl, xll, M + xbb, fun W c h => (HC.out W c h).2, fun W c h => (HK.out W (World.grownBy.trans HG.out h.gr)).2, by simp, ⟨by omega, by omega, by omega, by omega, by omega, by omega, by omega, by omega⟩, by simp; omega, by simp⟩
            rw [hm] at zq
            have HCALL := Lib.hid hcall
            have HST := Lib.hid hst2
            have HM := Lib.hid hm2
            have HLT := Lib.hid hlt
            have hi : (k : Int) < 2 := by omega
            have hcell := hc _ _ zq
            obtain ⟨p0, u0, b00, m00, p1, u1, b1, m1⟩ := hp
            have hw1 : IntKind.i64.wrap (s + p) = s + p := by simp [IntKind.wrap, IntKind.bits, IntKind.signed]; omega
            have hw2 : IntKind.i64.wrap (m0 + u) = m0 + u := by simp [IntKind.wrap, IntKind.bits, IntKind.signed]; omega
            clear hc hcall hm hst2 hm2 hlt hk n1
            go_wp2_with fail
            refine (HCALL.out _ _ zq).mono ?_
            rintro e w2 ⟨rfl, hb2⟩
            have z2 := zq.next hb2
            have Z2 := Lib.hid (show ∀ j, Cnt w.heap.size W1 m0 (w2.drewN j) from fun j => z2.next ⟨rfl, rfl, rfl, Nat.le_refl _, fun _ _ => rfl⟩)
            have zd : Cnt w.heap.size W1 m0 w2.drew := z2.next (Below.refl _ _).drew
            have ZD := Lib.hid zd
            have hcd := zd.cell
            have hfd := zd.free
            clear hb2 hcell HCALL zq zd
            go_upto_region 11 with fail
            go_region
            go_wp2
            go_roundw
            case rel => exact ⟨k + 1, _, HLT.out, by go_num, rfl, HST, by rw [HM.out]; exact ZD.out.set _⟩
            case measure => exact meas_up _ _ HLT.out
          · have hi : ¬ (k : Int) < 2 := by omega
            have HS := Lib.hid (show s = (n : Int) + St.nks (l.take (q + 1)) from n1.out.trans (by rw [if_pos (by omega), if_pos (by omega), HUN.out]; have := HNN.out; omega))
            rw [if_pos (by omega), if_pos (by omega)] at zq
            have ZQ := Lib.hid (show Cnt w.heap.size W0 (St.xss (l.take (q + 1))) _ from ⟨World.grownBy.trans HZV.out (World.grownBy.trans HG.out zq.gr), by rw [zq.bx, show M + (xbb : Int) + (xll : Int) = (St.xss (l.take (q + 1)) : Int) by have := HUX.out; omega]⟩)
            clear zq hk hlt n1
            go_wp2
            go_roundw
            case rel => exact ⟨q + 1, _, HQL.out, rfl, by go_num, HS, ZQ.out⟩
            case measure => exact meas_up _ _ HQL.out
      | false =>
        have HUY := Lib.hid (show (St.xss (l.take (q + 1)) : Int) = (X0 : Int) + xbb + xll by have := HUX.out; simp at this; omega)
        clear HUX
        go_wp2_with fail
        obtain ⟨wc, hwc⟩ : ∃ wc, wc = V := ⟨_, rfl⟩
        subst hwc
        have ZC := Lib.hid v0
        obtain ⟨M, hM⟩ : ∃ M : Int, M = (X0 : Int) := ⟨_, rfl⟩
        rw [← hM] at ZC
        have HUX := Lib.hid (show (St.xss (l.take (q + 1)) : Int) = M + xbb + xll by rw [hM]; exact HUY.out)
        have hMb : 0 ≤ M ∧ M ≤ 3000000 := by omega
        clear hM v0
        obtain ⟨W1, hW1⟩ : ∃ W1 : World, W1 = wc.alloc (.cells #[.slice B2 nb2 cb2, .slice L2 nl2 cl2] 39) := ⟨_, rfl⟩
        have hbb : Below wc.heap.size wc W1 := by rw [hW1]; exact (Below.refl _ _).alloc (Nat.le_refl _) _
        have HC := Lib.hid (show ∀ W c, Cnt w.heap.size W1 c W → W.cell? ⟨wc.heap.size, 0, none⟩ = some (.slice B2 nb2 cb2) ∧ W.cell? ⟨wc.heap.size, 1, none⟩ = some (.slice L2 nl2 cl2) from fun W c h => by
          subst hW1
          have hq := heap_alloc_new wc (.cells #[.slice B2 nb2 cb2, .slice L2 nl2 cl2] 39)
          have hne : wc.heap.size ≠ w.heap.size := by have := ZC.out.lt; omega
          exact ⟨h.cellOf hne (by rw [cell_of_row _ _ _ _ _ _ hq]; rfl), h.cellOf hne (by rw [cell_of_row _ _ _ _ _ _ hq]; rfl)⟩)
        have HG := Lib.hid (World.grownBy.trans ZC.out.gr (Below.grown_ hbb (some w.heap.size)))
        have v0 : Cnt w.heap.size W1 M W1 := Cnt.refl ((hbb.block _ ZC.out.lt).trans ZC.out.bx)
        rw [← hW1]
        clear hW1 hbb ZC f0 f1 f2 f3 f4 f5 f6 f7 f8 f9 f10
        go_loopw [4, 33] (fun st i wr => ∃ (k : Nat) (s : Int), k ≤ 2 ∧ i = .int .i64 k ∧ st = .int .i64 s ∧ Hid (s = N + (if 1 ≤ k then (nb : Int) else 0) + (if 2 ≤ k then (nl : Int) else 0)) ∧ Cnt w.heap.size W1 (M + (if 1 ≤ k then (xbb : Int) else 0) + (if 2 ≤ k then (xll : Int) else 0)) wr) (fun _ i _ => 2 - (intOf i).toNat)
        case atStart => exact ⟨0, _, by omega, rfl, rfl, Lib.hid (by simp), by simpa using v0⟩
        case round =>
          clear v0
          obtain ⟨k, s, hk, rfl, rfl, n1, zq⟩ := hrel
          by_cases hlt : k < 2
          · obtain ⟨A', n', c', p, u, m0, hc, hcall, hm, hp, hst2, hm2⟩ : ∃ (A' : Option Addr) (n' c' : Nat) (p u : Int) (m0 : Int), (∀ W c, Cnt w.heap.size W1 c W → W.cell? ⟨wc.heap.size, k, none⟩ = some (.slice A' n' c')) ∧ (∀ W c, Cnt w.heap.size W1 c W → Calls Tryd.prog 30 #[.slice A' n' c'] W fun e' w' => e' = .returned (.tuple #[.int .i64 p, .int .i64 u]) ∧ Below W.heap.size W w') ∧ M + (if 1 ≤ k then (xbb : Int) else 0) + (if 2 ≤ k then (xll : Int) else 0) = m0 ∧ (0 ≤ p ∧ 0 ≤ u ∧ 0 ≤ s ∧ 0 ≤ m0 ∧ p ≤ 1000000 ∧ u ≤ 1000000 ∧ s ≤ 100000000 ∧ m0 ≤ 100000000) ∧ s + p = N + (if 1 ≤ k + 1 then (nb : Int) else 0) + (if 2 ≤ k + 1 then (nl : Int) else 0) ∧ M + (if 1 ≤ k + 1 then (xbb : Int) else 0) + (if 2 ≤ k + 1 then (xll : Int) else 0) = m0 + u := by
              have e := n1.out
              rcases (by omega : k = 0 ∨ k = 1) with rfl | rfl
              · rw [if_neg (by omega), if_neg (by omega)] at e
                exact ⟨B2, nb2, cb2, nb, xbb, M, fun W c h => (HC.out W c h).1, fun W c h => (HK.out W (World.grownBy.trans HG.out h.gr)).1, by simp, ⟨by omega, by omega, by omega, by omega, by omega, by omega, by omega, by omega⟩, by simp; omega, by simp⟩
              · rw [if_pos (by omega), if_neg (by omega)] at e
                exact ⟨L2, nl2, cl2, nl, xll, M + xbb, fun W c h => (HC.out W c h).2, fun W c h => (HK.out W (World.grownBy.trans HG.out h.gr)).2, by simp, ⟨by omega, by omega, by omega, by omega, by omega, by omega, by omega, by omega⟩, by simp; omega, by simp⟩
            rw [hm] at zq
            have HCALL := Lib.hid hcall
            have HST := Lib.hid hst2
            have HM := Lib.hid hm2
            have HLT := Lib.hid hlt
            have hi : (k : Int) < 2 := by omega
            have hcell := hc _ _ zq
            obtain ⟨p0, u0, b00, m00, p1, u1, b1, m1⟩ := hp
            have hw1 : IntKind.i64.wrap (s + p) = s + p := by simp [IntKind.wrap, IntKind.bits, IntKind.signed]; omega
            have hw2 : IntKind.i64.wrap (m0 + u) = m0 + u := by simp [IntKind.wrap, IntKind.bits, IntKind.signed]; omega
            clear hc hcall hm hst2 hm2 hlt hk n1
            go_wp2_with fail
            refine (HCALL.out _ _ zq).mono ?_
            rintro e w2 ⟨rfl, hb2⟩
            have z2 := zq.next hb2
            have Z2 := Lib.hid (show ∀ j, Cnt w.heap.size W1 m0 (w2.drewN j) from fun j => z2.next ⟨rfl, rfl, rfl, Nat.le_refl _, fun _ _ => rfl⟩)
            have zd : Cnt w.heap.size W1 m0 w2.drew := z2.next (Below.refl _ _).drew
            have ZD := Lib.hid zd
            have hcd := zd.cell
            have hfd := zd.free
            clear hb2 hcell HCALL zq zd
            go_upto_region 11 with fail
            go_region
            go_wp2
            go_roundw
            case rel => exact ⟨k + 1, _, HLT.out, by go_num, rfl, HST, by rw [HM.out]; exact ZD.out.set _⟩
            case measure => exact meas_up _ _ HLT.out
          · have hi : ¬ (k : Int) < 2 := by omega
            have HS := Lib.hid (show s = (n : Int) + St.nks (l.take (q + 1)) from n1.out.trans (by rw [if_pos (by omega), if_pos (by omega), HUN.out]; have := HNN.out; omega))
            rw [if_pos (by omega), if_pos (by omega)] at zq
            have ZQ := Lib.hid (show Cnt w.heap.size W0 (St.xss (l.take (q + 1))) _ from ⟨World.grownBy.trans HZV.out (World.grownBy.trans HG.out zq.gr), by rw [zq.bx, show M + (xbb : Int) + (xll : Int) = (St.xss (l.take (q + 1)) : Int) by have := HUX.out; omega]⟩)
            clear zq hk hlt n1
            go_wp2
            go_roundw
            case rel => exact ⟨q + 1, _, HQL.out, rfl, by go_num, HS, ZQ.out⟩
            case measure => exact meas_up _ _ HQL.out
    · have hi2 : ¬ (q : Int) < (n : Int) := by have := HN.out; omega
      have ht : l.take q = l := List.take_of_length_le (by omega)
      rw [ht] at n1 zr
      have HR := Lib.hid (show N = (St.nss l : Int) by have := n1.out; have := HNK.out; have := HN.out; omega)
      have hcd := (zr.next (Below.refl _ _).drew).cell
      have hc := zr.cell
      have HBW := Lib.hid (show ∀ j, Below w.heap.size w (wv.drewN j) from fun j => by
        have h := World.grownBy.trans HG0.out zr.gr
        exact ⟨h.os, h.tape, h.output, h.size, fun b hb => h.block b hb (fun e => by have := Option.some.inj e; omega)⟩)
      clear hlq hq n1 ht zr
      go_wp2
      go_quiet (fail)
      go_wp2
      go_ret2
      exact ⟨congrArg (fun v => Ending.returned (.tuple #[.int .i64 v, .int .i64 (St.xss l)])) HR.out, HBW.out _⟩
theorem size_any : ∀ (N : Nat) (l : List St), St.sizes l ≤ N → SizeAt l := by
  intro N
  induction N with
  | zero =>
    intro l h
    refine size_of l fun x hx => ?_
    have := St.sizes_mem hx
    obtain ⟨_, _, _, _, _, _⟩ := x
    rw [St.size] at this
    omega
  | succ N ih =>
    intro l h
    refine size_of l fun x hx => ?_
    have := St.sizes_mem hx
    obtain ⟨_, _, _, _, b, l⟩ := x
    rw [St.size] at this
    exact ⟨ih b (by omega), ih l (by omega)⟩
def opNs : List Oper' → Nat
  | [] => 0
  | o :: t => St.nss o.body + opNs t
def opXs : List Oper' → Nat
  | [] => 0
  | o :: t => St.xss o.body + opXs t
theorem opNs_up {l : List Oper'} {q : Nat} {x : Oper'} (h : l[q]? = some x) : opNs (l.take (q + 1)) = opNs (l.take q) + St.nss x.body ∧ opXs (l.take (q + 1)) = opXs (l.take q) + St.xss x.body := by
  induction l generalizing q with
  | nil => simp at h
  | cons a t ih =>
    cases q with
    | zero =>
      obtain rfl : a = x := by simpa using h
      simp [opNs, opXs]
    | succ q =>
      have h' : t[q]? = some x := by simpa using h
      have := ih h'
      rw [List.take_succ_cons, List.take_succ_cons, opNs, opNs, opXs, opXs, this.1, this.2]
      omega
theorem opNs_tk : ∀ (l : List Oper') (q : Nat), (∀ o ∈ l, St.sizes o.body ≤ 10000) → opNs (l.take q) ≤ 10000 * q ∧ opXs (l.take q) ≤ 10000 * q
  | [], q, _ => by rw [List.take_nil]; exact ⟨Nat.zero_le _, Nat.zero_le _⟩
  | e :: t, 0, _ => by rw [List.take_zero]; exact ⟨Nat.le_refl _, Nat.le_refl _⟩
  | e :: t, q + 1, h => by
    have h1 := opNs_tk t q fun o ho => h o (List.mem_cons_of_mem _ ho)
    have h2 := h e (List.mem_cons_self ..)
    have h3 := St.nss_le e.body
    rw [List.take_succ_cons, opNs, opXs]
    omega
set_option maxRecDepth 100000 in
set_option maxHeartbeats 12800000 in
theorem sizeP_any (p : Prog') (hf : p.opers.length ≤ 10000 ∧ ∀ o ∈ p.opers, St.sizes o.body ≤ 10000) (w : World) (S : Nat → Prop) (v : Value) (hp : PV w S p v) :
    Calls Tryd.prog 14 #[v] w fun e' w' => e' = .returned (.tuple #[.int .i64 (opNs p.opers), .int .i64 (opXs p.opers)]) ∧ Below w.heap.size w w' := by
  obtain ⟨D, nd, cd, O, no, co, rfl, hd, ho⟩ := hp
  obtain ⟨ds, l⟩ := p
  have hfl : l.length ≤ 10000 ∧ ∀ o ∈ l, St.sizes o.body ≤ 10000 := hf
  dsimp only at ho ⊢
  have HO := Lib.hid ho
  have HN := Lib.hid ho.1
  have HFL := Lib.hid hfl.2
  have hn6 : (no : Int) ≤ 10000 := by have := ho.1; omega
  obtain ⟨W0, hW0⟩ : ∃ W0 : World, W0 = w.alloc (.cells #[.slice D nd cd, .slice O no co] 25) := ⟨_, rfl⟩
  have hb0 : Below w.heap.size w W0 := by rw [hW0]; exact (Below.refl _ _).alloc (Nat.le_refl _) _
  have hq : W0.heap[w.heap.size]? = some (.cells #[.slice D nd cd, .slice O no co] 25 (0, 0)) := by rw [hW0]; exact heap_alloc_new w _
  obtain ⟨c0, c1⟩ := cells2 hq
  have HG := Lib.hid (show ∀ W, Bz W0 W → Below w.heap.size w W from fun W h => hb0.trans (h.b.mono hb0.size))
  have z0 : Bz W0 W0 := ⟨Below.refl _ _⟩
  clear hd ho hf hfl hb0 hq
  go_enter Tryd.func14, Tryd.ntmps14
  go_upto_region 1 with fail
  rw [← hW0]
  clear hW0
  go_wp2_with fail
  clear c0 c1
  go_loopw [4, 5, 13] (fun a b i wr => ∃ (q : Nat) (u v : Int), q ≤ l.length ∧ a = .int .i64 u ∧ b = .int .i64 v ∧ i = .int .i64 q ∧ Hid (u = opNs (l.take q)) ∧ Hid (v = opXs (l.take q)) ∧ Bz W0 wr) (fun _ _ i _ => l.length - (intOf i).toNat)
  case atStart => exact ⟨0, _, _, Nat.zero_le _, rfl, rfl, rfl, Lib.hid rfl, Lib.hid rfl, z0⟩
  case round =>
    clear z0
    obtain ⟨q, u, v, hq, rfl, rfl, rfl, n1, n2, zr⟩ := hrel
    obtain ⟨wv, hwv⟩ : ∃ wv, wv = wr := ⟨_, rfl⟩
    subst hwv
    by_cases hlq : q < l.length
    · have hi2 : (q : Int) < (no : Int) := by have := HN.out; omega
      have HQL := Lib.hid hlq
      obtain ⟨b, off, cs, rfl, hb, hS, ⟨x, hx, hxv⟩, hrow⟩ := HO.out.2.at q (by have := HN.out; omega)
      have hup := opNs_up hx
      have htk := opNs_tk l q HFL.out
      have hxz := HFL.out x (List.mem_of_getElem? hx)
      have hle := St.nss_le x.body
      have hrow2 := rangeAt_keep hrow ((HG.out _ zr).block b hb)
      obtain ⟨P, np, cp, B, nb, cb, rfl, hP, hB⟩ := hxv
      obtain ⟨s, ps, bd⟩ := x
      dsimp only at hup hxz hle hB hrow2
      obtain ⟨e0, e1, e2⟩ := range3 hrow2
      have z1 : Bz W0 (wv.alloc (.cells #[.string (bs s), .slice P np cp, .slice B nb cb] 41)) := zr.next ((Below.refl _ _).alloc (Nat.le_refl _) _)
      have HK := Lib.hid (size_any _ bd (Nat.le_refl _) _ S B nb cb (hB.below (HG.out _ z1)) (by omega))
      obtain ⟨a, ha⟩ : ∃ z : Nat, z = St.nss bd := ⟨_, rfl⟩
      obtain ⟨a2, ha2⟩ : ∃ z : Nat, z = St.xss bd := ⟨_, rfl⟩
      rw [← ha, ← ha2] at HK
      rw [← ha] at hup hle
      rw [← ha2] at hup hle
      have hub : u ≤ 100000000 ∧ 0 ≤ u := by have := n1.out; omega
      have hvb : v ≤ 100000000 ∧ 0 ≤ v := by have := n2.out; omega
      have hw1 : IntKind.i64.wrap (u + a) = u + a := by simp [IntKind.wrap, IntKind.bits, IntKind.signed]; omega
      have hw2 : IntKind.i64.wrap (v + a2) = v + a2 := by simp [IntKind.wrap, IntKind.bits, IntKind.signed]; omega
      have N1 := Lib.hid (show u + a = (opNs (l.take (q + 1)) : Int) by have := n1.out; omega)
      have N2 := Lib.hid (show v + a2 = (opXs (l.take (q + 1)) : Int) by have := n2.out; omega)
      clear hx hb hS hrow hrow2 hlq hq hup htk hxz hle hP hB ha ha2 n1 n2
      go_wp2_with fail
      refine HK.out.mono ?_
      rintro e wc ⟨rfl, hbb⟩
      have z2 := z1.next hbb
      clear e0 e1 e2 HK hbb z1 zr
      go_wp2
      go_roundw
      case rel => exact ⟨q + 1, _, _, HQL.out, rfl, rfl, by go_num, N1, N2, z2⟩
      case measure => exact meas_up _ _ HQL.out
    · have hi2 : ¬ (q : Int) < (no : Int) := by have := HN.out; omega
      have ht : l.take q = l := List.take_of_length_le (by omega)
      rw [ht] at n1 n2
      clear hlq hq ht
      go_wp2
      go_ret2
      refine ⟨?_, HG.out _ zr⟩
      rw [← n1.out, ← n2.out]
      rfl
end Go.Proofs.YthfjkdgaiaokdaaDoor
