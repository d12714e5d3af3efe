/- The walks of slices.Equal, sameOper and Same (printed by wip/genpzi.py). Conditions: at most 1000000 parts a list. The tokens of an expression's text form, and that the parser reads them as that expression. Conditions: a valid expression, numbers of int64. The tokens of statements and programs, and that the parser reads them as those. Conditions: valid statements. -/
import Derived.Test.YtkakbidllpjopaaGreatDoorW14
import Derived.Test.YtkakbidllpjopaaGreatDoorW01
import Derived.Test.YtkakbidllpjopaaGreatDoorW11
set_option linter.unusedVariables false
set_option linter.unusedSimpArgs false
namespace Go.Proofs.YtkakbidllpjopaaGreatDoor
open Go.RowKit

theorem SS.at {w : World} {S : Nat → Prop} {A : Option Addr} {n c : Nat} {l : List Str} (h : SS w S A n c l) (hn : 0 < n) : ∃ b q, A = some ⟨b, q, none⟩ ∧ b < w.heap.size ∧ S b ∧ ∀ j, j < (l.map bs).length → w.cell? ⟨b, q + j, none⟩ = some (.string ((l.map bs).getD j ByteArray.empty)) := by
  obtain ⟨b, q, e1, hb, hS, hx⟩ := h.2.2 hn
  refine ⟨b, q, e1, hb, hS, fun j hj => ?_⟩
  rw [List.length_map] at hj
  obtain ⟨cs, ⟨s, hs, rfl⟩, h2⟩ := hx j (by have := h.1; omega)
  have := h2 0 _ rfl
  rw [Nat.mul_one] at this
  have e : (l.map bs).getD j ByteArray.empty = bs s := by rw [List.getD_eq_getElem?_getD, List.getElem?_map, hs]; rfl
  rw [e]
  exact this
theorem map_bs_inj : ∀ {a b : List Str}, a.map bs = b.map bs → a = b
  | [], [], _ => rfl
  | [], y :: t, h => by cases h
  | x :: s, [], h => by cases h
  | x :: s, y :: t, h => by
    injection h with h1 h2
    rw [bs_inj h1, map_bs_inj h2]
/-- Whether two rows of strings are equal. -/
theorem sameP (l1 l2 : List Str) (w : World) (S S' : Nat → Prop) (A A' : Option Addr) (n c n' c' : Nat) (h1 : SS w S A n c l1) (h2 : SS w S' A' n' c' l2) (hn : n ≤ 1000000) :
    Calls Tryz.prog 66 #[.slice A n c, .slice A' n' c'] w fun e w' => e = .returned (.bool (eqC l1 l2)) ∧ Below w.heap.size w w' := by
  by_cases hnn : n = n'
  · subst hnn
    by_cases h0 : n = 0
    · subst h0
      refine (Tryz.slices_Equal_string_empty A A' c 0 c' w (by omega)).mono ?_
      rintro e w' ⟨rfl, rfl⟩
      have e1 : l1 = [] := List.eq_nil_of_length_eq_zero h1.1.symm
      have e2 : l2 = [] := List.eq_nil_of_length_eq_zero h2.1.symm
      refine ⟨?_, Below.refl _ _⟩
      rw [eqC_pos (by rw [e1, e2])]
      rfl
    · obtain ⟨b, q, rfl, -, -, hx⟩ := h1.at (by omega)
      obtain ⟨b2, q2, rfl, -, -, hy⟩ := h2.at (by omega)
      refine (Tryz.slices_Equal_string b q n c b2 q2 n c' (l1.map bs) (l2.map bs) w (by rw [List.length_map]; exact Nat.le_of_eq h1.1) (by rw [List.length_map]; exact Nat.le_of_eq h2.1) (by omega) (by omega) hx hy).mono ?_
      rintro e w' ⟨rfl, q, rfl⟩
      refine ⟨?_, ⟨rfl, rfl, rfl, Nat.le_refl _, fun _ _ => rfl⟩⟩
      rw [List.take_of_length_le (by rw [List.length_map]; exact Nat.le_of_eq h1.1.symm), List.take_of_length_le (by rw [List.length_map]; exact Nat.le_of_eq h2.1.symm)]
      by_cases h : l1 = l2
      · rw [eqC_pos h, decide_eq_true (by rw [h])]
      · rw [eqC_neg h, decide_eq_false (fun e => h (map_bs_inj e))]
  · refine (Tryz.slices_Equal_string_lens A A' n c n' c' w hnn).mono ?_
    rintro e w' ⟨rfl, rfl⟩
    refine ⟨?_, Below.refl _ _⟩
    rw [eqC_neg (fun e => hnn (by rw [h1.1, h2.1, e]))]
set_option maxRecDepth 100000 in
set_option maxHeartbeats 25600000 in
theorem sameO {x : Oper'} (hz : x.params.length ≤ 1000000 ∧ St.sizes x.body ≤ 1000000) (y : Oper') : SameO x y := by
  intro w S S' cs ds hx hy
  obtain ⟨P1, np1, cp1, B1, nb1, cb1, rfl, hp1, hb1⟩ := hx
  obtain ⟨P2, np2, cp2, B2, nb2, cb2, rfl, hp2, hb2⟩ := hy
  obtain ⟨s1, p1, b1⟩ := x
  obtain ⟨s2, p2, b2⟩ := y
  dsimp only at *
  have lnp : np1 ≤ 1000000 := by have := hp1.1; omega
  have lnb : nb1 ≤ 1000000 := by have := hb1.1.1; have := St.len_sizes b1; omega
  have ihb := sameSL hz.2
  obtain ⟨W0, hW0⟩ : ∃ W0 : World, W0 = (w.alloc (.cells #[.string (bs s1), .slice P1 np1 cp1, .slice B1 nb1 cb1] 76)).alloc (.cells #[.string (bs s2), .slice P2 np2 cp2, .slice B2 nb2 cb2] 76) := ⟨_, rfl⟩
  have hba : Below w.heap.size w (w.alloc (.cells #[.string (bs s1), .slice P1 np1 cp1, .slice B1 nb1 cb1] 76)) := (Below.refl _ _).alloc (Nat.le_refl _) _
  have hb0 : Below w.heap.size w W0 := by rw [hW0]; exact hba.alloc hba.size _
  have HF := Lib.hid (show ∀ W, Bz W0 W → (W.cell? ⟨w.heap.size, 0, none⟩ = some (.string (bs s1)) ∧ W.cell? ⟨w.heap.size, 1, none⟩ = some (.slice P1 np1 cp1) ∧ W.cell? ⟨w.heap.size, 2, none⟩ = some (.slice B1 nb1 cb1) ∧ W.cell? ⟨w.heap.size + 1, 0, none⟩ = some (.string (bs s2)) ∧ W.cell? ⟨w.heap.size + 1, 1, none⟩ = some (.slice P2 np2 cp2) ∧ W.cell? ⟨w.heap.size + 1, 2, none⟩ = some (.slice B2 nb2 cb2)) from fun W h => by
    subst hW0
    have hs1 : (w.alloc (.cells #[.string (bs s1), .slice P1 np1 cp1, .slice B1 nb1 cb1] 76)).heap.size = w.heap.size + 1 := World.size_alloc ..
    have hq := heap_alloc_new w (.cells #[.string (bs s1), .slice P1 np1 cp1, .slice B1 nb1 cb1] 76)
    have hq2 := heap_alloc_new (w.alloc (.cells #[.string (bs s1), .slice P1 np1 cp1, .slice B1 nb1 cb1] 76)) (.cells #[.string (bs s2), .slice P2 np2 cp2, .slice B2 nb2 cb2] 76)
    have hq1 := (((Below.refl _ (w.alloc (.cells #[.string (bs s1), .slice P1 np1 cp1, .slice B1 nb1 cb1] 76))).alloc (Nat.le_refl _) (.cells #[.string (bs s2), .slice P2 np2 cp2, .slice B2 nb2 cb2] 76)).block w.heap.size (lt_of_block hq)).trans hq
    rw [hs1] at hq2
    have h1 := fun j v (hv : (#[.string (bs s1), .slice P1 np1 cp1, .slice B1 nb1 cb1] : Array Value)[j]? = some v) => cell_of_Bz h (g := w.heap.size) (j := j) (v := v) (by rw [cell_of_row _ _ _ _ _ _ hq1]; exact hv) (lt_of_block hq1)
    have h2 := fun j v (hv : (#[.string (bs s2), .slice P2 np2 cp2, .slice B2 nb2 cb2] : Array Value)[j]? = some v) => cell_of_Bz h (g := w.heap.size + 1) (j := j) (v := v) (by rw [cell_of_row _ _ _ _ _ _ hq2]; exact hv) (lt_of_block hq2)
    exact ⟨h1 0 _ rfl, h1 1 _ rfl, h1 2 _ rfl, h2 0 _ rfl, h2 1 _ rfl, h2 2 _ rfl⟩)
  have HG := Lib.hid (show ∀ W, Bz W0 W → Below w.heap.size w W from fun W h => hb0.trans (h.b.mono hb0.size))
  have z0 : Bz W0 W0 := ⟨Below.refl _ _⟩
  have bl : ∀ {W : World}, Below w.heap.size w W → ∀ (S : Nat → Prop) b, b < w.heap.size → S b → W.heap[b]? = w.heap[b]? := fun h S b hlt _ => h.block b hlt
  have KP := Lib.hid (show ∀ W, Bz W0 W → _ from fun W h => sameP p1 p2 W S S' P1 P2 np1 cp1 np2 cp2 (hp1.keep (HG.out W h).size (bl (HG.out W h) S) fun _ _ h => h) (hp2.keep (HG.out W h).size (bl (HG.out W h) S') fun _ _ h => h) lnp)
  have KA := Lib.hid (show ∀ W, Bz W0 W → _ from fun W h => ihb b2 W S S' B1 B2 nb1 cb1 nb2 cb2 (hb1.below (HG.out W h)) (hb2.below (HG.out W h)) lnb)
  have NE := Lib.hid (show (s1 ≠ s2 ∨ eqC p1 p2 = false ∨ eqC b1 b2 = false) → eqC (Oper'.mk s1 p1 b1) (.mk s2 p2 b2) = false from fun h => eqC_neg fun e => by
    injection e with e1 e2 e3
    rcases h with h | h | h
    · exact h e1
    · rw [eqC_pos e2] at h; cases h
    · rw [eqC_pos e3] at h; cases h)
  have YE := Lib.hid (show s1 = s2 → eqC p1 p2 = true → eqC b1 b2 = true → eqC (Oper'.mk s1 p1 b1) (.mk s2 p2 b2) = true from fun h1 h2 h3 => by
    have e2 : p1 = p2 := Classical.byContradiction fun h => by rw [eqC_neg h] at h2; cases h2
    have e3 : b1 = b2 := Classical.byContradiction fun h => by rw [eqC_neg h] at h3; cases h3
    exact eqC_pos (by rw [h1, e2, e3]))
  generalize eqC (Oper'.mk s1 p1 b1) (.mk s2 p2 b2) = E at *
  generalize eqC p1 p2 = ep at *
  generalize eqC b1 b2 = eb at *
  clear hp1 hb1 hp2 hb2 ihb hz lnp lnb hb0 hba bl
  by_cases h : s1 = s2
  · subst h
    have qs : ((bs s1).toList == (bs s1).toList) = true := beq_self_eq_true _
    go_enter Tryz.func38, Tryz.ntmps38
    go_upto_region 1 with fail
    rw [← hW0]
    clear hW0
    obtain ⟨c0, c1, c2, d0, d1, d2⟩ := HF.out _ z0
    go_wp2_with fail
    refine (KP.out _ z0).mono ?_
    rintro e w1 ⟨rfl, hb⟩
    have z1 := z0.next hb
    clear hb c0 c1 c2 d0 d1 d2
    obtain ⟨c0, c1, c2, d0, d1, d2⟩ := HF.out _ z1
    cases ep with
    | false =>
      have h : False ∨ false = false := .inr rfl
      have HR := Lib.hid (NE.out (.inr (.inl rfl)))
      obtain rfl := HR.out
      go_wp2_with fail
      go_ret
      exact ⟨rfl, HG.out _ z1⟩
    | true =>
      go_wp2_with fail
      refine (KA.out _ z1).mono ?_
      rintro e w2 ⟨rfl, hb⟩
      have z2 := z1.next hb
      clear hb c0 c1 c2 d0 d1 d2
      obtain ⟨c0, c1, c2, d0, d1, d2⟩ := HF.out _ z2
      cases eb with
      | false =>
        have h : False ∨ false = false := .inr rfl
        have HR := Lib.hid (NE.out (.inr (.inr rfl)))
        obtain rfl := HR.out
        go_wp2_with fail
        go_ret
        exact ⟨rfl, HG.out _ z2⟩
      | true =>
        have HR := Lib.hid (YE.out (by first | trivial | rfl) (by first | trivial | rfl) (by first | trivial | rfl))
        obtain rfl := HR.out
        go_wp2_with fail
        go_ret
        exact ⟨rfl, HG.out _ z2⟩
  · have HR := Lib.hid (NE.out (.inl h))
    obtain rfl := HR.out
    have qs : ((bs s1).toList == (bs s2).toList) = false := by rw [bs_toList, bs_toList]; simp [h]
    have qs2 : ¬ (bs s1).toList = (bs s2).toList := by rw [bs_toList, bs_toList]; exact h
    go_enter Tryz.func38, Tryz.ntmps38
    go_upto_region 1 with fail
    rw [← hW0]
    clear hW0
    obtain ⟨c0, c1, c2, d0, d1, d2⟩ := HF.out _ z0
    go_wp2_with fail
    go_ret
    exact ⟨rfl, HG.out _ z0⟩
theorem sameOL {l : List Oper'} (h : ∀ o ∈ l, o.params.length ≤ 1000000 ∧ St.sizes o.body ≤ 1000000) (l2 : List Oper') : SameOL l l2 := SameOL.of fun x hx y hy => sameO (h x hx) y
theorem range2 {w : World} {b o : Nat} {u0 u1 : Value} (h : w.rangeAt b o [u0, u1]) : w.cell? ⟨b, o, none⟩ = some u0 ∧ w.cell? ⟨b, o + 1, none⟩ = some u1 := ⟨h 0 _ rfl, h 1 _ rfl⟩
set_option maxRecDepth 100000 in
set_option maxHeartbeats 25600000 in
theorem sameD (l1 l2 : List Decl') (w : World) (S S' : Nat → Prop) (A A' : Option Addr) (n c n' c' : Nat) (hl : DL w S A n c l1) (hl2 : DL w S' A' n' c' l2) (hn : n ≤ 1000000) :
    Calls Tryz.prog 36 #[.slice A n c, .slice A' n' c'] w fun e w' => e = .returned (.bool (eqC l1 l2)) ∧ Below w.heap.size w w' := by
  have HL := Lib.hid hl
  have HL2 := Lib.hid hl2
  have HLEN := Lib.hid hl.1
  have HLEN2 := Lib.hid hl2.1
  have hn6 : (n : Int) ≤ 1000000 := by omega
  have HPOS := Lib.hid (show l1 = l2 → eqC l1 l2 = true from eqC_pos)
  have HNEG := Lib.hid (show l1 ≠ l2 → eqC l1 l2 = false from eqC_neg)
  generalize eqC l1 l2 = E at *
  have hb0 : Below w.heap.size w w := Below.refl _ _
  clear hl hl2 hn
  by_cases hnn : n' = n
  · subst hnn
    go_enter Tryz.func36, Tryz.ntmps36
    go_wp2_with fail
    go_loopw [13] (fun i wx => ∃ q : Nat, q ≤ l1.length ∧ i = .int .i64 q ∧ Hid (l1.take q = l2.take q) ∧ Below w.heap.size w wx) (fun i _ => l1.length - (intOf i).toNat)
    case atStart => exact ⟨0, Nat.zero_le _, rfl, Lib.hid (by rw [List.take_zero, List.take_zero]), hb0⟩
    case round =>
      clear hb0
      obtain ⟨q, hq, rfl, n3, zq⟩ := hrel
      by_cases hlq : q < l1.length
      · have hi2 : (q : Int) < (n' : Int) := by have := HLEN.out; omega
        obtain ⟨b, off, cs, rfl, hb, hS, ⟨x, hx, rfl⟩, hrow⟩ := HL.out.2.at q (by have := HLEN.out; omega)
        obtain ⟨b2, off2, ds, rfl, hb2, hS2, ⟨y, hy, rfl⟩, hrow2⟩ := HL2.out.2.at q (by have := HLEN.out; omega)
        have HQL := Lib.hid hlq
        have HXQ := Lib.hid hx
        have HYQ := Lib.hid hy
        have hrow3 := rangeAt_keep hrow (zq.block b hb)
        have hrow4 := rangeAt_keep hrow2 (zq.block b2 hb2)
        obtain ⟨c0, c1⟩ := range2 hrow3
        obtain ⟨d0, d1⟩ := range2 hrow4
        obtain ⟨x1, x2⟩ := x
        obtain ⟨y1, y2⟩ := y
        dsimp only at c0 c1 d0 d1
        obtain ⟨wv, hwv⟩ : ∃ wv, wv = wr := ⟨_, rfl⟩
        subst hwv
        have HB2 := Lib.hid (fun k => show Below w.heap.size w (wv.drewN k) from ⟨zq.os, zq.tape, zq.output, zq.size, zq.block⟩)
        clear hx hy hb hb2 hS hS2 hrow hrow2 hrow3 hrow4 hlq hq zq
        by_cases hxy : x1 = y1 ∧ x2 = y2
        · obtain ⟨rfl, rfl⟩ := hxy
          go_wp2
          go_quiet (fail)
          go_wp2
          go_roundw
          case rel => exact ⟨q + 1, HQL.out, by go_num, Lib.hid (take_next n3.out HXQ.out HYQ.out rfl), HB2.out _⟩
          case measure => exact meas_up _ _ HQL.out
        · have HR := Lib.hid (show E = false from HNEG.out fun e => by
            have h1 := HXQ.out
            rw [e, HYQ.out] at h1
            injection h1 with h1
            injection h1 with h1 h2
            exact hxy ⟨h1.symm, h2.symm⟩)
          have HH := Lib.hid (show ((bs x1).toList == (bs y1).toList && (bs x2).toList == (bs y2).toList) = false by
            rw [bs_toList, bs_toList, bs_toList, bs_toList]
            by_cases h1 : x1 = y1
            · have h2 : ¬ x2 = y2 := fun h2 => hxy ⟨h1, h2⟩
              simp [h2]
            · simp [h1])
          have hne : ∀ W : World, (Op.equalIn 10000 83 (.agg #[.string (bs x1), .string (bs x2)]) (.agg #[.string (bs y1), .string (bs y2)])).run Tryz.prog W = .ok false W := fun W => by
            go_simp
            have := HH.out
            simpa using this
          clear hxy
          go_wp2
          go_quiet (fail)
          go_wp2
          go_ret
          exact ⟨congrArg (fun v => Ending.returned (.bool v)) HR.out.symm, HB2.out _⟩
      · have hi2 : ¬ (q : Int) < (n' : Int) := by have := HLEN.out; omega
        have HR := Lib.hid (show E = true from HPOS.out (by
          have h := n3.out
          rwa [List.take_of_length_le (by omega), List.take_of_length_le (by have := HLEN.out; have := HLEN2.out; omega)] at h))
        clear hlq hq n3
        go_wp2
        go_ret
        exact ⟨congrArg (fun v => Ending.returned (.bool v)) HR.out.symm, zq⟩
  · have HR := Lib.hid (show E = false from HNEG.out fun e => hnn (by have h1 := HLEN.out; have h2 := HLEN2.out; rw [e] at h1; omega))
    have hne : ¬ (n : Int) = (n' : Int) := by omega
    clear hnn HL HL2
    go_enter Tryz.func36, Tryz.ntmps36
    go_wp2
    go_ret
    exact ⟨congrArg (fun v => Ending.returned (.bool v)) HR.out.symm, hb0⟩
/-- Whether two programs are equal. -/
def Prog'.Fit (p : Prog') : Prop := p.stores.length ≤ 1000000 ∧ p.opers.length ≤ 1000000 ∧ ∀ o ∈ p.opers, o.params.length ≤ 1000000 ∧ St.sizes o.body ≤ 1000000
set_option maxRecDepth 100000 in
set_option maxHeartbeats 25600000 in
theorem same_any (p q : Prog') (hf : p.Fit) (w : World) (S S' : Nat → Prop) (v u : Value) (hp : PV w S p v) (hq : PV w S' q u) :
    Calls Tryz.prog 16 #[v, u] w fun e w' => e = .returned (.bool (eqC p q)) ∧ Below w.heap.size w w' := by
  obtain ⟨D1, nd1, cd1, O1, no1, co1, rfl, hd1, ho1⟩ := hp
  obtain ⟨D2, nd2, cd2, O2, no2, co2, rfl, hd2, ho2⟩ := hq
  obtain ⟨ds1, os1⟩ := p
  obtain ⟨ds2, os2⟩ := q
  dsimp only at *
  have lnd : nd1 ≤ 1000000 := by have := hd1.1; have := hf.1; dsimp only at this; omega
  have lno : no1 ≤ 1000000 := by have := ho1.1; have := hf.2.1; dsimp only at this; omega
  have iho := sameOL (l := os1) hf.2.2
  obtain ⟨W0, hW0⟩ : ∃ W0 : World, W0 = (w.alloc (.cells #[.slice D1 nd1 cd1, .slice O1 no1 co1] 36)).alloc (.cells #[.slice D2 nd2 cd2, .slice O2 no2 co2] 36) := ⟨_, rfl⟩
  have hba : Below w.heap.size w (w.alloc (.cells #[.slice D1 nd1 cd1, .slice O1 no1 co1] 36)) := (Below.refl _ _).alloc (Nat.le_refl _) _
  have hb0 : Below w.heap.size w W0 := by rw [hW0]; exact hba.alloc hba.size _
  have HF := Lib.hid (show ∀ W, Bz W0 W → (W.cell? ⟨w.heap.size, 0, none⟩ = some (.slice D1 nd1 cd1) ∧ W.cell? ⟨w.heap.size, 1, none⟩ = some (.slice O1 no1 co1) ∧ W.cell? ⟨w.heap.size + 1, 0, none⟩ = some (.slice D2 nd2 cd2) ∧ W.cell? ⟨w.heap.size + 1, 1, none⟩ = some (.slice O2 no2 co2)) from fun W h => by
    subst hW0
    have hs1 : (w.alloc (.cells #[.slice D1 nd1 cd1, .slice O1 no1 co1] 36)).heap.size = w.heap.size + 1 := World.size_alloc ..
    have hq := heap_alloc_new w (.cells #[.slice D1 nd1 cd1, .slice O1 no1 co1] 36)
    have hq2 := heap_alloc_new (w.alloc (.cells #[.slice D1 nd1 cd1, .slice O1 no1 co1] 36)) (.cells #[.slice D2 nd2 cd2, .slice O2 no2 co2] 36)
    have hq1 := (((Below.refl _ (w.alloc (.cells #[.slice D1 nd1 cd1, .slice O1 no1 co1] 36))).alloc (Nat.le_refl _) (.cells #[.slice D2 nd2 cd2, .slice O2 no2 co2] 36)).block w.heap.size (lt_of_block hq)).trans hq
    rw [hs1] at hq2
    have h1 := fun j v (hv : (#[.slice D1 nd1 cd1, .slice O1 no1 co1] : Array Value)[j]? = some v) => cell_of_Bz h (g := w.heap.size) (j := j) (v := v) (by rw [cell_of_row _ _ _ _ _ _ hq1]; exact hv) (lt_of_block hq1)
    have h2 := fun j v (hv : (#[.slice D2 nd2 cd2, .slice O2 no2 co2] : Array Value)[j]? = some v) => cell_of_Bz h (g := w.heap.size + 1) (j := j) (v := v) (by rw [cell_of_row _ _ _ _ _ _ hq2]; exact hv) (lt_of_block hq2)
    exact ⟨h1 0 _ rfl, h1 1 _ rfl, h2 0 _ rfl, h2 1 _ rfl⟩)
  have HG := Lib.hid (show ∀ W, Bz W0 W → Below w.heap.size w W from fun W h => hb0.trans (h.b.mono hb0.size))
  have z0 : Bz W0 W0 := ⟨Below.refl _ _⟩
  have bl : ∀ {W : World}, Below w.heap.size w W → ∀ (S : Nat → Prop) b, b < w.heap.size → S b → W.heap[b]? = w.heap[b]? := fun h S b hlt _ => h.block b hlt
  have KD := Lib.hid (show ∀ W, Bz W0 W → _ from fun W h => sameD ds1 ds2 W S S' D1 D2 nd1 cd1 nd2 cd2 (hd1.keep (HG.out W h).size (bl (HG.out W h) S) fun _ _ h => h) (hd2.keep (HG.out W h).size (bl (HG.out W h) S') fun _ _ h => h) lnd)
  have KO := Lib.hid (show ∀ W, Bz W0 W → _ from fun W h => iho os2 W S S' O1 O2 no1 co1 no2 co2 (ho1.keep (HG.out W h).size (bl (HG.out W h) S) fun _ _ h => h) (ho2.keep (HG.out W h).size (bl (HG.out W h) S') fun _ _ h => h) lno)
  have NE := Lib.hid (show (eqC ds1 ds2 = false ∨ eqC os1 os2 = false) → eqC (Prog'.mk ds1 os1) (.mk ds2 os2) = false from fun h => eqC_neg fun e => by
    injection e with e1 e2
    rcases h with h | h
    · rw [eqC_pos e1] at h; cases h
    · rw [eqC_pos e2] at h; cases h)
  have YE := Lib.hid (show eqC ds1 ds2 = true → eqC os1 os2 = true → eqC (Prog'.mk ds1 os1) (.mk ds2 os2) = true from fun h1 h2 => by
    have e1 : ds1 = ds2 := Classical.byContradiction fun h => by rw [eqC_neg h] at h1; cases h1
    have e2 : os1 = os2 := Classical.byContradiction fun h => by rw [eqC_neg h] at h2; cases h2
    exact eqC_pos (by rw [e1, e2]))
  generalize eqC (Prog'.mk ds1 os1) (.mk ds2 os2) = E at *
  generalize eqC ds1 ds2 = ed at *
  generalize eqC os1 os2 = eo at *
  clear hd1 ho1 hd2 ho2 iho hf lnd lno hb0 hba bl
  go_enter Tryz.func16, Tryz.ntmps16
  go_upto_region 1 with fail
  rw [← hW0]
  clear hW0
  obtain ⟨c0, c1, d0, d1⟩ := HF.out _ z0
  go_wp2_with fail
  refine (KD.out _ z0).mono ?_
  rintro e w1 ⟨rfl, hb⟩
  have z1 := z0.next hb
  clear hb c0 c1 d0 d1
  obtain ⟨c0, c1, d0, d1⟩ := HF.out _ z1
  cases ed with
  | false =>
    have h : False ∨ false = false := .inr rfl
    have HR := Lib.hid (NE.out (.inl rfl))
    obtain rfl := HR.out
    go_wp2_with fail
    go_ret
    exact ⟨rfl, HG.out _ z1⟩
  | true =>
    go_wp2_with fail
    refine (KO.out _ z1).mono ?_
    rintro e w2 ⟨rfl, hb⟩
    have z2 := z1.next hb
    clear hb c0 c1 d0 d1
    obtain ⟨c0, c1, d0, d1⟩ := HF.out _ z2
    cases eo with
    | false =>
      have h : False ∨ false = false := .inr rfl
      have HR := Lib.hid (NE.out (.inr rfl))
      obtain rfl := HR.out
      go_wp2_with fail
      go_ret
      exact ⟨rfl, HG.out _ z2⟩
    | true =>
      have HR := Lib.hid (YE.out (by first | trivial | rfl) (by first | trivial | rfl))
      obtain rfl := HR.out
      go_wp2_with fail
      go_ret
      exact ⟨rfl, HG.out _ z2⟩
end Go.Proofs.YtkakbidllpjopaaGreatDoor
namespace Go.Proofs.YtkakbidllpjopaaGreatDoor

def sgTk (m : Str) : Tk := if m = tAnd ∨ m = tOr then (4, m) else (3, m)
/-- Lists of tokens with commas between them. -/
def cm : List (List Tk) → List Tk
  | [] => []
  | [x] => x
  | x :: y :: t => x ++ (3, [44]) :: cm (y :: t)
/-- An operand's tokens out of the expression's. -/
def pT (e : Ex) (t : List Tk) : List Tk := if e.kind = 5 ∨ e.kind = 3 ∨ e.kind = 4 ∨ (e.kind = 6 ∧ 0 < e.orr.length) then (3, [40]) :: (t ++ [(3, [41])]) else t
mutual
def tkE : Ex → List Tk
  | .mk k n s m a o => if k = 0 then [(2, Lib.itoa n)] else if k = 1 then [(4, if n = 1 then tTrue else tFalse)] else if k = 2 then [(1, s)]
    else if k = 3 then (4, tNot) :: (tkOs a).headD [] else if k = 4 then (3, [45]) :: (tkOs a).headD []
    else if k = 5 then (tkOs a).headD [] ++ sgTk m :: ((tkOs a).drop 1).headD []
    else if k = 7 then (4, tHost) :: (3, [46]) :: (1, s) :: (3, [40]) :: (cm (tkEs a) ++ [(3, [41])])
    else (1, s) :: (3, [46]) :: (1, m) :: (3, [40]) :: (cm (tkEs a) ++ (3, [41]) :: (if o.length = 0 then [] else (4, tElse) :: (tkOs o).headD []))
def tkEs : List Ex → List (List Tk)
  | [] => []
  | e :: t => tkE e :: tkEs t
def tkOs : List Ex → List (List Tk)
  | [] => []
  | e :: t => pT e (tkE e) :: tkOs t
end
def tkO (e : Ex) : List Tk := pT e (tkE e)
theorem tkEs_map : ∀ l : List Ex, tkEs l = l.map tkE
  | [] => by rw [tkEs]; rfl
  | e :: t => by rw [tkEs, tkEs_map t]; rfl
theorem tkOs_map : ∀ l : List Ex, tkOs l = l.map tkO
  | [] => by rw [tkOs]; rfl
  | e :: t => by rw [tkOs, tkOs_map t]; rfl
section
variable (n : Int) (s m : Str) (x y : Ex) (a : List Ex)
theorem tk_num : tkE (.mk 0 n [] [] [] []) = [(2, Lib.itoa n)] := by rw [tkE, if_pos rfl]
theorem tk_bool : tkE (.mk 1 n [] [] [] []) = [(4, if n = 1 then tTrue else tFalse)] := by rw [tkE, if_neg (by decide), if_pos rfl]
theorem tk_var : tkE (.mk 2 0 s [] [] []) = [(1, s)] := by rw [tkE, if_neg (by decide), if_neg (by decide), if_pos rfl]
theorem tk_not : tkE (.mk 3 0 [] [] [x] []) = (4, tNot) :: tkO x := by rw [tkE, if_neg (by decide), if_neg (by decide), if_neg (by decide), if_pos rfl, tkOs_map]; rfl
theorem tk_neg : tkE (.mk 4 0 [] [] [x] []) = (3, [45]) :: tkO x := by rw [tkE, if_neg (by decide), if_neg (by decide), if_neg (by decide), if_neg (by decide), if_pos rfl, tkOs_map]; rfl
theorem tk_bin : tkE (.mk 5 0 [] m [x, y] []) = tkO x ++ sgTk m :: tkO y := by rw [tkE, if_neg (by decide), if_neg (by decide), if_neg (by decide), if_neg (by decide), if_neg (by decide), if_pos rfl, tkOs_map]; rfl
theorem tk_call : tkE (.mk 6 0 s m a []) = (1, s) :: (3, [46]) :: (1, m) :: (3, [40]) :: (cm (a.map tkE) ++ [(3, [41])]) := by
  rw [tkE, if_neg (by decide), if_neg (by decide), if_neg (by decide), if_neg (by decide), if_neg (by decide), if_neg (by decide), if_neg (by decide), if_pos (by rfl), tkEs_map]
theorem tk_or : tkE (.mk 6 0 s m a [x]) = (1, s) :: (3, [46]) :: (1, m) :: (3, [40]) :: (cm (a.map tkE) ++ (3, [41]) :: (4, tElse) :: tkO x) := by
  rw [tkE, if_neg (by decide), if_neg (by decide), if_neg (by decide), if_neg (by decide), if_neg (by decide), if_neg (by decide), if_neg (by decide), if_neg (by simp), tkEs_map, tkOs_map]; rfl
theorem tk_host : tkE (.mk 7 0 s [] a []) = (4, tHost) :: (3, [46]) :: (1, s) :: (3, [40]) :: (cm (a.map tkE) ++ [(3, [41])]) := by
  rw [tkE, if_neg (by decide), if_neg (by decide), if_neg (by decide), if_neg (by decide), if_neg (by decide), if_neg (by decide), if_pos (by rfl), tkEs_map]
end
/-- The rest does not carry on a call. -/
def nS (r : List Tk) : Prop := isT [46] r = false ∧ isT tElse r = false
/-- The rest does not carry on a chain. -/
def nOp (r : List Tk) : Prop := ∀ lv, opAt lv r = false
section
variable {X : List Tk} {a : Ex} {r : List Tk} {u : Nat}
theorem pC_stop {lv f : Nat} (h : opAt lv r = false) (hf : 1 ≤ f) : pC f lv a r = .ok a r := by
  obtain ⟨f, rfl⟩ : ∃ g, f = g + 1 := ⟨f - 1, by omega⟩
  rw [pC, if_neg (by rw [h]; exact Bool.false_ne_true)]
/-- From the unary form down to a level. -/
theorem pB_down (h1 : 1 ≤ u) (hU : ∀ g, u ≤ g → pU g X = .ok a r) : ∀ (n lv f : Nat), lv + n = 5 → (∀ l, lv ≤ l → opAt l r = false) → u + 1 + n ≤ f → pB f lv X = .ok a r := by
  intro n
  induction n with
  | zero =>
    intro lv f hl _ hf
    obtain ⟨f, rfl⟩ : ∃ g, f = g + 1 := ⟨f - 1, by omega⟩
    rw [pB, if_pos (by omega), hU f (by omega)]
  | succ n ih =>
    intro lv f hl ho hf
    obtain ⟨f, rfl⟩ : ∃ g, f = g + 1 := ⟨f - 1, by omega⟩
    rw [pB, if_neg (by omega), ih (lv + 1) f (by omega) (fun l h => ho l (by omega)) (by omega)]
    exact pC_stop (ho lv (Nat.le_refl _)) (by omega)
/-- From a level down to a lower one. -/
theorem pB_up (h1 : 1 ≤ u) : ∀ (n lv f : Nat), lv + n ≤ 5 → (∀ g, u ≤ g → pB g (lv + n) X = .ok a r) → (∀ l, lv ≤ l → opAt l r = false) → u + n ≤ f → pB f lv X = .ok a r := by
  intro n
  induction n with
  | zero => intro lv f _ h _ hf; exact h f hf
  | succ n ih =>
    intro lv f hl h ho hf
    obtain ⟨f, rfl⟩ : ∃ g, f = g + 1 := ⟨f - 1, by omega⟩
    rw [pB, if_neg (by omega), ih (lv + 1) f (by omega) (fun g hg => by have := h g hg; rwa [show lv + 1 + n = lv + (n + 1) by omega]) (fun l h => ho l (by omega)) (by omega)]
    exact pC_stop (ho lv (Nat.le_refl _)) (by omega)
end
theorem sg_level {m : Str} (h : sgns.contains m = true) (Y : List Tk) : ∃ l, l ≤ 4 ∧ opAt l (sgTk m :: Y) = true ∧ (∀ l', l' ≠ l → opAt l' (sgTk m :: Y) = false) ∧ nS (sgTk m :: Y) ∧ textT (sgTk m :: Y) = m := by
  have hm : m ∈ sgns := by simpa using h
  have far : ∀ l' t, opAt (l' + 5) (t :: Y) = false := fun l' t => by simp [opAt, sgnsAt]
  simp only [sgns, List.mem_cons, List.not_mem_nil, or_false] at hm
  rcases hm with rfl | rfl | rfl | rfl | rfl | rfl | rfl | rfl | rfl | rfl | rfl | rfl | rfl
  · exact ⟨3, by decide, rfl, fun l' h => match l', h with | 0, _ => rfl | 1, _ => rfl | 2, _ => rfl | 3, h => absurd rfl h | 4, _ => rfl | l' + 5, _ => far _ _, ⟨rfl, rfl⟩, rfl⟩
  · exact ⟨3, by decide, rfl, fun l' h => match l', h with | 0, _ => rfl | 1, _ => rfl | 2, _ => rfl | 3, h => absurd rfl h | 4, _ => rfl | l' + 5, _ => far _ _, ⟨rfl, rfl⟩, rfl⟩
  · exact ⟨4, by decide, rfl, fun l' h => match l', h with | 0, _ => rfl | 1, _ => rfl | 2, _ => rfl | 3, _ => rfl | 4, h => absurd rfl h | l' + 5, _ => far _ _, ⟨rfl, rfl⟩, rfl⟩
  · exact ⟨4, by decide, rfl, fun l' h => match l', h with | 0, _ => rfl | 1, _ => rfl | 2, _ => rfl | 3, _ => rfl | 4, h => absurd rfl h | l' + 5, _ => far _ _, ⟨rfl, rfl⟩, rfl⟩
  · exact ⟨4, by decide, rfl, fun l' h => match l', h with | 0, _ => rfl | 1, _ => rfl | 2, _ => rfl | 3, _ => rfl | 4, h => absurd rfl h | l' + 5, _ => far _ _, ⟨rfl, rfl⟩, rfl⟩
  · exact ⟨2, by decide, rfl, fun l' h => match l', h with | 0, _ => rfl | 1, _ => rfl | 2, h => absurd rfl h | 3, _ => rfl | 4, _ => rfl | l' + 5, _ => far _ _, ⟨rfl, rfl⟩, rfl⟩
  · exact ⟨2, by decide, rfl, fun l' h => match l', h with | 0, _ => rfl | 1, _ => rfl | 2, h => absurd rfl h | 3, _ => rfl | 4, _ => rfl | l' + 5, _ => far _ _, ⟨rfl, rfl⟩, rfl⟩
  · exact ⟨2, by decide, rfl, fun l' h => match l', h with | 0, _ => rfl | 1, _ => rfl | 2, h => absurd rfl h | 3, _ => rfl | 4, _ => rfl | l' + 5, _ => far _ _, ⟨rfl, rfl⟩, rfl⟩
  · exact ⟨2, by decide, rfl, fun l' h => match l', h with | 0, _ => rfl | 1, _ => rfl | 2, h => absurd rfl h | 3, _ => rfl | 4, _ => rfl | l' + 5, _ => far _ _, ⟨rfl, rfl⟩, rfl⟩
  · exact ⟨2, by decide, rfl, fun l' h => match l', h with | 0, _ => rfl | 1, _ => rfl | 2, h => absurd rfl h | 3, _ => rfl | 4, _ => rfl | l' + 5, _ => far _ _, ⟨rfl, rfl⟩, rfl⟩
  · exact ⟨2, by decide, rfl, fun l' h => match l', h with | 0, _ => rfl | 1, _ => rfl | 2, h => absurd rfl h | 3, _ => rfl | 4, _ => rfl | l' + 5, _ => far _ _, ⟨rfl, rfl⟩, rfl⟩
  · exact ⟨1, by decide, rfl, fun l' h => match l', h with | 0, _ => rfl | 1, h => absurd rfl h | 2, _ => rfl | 3, _ => rfl | 4, _ => rfl | l' + 5, _ => far _ _, ⟨rfl, rfl⟩, rfl⟩
  · exact ⟨0, by decide, rfl, fun l' h => match l', h with | 0, h => absurd rfl h | 1, _ => rfl | 2, _ => rfl | 3, _ => rfl | 4, _ => rfl | l' + 5, _ => far _ _, ⟨rfl, rfl⟩, rfl⟩
theorem ne_t {b : Bool} (h : b = false) : ¬ b = true := by rw [h]; exact Bool.false_ne_true
section
variable (f : Nat) (X : List Tk) (s : Str)
theorem pU_not : pU (f + 1) ((4, tNot) :: X) = match pU f X with
    | .bad r => .bad r
    | .ok e r => .ok (.mk 3 0 [] [] [e] []) r := by rw [pU, if_pos (by rfl)]; rfl
theorem pU_neg : pU (f + 1) ((3, [45]) :: X) = match pU f X with
    | .bad r => .bad r
    | .ok e r => .ok (.mk 4 0 [] [] [e] []) r := by rw [pU, if_neg (by exact ne_t rfl), if_pos (by rfl)]; rfl
theorem pU_true : pU (f + 1) ((4, tTrue) :: X) = .ok (.mk 1 1 [] [] [] []) X := by rw [pU, if_neg (by exact ne_t rfl), if_neg (by exact ne_t rfl), if_pos (by rfl)]; rfl
theorem pU_false : pU (f + 1) ((4, tFalse) :: X) = .ok (.mk 1 0 [] [] [] []) X := by rw [pU, if_neg (by exact ne_t rfl), if_neg (by exact ne_t rfl), if_neg (by exact ne_t rfl), if_pos (by rfl)]; rfl
theorem pU_opn : pU (f + 1) ((3, [40]) :: X) = match pB f 0 X with
      | .bad r => .bad r
      | .ok e r => if isT [41] r = true then .ok e r.tail else .bad r := by rw [pU, if_neg (by exact ne_t rfl), if_neg (by exact ne_t rfl), if_neg (by exact ne_t rfl), if_neg (by exact ne_t rfl), if_pos (by rfl)]; rfl
theorem pU_host : pU (f + 1) ((4, tHost) :: X) = pH f X := by rw [pU, if_neg (by exact ne_t rfl), if_neg (by exact ne_t rfl), if_neg (by exact ne_t rfl), if_neg (by exact ne_t rfl), if_neg (by exact ne_t rfl), if_pos (by rfl)]; rfl
theorem pU_num : pU (f + 1) ((2, s) :: X) = .ok (.mk 0 (numT s) [] [] [] []) X := by rw [pU, if_neg (by exact ne_t rfl), if_neg (by exact ne_t rfl), if_neg (by exact ne_t rfl), if_neg (by exact ne_t rfl), if_neg (by exact ne_t rfl), if_neg (by exact ne_t rfl), if_pos (by rfl)]; rfl
theorem pU_name : pU (f + 1) ((1, s) :: X) = if isT [46] X = true then pK f s X else .ok (.mk 2 0 s [] [] []) X := by rw [pU, if_neg (by exact ne_t rfl), if_neg (by exact ne_t rfl), if_neg (by exact ne_t rfl), if_neg (by exact ne_t rfl), if_neg (by exact ne_t rfl), if_neg (by exact ne_t rfl), if_neg (by show ¬ (1 : Int) = 2; decide), if_pos (by rfl)]; rfl
end
theorem pK_go (f : Nat) (n m : Str) (X : List Tk) : pK (f + 1) n ((3, [46]) :: (1, m) :: X) = match pA f X with
        | .bad r => .bad r
        | .ok a r => if isT tElse r = true then match pU f r.tail with
            | .bad r' => .bad r'
            | .ok o r' => .ok (.mk 6 0 n m a [o]) r'
          else .ok (.mk 6 0 n m a []) r := by rw [pK, if_pos (by rfl), if_pos (by rfl)]; rfl
theorem pH_go (f : Nat) (m : Str) (X : List Tk) : pH (f + 1) ((3, [46]) :: (1, m) :: X) = match pA f X with
        | .bad r => .bad r
        | .ok a r => .ok (.mk 7 0 m [] a []) r := by rw [pH, if_pos (by rfl), if_pos (by rfl)]; rfl
/-- What is shown of each valid expression. -/
structure Rd (e : Ex) : Prop where
  head : ∃ t T, tkE e = t :: T ∧ isT [41] [t] = false
  raw : e.kind ≠ 5 → ∀ (r : List Tk) (f : Nat), nS r → 8 * (tkE e ++ r).length + 1 ≤ f → pU f (tkE e ++ r) = .ok e r
  bin : ∀ (r : List Tk) (f : Nat), nS r → nOp r → 8 * (tkE e ++ r).length + 7 ≤ f → pB f 0 (tkE e ++ r) = .ok e r
theorem isT_head (s : Str) (t : Tk) (T : List Tk) : isT s (t :: T) = isT s [t] := rfl
theorem Rd.opr {e : Ex} (h : Rd e) (r : List Tk) (f : Nat) (hr : nS r) (hf : 8 * (tkO e ++ r).length + 1 ≤ f) : pU f (tkO e ++ r) = .ok e r := by
  unfold tkO pT at *
  by_cases hp : e.kind = 5 ∨ e.kind = 3 ∨ e.kind = 4 ∨ (e.kind = 6 ∧ 0 < e.orr.length)
  · rw [if_pos hp] at hf ⊢
    simp only [List.cons_append, List.append_assoc, List.nil_append, List.length_cons, List.length_append] at hf ⊢
    obtain ⟨f, rfl⟩ : ∃ g, f = g + 1 := ⟨f - 1, by omega⟩
    rw [pU_opn, h.bin ((3, [41]) :: r) f ⟨rfl, rfl⟩ (fun lv => by
      match lv with
      | 0 => rfl
      | 1 => rfl
      | 2 => rfl
      | 3 => rfl
      | 4 => rfl
      | l + 5 => simp [opAt, sgnsAt]) (by simp only [List.length_append, List.length_cons]; omega)]
    rfl
  · rw [if_neg hp] at hf ⊢
    exact h.raw (fun h5 => hp (.inl h5)) r f hr hf
theorem Rd.ohead {e : Ex} (h : Rd e) : ∃ t T, tkO e = t :: T ∧ isT [41] [t] = false := by
  unfold tkO pT
  split
  · exact ⟨_, _, rfl, rfl⟩
  · exact h.head
/-- An expression that isn't a chain, out of its unary form. -/
theorem Rd.of_raw {e : Ex} (hk : e.kind ≠ 5) (hh : ∃ t T, tkE e = t :: T ∧ isT [41] [t] = false) (h : ∀ (r : List Tk) (f : Nat), nS r → 8 * (tkE e ++ r).length + 1 ≤ f → pU f (tkE e ++ r) = .ok e r) : Rd e :=
  ⟨hh, fun _ => h, fun r f hr ho hf => pB_down (u := 8 * (tkE e ++ r).length + 1) (by omega) (fun g hg => h r g hr hg) 5 0 f rfl (fun l _ => ho l) (by omega)⟩
theorem nOp_sep {s : Str} (h : ∀ l, l ≤ 4 → (sgnsAt l).contains s = false) (r : List Tk) : nOp ((3, s) :: r) := fun lv => by
  unfold opAt
  by_cases hl : lv ≤ 4
  · dsimp only
    rw [h lv hl, Bool.and_false]
  · obtain ⟨k, rfl⟩ : ∃ k, lv = k + 5 := ⟨lv - 5, by omega⟩
    simp [sgnsAt]
theorem nOp_cls (r : List Tk) : nOp ((3, [41]) :: r) := nOp_sep (by decide) r
theorem nOp_com (r : List Tk) : nOp ((3, [44]) :: r) := nOp_sep (by decide) r
theorem nOp_sem (r : List Tk) : nOp ((3, [59]) :: r) := nOp_sep (by decide) r
theorem nOp_brc (r : List Tk) : nOp ((3, [123]) :: r) := nOp_sep (by decide) r
theorem cm_cons (x : List Tk) (y : Ex) (t : List Ex) : cm (x :: (y :: t).map tkE) = x ++ (3, [44]) :: cm ((y :: t).map tkE) := rfl
/-- The arguments of a call, behind the parenthesis. -/
theorem pL_read : ∀ (a : List Ex), a ≠ [] → (∀ x ∈ a, Rd x) → ∀ (acc : List Ex) (r : List Tk) (f : Nat), 8 * (cm (a.map tkE) ++ (3, [41]) :: r).length + 8 ≤ f → pL f acc (cm (a.map tkE) ++ (3, [41]) :: r) = .ok (acc ++ a) r
  | [], h, _, _, _, _, _ => absurd rfl h
  | [x], _, h, acc, r, f, hf => by
    obtain ⟨f, rfl⟩ : ∃ g, f = g + 1 := ⟨f - 1, by omega⟩
    have hx := (h x (List.mem_cons_self ..)).bin ((3, [41]) :: r) f ⟨rfl, rfl⟩ (nOp_cls r) (by have : cm ([x].map tkE) = tkE x := rfl; rw [this] at hf; omega)
    show pL (f + 1) acc (tkE x ++ (3, [41]) :: r) = _
    rw [pL, hx]
    rfl
  | x :: y :: t, _, h, acc, r, f, hf => by
    obtain ⟨f, rfl⟩ : ∃ g, f = g + 1 := ⟨f - 1, by omega⟩
    rw [List.map_cons, cm_cons] at hf ⊢
    simp only [List.append_assoc, List.cons_append, List.length_append, List.length_cons] at hf ⊢
    have hx := (h x (List.mem_cons_self ..)).bin ((3, [44]) :: (cm ((y :: t).map tkE) ++ (3, [41]) :: r)) f ⟨rfl, rfl⟩ (nOp_com _) (by simp only [List.length_append, List.length_cons]; omega)
    rw [pL, hx]
    have ih := pL_read (y :: t) (by simp) (fun z hz => h z (List.mem_cons_of_mem _ hz)) (acc ++ [x]) r f (by simp only [List.length_append, List.length_cons]; omega)
    show pL f (acc ++ [x]) (cm ((y :: t).map tkE) ++ (3, [41]) :: r) = _
    rw [ih, List.append_assoc]
    rfl
theorem cm_head {a : List Ex} (ha : a ≠ []) (h : ∀ x ∈ a, Rd x) (r : List Tk) : isT [41] (cm (a.map tkE) ++ r) = false := by
  match a, ha with
  | [x], _ =>
    obtain ⟨t, T, e, ht⟩ := (h x (List.mem_cons_self ..)).head
    show isT [41] (tkE x ++ r) = false
    rw [e]; exact ht
  | x :: y :: z, _ =>
    obtain ⟨t, T, e, ht⟩ := (h x (List.mem_cons_self ..)).head
    show isT [41] ((tkE x ++ _) ++ r) = false
    rw [e]; exact ht
theorem pA_read (a : List Ex) (h : ∀ x ∈ a, Rd x) (r : List Tk) (f : Nat) (hf : 8 * (cm (a.map tkE) ++ (3, [41]) :: r).length + 9 ≤ f) : pA f ((3, [40]) :: (cm (a.map tkE) ++ (3, [41]) :: r)) = .ok a r := by
  obtain ⟨f, rfl⟩ : ∃ g, f = g + 1 := ⟨f - 1, by omega⟩
  rw [pA, if_pos (by rfl)]
  by_cases ha : a = []
  · subst ha; rfl
  · have e := cm_head ha h ((3, [41]) :: r)
    rw [if_neg (by exact ne_t e)]
    exact pL_read a ha h [] r f (by omega)
theorem kw_nokey {s : Str} (h : nameOk s = true) : kwords.contains s = false := by
  unfold nameOk at h
  simp only [Bool.and_eq_true, Bool.not_eq_true'] at h
  exact h.2
theorem rd_any : ∀ (k : Nat) (e : Ex), e.size ≤ k → ∀ d : Int, chkE d e = 0 → Rd e := by
  intro k
  induction k with
  | zero => intro e h; obtain ⟨_, _, _, _, _, _⟩ := e; rw [Ex.size] at h; omega
  | succ k ih =>
    intro e hz d hc
    have kids : ∀ x ∈ e.args, chkE (d + 1) x = 0 → Rd x := fun x hx hc => ih x (by obtain ⟨_, _, _, _, a, o⟩ := e; have := Ex.sizes_mem (show x ∈ a from hx); rw [Ex.size] at hz; omega) (d + 1) hc
    have okid : ∀ x ∈ e.orr, chkE (d + 1) x = 0 → Rd x := fun x hx hc => ih x (by obtain ⟨_, _, _, _, a, o⟩ := e; have := Ex.sizes_mem (show x ∈ o from hx); rw [Ex.size] at hz; omega) (d + 1) hc
    obtain ⟨hs, -⟩ := shape_of hc
    clear ih hz hc
    cases hs with
    | num n h =>
      refine Rd.of_raw (by show (0 : Int) ≠ 5; decide) ⟨_, _, tk_num n, rfl⟩ fun r f hr hf => ?_
      obtain ⟨f, rfl⟩ : ∃ g, f = g + 1 := ⟨f - 1, by omega⟩
      rw [tk_num, List.cons_append, List.nil_append, pU_num, numT_itoa n h]
    | bool n h =>
      refine Rd.of_raw (by show (1 : Int) ≠ 5; decide) ⟨_, _, tk_bool n, by split <;> rfl⟩ fun r f hr hf => ?_
      obtain ⟨f, rfl⟩ : ∃ g, f = g + 1 := ⟨f - 1, by omega⟩
      rw [tk_bool, List.cons_append, List.nil_append]
      rcases h with rfl | rfl
      · rw [if_neg (by decide), pU_false]
      · rw [if_pos rfl, pU_true]
    | var s h =>
      refine Rd.of_raw (by show (2 : Int) ≠ 5; decide) ⟨_, _, tk_var s, rfl⟩ fun r f hr hf => ?_
      obtain ⟨f, rfl⟩ : ∃ g, f = g + 1 := ⟨f - 1, by omega⟩
      rw [tk_var, List.cons_append, List.nil_append, pU_name, if_neg (ne_t hr.1)]
    | not x h =>
      have hx := kids x (by simp [Ex.args]) h
      refine Rd.of_raw (by show (3 : Int) ≠ 5; decide) ⟨_, _, tk_not x, rfl⟩ fun r f hr hf => ?_
      rw [tk_not, List.cons_append] at hf ⊢
      simp only [List.length_cons] at hf
      obtain ⟨f, rfl⟩ : ∃ g, f = g + 1 := ⟨f - 1, by omega⟩
      rw [pU_not, hx.opr r f hr (by omega)]
    | neg x h =>
      have hx := kids x (by simp [Ex.args]) h
      refine Rd.of_raw (by show (4 : Int) ≠ 5; decide) ⟨_, _, tk_neg x, rfl⟩ fun r f hr hf => ?_
      rw [tk_neg, List.cons_append] at hf ⊢
      simp only [List.length_cons] at hf
      obtain ⟨f, rfl⟩ : ∃ g, f = g + 1 := ⟨f - 1, by omega⟩
      rw [pU_neg, hx.opr r f hr (by omega)]
    | bin m x y hm h1 h2 =>
      have hx := kids x (by simp [Ex.args]) h1
      have hy := kids y (by simp [Ex.args]) h2
      refine ⟨?_, fun h => absurd rfl h, fun r f hr ho hf => ?_⟩
      · obtain ⟨t, T, e, ht⟩ := hx.ohead
        rw [tk_bin, e]
        exact ⟨_, _, rfl, ht⟩
      · obtain ⟨l, hl, hl1, hl2, hl3, hl4⟩ := sg_level hm (tkO y ++ r)
        rw [tk_bin] at hf ⊢
        simp only [List.append_assoc, List.cons_append, List.length_append, List.length_cons] at hf ⊢
        generalize hY : tkO y ++ r = Y at *
        have hYl : Y.length = (tkO y).length + r.length := by rw [← hY, List.length_append]
        generalize hS : sgTk m :: Y = Z at *
        have hZl : Z.length = Y.length + 1 := by rw [← hS]; rfl
        have hZt : Z.tail = Y := by rw [← hS]; rfl
        refine pB_up (u := 8 * (tkO x ++ Z).length + 7 - l) (by rw [List.length_append]; omega) l 0 f (by omega) (fun g hg => ?_) (fun l _ => ho l) (by rw [List.length_append]; omega)
        rw [List.length_append] at hg
        rw [Nat.zero_add]
        obtain ⟨g, rfl⟩ : ∃ q, g = q + 1 := ⟨g - 1, by omega⟩
        rw [pB, if_neg (by omega)]
        rw [pB_down (u := 8 * (tkO x ++ Z).length + 1) (by omega) (fun q hq => hx.opr Z q hl3 hq) (4 - l) (l + 1) g (by omega) (fun l' h => hl2 l' (by omega)) (by rw [List.length_append]; omega)]
        dsimp only
        obtain ⟨g, rfl⟩ : ∃ q, g = q + 1 := ⟨g - 1, by omega⟩
        rw [pC, if_pos hl1, hZt]
        rw [pB_down (u := 8 * Y.length + 1) (by omega) (fun q hq => by rw [← hY] at hq ⊢; exact hy.opr r q hr hq) (4 - l) (l + 1) g (by omega) (fun l' h => ho l') (by omega)]
        dsimp only
        rw [hl4]
        exact pC_stop (ho l) (by omega)
    | call s m a o h1 h2 h3 h4 h5 h6 =>
      have ha : ∀ x ∈ a, Rd x := fun x hx => kids x hx (h4 x hx)
      refine Rd.of_raw (by show (6 : Int) ≠ 5; decide) ?_ fun r f hr hf => ?_
      · match o, h5 with
        | [], _ => exact ⟨_, _, tk_call .., rfl⟩
        | [x], _ => exact ⟨_, _, tk_or .., rfl⟩
      · match o, h5, okid, h6, hf with
        | [], _, _, _, hf =>
          rw [tk_call] at hf ⊢
          simp only [List.append_assoc, List.cons_append, List.nil_append, List.length_append, List.length_cons] at hf ⊢
          obtain ⟨f, rfl⟩ : ∃ g, f = g + 2 := ⟨f - 2, by omega⟩
          rw [pU_name, if_pos (by rfl), pK_go, pA_read a ha r f (by simp only [List.length_append, List.length_cons]; omega)]
          dsimp only
          rw [if_neg (ne_t hr.2)]
        | [x], _, okid, h6, hf =>
          have hx := okid x (by simp [Ex.orr]) (h6 x (by simp))
          rw [tk_or] at hf ⊢
          simp only [List.append_assoc, List.cons_append, List.nil_append, List.length_append, List.length_cons] at hf ⊢
          obtain ⟨f, rfl⟩ : ∃ g, f = g + 2 := ⟨f - 2, by omega⟩
          rw [pU_name, if_pos (by rfl), pK_go, pA_read a ha _ f (by simp only [List.length_append, List.length_cons]; omega)]
          dsimp only
          rw [if_pos (by rfl), List.tail_cons, hx.opr r f hr (by rw [List.length_append]; omega)]
    | host s a h1 h2 h3 =>
      have ha : ∀ x ∈ a, Rd x := fun x hx => kids x hx (h3 x hx)
      refine Rd.of_raw (by show (7 : Int) ≠ 5; decide) ⟨_, _, tk_host .., rfl⟩ fun r f hr hf => ?_
      rw [tk_host] at hf ⊢
      simp only [List.append_assoc, List.cons_append, List.nil_append, List.length_append, List.length_cons] at hf ⊢
      obtain ⟨f, rfl⟩ : ∃ g, f = g + 2 := ⟨f - 2, by omega⟩
      rw [pU_host, pH_go, pA_read a ha r f (by simp only [List.length_append, List.length_cons]; omega)]
/-- A valid expression's tokens are read as it. -/
theorem pE_read {d : Int} {e : Ex} (h : chkE d e = 0) (r : List Tk) (hr : nS r) (ho : nOp r) : pE (tkE e ++ r) = .ok e r :=
  (rd_any e.size e (Nat.le_refl _) d h).bin r _ hr ho (Nat.le_refl _)
end Go.Proofs.YtkakbidllpjopaaGreatDoor
namespace Go.Proofs.YtkakbidllpjopaaGreatDoor

def sTk (s : Str) : Tk := (3, s)
mutual
def tkS : St → List Tk
  | .mk k s n e b l => if k = 0 then (4, tLet) :: (1, s) :: (3, [61]) :: (tkE e ++ [(3, [59])]) else if k = 1 then (1, s) :: (3, [61]) :: (tkE e ++ [(3, [59])])
    else if k = 2 then tkE e ++ [(3, [59])] else if k = 5 then (4, tRet) :: (tkE e ++ [(3, [59])]) else if k = 6 then [(4, tAbt), (2, Lib.itoa n), (3, [59])]
    else if k = 4 then (4, tRep) :: (2, Lib.itoa n) :: (3, [123]) :: (tkSs b ++ [(3, [125])])
    else (4, tIf) :: (tkE e ++ (3, [123]) :: (tkSs b ++ (3, [125]) :: (if l.length = 0 then [] else (4, tElse) :: (3, [123]) :: (tkSs l ++ [(3, [125])]))))
def tkSs : List St → List Tk
  | [] => []
  | s :: t => tkS s ++ tkSs t
end
section
variable (s : Str) (n : Int) (e : Ex) (b l : List St)
theorem ts_let : tkS (.mk 0 s 0 e [] []) = (4, tLet) :: (1, s) :: (3, [61]) :: (tkE e ++ [(3, [59])]) := by rw [tkS, if_pos rfl]
theorem ts_set : tkS (.mk 1 s 0 e [] []) = (1, s) :: (3, [61]) :: (tkE e ++ [(3, [59])]) := by rw [tkS, if_neg (by decide), if_pos rfl]
theorem ts_do : tkS (.mk 2 [] 0 e [] []) = tkE e ++ [(3, [59])] := by rw [tkS, if_neg (by decide), if_neg (by decide), if_pos rfl]
theorem ts_ret : tkS (.mk 5 [] 0 e [] []) = (4, tRet) :: (tkE e ++ [(3, [59])]) := by rw [tkS, if_neg (by decide), if_neg (by decide), if_neg (by decide), if_pos rfl]
theorem ts_abt : tkS (.mk 6 [] n (.mk 0 0 [] [] [] []) [] []) = [(4, tAbt), (2, Lib.itoa n), (3, [59])] := by rw [tkS, if_neg (by decide), if_neg (by decide), if_neg (by decide), if_neg (by decide), if_pos rfl]
theorem ts_rep : tkS (.mk 4 [] n (.mk 0 0 [] [] [] []) b []) = (4, tRep) :: (2, Lib.itoa n) :: (3, [123]) :: (tkSs b ++ [(3, [125])]) := by rw [tkS, if_neg (by decide), if_neg (by decide), if_neg (by decide), if_neg (by decide), if_neg (by decide), if_pos rfl]
theorem ts_if : tkS (.mk 3 [] 0 e b []) = (4, tIf) :: (tkE e ++ (3, [123]) :: (tkSs b ++ [(3, [125])])) := by rw [tkS, if_neg (by decide), if_neg (by decide), if_neg (by decide), if_neg (by decide), if_neg (by decide), if_neg (by decide), if_pos (by rfl)]
theorem ts_ifelse (h : l ≠ []) : tkS (.mk 3 [] 0 e b l) = (4, tIf) :: (tkE e ++ (3, [123]) :: (tkSs b ++ (3, [125]) :: (4, tElse) :: (3, [123]) :: (tkSs l ++ [(3, [125])]))) := by rw [tkS, if_neg (by decide), if_neg (by decide), if_neg (by decide), if_neg (by decide), if_neg (by decide), if_neg (by decide), if_neg (fun e => h (List.eq_nil_of_length_eq_zero e))]
end
section
variable (f : Nat) (X : List Tk) (s : Str)
theorem pS_if : pS (f + 1) ((4, tIf) :: X) = pI f X := by rw [pS, if_pos (by rfl)]; rfl
theorem pS_rep : pS (f + 1) ((4, tRep) :: (2, s) :: X) = match pBl f X with
        | .bad r => .bad r
        | .ok b r => .ok (.mk 4 [] (numT s) emE b []) r := by rw [pS, if_neg (by exact ne_t rfl), if_pos (by rfl), if_pos (by rfl)]; rfl
theorem pS_let : pS (f + 1) ((4, tLet) :: (1, s) :: (3, [61]) :: X) = pN (fun e => .mk 0 s 0 e [] []) X := by rw [pS, if_neg (by exact ne_t rfl), if_neg (by exact ne_t rfl), if_pos (by rfl), if_pos (by rfl), if_pos (by rfl)]; rfl
theorem pS_ret : pS (f + 1) ((4, tRet) :: X) = pN (fun e => .mk 5 [] 0 e [] []) X := by rw [pS, if_neg (by exact ne_t rfl), if_neg (by exact ne_t rfl), if_neg (by exact ne_t rfl), if_pos (by rfl)]; rfl
theorem pS_abt : pS (f + 1) ((4, tAbt) :: (2, s) :: (3, [59]) :: X) = .ok (.mk 6 [] (numT s) emE [] []) X := by rw [pS, if_neg (by exact ne_t rfl), if_neg (by exact ne_t rfl), if_neg (by exact ne_t rfl), if_neg (by exact ne_t rfl), if_pos (by rfl), if_pos (by rfl), if_pos (by rfl)]; rfl
theorem pS_host : pS (f + 1) ((4, tHost) :: X) = match pH (8 * ((4, tHost) :: X : List Tk).length + 7) X with
      | .bad r => .bad r
      | .ok e r => if isT [59] r = true then .ok (.mk 2 [] 0 e [] []) r.tail else .bad r := by rw [pS, if_neg (by exact ne_t rfl), if_neg (by exact ne_t rfl), if_neg (by exact ne_t rfl), if_neg (by exact ne_t rfl), if_neg (by exact ne_t rfl), if_pos (by rfl)]; rfl
theorem pS_call : pS (f + 1) ((1, s) :: (3, [46]) :: X) = match pK (8 * ((1, s) :: (3, [46]) :: X : List Tk).length + 7) s ((3, [46]) :: X) with
      | .bad r => .bad r
      | .ok e r => if isT [59] r = true then .ok (.mk 2 [] 0 e [] []) r.tail else .bad r := by rw [pS, if_neg (by exact ne_t rfl), if_neg (by exact ne_t rfl), if_neg (by exact ne_t rfl), if_neg (by exact ne_t rfl), if_neg (by exact ne_t rfl), if_neg (by exact ne_t rfl), if_pos (by rfl), if_pos (by rfl)]; rfl
theorem pS_set : pS (f + 1) ((1, s) :: (3, [61]) :: X) = pN (fun e => .mk 1 s 0 e [] []) X := by rw [pS, if_neg (by exact ne_t rfl), if_neg (by exact ne_t rfl), if_neg (by exact ne_t rfl), if_neg (by exact ne_t rfl), if_neg (by exact ne_t rfl), if_neg (by exact ne_t rfl), if_pos (by rfl), if_neg (by exact ne_t rfl), if_pos (by rfl)]; rfl
end
theorem pN_read {d : Int} {e : Ex} (h : chkE d e = 0) (k : Ex → St) (r : List Tk) : pN k (tkE e ++ (3, [59]) :: r) = .ok (k e) r := by
  unfold pN
  rw [pE_read h _ ⟨rfl, rfl⟩ (nOp_sem r)]
  rfl
/-- What is shown of each valid statement. -/
structure RdS (s : St) : Prop where
  head : ∃ t T, tkS s = t :: T ∧ isT [125] [t] = false ∧ isT tElse [t] = false
  raw : ∀ (r : List Tk) (f : Nat), isT tElse r = false → 4 * (tkS s ++ r).length + 3 ≤ f → pS f (tkS s ++ r) = .ok s r
theorem pM_read : ∀ (b : List St), (∀ s ∈ b, RdS s) → ∀ (acc : List St) (r : List Tk) (f : Nat), 4 * (tkSs b ++ (3, [125]) :: r).length + 4 ≤ f → pM f acc (tkSs b ++ (3, [125]) :: r) = .ok (acc ++ b) r
  | [], _, acc, r, f, hf => by
    obtain ⟨f, rfl⟩ : ∃ g, f = g + 1 := ⟨f - 1, by omega⟩
    rw [tkSs, List.nil_append, pM, if_pos (by rfl), List.append_nil]
    rfl
  | s :: t, h, acc, r, f, hf => by
    obtain ⟨f, rfl⟩ : ∃ g, f = g + 1 := ⟨f - 1, by omega⟩
    have hs := h s (List.mem_cons_self ..)
    rw [tkSs, List.append_assoc] at hf ⊢
    obtain ⟨x, X, e, h1, h2⟩ := hs.head
    have hq : isT tElse (tkSs t ++ (3, [125]) :: r) = false := by
      match t with
      | [] => rw [tkSs]; rfl
      | y :: z =>
        obtain ⟨y1, Y1, e1, _, h4⟩ := (h y (by simp)).head
        rw [tkSs, e1]; exact h4
    have hlen : 1 ≤ (tkS s).length := by rw [e]; simp
    rw [pM, if_neg (ne_t (by rw [e]; exact h1)), hs.raw _ f hq (by omega)]
    dsimp only
    rw [List.length_append] at hf
    rw [pM_read t (fun z hz => h z (List.mem_cons_of_mem _ hz)) (acc ++ [s]) r f (by omega), List.append_assoc]
    rfl
theorem pBl_read (b : List St) (h : ∀ s ∈ b, RdS s) (r : List Tk) (f : Nat) (hf : 4 * ((3, [123]) :: (tkSs b ++ (3, [125]) :: r)).length + 1 ≤ f) : pBl f ((3, [123]) :: (tkSs b ++ (3, [125]) :: r)) = .ok b r := by
  obtain ⟨f, rfl⟩ : ∃ g, f = g + 1 := ⟨f - 1, by omega⟩
  rw [List.length_cons] at hf
  rw [pBl, if_pos (by rfl)]
  exact pM_read b h [] r f (by omega)
theorem call_head {d : Int} {e : Ex} (h : chkE d e = 0) (hk : e.kind = 6 ∨ e.kind = 7) : (∃ s T, tkE e = (1, s) :: (3, [46]) :: T) ∨ ∃ T, tkE e = (4, tHost) :: T := by
  obtain ⟨hs, -⟩ := shape_of h
  cases hs with
  | call s m a o h1 h2 h3 h4 h5 h6 =>
    match o, h5 with
    | [], _ => exact .inl ⟨_, _, tk_call ..⟩
    | [x], _ => exact .inl ⟨_, _, tk_or ..⟩
  | host s a h1 h2 h3 => exact .inr ⟨_, tk_host ..⟩
  | num n h => simp [Ex.kind] at hk
  | bool n h => simp [Ex.kind] at hk
  | var s h => simp [Ex.kind] at hk
  | not x h => simp [Ex.kind] at hk
  | neg x h => simp [Ex.kind] at hk
  | bin m x y hm h1 h2 => simp [Ex.kind] at hk
theorem isT_one (x s : Str) : isT x [(1, s)] = false := rfl
theorem rdS_any : ∀ (k : Nat) (s : St), s.size ≤ k → ∀ d : Int, chkS d s = 0 → RdS s := by
  intro k
  induction k with
  | zero => intro s h; obtain ⟨_, _, _, _, _, _⟩ := s; rw [St.size] at h; omega
  | succ k ih =>
    intro x hz d hc
    have kids : ∀ (y : St) (D : Int), y.size < x.size → chkS D y = 0 → RdS y := fun y D h hc => ih y (by omega) D hc
    obtain ⟨hs, -⟩ := shapeS_of hc
    clear ih hz hc
    cases hs with
    | let_ s e hs he =>
      refine ⟨⟨_, _, ts_let .., rfl, rfl⟩, fun r f hr hf => ?_⟩
      obtain ⟨f, rfl⟩ : ∃ g, f = g + 1 := ⟨f - 1, by omega⟩
      rw [ts_let]
      simp only [List.append_assoc, List.cons_append, List.nil_append]
      rw [pS_let, pN_read he]
    | set_ s e hs he =>
      refine ⟨⟨_, _, ts_set .., rfl, rfl⟩, fun r f hr hf => ?_⟩
      obtain ⟨f, rfl⟩ : ∃ g, f = g + 1 := ⟨f - 1, by omega⟩
      rw [ts_set]
      simp only [List.append_assoc, List.cons_append, List.nil_append]
      rw [pS_set, pN_read he]
    | do_ e hk he =>
      have hR := rd_any e.size e (Nat.le_refl _) 1 he
      have h5 : e.kind ≠ 5 := by omega
      rcases call_head he hk with ⟨s, T, eq⟩ | ⟨T, eq⟩
      · refine ⟨⟨(1, s), _, by rw [ts_do, eq]; rfl, rfl, rfl⟩, fun r f hr hf => ?_⟩
        obtain ⟨f, rfl⟩ : ∃ g, f = g + 1 := ⟨f - 1, by omega⟩
        have h1 := hR.raw h5 ((3, [59]) :: r) (8 * (tkE e ++ (3, [59]) :: r).length + 8) ⟨rfl, rfl⟩ (by omega)
        rw [ts_do, List.append_assoc, List.cons_append, List.nil_append]
        rw [eq] at h1 ⊢
        simp only [List.cons_append] at h1 ⊢
        rw [pU_name, if_pos (by rfl)] at h1
        rw [pS_call, h1]
        rfl
      · refine ⟨⟨(4, tHost), _, by rw [ts_do, eq]; rfl, rfl, rfl⟩, fun r f hr hf => ?_⟩
        obtain ⟨f, rfl⟩ : ∃ g, f = g + 1 := ⟨f - 1, by omega⟩
        have h1 := hR.raw h5 ((3, [59]) :: r) (8 * (tkE e ++ (3, [59]) :: r).length + 8) ⟨rfl, rfl⟩ (by omega)
        rw [ts_do, List.append_assoc, List.cons_append, List.nil_append]
        rw [eq] at h1 ⊢
        simp only [List.cons_append] at h1 ⊢
        rw [pU_host] at h1
        rw [pS_host, h1]
        rfl
    | return_ e he =>
      refine ⟨⟨_, _, ts_ret .., rfl, rfl⟩, fun r f hr hf => ?_⟩
      obtain ⟨f, rfl⟩ : ∃ g, f = g + 1 := ⟨f - 1, by omega⟩
      rw [ts_ret]
      simp only [List.append_assoc, List.cons_append, List.nil_append]
      rw [pS_ret, pN_read he]
    | abort_ n h0 =>
      refine ⟨⟨_, _, ts_abt .., rfl, rfl⟩, fun r f hr hf => ?_⟩
      obtain ⟨f, rfl⟩ : ∃ g, f = g + 1 := ⟨f - 1, by omega⟩
      rw [ts_abt]
      simp only [List.append_assoc, List.cons_append, List.nil_append]
      rw [pS_abt, numT_itoa n h0]
      rfl
    | repeat_ n b h0 h1 hb =>
      have hB : ∀ s ∈ b, RdS s := fun s hs => kids s (d + 1) (by rw [St.size]; have := St.sizes_mem hs; omega) (chkSs_all hb s hs)
      refine ⟨⟨_, _, ts_rep .., rfl, rfl⟩, fun r f hr hf => ?_⟩
      obtain ⟨f, rfl⟩ : ∃ g, f = g + 1 := ⟨f - 1, by omega⟩
      rw [ts_rep] at hf ⊢
      simp only [List.append_assoc, List.cons_append, List.nil_append, List.length_cons] at hf ⊢
      rw [pS_rep, pBl_read b hB r f (by rw [List.length_cons]; omega), numT_itoa n h0]
      rfl
    | if_ e b l he hb hl =>
      have hB : ∀ s ∈ b, RdS s := fun s hs => kids s (d + 1) (by rw [St.size]; have := St.sizes_mem hs; omega) (chkSs_all hb s hs)
      have hL : ∀ s ∈ l, RdS s := fun s hs => kids s (d + 1) (by rw [St.size]; have := St.sizes_mem hs; omega) (chkSs_all hl s hs)
      by_cases h0 : l = []
      · subst h0
        refine ⟨⟨_, _, ts_if .., rfl, rfl⟩, fun r f hr hf => ?_⟩
        obtain ⟨f, rfl⟩ : ∃ g, f = g + 2 := ⟨f - 2, by omega⟩
        rw [ts_if] at hf ⊢
        simp only [List.append_assoc, List.cons_append, List.nil_append, List.length_cons, List.length_append] at hf ⊢
        rw [pS_if, pI, pE_read he _ ⟨rfl, rfl⟩ (nOp_brc _)]
        dsimp only
        rw [pBl_read b hB r f (by simp only [List.length_append, List.length_cons]; omega)]
        dsimp only
        rw [if_neg (ne_t hr)]
      · refine ⟨⟨_, _, ts_ifelse _ _ _ h0, rfl, rfl⟩, fun r f hr hf => ?_⟩
        obtain ⟨f, rfl⟩ : ∃ g, f = g + 2 := ⟨f - 2, by omega⟩
        rw [ts_ifelse _ _ _ h0] at hf ⊢
        simp only [List.append_assoc, List.cons_append, List.nil_append, List.length_cons, List.length_append] at hf ⊢
        rw [pS_if, pI, pE_read he _ ⟨rfl, rfl⟩ (nOp_brc _)]
        dsimp only
        rw [pBl_read b hB _ f (by simp only [List.length_append, List.length_cons]; omega)]
        dsimp only
        rw [if_pos (by rfl), if_neg (by exact ne_t rfl), List.tail_cons, pBl_read l hL r f (by simp only [List.length_append, List.length_cons]; omega)]
/-- The tokens of parameters. -/
def tkPs : List Str → List Tk
  | [] => []
  | [x] => [(1, x)]
  | x :: y :: t => (1, x) :: (3, [44]) :: tkPs (y :: t)
def tkD (d : Decl') : List Tk := [(4, tSto), (1, d.name), (1, d.kind), (3, [59])]
def tkOp (o : Oper') : List Tk := (4, tOp) :: (1, o.name) :: (3, [40]) :: (tkPs o.params ++ (3, [41]) :: (3, [123]) :: (tkSs o.body ++ [(3, [125])]))
/-- A program's tokens, the end among them. -/
def tkP (p : Prog') : List Tk := (p.stores.map tkD).flatten ++ ((p.opers.map tkOp).flatten ++ [(0, [])])
theorem pQ_read : ∀ (l : List Str), l ≠ [] → ∀ (acc : List Str) (r : List Tk) (f : Nat), (tkPs l).length < f → pQ f acc (tkPs l ++ (3, [41]) :: r) = .ok (acc ++ l) r
  | [], h, _, _, _, _ => absurd rfl h
  | [x], _, acc, r, f, hf => by
    obtain ⟨f, rfl⟩ : ∃ g, f = g + 1 := ⟨f - 1, by omega⟩
    rfl
  | x :: y :: t, _, acc, r, f, hf => by
    obtain ⟨f, rfl⟩ : ∃ g, f = g + 1 := ⟨f - 1, by omega⟩
    have ih := pQ_read (y :: t) (by simp) (acc ++ [x]) r f (by rw [tkPs, List.length_cons, List.length_cons] at hf; omega)
    rw [tkPs, List.cons_append, List.cons_append, pQ, if_pos (by rfl), if_neg (by exact ne_t rfl), if_pos (by rfl)]
    show pQ f (acc ++ [x]) (tkPs (y :: t) ++ (3, [41]) :: r) = _
    rw [ih, List.append_assoc]
    rfl
theorem pPs_read (l : List Str) (r : List Tk) : pPs ((3, [40]) :: (tkPs l ++ (3, [41]) :: r)) = .ok l r := by
  unfold pPs
  rw [if_pos (by rfl)]
  by_cases hl : l = []
  · subst hl; rfl
  · rw [if_neg (ne_t (by
      match l, hl with
      | [x], _ => rfl
      | x :: y :: t, _ => rfl))]
    exact pQ_read l hl [] r _ (by simp only [List.length_cons, List.length_append]; omega)
theorem pO_read (o : Oper') (h : chkSs 1 o.body = 0) (r : List Tk) : pO (tkOp o ++ r).tail = .ok o r := by
  show pO ((1, o.name) :: ((3, [40]) :: (tkPs o.params ++ (3, [41]) :: (3, [123]) :: (tkSs o.body ++ [(3, [125])])) ++ r)) = _
  unfold pO
  rw [if_pos (by rfl)]
  rw [List.tail_cons]
  simp only [List.append_assoc, List.cons_append, List.nil_append]
  rw [pPs_read]
  dsimp only
  unfold pBk
  rw [pBl_read o.body (fun s hs => rdS_any s.size s (Nat.le_refl _) 1 (chkSs_all h s hs)) r _ (by omega)]
  rfl
theorem pD_read (d : Decl') (r : List Tk) : pD (tkD d ++ r).tail = .ok d r := rfl
theorem pG_opers : ∀ (os : List Oper'), (∀ o ∈ os, chkSs 1 o.body = 0) → ∀ (ds : List Decl') (acc : List Oper') (f : Nat), (os.map tkOp).flatten.length < f → pG f ds acc ((os.map tkOp).flatten ++ [(0, [])]) = .ok ⟨ds, acc ++ os⟩ [(0, [])]
  | [], _, ds, acc, f, hf => by
    obtain ⟨f, rfl⟩ : ∃ g, f = g + 1 := ⟨f - 1, by omega⟩
    rw [List.append_nil]
    rfl
  | o :: os, h, ds, acc, f, hf => by
    obtain ⟨f, rfl⟩ : ∃ g, f = g + 1 := ⟨f - 1, by omega⟩
    have ih := pG_opers os (fun x hx => h x (List.mem_cons_of_mem _ hx)) ds (acc ++ [o]) f (by
      rw [List.map_cons, List.flatten_cons, List.length_append] at hf
      have : 1 ≤ (tkOp o).length := by unfold tkOp; simp
      omega)
    rw [List.map_cons, List.flatten_cons, List.append_assoc, pG, if_neg (by show ¬ (4 : Int) = 0; decide), if_neg (by exact ne_t rfl), if_pos (by rfl), pO_read o (h o (List.mem_cons_self ..))]
    dsimp only
    rw [ih, List.append_assoc]
    rfl
theorem pG_stores (os : List Oper') (ho : ∀ o ∈ os, chkSs 1 o.body = 0) : ∀ (ds : List Decl') (acc : List Decl') (f : Nat), ((ds.map tkD).flatten ++ (os.map tkOp).flatten).length < f → pG f acc [] ((ds.map tkD).flatten ++ ((os.map tkOp).flatten ++ [(0, [])])) = .ok ⟨acc ++ ds, os⟩ [(0, [])]
  | [], acc, f, hf => by
    have := pG_opers os ho acc [] f (by simpa using hf)
    rw [List.append_nil]
    exact this
  | d :: ds, acc, f, hf => by
    obtain ⟨f, rfl⟩ : ∃ g, f = g + 1 := ⟨f - 1, by omega⟩
    have ih := pG_stores os ho ds (acc ++ [d]) f (by
      rw [List.map_cons, List.flatten_cons, List.append_assoc, List.length_append] at hf
      have : 1 ≤ (tkD d).length := by unfold tkD; simp
      omega)
    rw [List.map_cons, List.flatten_cons, List.append_assoc, pG, if_neg (by show ¬ (4 : Int) = 0; decide), if_pos (by rfl), pD_read d]
    dsimp only
    rw [ih, List.append_assoc]
    rfl
/-- A valid program's tokens are read as it. -/
theorem pP_read {p : Prog'} (h : chkP p = 0) : pP (tkP p) = .ok p [(0, [])] := by
  obtain ⟨-, -, -, hos, -, -⟩ := chkP_ok h
  obtain ⟨ds, os⟩ := p
  exact pG_stores os (fun o ho => (hos o ho).2.2.2) ds [] _ (by unfold tkP; simp only [List.length_append, List.length_cons, List.length_nil]; omega)
end Go.Proofs.YtkakbidllpjopaaGreatDoor
