/- The walks of the reference's Of, Cut and At. Conditions: the stamps ascend; at most 10^6 rows. -/
import Derived.Test.YtpejhgkcofilmaaTrN
set_option linter.unusedVariables false
namespace Go.Proofs.Ytpejhgkcofilmaa
open Go.RowKit

/-- Rows of writes. -/
def W3s (w : World) (S : Nat → Prop) (A : Option Addr) (n : Nat) (l : List W3) : Prop := n = l.length ∧ Reads w S 3 A n (l.flatMap w3C)
theorem W3s.below {w w' : World} {S : Nat → Prop} {A : Option Addr} {n : Nat} {l : List W3} (h : W3s w S A n l) (hb : Below w.heap.size w w') : W3s w' S A n l := ⟨h.1, h.2.below hb⟩
theorem W3s.cell {w : World} {S : Nat → Prop} {A : Option Addr} {n : Nat} {l : List W3} (h : W3s w S A n l) (k : Nat) (hk : k < l.length) :
    ∃ b o, A = some ⟨b, o, none⟩ ∧ ∀ w', Below w.heap.size w w' → w'.cell? ⟨b, o + k * 3, none⟩ = some (.int .i64 l[k].1) ∧ w'.cell? ⟨b, o + k * 3 + 1, none⟩ = some (.int .i64 l[k].2.1) ∧ w'.cell? ⟨b, o + k * 3 + 2, none⟩ = some (.int .i64 l[k].2.2) := by
  obtain ⟨rfl, h1⟩ := h
  obtain ⟨b, o, e, hb, hS, hc⟩ := h1.2 (by omega)
  refine ⟨b, o, e, fun w' hb' => ?_⟩
  have g := fun (j : Nat) (u : Value) (hj : j < 3) (hu : (w3C l[k])[j]? = some u) => (hb'.cell (p := ⟨b, o + (k * 3 + j), none⟩) hb).trans (hc (k * 3 + j) u ((flat_get2 (s := 3) (fun _ => rfl) l k hk j hj).trans hu))
  refine ⟨?_, ?_, ?_⟩
  · have := g 0 _ (by omega) rfl; rwa [← Nat.add_assoc] at this
  · have := g 1 _ (by omega) rfl; rwa [← Nat.add_assoc] at this
  · have := g 2 _ (by omega) rfl; rwa [← Nat.add_assoc] at this
/-- What the reference's Of gives. -/
def ofL (all : List W3) (k : Int) : List W3 := (k, 0, 0) :: all.filter fun x => x.1 == k
theorem filter_take (p : W3 → Bool) (l : List W3) (k : Nat) (hk : k < l.length) : (l.take (k + 1)).filter p = (l.take k).filter p ++ (if p l[k] = true then [l[k]] else []) := by
  rw [List.take_succ_eq_append_getElem hk, List.filter_append, List.filter_cons, List.filter_nil]

set_option maxRecDepth 100000 in
set_option maxHeartbeats 6400000 in
theorem of_any {S : Nat → Prop} (A : Option Addr) (n c : Nat) (l : List W3) (i : Int) (w : World) (hl : W3s w S A n l) (hn : l.length ≤ 1000000) :
    Calls Try.prog 52 #[.slice A n c, .int .i64 i] w fun e w' => ∃ A' c', e = .returned (.slice A' (ofL l i).length c') ∧ (ofL l i).length ≤ c' ∧ (A' = none → c' = 0) ∧ W3s w' (fun b => w.heap.size ≤ b) A' (ofL l i).length (ofL l i) ∧ Below w.heap.size w w' := by
  obtain ⟨iw, hiw0, hiw1, hiw2, hiw3⟩ := info_parts (P := Try.prog) (e := 106) (z := .agg #[.int .i64 0, .int .i64 0, .int .i64 0]) (size := 3) (bytes := 24) (by kernel_rfl)
  have HL := Lib.hid hl
  have HN := Lib.hid hl.1
  have hnn : (n : Int) ≤ 1000000 := by have := hl.1; omega
  have HX := Lib.hid (World.ownsRow_lit (base := w.heap.size) (size := 3) (e := 106) w #[.int .i64 i, .int .i64 0, .int .i64 0] 1 (Nat.le_refl _) (by simp [maxLen]) rfl)
  have HB := Lib.hid ((Below.refl w.heap.size w).alloc (Nat.le_refl _) (.cells #[.int .i64 i, .int .i64 0, .int .i64 0] 106))
  clear hl
  go_enter Try.func52, Try.ntmps52
  go_wp2
  generalize w.alloc (.cells #[.int .i64 i, .int .i64 0, .int .i64 0] 106) = w1 at *
  go_loopw [5, 6] (fun v j wr => ∃ k : Nat, k ≤ l.length ∧ j = .int .i64 k ∧ Hid (wr.ownsRow w.heap.size 106 3 v (ofL (l.take k) i).length ((ofL (l.take k) i).flatMap w3C)) ∧ Hid (Below w.heap.size w wr)) (fun _ j _ => l.length - (intOf j).toNat)
  case atStart => exact ⟨0, by omega, rfl, HX, HB⟩
  case round =>
    clear HX HB
    obtain ⟨k, hk, rfl, HO, HB⟩ := hrel
    by_cases hlt : k < l.length
    · have hi : (k : Int) < (n : Int) := by have := HN.out; omega
      obtain ⟨b, o, rfl, hc⟩ := HL.out.cell k hlt
      have c0 := (hc wr HB.out).1
      have c1 := (hc wr HB.out).2.1
      have c2 := (hc wr HB.out).2.2
      have HK := Lib.hid hlt
      have HF := Lib.hid (filter_take (fun x => x.1 == i) l k hlt)
      have HLE := Lib.hid (show (ofL (l.take k) i).length ≤ 1000001 by unfold ofL; have := List.length_filter_le (fun x : W3 => x.1 == i) (l.take k); rw [List.length_take] at this; rw [List.length_cons]; omega)
      clear hc hk
      generalize l[k] = x at *
      obtain ⟨xc, xs, xv⟩ := x
      dsimp only at c0 c1 c2 HF
      clear hlt
      by_cases hx : xc = i
      · subst hx
        have HE := Lib.hid (show ofL (l.take (k + 1)) xc = ofL (l.take k) xc ++ [(xc, xs, xv)] by unfold ofL; rw [HF.out, if_pos (by simp)]; rfl)
        have HR := Lib.hid (Reads.new (S := fun _ => True) (size := 3) (n := 1) wr #[.int .i64 xc, .int .i64 xs, .int .i64 xv] 106 rfl trivial)
        clear HF
        go_wp2_with (at_builtin; (refine wpList_append_any rfl (.tmp 23) (.tmp 28) 101 rfl w.heap.size 106 iw _ 3 24 Try.underlying101 hiw0 hiw1 hiw2 hiw3 rfl (by omega) _ _ _ rfl (HO.out.alloc _) _ _ 1 1 _ rfl HR.out ?k1 ?k2 ?k3 ?k4 ?k5))
        case k1 => first | exact ⟨rfl, rfl, rfl⟩ | (intro u hu; simp at hu; rcases hu with rfl | rfl | rfl <;> rfl)
        case k2 => have := HLE.out; simp only [maxLen]; omega
        case k3 => have := HLE.out; omega
        case k4 => have := HB.out.size; simp; omega
        case k5 =>
          intro v' w' ho hg _
          have HO' := Lib.hid (show w'.ownsRow w.heap.size 106 3 v' (ofL (l.take (k + 1)) xc).length ((ofL (l.take (k + 1)) xc).flatMap w3C) by rw [HE.out, List.length_append, List.flatMap_append]; exact ho)
          have HB' := Lib.hid ((HB.out.alloc HB.out.size _).grown hg (by have := HB.out.size; simp; omega) (fun g hg' => (HO.out.lt g hg').1))
          clear ho hg
          go_wp2
          go_roundw
          case rel => exact ⟨k + 1, HK.out, by go_num, HO', HB'⟩
          case measure => exact meas_up _ _ HK.out
      · have HE := Lib.hid (show ofL (l.take (k + 1)) i = ofL (l.take k) i by unfold ofL; rw [HF.out, if_neg (by simpa using hx), List.append_nil])
        clear HF
        go_wp2
        go_roundw
        case rel => exact ⟨k + 1, HK.out, by go_num, by rw [HE.out]; exact HO, HB⟩
        case measure => exact meas_up _ _ HK.out
    · obtain rfl : k = l.length := by omega
      have hi : (n : Int) ≤ (l.length : Int) := by have := HN.out; omega
      rw [List.take_length] at HO
      clear hlt hk
      obtain ⟨A', c', rfl, g1, g2, g3⟩ := own_reads (S := fun b => w.heap.size ≤ b) HO.out (fun _ h => h)
      have HR := Lib.hid g3
      have HG := Lib.hid (And.intro g1 g2)
      clear g1 g2 g3
      go_wp2
      go_ret
      exact ⟨A', c', rfl, HG.out.1, HG.out.2, ⟨rfl, HR.out⟩, HB.out⟩

theorem flat_drop3 (l : List W3) (d : Nat) : (l.flatMap w3C).drop (d * 3) = (l.drop d).flatMap w3C := by
  induction d generalizing l with
  | zero => simp
  | succ d ih =>
    cases l with
    | nil => simp
    | cons x r =>
      rw [List.flatMap_cons, List.drop_succ_cons, ← ih r, show (d + 1) * 3 = (w3C x).length + d * 3 by simp [w3C]; omega, List.drop_length_add_append]
/-- The stamps and values of rows. -/
def stL (l : List W3) : List (Int × Int) := l.map (·.2)
theorem aft_take (l : List W3) (h : Asc (stL l)) (t : Int) (k : Nat) (hk : k < l.length) : aft (stL (l.take (k + 1))) t = if l[k].2.1 ≤ t then k + 1 else aft (stL (l.take k)) t := by
  have hmap : ∀ j, stL (l.take j) = (stL l).take j := fun j => by unfold stL; rw [List.map_take]
  have hA : ∀ j, Asc ((stL l).take j) := fun j => List.Pairwise.sublist (List.take_sublist j _) h
  have hlen : (stL l).length = l.length := by simp [stL]
  have hget : ∀ (i : Nat) (hi : i < l.length), (stL l)[i]'(by omega) = l[i].2 := fun i hi => by simp [stL]
  rw [hmap, hmap]
  have l1 : ((stL l).take (k + 1)).length = k + 1 := by rw [List.length_take]; omega
  have l0 : ((stL l).take k).length = k := by rw [List.length_take]; omega
  have hle1 := aft_le ((stL l).take (k + 1)) t
  have hle0 := aft_le ((stL l).take k) t
  have e := aft_iff ((stL l).take (k + 1)) t (hA _) k (by omega)
  rw [List.getElem_take, hget k hk] at e
  split
  · rename_i hlt
    have : ¬ (aft ((stL l).take (k + 1)) t ≤ k) := fun x => by have := e.2 x; omega
    omega
  · rename_i hge
    have h1 : aft ((stL l).take (k + 1)) t ≤ k := e.1 (by omega)
    have hdrop : (stL l).take k = ((stL l).take (k + 1)).take k := by rw [List.take_take, Nat.min_eq_left (by omega)]
    have : ∀ (L : List (Int × Int)) (k : Nat), aft L t ≤ k → aft (L.take k) t = aft L t := by
      intro L
      induction L with
      | nil => intro k _; simp [aft]
      | cons p r ih =>
        intro k hk
        cases k with
        | zero =>
          have h0 : aft (p :: r) t = 0 := by omega
          rw [h0]; rfl
        | succ k =>
          unfold aft at *
          rw [List.take_succ_cons, List.takeWhile_cons, List.takeWhile_cons]
          rw [List.takeWhile_cons] at hk
          split
          · rename_i hp
            rw [if_pos hp, List.length_cons] at hk
            rw [List.length_cons, List.length_cons, ih k (by omega)]
          · rfl
    rw [hdrop, this _ k h1]

set_option maxRecDepth 100000 in
set_option maxHeartbeats 6400000 in
theorem rcut51_any {S : Nat → Prop} (A : Option Addr) (n c : Nat) (l : List W3) (t : Int) (w : World) (hl : W3s w S A n l) (ha : Asc (stL l)) (hc : n ≤ c) (hA : A = none → c = 0) (hn : l.length ≤ 2000000) :
    Calls Try.prog 53 #[.slice A n c, .int .i64 t] w fun e w' => ∃ A' c', e = .returned (.slice A' (l.drop (aft (stL l) t - 1)).length c') ∧ (l.drop (aft (stL l) t - 1)).length ≤ c' ∧ (A' = none → c' = 0) ∧ W3s w' S A' (l.drop (aft (stL l) t - 1)).length (l.drop (aft (stL l) t - 1)) ∧ w' = w := by
  have HL := Lib.hid hl
  have HN := Lib.hid hl.1
  have HC := Lib.hid (And.intro hc hA)
  have HAS := Lib.hid ha
  have hnn : (n : Int) ≤ 2000000 := by have := hl.1; omega
  clear hl ha hc hA
  go_enter Try.func53, Try.ntmps53
  go_wp2
  go_loopw [5, 6] (fun v j wr => ∃ k : Nat, k ≤ l.length ∧ j = .int .i64 k ∧ v = .int .i64 ((aft (stL (l.take k)) t - 1 : Nat) : Int) ∧ wr = w) (fun _ j _ => l.length - (intOf j).toNat)
  case atStart => exact ⟨0, by omega, rfl, rfl, rfl⟩
  case round =>
    obtain ⟨k, hk, rfl, rfl, rfl⟩ := hrel
    by_cases hlt : k < l.length
    · have hi : (k : Int) < (n : Int) := by have := HN.out; omega
      obtain ⟨b, o, rfl, hcc⟩ := HL.out.cell k hlt
      have c1 := (hcc wr (Below.refl _ _)).2.1
      have HK := Lib.hid hlt
      have HT := Lib.hid (aft_take l HAS.out t k hlt)
      clear hcc hk
      generalize l[k].2.1 = x at *
      generalize aft (stL (l.take k)) t = q at *
      clear hlt
      by_cases hx : x ≤ t
      · have HE := Lib.hid (HT.out.trans (if_pos hx))
        clear HT
        go_wp2
        go_roundw
        case rel => exact ⟨k + 1, HK.out, by go_num, by rw [HE.out, Nat.add_sub_cancel], by first | rfl | trivial⟩
        case measure => exact meas_up _ _ HK.out
      · have HE := Lib.hid (HT.out.trans (if_neg hx))
        clear HT
        go_wp2
        go_roundw
        case rel => exact ⟨k + 1, HK.out, by go_num, by rw [HE.out], by first | rfl | trivial⟩
        case measure => exact meas_up _ _ HK.out
    · obtain rfl : k = l.length := by omega
      have hi : (n : Int) ≤ (l.length : Int) := by have := HN.out; omega
      rw [List.take_length]
      have hle := aft_le (stL l) t
      have hsl : (stL l).length = l.length := by simp [stL]
      have HDL := Lib.hid (show (l.drop (aft (stL l) t - 1)).length = n - (aft (stL l) t - 1) by have := HN.out; rw [List.length_drop]; omega)
      have HRC := Lib.hid (HL.out.2.cut (k := aft (stL l) t - 1) (cap := c) (by have := HN.out; omega) HC.out.1)
      have HFD := Lib.hid (flat_drop3 l (aft (stL l) t - 1))
      have hd0 : aft (stL l) t - 1 ≤ n := by have := HN.out; omega
      have hcn := HC.out.1
      have hcb : True := trivial
      generalize hq : aft (stL l) t - 1 = d at *
      have hd1 : (d : Int) ≤ (n : Int) := by omega
      have hd2 : (d : Int) ≤ (c : Int) := by omega
      have hd3 : (n : Int) ≤ (c : Int) := by omega
      obtain ⟨Ac, hAc⟩ : ∃ Ac, (if c = d then A else Option.map (fun x => x.add (d * 3)) A) = Ac := ⟨_, rfl⟩
      have HAC := Lib.hid hAc
      rw [HFD.out, HAC.out] at HRC
      have HQ := Lib.hid hq
      clear hq hlt hk hle hsl hd0 hcb HFD
      go_wp2
      go_ret
      rw [HQ.out]
      refine ⟨Ac, c - d, by rw [HDL.out]; rfl, by rw [HDL.out]; omega, fun h => ?_, ⟨rfl, by rw [HDL.out]; exact HRC.out⟩, rfl⟩
      rw [← HAC.out] at h
      split at h
      · omega
      · cases A with
        | none => have := HC.out.2 rfl; omega
        | some x => simp at h

theorem see_take (l : List W3) (h : Asc (stL l)) (t : Int) (k : Nat) (hk : k < l.length) : seeV (stL (l.take (k + 1))) t = (if l[k].2.1 ≤ t then l[k].2.2 else seeV (stL (l.take k)) t) ∧ seeB (stL (l.take (k + 1))) t = (if l[k].2.1 ≤ t then true else seeB (stL (l.take k)) t) := by
  have e := aft_take l h t k hk
  have hmap : ∀ j, stL (l.take j) = (stL l).take j := fun j => by unfold stL; rw [List.map_take]
  have hlen : (stL l).length = l.length := by simp [stL]
  have hle := aft_le (stL (l.take k)) t
  have hl0 : (stL (l.take k)).length = k := by rw [hmap, List.length_take]; omega
  unfold seeV seeB
  rw [e]
  split
  · refine ⟨?_, by simp⟩
    rw [if_neg (by omega), Nat.add_sub_cancel, hmap, List.getElem?_take, if_pos (by omega), List.getElem?_eq_getElem (by omega)]
    simp [stL]
  · refine ⟨?_, rfl⟩
    have hak : aft (stL (l.take k)) t ≤ k := by omega
    generalize aft (stL (l.take k)) t = q at *
    split
    · rfl
    · rw [hmap, hmap, List.getElem?_take, List.getElem?_take, if_pos (by omega), if_pos (by omega)]

set_option maxRecDepth 100000 in
set_option maxHeartbeats 6400000 in
theorem rat51_any {S : Nat → Prop} (A : Option Addr) (n c : Nat) (l : List W3) (t : Int) (w : World) (hl : W3s w S A n l) (ha : Asc (stL l)) (hn : l.length ≤ 2000000) :
    Calls Try.prog 54 #[.slice A n c, .int .i64 t] w fun e w' => e = .returned (.tuple #[.int .i64 (seeV (stL l) t), .bool (seeB (stL l) t)]) ∧ w' = w := by
  have HL := Lib.hid hl
  have HN := Lib.hid hl.1
  have HAS := Lib.hid ha
  have hnn : (n : Int) ≤ 2000000 := by have := hl.1; omega
  clear hl ha
  go_enter Try.func54, Try.ntmps54
  go_wp2
  go_loopw [6, 7, 8] (fun v ok j wr => ∃ k : Nat, k ≤ l.length ∧ j = .int .i64 k ∧ v = .int .i64 (seeV (stL (l.take k)) t) ∧ ok = .bool (seeB (stL (l.take k)) t) ∧ wr = w) (fun _ _ j _ => l.length - (intOf j).toNat)
  case atStart => exact ⟨0, by omega, rfl, rfl, rfl, rfl⟩
  case round =>
    obtain ⟨k, hk, rfl, rfl, rfl, rfl⟩ := hrel
    by_cases hlt : k < l.length
    · have hi : (k : Int) < (n : Int) := by have := HN.out; omega
      obtain ⟨b, o, rfl, hcc⟩ := HL.out.cell k hlt
      have c1 := (hcc wr (Below.refl _ _)).2.1
      have c2 := (hcc wr (Below.refl _ _)).2.2
      have HK := Lib.hid hlt
      have HT := Lib.hid (see_take l HAS.out t k hlt)
      clear hcc hk
      generalize l[k].2.1 = x at *
      generalize l[k].2.2 = y at *
      generalize seeV (stL (l.take k)) t = sv at *
      generalize seeB (stL (l.take k)) t = sb at *
      clear hlt
      by_cases hx : x ≤ t
      · have HE := Lib.hid (And.intro (HT.out.1.trans (if_pos hx)) (HT.out.2.trans (if_pos hx)))
        clear HT
        go_wp2
        go_roundw
        case rel => exact ⟨k + 1, HK.out, by go_num, by rw [HE.out.1], by rw [HE.out.2], by first | rfl | trivial⟩
        case measure => exact meas_up _ _ HK.out
      · have HE := Lib.hid (And.intro (HT.out.1.trans (if_neg hx)) (HT.out.2.trans (if_neg hx)))
        clear HT
        go_wp2
        go_roundw
        case rel => exact ⟨k + 1, HK.out, by go_num, by rw [HE.out.1], by rw [HE.out.2], by first | rfl | trivial⟩
        case measure => exact meas_up _ _ HK.out
    · obtain rfl : k = l.length := by omega
      have hi : (n : Int) ≤ (l.length : Int) := by have := HN.out; omega
      rw [List.take_length]
      clear hlt hk
      generalize hv : seeV (stL l) t = sv at *
      generalize hb : seeB (stL l) t = sb at *
      have HV := Lib.hid (And.intro hv hb)
      clear hv hb
      go_wp2
      go_ret2
      exact ⟨by rw [HV.out.1, HV.out.2]; rfl, rfl⟩
end Go.Proofs.Ytpejhgkcofilmaa
