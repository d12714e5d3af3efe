/- The walk of the store's List. Conditions: the maps and lists lie in blocks that meet S. -/
import Derived.Test.YtpejhgkcofilmaaSnapA
set_option linter.unusedVariables false
namespace Go.Proofs.Ytpejhgkcofilmaa
open Go.RowKit

/-- A list's value. -/
def VList (w : World) (S : Nat → Prop) (u : Value) (l : List (Int × Int)) : Prop := ∃ A n c, u = .agg #[.slice A n c] ∧ n ≤ c ∧ (A = none → c = 0) ∧ Ones w S A n l
theorem VList.below {w w' : World} {S : Nat → Prop} {u : Value} {l : List (Int × Int)} (h : VList w S u l) (hb : Below w.heap.size w w') : VList w' S u l := by
  obtain ⟨A, n, c, e, h1, h2, h3⟩ := h
  exact ⟨A, n, c, e, h1, h2, h3.below hb⟩
theorem VList.setCell {w : World} {S : Nat → Prop} {u : Value} {l : List (Int × Int)} (h : VList w S u l) {p : Addr} (hp : ¬ S p.block) (v : Value) : VList (w.setCell p v) S u l := by
  obtain ⟨A, n, c, e, h1, h2, h3⟩ := h
  exact ⟨A, n, c, e, h1, h2, h3.setCell hp v⟩
theorem VList.more {w : World} {S S' : Nat → Prop} {u : Value} {l : List (Int × Int)} (h : VList w S u l) (hS : ∀ b, b < w.heap.size → S b → S' b) : VList w S' u l := by
  obtain ⟨A, n, c, e, h1, h2, h3⟩ := h
  exact ⟨A, n, c, e, h1, h2, h3.1, h3.2.more hS⟩
/-- The lists behind a map's values. -/
def LMap (w : World) (S : Nat → Prop) (f : Int → Option Value) (g : Int → Option (List (Int × Int))) : Prop :=
  ∀ k, (f k = none ∧ g k = none) ∨ ∃ u l, f k = some u ∧ g k = some l ∧ VList w S u l
theorem LMap.below {w w' : World} {S : Nat → Prop} {f : Int → Option Value} {g : Int → Option (List (Int × Int))} (h : LMap w S f g) (hb : Below w.heap.size w w') : LMap w' S f g := fun k => by
  rcases h k with h | ⟨u, l, h1, h2, h3⟩
  · exact .inl h
  · exact .inr ⟨u, l, h1, h2, h3.below hb⟩
theorem LMap.more {w : World} {S S' : Nat → Prop} {f : Int → Option Value} {g : Int → Option (List (Int × Int))} (h : LMap w S f g) (hS : ∀ b, b < w.heap.size → S b → S' b) : LMap w S' f g := fun k => by
  rcases h k with h | ⟨u, l, h1, h2, h3⟩
  · exact .inl h
  · exact .inr ⟨u, l, h1, h2, h3.more hS⟩

/-- The list that List returns. -/
def listOf (c : Int) (g : Int → Option (List (Int × Int))) (i : Int) : List (Int × Int) := if 0 ≤ i ∧ i < c then (g i).getD [(0, 0)] else []

theorem vlist_nil (w : World) (S : Nat → Prop) : VList w S (.agg #[.slice none 0 0]) [] := ⟨none, 0, 0, rfl, Nat.le_refl _, fun _ => rfl, rfl, Reads.none_⟩
set_option maxRecDepth 100000 in
theorem list_zero (w : World) : (zeroValue 27).run Try.prog w = .ok (.agg #[.slice none 0 0]) w := by
  simp [go_sem]

set_option maxRecDepth 100000 in
set_option maxHeartbeats 3200000 in
theorem slist_any {S : Nat → Prop} (c n : Int) (b1 b2 : Option Nat) (B : Nat → Bool) (T : Nat → Int) (f : Int → Option Value) (g : Int → Option (List (Int × Int))) (i : Int) (w : World) (hS : ∀ b, w.heap.size ≤ b → S b)
    (hm : IsMap w S (.map b1) f) (hg : LMap w S f g) :
    Calls Try.prog 41 #[sto c n (.map b1) (.map b2) B T, .int .i64 i] w fun e w' => ∃ u, e = .returned u ∧ VList w' S u (listOf c g i) ∧ Below w.heap.size w w' := by
  have hm' : IsMap w (Off S w.heap.size (w.heap.size + 2)) (.map b1) f := hm.more fun b hb hS => ⟨hS, .inl hb⟩
  have hg' : LMap w (Off S w.heap.size (w.heap.size + 2)) f g := hg.more fun b hb hS => ⟨hS, .inl hb⟩
  have fin : ∀ w1 u l, Below w.heap.size w w1 → VList w1 (Off S w.heap.size (w.heap.size + 2)) u l → ∀ v, VList (w1.setCell ⟨w.heap.size + 1, 0, none⟩ v) S u l ∧ Below w.heap.size w (w1.setCell ⟨w.heap.size + 1, 0, none⟩ v) :=
    fun w1 u l hb hv v => ⟨(hv.setCell (off_not (by simp) (by simp)) v).more fun b _ h => h.1, hb.setCell (by simp) _⟩
  have HM := Lib.hid hm'
  have HG := Lib.hid hg'
  have FIN := Lib.hid fin
  have HS := Lib.hid (off_new hS (Nat.le_add_right _ 2) (Nat.le_refl _))
  have h1 := heap_alloc2_old w (.cells (stoCells c n (.map b1) (.map b2) B T) 57) (.cells #[.slice none 0 0] 27)
  have h2 := heap_alloc2_new w (.cells (stoCells c n (.map b1) (.map b2) B T) 57) (.cells #[.slice none 0 0] 27)
  have hsz : ((w.alloc (.cells (stoCells c n (.map b1) (.map b2) B T) 57)).alloc (.cells #[.slice none 0 0] 27)).heap.size = w.heap.size + 2 := by simp
  have hbw : Below w.heap.size w ((w.alloc (.cells (stoCells c n (.map b1) (.map b2) B T) 57)).alloc (.cells #[.slice none 0 0] 27)) := ((Below.refl _ _).alloc (Nat.le_refl _) _).alloc (by simp) _
  have aft : ∀ w1, Below ((w.alloc (.cells (stoCells c n (.map b1) (.map b2) B T) 57)).alloc (.cells #[.slice none 0 0] 27)).heap.size ((w.alloc (.cells (stoCells c n (.map b1) (.map b2) B T) 57)).alloc (.cells #[.slice none 0 0] 27)) w1 →
      w1.cell? ⟨w.heap.size, 2, none⟩ = some (.map b1) ∧ w1.cell? ⟨w.heap.size + 1, 0, none⟩ = some (.slice none 0 0) ∧ w1.frozen? ⟨w.heap.size + 1, 0, none⟩ = false ∧ Below w.heap.size w w1 ∧ w.heap.size + 2 ≤ w1.heap.size ∧
      IsMap w1 (Off S w.heap.size (w.heap.size + 2)) (.map b1) f ∧ LMap w1 (Off S w.heap.size (w.heap.size + 2)) f g := by
    intro w1 hb
    have e1 := hb.block w.heap.size (by simp; omega)
    have e2 := hb.block (w.heap.size + 1) (by simp)
    have hbb : Below w.heap.size w w1 := hbw.trans (hb.mono (by simp; omega))
    have hs := hb.size
    rw [h1] at e1
    rw [h2] at e2
    refine ⟨?_, ?_, ?_, hbb, by rw [hsz] at hs; exact hs, HM.out.below hbb, HG.out.below hbb⟩
    · rw [cell_of_row _ _ _ _ _ _ e1]; rfl
    · rw [cell_of_row _ _ _ _ _ _ e2]; rfl
    · simp [World.frozen?, e2]
  have AFT := Lib.hid aft
  have H1 := Lib.hid h1
  clear hm hg hm' hg' fin hS h1 h2 hsz hbw aft HM HG
  by_cases hc : (decide (0 ≤ i) && decide (i < c)) = true
  · have hlo : listOf c g i = (g i).getD [(0, 0)] := by
      unfold listOf
      rw [if_pos (by simpa using hc)]
    generalize listOf c g i = L at hlo ⊢
    have HLO := Lib.hid hlo
    have HC := Lib.hid hc
    clear hc hlo
    go_enter Try.func41, Try.ntmps41
    go_wp2_with (first
      | (with_reducible refine at_box_ (t := 57) ?_; refine box_sto rfl _ rfl _ rfl (c := c) (n := n) (ml := .map b1) (mw := .map b2) (B := B) (T := T) rfl ?_)
      | (with_reducible refine at_load_ (t := 57) ?_; refine get_sto rfl _ rfl w.heap.size rfl H1.out ?_))
    refine (scell_any c n b1 b2 B T i _).mono ?_
    rintro e w1 ⟨rfl, hb1⟩
    rw [HC.out]
    obtain ⟨p2, q1, q2, hb2, hs2, hm1, hg1⟩ := AFT.out w1 hb1
    clear AFT H1 HC hb1
    rcases hg1 i with ⟨hf, hgi⟩ | ⟨u, l, hf, hgi, A, m, cc, rfl, hv⟩
    · have HB2 := Lib.hid hb2
      have HS2 := Lib.hid hs2
      have HM1 := Lib.hid hm1
      have HF := Lib.hid hf
      obtain rfl : L = [(0, 0)] := by rw [HLO.out, hgi]; rfl
      clear hb2 hs2 hm1 hf hgi hg1 HLO
      go_wp2_with (first
        | (at_lookup; refine wpList_lookup_mine rfl _ _ 51 true rfl 67 27 Try.underlying51 Try.underlying67 (.agg #[.slice none 0 0]) list_zero _ _ f HM1.out rfl i rfl ?_; rw [HF.out]; simp only [if_true, Option.getD_none, Option.isSome_none]))
      have ha : addE [] 0 = 0 := by decide
      have hL : addL [] 0 0 = [(0, 0)] := by simp [addL, ha]
      refine (add_any (S := Off (Off S w.heap.size (w.heap.size + 2)) w1.heap.size (w1.heap.size + 1)) none 0 0 [] 0 0 _ ?k1 ⟨rfl, Reads.none_⟩ (Nat.le_refl _) (fun _ => rfl) (by simp)).mono ?_
      case k1 =>
        intro b hb
        simp at hb
        exact ⟨HS.out b (by have := HS2.out; omega), .inr (by omega)⟩
      rintro e w2 ⟨A', n', c', rfl, g1, g2, g3, g4⟩
      rw [ha]
      rw [hL] at g3
      have hlt : w.heap.size + 1 < w1.heap.size := HS2.out
      have hne : ¬ w1.heap.size = w.heap.size + 1 := by omega
      have hne' : ¬ w.heap.size + 1 = w1.heap.size := by omega
      have r1 : w2.cell? ⟨w1.heap.size, 0, none⟩ = some (.slice none 0 0) := by
        rw [g4.cell (by simp), World.cell?_alloc_at _ _ _ _ rfl]; rfl
      have r2 : w2.frozen? ⟨w1.heap.size, 0, none⟩ = false := by
        rw [g4.frozen (by simp), World.frozen?_alloc_at _ _ _ _ rfl]
      have s1 : w2.cell? ⟨w.heap.size + 1, 0, none⟩ = some (.slice none 0 0) := by
        rw [g4.cell (by simp; omega), World.cell?_alloc_past _ _ _ hlt]; exact q1
      have s2 : w2.frozen? ⟨w.heap.size + 1, 0, none⟩ = false := by
        rw [g4.frozen (by simp; omega), World.frozen?_alloc_past _ _ _ hlt]; exact q2
      have hbn : Below w.heap.size w w2 := (HB2.out.alloc HB2.out.size _).trans (g4.mono (by simp; omega))
      have hV : VList (w2.setCell ⟨w1.heap.size, 0, none⟩ (.slice A' n' c')) (Off S w.heap.size (w.heap.size + 2)) (.agg #[.slice A' n' c']) [(0, 0)] := by
        have hv : VList w2 (Off (Off S w.heap.size (w.heap.size + 2)) w1.heap.size (w1.heap.size + 1)) (.agg #[.slice A' n' c']) [(0, 0)] := ⟨_, _, _, rfl, g1, g2, g3⟩
        exact (hv.setCell (off_not (by simp) (by simp)) _).more fun b _ h => h.1
      have HF2 := Lib.hid (FIN.out _ _ _ (hbn.setCell (by simp; omega) _) hV (.slice A' n' c'))
      clear hV hbn g1 g2 g3 g4 hlt ha hL
      go_wp2
      have t1 : ((w2.setCell ⟨w1.heap.size, 0, none⟩ (.slice A' n' c')).setCell ⟨w.heap.size + 1, 0, none⟩ (.slice A' n' c')).cell? ⟨w.heap.size + 1, 0, none⟩ = some (.slice A' n' c') :=
        World.cell?_setCell_same _ _ _ ((World.cell?_setCell_other _ _ _ _ (by simp [hne'])).trans s1)
      refine bodyPost_ret (v := .agg #[.slice A' n' c']) ?_ rfl ⟨_, rfl, HF2.out⟩
      simp [results, Try.results41, go_sem, t1]
    · obtain rfl : L = l := by rw [HLO.out, hgi]; rfl
      have HB2 := Lib.hid hb2
      have HS2 := Lib.hid hs2
      have HM1 := Lib.hid hm1
      have HF := Lib.hid hf
      have hlt : w.heap.size + 1 < w1.heap.size := hs2
      have s1 : ∀ o, (w1.alloc o).cell? ⟨w.heap.size + 1, 0, none⟩ = some (.slice none 0 0) := fun o => by rw [World.cell?_alloc_past _ _ _ hlt]; exact q1
      have s2 : ∀ o, (w1.alloc o).frozen? ⟨w.heap.size + 1, 0, none⟩ = false := fun o => by rw [World.frozen?_alloc_past _ _ _ hlt]; exact q2
      have HV := Lib.hid (fun o => FIN.out (w1.alloc o) (.agg #[.slice A m cc]) L (hb2.alloc hb2.size o) (VList.below ⟨A, m, cc, rfl, hv⟩ ((Below.refl _ _).alloc (Nat.le_refl _) _)) (.slice A m cc))
      clear hb2 hs2 hm1 hf hgi hg1 HLO hv hlt q1 q2 FIN
      go_wp2_with (first
        | (at_lookup; refine wpList_lookup_mine rfl _ _ 51 true rfl 67 27 Try.underlying51 Try.underlying67 (.agg #[.slice none 0 0]) list_zero _ _ f HM1.out rfl i rfl ?_; rw [HF.out]; simp only [if_true, Option.getD_some, Option.isSome_some]))
      have t1 := World.cell?_setCell_same _ _ (.slice A m cc) (s1 (.cells #[.slice A m cc] 27))
      refine bodyPost_ret (v := .agg #[.slice A m cc]) ?_ rfl ⟨_, rfl, HV.out _⟩
      simp [results, Try.results41, go_sem, t1]
  · have hlo : listOf c g i = [] := by
      unfold listOf
      rw [if_neg (by simpa using hc)]
    rw [hlo]
    have HC := Lib.hid (Bool.eq_false_iff.2 hc)
    clear hc hlo
    go_enter Try.func41, Try.ntmps41
    go_wp2_with (first
      | (with_reducible refine at_box_ (t := 57) ?_; refine box_sto rfl _ rfl _ rfl (c := c) (n := n) (ml := .map b1) (mw := .map b2) (B := B) (T := T) rfl ?_)
      | (with_reducible refine at_load_ (t := 57) ?_; refine get_sto rfl _ rfl w.heap.size rfl H1.out ?_))
    refine (scell_any c n b1 b2 B T i _).mono ?_
    rintro e w1 ⟨rfl, hb1⟩
    rw [HC.out]
    obtain ⟨p2, q1, q2, hb2, hs2, hm1, hg1⟩ := AFT.out w1 hb1
    have HV := Lib.hid (FIN.out w1 (.agg #[.slice none 0 0]) [] hb2 (vlist_nil _ _) (.slice none 0 0))
    clear AFT H1 HC hb1 hm1 hg1 hb2 hs2 FIN
    go_wp2
    have t1 := World.cell?_setCell_same _ _ (.slice none 0 0) q1
    refine bodyPost_ret (v := .agg #[.slice none 0 0]) ?_ rfl ⟨_, rfl, HV.out⟩
    simp [results, Try.results41, go_sem, t1]
end Go.Proofs.Ytpejhgkcofilmaa
