/- The walks of version.Add and of the reference's Add: what each call returns. Conditions: stamps ascend; at most 2^40 versions. -/
import Derived.Test.YtpejhgkcofilmaaVerE
set_option linter.unusedVariables false
namespace Go.Proofs.Ytpejhgkcofilmaa
open Go.RowKit

theorem lastP_get (l : List (Int × Int)) (k : Nat) (hk : l.length = k + 1) : ∃ h : k < l.length, lastP l = l[k] := by
  refine ⟨by omega, ?_⟩
  unfold lastP
  rw [List.getLast?_eq_getElem?, show l.length - 1 = k from by omega, List.getElem?_eq_getElem (by omega)]
  rfl
theorem isEmpty_of (l : List (Int × Int)) : l.isEmpty = decide (l.length = 0) := by cases l <;> simp

theorem isEmpty_no (l : List (Int × Int)) (h : 0 < l.length) : l.isEmpty = false := by
  cases l
  · simp at h
  · rfl

theorem add_any {S : Nat → Prop} (A : Option Addr) (n c : Nat) (l : List (Int × Int)) (s v : Int) (w : World) (hS : ∀ b, w.heap.size ≤ b → S b) (hl : Ones w S A n l) (hc : n ≤ c) (hA : A = none → c = 0) (hn : l.length ≤ 1099511627776) :
    Calls Try.prog 27 #[.agg #[.slice A n c], .int .i64 s, .int .i64 v] w (AddEnd S (addL l s v) (addE l s) w) := by
  have h1 := hl.1
  have hL := Lib.hid fun W (hb : Below w.heap.size w W) => last_any A n c l W (hl.below hb) hn
  by_cases e1 : s < 0
  · have E : addE l s = 3 := by simp [addE, e1]
    have L : addL l s v = l := by simp [addL, E]
    rw [E, L]
    exact add_err A n c l s v (lastP l).1 (lastP l).2 3 (!l.isEmpty) w hS hl hc hA (by omega) hL (.inl ⟨e1, rfl⟩)
  · by_cases e2 : l.isEmpty = false ∧ s ≤ (lastP l).1
    · have E : addE l s = 12 := by unfold addE; rw [if_neg e1, if_pos e2]
      have L : addL l s v = l := by simp [addL, E]
      rw [E, L]
      exact add_err A n c l s v (lastP l).1 (lastP l).2 12 (!l.isEmpty) w hS hl hc hA (by omega) hL (.inr (.inl ⟨by omega, by simp [e2.1], e2.2, rfl⟩))
    · by_cases e3 : 1024 ≤ l.length
      · have hne : l.isEmpty = false := isEmpty_no l (by omega)
        have E : addE l s = 9 := by unfold addE; rw [if_neg e1, if_neg e2, if_pos e3]
        have L : addL l s v = l := by simp [addL, E]
        rw [E, L]
        refine add_err A n c l s v (lastP l).1 (lastP l).2 9 (!l.isEmpty) w hS hl hc hA (by omega) hL (.inr (.inr ⟨by omega, by simp [hne], ?_, by rw [h1]; omega, rfl⟩))
        rcases Int.lt_or_le (lastP l).1 s with h | h
        · exact h
        · exact absurd ⟨hne, h⟩ e2
      · have E : addE l s = 0 := by unfold addE; rw [if_neg e1, if_neg e2, if_neg e3]
        have L : addL l s v = l ++ [(s, v)] := by simp [addL, E]
        rw [E, L]
        refine add_ok A n c l s v (lastP l).1 (lastP l).2 (!l.isEmpty) w hS hl hc hL ⟨by omega, by omega, ?_⟩ (fun h => by have := hA h; omega)
        cases hne : l.isEmpty
        · refine .inr ⟨by simp, ?_⟩
          rcases Int.lt_or_le (lastP l).1 s with h | h
          · exact h
          · exact absurd ⟨hne, h⟩ e2
        · exact .inl (by simp)

/-- What the reference's Add leaves. -/
def RaddEnd (S : Nat → Prop) (l : List (Int × Int)) (E : Int) (w : World) (e : Ending) (w' : World) : Prop :=
  ∃ A' n' c', e = .returned (.tuple #[.slice A' n' c', .int .i64 E]) ∧ n' ≤ c' ∧ (A' = none → c' = 0) ∧ Ones w' S A' n' l ∧ Below w.heap.size w w'

set_option maxRecDepth 100000 in
set_option maxHeartbeats 1600000 in
theorem radd_ok {S : Nat → Prop} (A : Option Addr) (n c : Nat) (l : List (Int × Int)) (s v : Int) (w : World) (hS : ∀ b, w.heap.size ≤ b → S b) (hl : Ones w S A n l) (hs : 0 ≤ s) (hn : (n : Int) < 1024)
    (hk : n = 0 ∨ ∃ k b o x, n = k + 1 ∧ A = some ⟨b, o, none⟩ ∧ x < s ∧ w.cell? ⟨b, o + k * 2, none⟩ = some (.int .i64 x)) :
    Calls Try.prog 56 #[.slice A n c, .int .i64 s, .int .i64 v] w (RaddEnd S (l ++ [(s, v)]) 0 w) := by
  obtain ⟨i0, hi0, hz0, hz1, hz2⟩ := info_parts Try.info35
  have HR := Lib.hid hl.2
  have HL := Lib.hid hl.1
  have HSS := Lib.hid hS
  have fin : ∀ v2 w1 w2, Below w.heap.size w w1 → w2.ownsRow w.heap.size 35 2 v2 (n + 1) (flat l ++ [.int .i64 s, .int .i64 v]) → Below w.heap.size (w1.alloc (.cells #[.int .i64 s, .int .i64 v] 35)) w2 → RaddEnd S (l ++ [(s, v)]) 0 w (.returned (.tuple #[v2, .int .i64 0])) w2 := by
    intro v2 w1 w2 h1 h2 h3
    obtain ⟨A', c', rfl, g1, g2, g3⟩ := own_reads h2 hS
    exact ⟨A', _, c', rfl, g1, g2, ⟨by simp [HL.out], by rw [flat_snoc]; exact g3⟩, (h1.alloc h1.size _).trans h3⟩
  have FIN := Lib.hid fin
  have hRn := Lib.hid fun w1 : World => Reads.newAt (S := fun _ => True) (size := 2) (n := 1) w1 w1.heap.size #[.int .i64 s, .int .i64 v] 35 rfl rfl trivial
  clear fin hl hS
  rcases hk with rfl | ⟨k, b, o, x, rfl, rfl, hx, hcell⟩
  · go_enter Try.func56, Try.ntmps56
    go_wp2_with (at_builtin; refine wpList_append_any rfl (.tmp 31) (.tmp 32) 28 rfl w.heap.size 35 i0 _ 2 16 Try.underlying28 hi0 hz0 hz1 hz2 rfl (by omega) _ 0 [] rfl (World.ownsRow_nil _ _ _ _) _ A _ c _ rfl HR.out (flat_one l) (by simp only [maxLen]; omega) (by omega) (Nat.le_refl _) ?_)
    intro v1 w1 ho1 hg1 hat1
    have HB1 := Lib.hid ((Below.refl _ _).grown hg1 (Nat.le_refl _) (by simp [Value.ownBlock]))
    have HO1 := Lib.hid ho1
    clear ho1 hg1 hat1
    go_wp2_with (at_builtin; refine wpList_append_any rfl (.tmp 34) (.tmp 38) 28 rfl w.heap.size 35 i0 _ 2 16 Try.underlying28 hi0 hz0 hz1 hz2 rfl (by omega) _ _ _ rfl (HO1.out.alloc _) _ _ 1 1 _ rfl (hRn.out w1) ?k1 (by simp only [maxLen]; omega) (by omega) ?k2 ?k3)
    case k1 => first | (exact ⟨rfl, rfl⟩) | (intro u hu; simp at hu; rcases hu with rfl | rfl <;> rfl)
    case k2 => have := HB1.out.size; first | omega | (simp; omega)
    case k3 =>
      intro v2 w2 ho2 hg2 _
      have hb2 := (Below.refl w.heap.size _).grown hg2 (by have := HB1.out.size; simp; omega) (fun g hg => (HO1.out.lt g hg).1)
      have HF := Lib.hid (FIN.out v2 w1 w2 HB1.out ho2 hb2)
      clear ho2 hg2 hb2
      go_wp2
      go_ret2
      exact HF.out
  · have g1 : (k : Int) < (k : Int) + 1 := by omega
    go_enter Try.func56, Try.ntmps56
    go_wp2_with (at_builtin; refine wpList_append_any rfl (.tmp 31) (.tmp 32) 28 rfl w.heap.size 35 i0 _ 2 16 Try.underlying28 hi0 hz0 hz1 hz2 rfl (by omega) _ 0 [] rfl (World.ownsRow_nil _ _ _ _) _ _ _ c _ rfl HR.out (flat_one l) (by simp only [maxLen]; omega) (by omega) (Nat.le_refl _) ?_)
    intro v1 w1 ho1 hg1 hat1
    have HB1 := Lib.hid ((Below.refl _ _).grown hg1 (Nat.le_refl _) (by simp [Value.ownBlock]))
    have HO1 := Lib.hid ho1
    clear ho1 hg1 hat1
    go_wp2_with (at_builtin; refine wpList_append_any rfl (.tmp 34) (.tmp 38) 28 rfl w.heap.size 35 i0 _ 2 16 Try.underlying28 hi0 hz0 hz1 hz2 rfl (by omega) _ _ _ rfl (HO1.out.alloc _) _ _ 1 1 _ rfl (hRn.out w1) ?m1 (by simp only [maxLen]; omega) (by omega) ?m2 ?m3)
    case m1 => first | (exact ⟨rfl, rfl⟩) | (intro u hu; simp at hu; rcases hu with rfl | rfl <;> rfl)
    case m2 => have := HB1.out.size; first | omega | (simp; omega)
    case m3 =>
      intro v2 w2 ho2 hg2 _
      have hb2 := (Below.refl w.heap.size _).grown hg2 (by have := HB1.out.size; simp; omega) (fun g hg => (HO1.out.lt g hg).1)
      have HF := Lib.hid (FIN.out v2 w1 w2 HB1.out ho2 hb2)
      clear ho2 hg2 hb2
      go_wp2
      go_ret2
      exact HF.out

set_option maxRecDepth 100000 in
set_option maxHeartbeats 1600000 in
theorem radd_err {S : Nat → Prop} (A : Option Addr) (n c : Nat) (l : List (Int × Int)) (s v E : Int) (w : World) (hl : Ones w S A n l) (hc : n ≤ c) (hA : A = none → c = 0)
    (hk : (s < 0 ∧ E = 3) ∨ ∃ k b o x, 0 ≤ s ∧ n = k + 1 ∧ A = some ⟨b, o, none⟩ ∧ w.cell? ⟨b, o + k * 2, none⟩ = some (.int .i64 x) ∧ ((s ≤ x ∧ E = 12) ∨ (x < s ∧ (1024 : Int) ≤ (n : Int) ∧ E = 9))) (hn : n ≤ 1099511627776) :
    Calls Try.prog 56 #[.slice A n c, .int .i64 s, .int .i64 v] w (RaddEnd S l E w) := by
  have HF : Hid (RaddEnd S l E w (.returned (.tuple #[.slice A n c, .int .i64 E])) w) := ⟨A, n, c, rfl, hc, hA, hl, Below.refl _ _⟩
  clear hl hc hA
  rcases hk with ⟨h1, rfl⟩ | ⟨k, b, o, x, h1, h0, rfl, hcell, ⟨h2, rfl⟩ | ⟨h2, h3, rfl⟩⟩
  · clear hn
    go_enter Try.func56, Try.ntmps56
    go_wp2
    go_ret2
    exact HF.out
  · subst h0
    have g1 : (k : Int) < (k : Int) + 1 := by omega
    have g2 : (k : Int) ≤ 1099511627776 := by omega
    clear hn
    go_enter Try.func56, Try.ntmps56
    go_wp2
    go_ret2
    exact HF.out
  · subst h0
    have g1 : (k : Int) < (k : Int) + 1 := by omega
    have g2 : (k : Int) ≤ 1099511627776 := by omega
    have g3 : (1023 : Int) ≤ (k : Int) := by omega
    have g4 : decide ((1024 : Int) ≤ (k : Int) + 1) = true := by simp; omega
    clear hn h3
    go_enter Try.func56, Try.ntmps56
    go_wp2
    go_ret2
    exact HF.out

theorem radd_any {S : Nat → Prop} (A : Option Addr) (n c : Nat) (l : List (Int × Int)) (s v : Int) (w : World) (hS : ∀ b, w.heap.size ≤ b → S b) (hl : Ones w S A n l) (hc : n ≤ c) (hA : A = none → c = 0) (hn : l.length ≤ 1099511627776) :
    Calls Try.prog 56 #[.slice A n c, .int .i64 s, .int .i64 v] w (RaddEnd S (addL l s v) (addE l s) w) := by
  have h1 := hl.1
  by_cases e1 : s < 0
  · have E : addE l s = 3 := by simp [addE, e1]
    have L : addL l s v = l := by simp [addL, E]
    rw [E, L]
    exact radd_err A n c l s v 3 w hl hc hA (.inl ⟨e1, rfl⟩) (by omega)
  · rcases Nat.eq_zero_or_pos n with h0 | h0
    · have h2 : l = [] := List.eq_nil_of_length_eq_zero (by omega)
      have E : addE l s = 0 := by subst h2; simp [addE, e1]
      have L : addL l s v = l ++ [(s, v)] := by simp [addL, E]
      rw [E, L]
      exact radd_ok A n c l s v w hS hl (by omega) (by omega) (.inl h0)
    · obtain ⟨k, hk⟩ : ∃ k, l.length = k + 1 := ⟨l.length - 1, by omega⟩
      obtain ⟨hkl, hP⟩ := lastP_get l k hk
      obtain ⟨b, o, hA', hb, c1, c2⟩ := hl.cell k hkl
      have hne : l.isEmpty = false := isEmpty_no l (by omega)
      by_cases e2 : s ≤ l[k].1
      · have E : addE l s = 12 := by unfold addE; rw [if_neg e1, if_pos ⟨hne, by rw [hP]; exact e2⟩]
        have L : addL l s v = l := by simp [addL, E]
        rw [E, L]
        exact radd_err A n c l s v 12 w hl hc hA (.inr ⟨k, b, o, l[k].1, by omega, by omega, hA', c1, .inl ⟨e2, rfl⟩⟩) (by omega)
      · by_cases e3 : 1024 ≤ l.length
        · have E : addE l s = 9 := by unfold addE; rw [if_neg e1, if_neg (by rw [hP]; exact fun h => e2 h.2), if_pos e3]
          have L : addL l s v = l := by simp [addL, E]
          rw [E, L]
          exact radd_err A n c l s v 9 w hl hc hA (.inr ⟨k, b, o, l[k].1, by omega, by omega, hA', c1, .inr ⟨by omega, by omega, rfl⟩⟩) (by omega)
        · have E : addE l s = 0 := by unfold addE; rw [if_neg e1, if_neg (by rw [hP]; exact fun h => e2 h.2), if_neg e3]
          have L : addL l s v = l ++ [(s, v)] := by simp [addL, E]
          rw [E, L]
          exact radd_ok A n c l s v w hS hl (by omega) (by omega) (.inr ⟨k, b, o, l[k].1, by omega, hA', by omega, c1⟩)
end Go.Proofs.Ytpejhgkcofilmaa
