/- The walks of slices' Clone and SortStableFunc over entries, and of entry.Sort: the stable sort in a row of its own. Conditions: at most 60 entries. -/
import Derived.Test.YtilapnejkdgomaaDoorSrtY
import Derived.Lib.SliceRun
set_option linter.unusedVariables false
set_option linter.unusedSimpArgs false
namespace Go.Proofs.YtilapnejkdgomaaDoor
open Go.RowKit

theorem Tryd.infoE3 : (Tryd.prog.info? 46).map (fun i => (i.zero, i.size, i.bytes)) = some (some (entV ⟨0, 0, 0, 0, 0, false⟩), 6, 40) := by kernel_rfl
theorem infoE : ∃ i, Tryd.prog.info? 46 = some i ∧ i.zero = some (entV ⟨0, 0, 0, 0, 0, false⟩) ∧ i.size = 6 ∧ i.bytes = 40 := by
  obtain ⟨i, h1, h2⟩ := Option.map_eq_some_iff.1 Tryd.infoE3
  injection h2 with h2 h3
  injection h3 with h3 h4
  exact ⟨i, h1, h2, h3, h4⟩
theorem flatE_one (l : List Ent) : ∀ u ∈ flatE l, u.oneCell' = true := by
  intro u hu
  obtain ⟨e, _, h⟩ := List.mem_flatMap.1 hu
  have := ent_one e
  simp only [List.all_toArray, List.all_eq_true] at this
  exact this u h
/-- An empty row. -/
theorem own_empty (w : World) : OwnE (w.alloc (.cells #[] 46)) w.heap.size (.slice (some ⟨w.heap.size, 0, none⟩) 0 0) [] :=
  ⟨rfl, .inr ⟨w.heap.size, 0, #[], rfl, Nat.le_refl _, heap_alloc_new _ _, Nat.le_refl _, Nat.zero_le _, rfl, rfl⟩⟩

set_option maxRecDepth 100000 in
set_option maxHeartbeats 12800000 in
theorem clone_nil (w : World) : Calls Tryd.prog 41 #[.slice none 0 0] w fun e w' => e = .returned (.slice none 0 0) ∧ Below w.heap.size w w' := by
  have q22 : ∀ (w : World) (a : Option Addr) (n c n' c' : Nat), (binOp .eql 22 (.slice a n c) (.slice none n' c')).run Tryd.prog w = .ok (.bool a.isNone) w := fun w a n c n' c' => Lib.run_eql_slice_nil w _ _ a n c n' c' Tryd.underlying22
  go_enter Tryd.func41, Tryd.ntmps41
  go_wp2
  go_ret
  exact ⟨rfl, Below.refl _ _⟩
set_option maxRecDepth 100000 in
set_option maxHeartbeats 12800000 in
theorem clone_any {S : Nat → Prop} (a : Addr) (n c : Nat) (l : List Ent) (w : World) (hl : Ents w S (some a) n l) (hn : n ≤ 1000) :
    Calls Tryd.prog 41 #[.slice (some a) n c] w fun e w' => ∃ g cap, e = .returned (.slice (some ⟨g, 0, none⟩) n cap) ∧ OwnE w' w.heap.size (.slice (some ⟨g, 0, none⟩) n cap) l ∧ Below w.heap.size w w' := by
  obtain ⟨ie, hie0, hie1, hie2, hie3⟩ := infoE
  have HO := Lib.hid (own_empty w)
  have HLN := Lib.hid hl.1
  have HR := Lib.hid (show Reads (w.alloc (.cells #[] 46)) (fun _ => True) 6 (some a) n (flatE l) from (hl.below ((Below.refl _ _).alloc (Nat.le_refl _) _)).2.any)
  have HF := Lib.hid (Below.refl w.heap.size w)
  clear hl
  have q22 : ∀ (w : World) (a : Option Addr) (n c n' c' : Nat), (binOp .eql 22 (.slice a n c) (.slice none n' c')).run Tryd.prog w = .ok (.bool a.isNone) w := fun w a n c n' c' => Lib.run_eql_slice_nil w _ _ a n c n' c' Tryd.underlying22
  go_enter Tryd.func41, Tryd.ntmps41
  go_wp2_with (at_builtin; (refine wpList_append_any rfl (.tmp 5) (.tmp 6) 22 rfl w.heap.size 46 ie _ 6 40 Tryd.underlying22 hie0 hie1 hie2 hie3 rfl (by omega) _ 0 [] rfl HO.out _ _ n c _ rfl HR.out ?k1 ?k2 ?k3 ?k4 ?k5))
  case k1 => exact flatE_one l
  case k2 => simp only [maxLen]; omega
  case k3 => omega
  case k4 => simp
  case k5 =>
    intro v' wg ho hg hor
    have hb1 : Below w.heap.size w wg := ((Below.refl w.heap.size w).alloc (Nat.le_refl _) _).grown hg (by simp) (fun j hj => by have : w.heap.size = j := Option.some.inj hj; omega)
    have HB := Lib.hid hb1
    have HO2 := Lib.hid (show OwnE wg w.heap.size v' l from by
      have h := ho
      rw [HLN.out] at h
      exact h)
    obtain ⟨g, cap, hv⟩ : ∃ g cap, v' = .slice (some ⟨g, 0, none⟩) n cap := by
      rcases ho.2 with ⟨h1, h2⟩ | ⟨g, cap, cur, h1, _⟩
      · rw [h1] at hor; rcases hor with h | h <;> cases h
      · exact ⟨g, cap, h1⟩
    subst hv
    clear ho hg hor hb1
    go_wp2
    go_ret
    exact ⟨g, cap, rfl, HO2.out, HB.out⟩

/-- The stable sort in place. -/
theorem stable_any (g n c : Nat) (L : List Ent) (w : World) (hE : ER w g L) (hL : L.length = n) (h1 : n ≤ 60) :
    Calls Tryd.prog 60 #[.slice (some ⟨g, 0, none⟩) n c, .int .i64 (n : Int), .func (.func 37) #[] #[]] w fun e w' => e = .returned (.tuple #[]) ∧ ER w' g (srt Ent.loc L) ∧ Keep (fun k => k = g) w w' := by
  by_cases a1 : n < 20
  · exact st_a g n c L w hE hL a1
  by_cases a2 : n = 20
  · subst a2; exact st_b g c L w hE hL
  by_cases a3 : n < 40
  · exact st_c g n c L w hE hL (by omega) a3
  by_cases a4 : n = 40
  · subst a4; exact st_d g c L w hE hL
  by_cases a5 : n < 60
  · exact st_e g n c L w hE hL (by omega) a5
  · obtain rfl : n = 60 := by omega
    exact st_f g c L w hE hL

set_option maxRecDepth 100000 in
set_option maxHeartbeats 12800000 in
theorem ins_nil (w : World) : Calls Tryd.prog 71 #[.slice none 0 0, .int .i64 0, .int .i64 0, .func (.func 37) #[] #[]] w fun e w' => e = .returned (.tuple #[]) ∧ Below w.heap.size w w' := by
  go_enter Tryd.func71, Tryd.ntmps71
  go_wp2
  refine wp_loop_rounds 1 ?_
  rw [rounds_succ]
  go_wp2
  go_end0
  exact ⟨rfl, Below.refl _ _⟩
set_option maxRecDepth 100000 in
set_option maxHeartbeats 12800000 in
theorem st_nil (w : World) : Calls Tryd.prog 60 #[.slice none 0 0, .int .i64 0, .func (.func 37) #[] #[]] w fun e w' => e = .returned (.tuple #[]) ∧ Below w.heap.size w w' := by
  have C := Lib.hid ins_nil
  go_enter Tryd.func60, Tryd.ntmps60
  go_wp2
  refine wp_loop_rounds 1 ?_
  rw [rounds_succ]
  go_wp2_with fail
  refine (C.out w).mono ?_
  rintro e w1 ⟨rfl, hb⟩
  have HB := Lib.hid hb
  clear hb
  go_wp2
  refine wp_loop_rounds 1 ?_
  rw [rounds_succ]
  go_wp2
  go_end0
  exact ⟨rfl, HB.out⟩
set_option maxRecDepth 100000 in
set_option maxHeartbeats 12800000 in
theorem stf_nil (w : World) : Calls Tryd.prog 42 #[.slice none 0 0, .func (.func 37) #[] #[]] w fun e w' => e = .returned (.tuple #[]) ∧ Below w.heap.size w w' := by
  have C := Lib.hid (st_nil w)
  go_enter Tryd.func42, Tryd.ntmps42
  go_wp2_with fail
  refine C.out.mono ?_
  rintro e w1 ⟨rfl, hb⟩
  go_wp2
  go_end0
  exact ⟨rfl, hb⟩
set_option maxRecDepth 100000 in
set_option maxHeartbeats 12800000 in
theorem stf_any (g n c : Nat) (L : List Ent) (w : World) (hE : ER w g L) (hL : L.length = n) (h1 : n ≤ 60) :
    Calls Tryd.prog 42 #[.slice (some ⟨g, 0, none⟩) n c, .func (.func 37) #[] #[]] w fun e w' => e = .returned (.tuple #[]) ∧ ER w' g (srt Ent.loc L) ∧ Keep (fun k => k = g) w w' := by
  have C := Lib.hid (stable_any g n c L w hE hL h1)
  clear hE hL h1
  go_enter Tryd.func42, Tryd.ntmps42
  go_wp2_with fail
  refine C.out.mono ?_
  rintro e w1 ⟨rfl, he, hk⟩
  go_wp2
  go_end0
  exact ⟨rfl, he, hk⟩

set_option maxRecDepth 100000 in
set_option maxHeartbeats 12800000 in
/-- entry.Sort. -/
theorem sort_any {S : Nat → Prop} (A : Option Addr) (n c : Nat) (l : List Ent) (w : World) (hl : Ents w S A n l) (hn : n ≤ 60) (hA : A = none → n = 0 ∧ c = 0) :
    Calls Tryd.prog 23 #[.slice A n c] w fun e w' => ∃ v, e = .returned v ∧ OwnE w' w.heap.size v (srt Ent.loc l) ∧ Below w.heap.size w w' := by
  cases A with
  | none =>
    obtain ⟨rfl, rfl⟩ := hA rfl
    obtain rfl : l = [] := List.eq_nil_of_length_eq_zero hl.1.symm
    have C1 := Lib.hid (clone_nil w)
    have C2 := Lib.hid stf_nil
    clear hl hn hA
    go_enter Tryd.func23, Tryd.ntmps23
    go_wp2_with fail
    refine C1.out.mono ?_
    rintro e w1 ⟨rfl, hb⟩
    have HB1 := Lib.hid hb
    clear hb
    go_wp2_with fail
    refine (C2.out w1).mono ?_
    rintro e w2 ⟨rfl, hb⟩
    have HB2 := Lib.hid (HB1.out.trans (hb.mono HB1.out.size))
    clear hb
    go_wp2
    go_ret
    exact ⟨_, rfl, World.ownsRow_nil _ _ _ _, HB2.out⟩
  | some a =>
    have C1 := Lib.hid (clone_any a n c l w hl (by omega))
    have HLN := Lib.hid hl.1
    clear hl hA
    go_enter Tryd.func23, Tryd.ntmps23
    go_wp2_with fail
    refine C1.out.mono ?_
    rintro e w1 ⟨g, cap, rfl, ho, hb⟩
    have C2 := Lib.hid (stf_any g n cap l w1 ho.er HLN.out.symm hn)
    have HB1 := Lib.hid hb
    have HO1 := Lib.hid ho
    clear hb ho
    go_wp2_with fail
    refine C2.out.mono ?_
    rintro e w2 ⟨rfl, he, hk⟩
    have HO2 := Lib.hid (HO1.out.back hk.shape he (srt_length l))
    have HB2 := Lib.hid (HB1.out.trans (hk.below HB1.out.size (fun k hk e => by subst e; have : w.heap.size ≤ k := (HO1.out.lt _ rfl).1; omega)))
    clear he hk
    go_wp2
    go_ret
    exact ⟨_, rfl, HO2.out, HB2.out⟩
end Go.Proofs.YtilapnejkdgomaaDoor
