/- The walk of slices' stableCmpFunc over entries, of SortStableFunc, of Clone and of entry.Sort. Conditions: at most 60 entries. -/
import Derived.Test.YtilapnejkdgomaaDoorSrtX
set_option linter.unusedVariables false
set_option linter.unusedSimpArgs false
namespace Go.Proofs.YtilapnejkdgomaaDoor
open Go.RowKit

theorem StS.srt_eq {l r : List Ent} (h : StS Ent.loc l r) : srt Ent.loc l = r := h.eq.symm
theorem sts_two {x1 x2 s1 s2 r : List Ent} (h1 : StS Ent.loc x1 s1) (h2 : StS Ent.loc x2 s2) (h : StS Ent.loc (s1 ++ s2) r) : StS Ent.loc (x1 ++ x2) r :=
  h.congr Ent.loc fun k => by rw [fk_app, fk_app, h1.2, h2.2]
theorem cut_at {L : List Ent} {n k : Nat} (hn : L.length = n) (h : k ≤ n) : ∃ X Y, L = X ++ Y ∧ X.length = k ∧ Y.length = n - k :=
  ⟨L.take k, L.drop k, (List.take_append_drop k L).symm, by rw [List.length_take]; omega, by rw [List.length_drop, hn]⟩
theorem ask_len {s x : List Ent} (h : StS Ent.loc x s) {k : Nat} (hx : x.length = k) : s.length = k := h.length.trans hx

set_option maxRecDepth 100000 in
set_option maxHeartbeats 12800000 in
theorem st_a (g n c : Nat) (L : List Ent) (w : World) (hE : ER w g L) (hL : L.length = n) (h1 : n < 20) :
    Calls Tryd.prog 60 #[.slice (some ⟨g, 0, none⟩) n c, .int .i64 (n : Int), .func (.func 37) #[] #[]] w fun e w' => e = .returned (.tuple #[]) ∧ ER w' g (srt Ent.loc L) ∧ Keep (fun k => k = g) w w' := by
  have hn1 : ¬ (20 : Int) ≤ (n : Int) := by omega
  have hn2 : ¬ (20 : Int) < (n : Int) := by omega
  have B0 := Lib.hid (show L.length = n by have := hL; omega)
  have E0 := Lib.hid (show ER w g (L) from hE)
  have K0 := Lib.hid (Keep.refl (S := fun k => k = g) (w := w))
  clear hE hL 
  go_enter Tryd.func60, Tryd.ntmps60
  go_wp2
  refine wp_loop_rounds 1 ?_
  rw [rounds_succ]
  go_wp2_with fail
  refine (insR_any g n c 0 n ([]) L ([]) w (by have h := E0.out; simpa only [List.append_assoc, List.nil_append, List.append_nil] using h) rfl (by have := B0.out; omega) (by simp only [List.length_append, List.length_nil, ] <;> omega) (by omega)).mono ?_
  rintro e1 w1 ⟨rfl, S1, hs, he, hk⟩
  have T1 := Lib.hid hs
  have E1 := Lib.hid (show ER w1 g (S1) from by simpa only [List.append_assoc, List.nil_append, List.append_nil] using he)
  have K1 := Lib.hid (K0.out.trans hk)
  clear hs he hk
  have L1 := Lib.hid (ask_len T1.out B0.out)
  go_wp2
  refine wp_loop_rounds 1 ?_
  rw [rounds_succ]
  go_wp2_with fail
  go_end0
  exact ⟨rfl, by rw [StS.srt_eq (by have h := T1.out; simpa only [List.append_assoc] using h)]; exact E1.out, K1.out⟩
set_option maxRecDepth 100000 in
set_option maxHeartbeats 12800000 in
theorem st_b (g c : Nat) (L : List Ent) (w : World) (hE : ER w g L) (hL : L.length = 20)  :
    Calls Tryd.prog 60 #[.slice (some ⟨g, 0, none⟩) 20 c, .int .i64 20, .func (.func 37) #[] #[]] w fun e w' => e = .returned (.tuple #[]) ∧ ER w' g (srt Ent.loc L) ∧ Keep (fun k => k = g) w w' := by
  obtain ⟨X1, Y1, h1, l1, m1⟩ := cut_at (hL) (show 20 ≤ _ by omega)
  have HL := Lib.hid (show L = X1 ++ (Y1) by rw [h1])
  have B0 := Lib.hid (show X1.length = 20 by have := l1; omega)
  have B1 := Lib.hid (show Y1.length = 0 by have := m1; omega)
  have E0 := Lib.hid (show ER w g (X1 ++ (Y1)) from HL.out ▸ hE)
  have K0 := Lib.hid (Keep.refl (S := fun k => k = g) (w := w))
  clear hE hL h1 l1 m1
  go_enter Tryd.func60, Tryd.ntmps60
  go_wp2
  refine wp_loop_rounds 2 ?_
  rw [rounds_succ]
  go_wp2_with fail
  refine (insR_any g 20 c 0 20 ([]) X1 (Y1) w (by have h := E0.out; simpa only [List.append_assoc, List.nil_append, List.append_nil] using h) rfl (by have := B0.out; omega) (by simp only [List.length_append, List.length_nil, B1.out] <;> omega) (by omega)).mono ?_
  rintro e1 w1 ⟨rfl, S1, hs, he, hk⟩
  have T1 := Lib.hid hs
  have E1 := Lib.hid (show ER w1 g (S1 ++ (Y1)) from by simpa only [List.append_assoc, List.nil_append, List.append_nil] using he)
  have K1 := Lib.hid (K0.out.trans hk)
  clear hs he hk
  have L1 := Lib.hid (ask_len T1.out B0.out)
  go_wp2
  rw [rounds_succ]
  go_wp2_with fail
  refine (insR_any g 20 c 20 20 (S1) Y1 ([]) w1 (by have h := E1.out; simpa only [List.append_assoc, List.nil_append, List.append_nil] using h) (by simp only [List.length_append, List.length_nil, L1.out]) (by have := B1.out; omega) (by simp only [List.length_append, List.length_nil, ] <;> omega) (by omega)).mono ?_
  rintro e2 w2 ⟨rfl, S2, hs, he, hk⟩
  have T2 := Lib.hid hs
  have E2 := Lib.hid (show ER w2 g (S1 ++ (S2)) from by simpa only [List.append_assoc, List.nil_append, List.append_nil] using he)
  have K2 := Lib.hid (K1.out.trans hk)
  clear hs he hk
  have L2 := Lib.hid (ask_len T2.out B1.out)
  go_wp2
  refine wp_loop_rounds 1 ?_
  rw [rounds_succ]
  go_wp2_with fail
  go_end0
  have hy : Y1 = [] := List.eq_nil_of_length_eq_zero (by have := B1.out; omega)
  have hs : S2 = [] := List.eq_nil_of_length_eq_zero (by rw [L2.out])
  exact ⟨rfl, by rw [HL.out, hy, List.append_nil]; have h := E2.out; rw [hs, List.append_nil] at h; rw [StS.srt_eq (by have h := T1.out; simpa only [List.append_assoc, List.append_nil] using h)]; exact h, K2.out⟩
set_option maxRecDepth 100000 in
set_option maxHeartbeats 12800000 in
theorem st_c (g n c : Nat) (L : List Ent) (w : World) (hE : ER w g L) (hL : L.length = n) (h0 : 20 < n) (h1 : n < 40) :
    Calls Tryd.prog 60 #[.slice (some ⟨g, 0, none⟩) n c, .int .i64 (n : Int), .func (.func 37) #[] #[]] w fun e w' => e = .returned (.tuple #[]) ∧ ER w' g (srt Ent.loc L) ∧ Keep (fun k => k = g) w w' := by
  have hn0 : (20 : Int) ≤ (n : Int) := by omega
  have hn1 : (20 : Int) < (n : Int) := by omega
  have hn2 : ¬ (40 : Int) ≤ (n : Int) := by omega
  have hn3 : ¬ (40 : Int) < (n : Int) := by omega
  obtain ⟨X1, Y1, h1, l1, m1⟩ := cut_at (hL) (show 20 ≤ _ by omega)
  have HL := Lib.hid (show L = X1 ++ (Y1) by rw [h1])
  have B0 := Lib.hid (show X1.length = 20 by have := l1; omega)
  have B1 := Lib.hid (show Y1.length = n - 20 by have := m1; omega)
  have E0 := Lib.hid (show ER w g (X1 ++ (Y1)) from HL.out ▸ hE)
  have K0 := Lib.hid (Keep.refl (S := fun k => k = g) (w := w))
  clear hE hL h1 l1 m1
  go_enter Tryd.func60, Tryd.ntmps60
  go_wp2
  refine wp_loop_rounds 2 ?_
  rw [rounds_succ]
  go_wp2_with fail
  refine (insR_any g n c 0 20 ([]) X1 (Y1) w (by have h := E0.out; simpa only [List.append_assoc, List.nil_append, List.append_nil] using h) rfl (by have := B0.out; omega) (by simp only [List.length_append, List.length_nil, B1.out] <;> omega) (by omega)).mono ?_
  rintro e1 w1 ⟨rfl, S1, hs, he, hk⟩
  have T1 := Lib.hid hs
  have E1 := Lib.hid (show ER w1 g (S1 ++ (Y1)) from by simpa only [List.append_assoc, List.nil_append, List.append_nil] using he)
  have K1 := Lib.hid (K0.out.trans hk)
  clear hs he hk
  have L1 := Lib.hid (ask_len T1.out B0.out)
  go_wp2
  rw [rounds_succ]
  go_wp2_with fail
  refine (insR_any g n c 20 n (S1) Y1 ([]) w1 (by have h := E1.out; simpa only [List.append_assoc, List.nil_append, List.append_nil] using h) (by simp only [List.length_append, List.length_nil, L1.out]) (by have := B1.out; omega) (by simp only [List.length_append, List.length_nil, ] <;> omega) (by omega)).mono ?_
  rintro e2 w2 ⟨rfl, S2, hs, he, hk⟩
  have T2 := Lib.hid hs
  have E2 := Lib.hid (show ER w2 g (S1 ++ (S2)) from by simpa only [List.append_assoc, List.nil_append, List.append_nil] using he)
  have K2 := Lib.hid (K1.out.trans hk)
  clear hs he hk
  have L2 := Lib.hid (ask_len T2.out B1.out)
  go_wp2
  refine wp_loop_rounds 2 ?_
  rw [rounds_succ]
  go_wp2_with fail
  refine wp_loop_rounds 1 ?_
  rw [rounds_succ]
  go_wp2_with fail
  refine (sym_any g n c _ S1 S2 rfl (by have := L1.out; omega) (by have := L2.out; omega) 0 20 n ([]) ([]) w2 (T1.out).1 (T2.out).1 rfl (by have := L1.out; omega) (by have := L2.out; omega) (by simp only [List.length_append, List.length_nil] <;> omega) (by omega) (by have h := E2.out; simpa only [List.append_assoc, List.nil_append, List.append_nil] using h)).mono ?_
  rintro e3 w3 ⟨rfl, S3, hs, he, hk⟩
  have T3 := Lib.hid (show StS Ent.loc (X1 ++ (Y1)) S3 from sts_two (T1.out) (T2.out) hs)
  have L3 := Lib.hid (show S3.length = n - 0 by have h1 := L1.out; have h2 := L2.out; rw [hs.length, List.length_append]; omega)
  have E3 := Lib.hid (show ER w3 g (S3) from by simpa only [List.append_assoc, List.nil_append, List.append_nil] using he)
  have K3 := Lib.hid (K2.out.trans hk)
  clear hs he hk
  go_wp2
  rw [rounds_succ]
  go_wp2_with fail
  go_end0
  exact ⟨rfl, by rw [HL.out, StS.srt_eq (by have h := T3.out; simpa only [List.append_assoc] using h)]; exact E3.out, K3.out⟩
set_option maxRecDepth 100000 in
set_option maxHeartbeats 12800000 in
theorem st_d (g c : Nat) (L : List Ent) (w : World) (hE : ER w g L) (hL : L.length = 40)  :
    Calls Tryd.prog 60 #[.slice (some ⟨g, 0, none⟩) 40 c, .int .i64 40, .func (.func 37) #[] #[]] w fun e w' => e = .returned (.tuple #[]) ∧ ER w' g (srt Ent.loc L) ∧ Keep (fun k => k = g) w w' := by
  obtain ⟨X1, Y1, h1, l1, m1⟩ := cut_at (hL) (show 20 ≤ _ by omega)
  obtain ⟨X2, Y2, h2, l2, m2⟩ := cut_at (m1) (show 20 ≤ _ by omega)
  have HL := Lib.hid (show L = X1 ++ (X2 ++ (Y2)) by rw [h1, h2])
  have B0 := Lib.hid (show X1.length = 20 by have := l1; omega)
  have B1 := Lib.hid (show X2.length = 20 by have := l2; omega)
  have B2 := Lib.hid (show Y2.length = 0 by have := m2; omega)
  have E0 := Lib.hid (show ER w g (X1 ++ (X2 ++ (Y2))) from HL.out ▸ hE)
  have K0 := Lib.hid (Keep.refl (S := fun k => k = g) (w := w))
  clear hE hL h1 l1 m1 h2 l2 m2
  go_enter Tryd.func60, Tryd.ntmps60
  go_wp2
  refine wp_loop_rounds 3 ?_
  rw [rounds_succ]
  go_wp2_with fail
  refine (insR_any g 40 c 0 20 ([]) X1 (X2 ++ (Y2)) w (by have h := E0.out; simpa only [List.append_assoc, List.nil_append, List.append_nil] using h) rfl (by have := B0.out; omega) (by simp only [List.length_append, List.length_nil, B1.out, B2.out] <;> omega) (by omega)).mono ?_
  rintro e1 w1 ⟨rfl, S1, hs, he, hk⟩
  have T1 := Lib.hid hs
  have E1 := Lib.hid (show ER w1 g (S1 ++ (X2 ++ (Y2))) from by simpa only [List.append_assoc, List.nil_append, List.append_nil] using he)
  have K1 := Lib.hid (K0.out.trans hk)
  clear hs he hk
  have L1 := Lib.hid (ask_len T1.out B0.out)
  go_wp2
  rw [rounds_succ]
  go_wp2_with fail
  refine (insR_any g 40 c 20 40 (S1) X2 (Y2) w1 (by have h := E1.out; simpa only [List.append_assoc, List.nil_append, List.append_nil] using h) (by simp only [List.length_append, List.length_nil, L1.out]) (by have := B1.out; omega) (by simp only [List.length_append, List.length_nil, B2.out] <;> omega) (by omega)).mono ?_
  rintro e2 w2 ⟨rfl, S2, hs, he, hk⟩
  have T2 := Lib.hid hs
  have E2 := Lib.hid (show ER w2 g (S1 ++ (S2 ++ (Y2))) from by simpa only [List.append_assoc, List.nil_append, List.append_nil] using he)
  have K2 := Lib.hid (K1.out.trans hk)
  clear hs he hk
  have L2 := Lib.hid (ask_len T2.out B1.out)
  go_wp2
  rw [rounds_succ]
  go_wp2_with fail
  refine (insR_any g 40 c 40 40 ((S1) ++ S2) Y2 ([]) w2 (by have h := E2.out; simpa only [List.append_assoc, List.nil_append, List.append_nil] using h) (by simp only [List.length_append, List.length_nil, L1.out, L2.out]) (by have := B2.out; omega) (by simp only [List.length_append, List.length_nil, ] <;> omega) (by omega)).mono ?_
  rintro e3 w3 ⟨rfl, S3, hs, he, hk⟩
  have T3 := Lib.hid hs
  have E3 := Lib.hid (show ER w3 g (S1 ++ (S2 ++ (S3))) from by simpa only [List.append_assoc, List.nil_append, List.append_nil] using he)
  have K3 := Lib.hid (K2.out.trans hk)
  clear hs he hk
  have L3 := Lib.hid (ask_len T3.out B2.out)
  go_wp2
  refine wp_loop_rounds 2 ?_
  rw [rounds_succ]
  go_wp2_with fail
  refine wp_loop_rounds 2 ?_
  rw [rounds_succ]
  go_wp2_with fail
  refine (sym_any g 40 c _ S1 S2 rfl (by have := L1.out; omega) (by have := L2.out; omega) 0 20 40 ([]) (S3) w3 (T1.out).1 (T2.out).1 rfl (by have := L1.out; omega) (by have := L2.out; omega) (by simp only [List.length_append, List.length_nil, L3.out] <;> omega) (by omega) (by have h := E3.out; simpa only [List.append_assoc, List.nil_append, List.append_nil] using h)).mono ?_
  rintro e4 w4 ⟨rfl, S4, hs, he, hk⟩
  have T4 := Lib.hid (show StS Ent.loc (X1 ++ (X2)) S4 from sts_two (T1.out) (T2.out) hs)
  have L4 := Lib.hid (show S4.length = 40 - 0 by have h1 := L1.out; have h2 := L2.out; rw [hs.length, List.length_append]; omega)
  have E4 := Lib.hid (show ER w4 g (S4 ++ (S3)) from by simpa only [List.append_assoc, List.nil_append, List.append_nil] using he)
  have K4 := Lib.hid (K3.out.trans hk)
  clear hs he hk
  go_wp2
  rw [rounds_succ]
  go_wp2_with fail
  rw [rounds_succ]
  go_wp2_with fail
  go_end0
  have hy : Y2 = [] := List.eq_nil_of_length_eq_zero (by have := B2.out; omega)
  have hs : S3 = [] := List.eq_nil_of_length_eq_zero (by rw [L3.out])
  exact ⟨rfl, by rw [HL.out, hy, List.append_nil]; have h := E4.out; rw [hs, List.append_nil] at h; rw [StS.srt_eq (by have h := T4.out; simpa only [List.append_assoc, List.append_nil] using h)]; exact h, K4.out⟩
set_option maxRecDepth 100000 in
set_option maxHeartbeats 12800000 in
theorem st_e (g n c : Nat) (L : List Ent) (w : World) (hE : ER w g L) (hL : L.length = n) (h0 : 40 < n) (h1 : n < 60) :
    Calls Tryd.prog 60 #[.slice (some ⟨g, 0, none⟩) n c, .int .i64 (n : Int), .func (.func 37) #[] #[]] w fun e w' => e = .returned (.tuple #[]) ∧ ER w' g (srt Ent.loc L) ∧ Keep (fun k => k = g) w w' := by
  have hn0 : (20 : Int) ≤ (n : Int) := by omega
  have hn1 : (20 : Int) < (n : Int) := by omega
  have hn2 : (40 : Int) ≤ (n : Int) := by omega
  have hn3 : (40 : Int) < (n : Int) := by omega
  have hn4 : ¬ (60 : Int) ≤ (n : Int) := by omega
  have hn5 : ¬ (80 : Int) ≤ (n : Int) := by omega
  have hn6 : ¬ (60 : Int) < (n : Int) := by omega
  have hn7 : ¬ (80 : Int) < (n : Int) := by omega
  obtain ⟨X1, Y1, h1, l1, m1⟩ := cut_at (hL) (show 20 ≤ _ by omega)
  obtain ⟨X2, Y2, h2, l2, m2⟩ := cut_at (m1) (show 20 ≤ _ by omega)
  have HL := Lib.hid (show L = X1 ++ (X2 ++ (Y2)) by rw [h1, h2])
  have B0 := Lib.hid (show X1.length = 20 by have := l1; omega)
  have B1 := Lib.hid (show X2.length = 20 by have := l2; omega)
  have B2 := Lib.hid (show Y2.length = n - 40 by have := m2; omega)
  have E0 := Lib.hid (show ER w g (X1 ++ (X2 ++ (Y2))) from HL.out ▸ hE)
  have K0 := Lib.hid (Keep.refl (S := fun k => k = g) (w := w))
  clear hE hL h1 l1 m1 h2 l2 m2
  go_enter Tryd.func60, Tryd.ntmps60
  go_wp2
  refine wp_loop_rounds 3 ?_
  rw [rounds_succ]
  go_wp2_with fail
  refine (insR_any g n c 0 20 ([]) X1 (X2 ++ (Y2)) w (by have h := E0.out; simpa only [List.append_assoc, List.nil_append, List.append_nil] using h) rfl (by have := B0.out; omega) (by simp only [List.length_append, List.length_nil, B1.out, B2.out] <;> omega) (by omega)).mono ?_
  rintro e1 w1 ⟨rfl, S1, hs, he, hk⟩
  have T1 := Lib.hid hs
  have E1 := Lib.hid (show ER w1 g (S1 ++ (X2 ++ (Y2))) from by simpa only [List.append_assoc, List.nil_append, List.append_nil] using he)
  have K1 := Lib.hid (K0.out.trans hk)
  clear hs he hk
  have L1 := Lib.hid (ask_len T1.out B0.out)
  go_wp2
  rw [rounds_succ]
  go_wp2_with fail
  refine (insR_any g n c 20 40 (S1) X2 (Y2) w1 (by have h := E1.out; simpa only [List.append_assoc, List.nil_append, List.append_nil] using h) (by simp only [List.length_append, List.length_nil, L1.out]) (by have := B1.out; omega) (by simp only [List.length_append, List.length_nil, B2.out] <;> omega) (by omega)).mono ?_
  rintro e2 w2 ⟨rfl, S2, hs, he, hk⟩
  have T2 := Lib.hid hs
  have E2 := Lib.hid (show ER w2 g (S1 ++ (S2 ++ (Y2))) from by simpa only [List.append_assoc, List.nil_append, List.append_nil] using he)
  have K2 := Lib.hid (K1.out.trans hk)
  clear hs he hk
  have L2 := Lib.hid (ask_len T2.out B1.out)
  go_wp2
  rw [rounds_succ]
  go_wp2_with fail
  refine (insR_any g n c 40 n ((S1) ++ S2) Y2 ([]) w2 (by have h := E2.out; simpa only [List.append_assoc, List.nil_append, List.append_nil] using h) (by simp only [List.length_append, List.length_nil, L1.out, L2.out]) (by have := B2.out; omega) (by simp only [List.length_append, List.length_nil, ] <;> omega) (by omega)).mono ?_
  rintro e3 w3 ⟨rfl, S3, hs, he, hk⟩
  have T3 := Lib.hid hs
  have E3 := Lib.hid (show ER w3 g (S1 ++ (S2 ++ (S3))) from by simpa only [List.append_assoc, List.nil_append, List.append_nil] using he)
  have K3 := Lib.hid (K2.out.trans hk)
  clear hs he hk
  have L3 := Lib.hid (ask_len T3.out B2.out)
  go_wp2
  refine wp_loop_rounds 3 ?_
  rw [rounds_succ]
  go_wp2_with fail
  refine wp_loop_rounds 2 ?_
  rw [rounds_succ]
  go_wp2_with fail
  refine (sym_any g n c _ S1 S2 rfl (by have := L1.out; omega) (by have := L2.out; omega) 0 20 40 ([]) (S3) w3 (T1.out).1 (T2.out).1 rfl (by have := L1.out; omega) (by have := L2.out; omega) (by simp only [List.length_append, List.length_nil, L3.out] <;> omega) (by omega) (by have h := E3.out; simpa only [List.append_assoc, List.nil_append, List.append_nil] using h)).mono ?_
  rintro e4 w4 ⟨rfl, S4, hs, he, hk⟩
  have T4 := Lib.hid (show StS Ent.loc (X1 ++ (X2)) S4 from sts_two (T1.out) (T2.out) hs)
  have L4 := Lib.hid (show S4.length = 40 - 0 by have h1 := L1.out; have h2 := L2.out; rw [hs.length, List.length_append]; omega)
  have E4 := Lib.hid (show ER w4 g (S4 ++ (S3)) from by simpa only [List.append_assoc, List.nil_append, List.append_nil] using he)
  have K4 := Lib.hid (K3.out.trans hk)
  clear hs he hk
  go_wp2
  rw [rounds_succ]
  go_wp2_with fail
  rw [rounds_succ]
  go_wp2_with fail
  refine wp_loop_rounds 1 ?_
  rw [rounds_succ]
  go_wp2_with fail
  refine (sym_any g n c _ S4 S3 rfl (by have := L4.out; omega) (by have := L3.out; omega) 0 40 n ([]) ([]) w4 (T4.out).1 (T3.out).1 rfl (by have := L4.out; omega) (by have := L3.out; omega) (by simp only [List.length_append, List.length_nil] <;> omega) (by omega) (by have h := E4.out; simpa only [List.append_assoc, List.nil_append, List.append_nil] using h)).mono ?_
  rintro e5 w5 ⟨rfl, S5, hs, he, hk⟩
  have T5 := Lib.hid (show StS Ent.loc (X1 ++ (X2) ++ (Y2)) S5 from sts_two (T4.out) (T3.out) hs)
  have L5 := Lib.hid (show S5.length = n - 0 by have h1 := L4.out; have h2 := L3.out; rw [hs.length, List.length_append]; omega)
  have E5 := Lib.hid (show ER w5 g (S5) from by simpa only [List.append_assoc, List.nil_append, List.append_nil] using he)
  have K5 := Lib.hid (K4.out.trans hk)
  clear hs he hk
  go_wp2
  rw [rounds_succ]
  go_wp2_with fail
  go_end0
  exact ⟨rfl, by rw [HL.out, StS.srt_eq (by have h := T5.out; simpa only [List.append_assoc] using h)]; exact E5.out, K5.out⟩
set_option maxRecDepth 100000 in
set_option maxHeartbeats 12800000 in
theorem st_f (g c : Nat) (L : List Ent) (w : World) (hE : ER w g L) (hL : L.length = 60)  :
    Calls Tryd.prog 60 #[.slice (some ⟨g, 0, none⟩) 60 c, .int .i64 60, .func (.func 37) #[] #[]] w fun e w' => e = .returned (.tuple #[]) ∧ ER w' g (srt Ent.loc L) ∧ Keep (fun k => k = g) w w' := by
  obtain ⟨X1, Y1, h1, l1, m1⟩ := cut_at (hL) (show 20 ≤ _ by omega)
  obtain ⟨X2, Y2, h2, l2, m2⟩ := cut_at (m1) (show 20 ≤ _ by omega)
  obtain ⟨X3, Y3, h3, l3, m3⟩ := cut_at (m2) (show 20 ≤ _ by omega)
  have HL := Lib.hid (show L = X1 ++ (X2 ++ (X3 ++ (Y3))) by rw [h1, h2, h3])
  have B0 := Lib.hid (show X1.length = 20 by have := l1; omega)
  have B1 := Lib.hid (show X2.length = 20 by have := l2; omega)
  have B2 := Lib.hid (show X3.length = 20 by have := l3; omega)
  have B3 := Lib.hid (show Y3.length = 0 by have := m3; omega)
  have E0 := Lib.hid (show ER w g (X1 ++ (X2 ++ (X3 ++ (Y3)))) from HL.out ▸ hE)
  have K0 := Lib.hid (Keep.refl (S := fun k => k = g) (w := w))
  clear hE hL h1 l1 m1 h2 l2 m2 h3 l3 m3
  go_enter Tryd.func60, Tryd.ntmps60
  go_wp2
  refine wp_loop_rounds 4 ?_
  rw [rounds_succ]
  go_wp2_with fail
  refine (insR_any g 60 c 0 20 ([]) X1 (X2 ++ (X3 ++ (Y3))) w (by have h := E0.out; simpa only [List.append_assoc, List.nil_append, List.append_nil] using h) rfl (by have := B0.out; omega) (by simp only [List.length_append, List.length_nil, B1.out, B2.out, B3.out] <;> omega) (by omega)).mono ?_
  rintro e1 w1 ⟨rfl, S1, hs, he, hk⟩
  have T1 := Lib.hid hs
  have E1 := Lib.hid (show ER w1 g (S1 ++ (X2 ++ (X3 ++ (Y3)))) from by simpa only [List.append_assoc, List.nil_append, List.append_nil] using he)
  have K1 := Lib.hid (K0.out.trans hk)
  clear hs he hk
  have L1 := Lib.hid (ask_len T1.out B0.out)
  go_wp2
  rw [rounds_succ]
  go_wp2_with fail
  refine (insR_any g 60 c 20 40 (S1) X2 (X3 ++ (Y3)) w1 (by have h := E1.out; simpa only [List.append_assoc, List.nil_append, List.append_nil] using h) (by simp only [List.length_append, List.length_nil, L1.out]) (by have := B1.out; omega) (by simp only [List.length_append, List.length_nil, B2.out, B3.out] <;> omega) (by omega)).mono ?_
  rintro e2 w2 ⟨rfl, S2, hs, he, hk⟩
  have T2 := Lib.hid hs
  have E2 := Lib.hid (show ER w2 g (S1 ++ (S2 ++ (X3 ++ (Y3)))) from by simpa only [List.append_assoc, List.nil_append, List.append_nil] using he)
  have K2 := Lib.hid (K1.out.trans hk)
  clear hs he hk
  have L2 := Lib.hid (ask_len T2.out B1.out)
  go_wp2
  rw [rounds_succ]
  go_wp2_with fail
  refine (insR_any g 60 c 40 60 ((S1) ++ S2) X3 (Y3) w2 (by have h := E2.out; simpa only [List.append_assoc, List.nil_append, List.append_nil] using h) (by simp only [List.length_append, List.length_nil, L1.out, L2.out]) (by have := B2.out; omega) (by simp only [List.length_append, List.length_nil, B3.out] <;> omega) (by omega)).mono ?_
  rintro e3 w3 ⟨rfl, S3, hs, he, hk⟩
  have T3 := Lib.hid hs
  have E3 := Lib.hid (show ER w3 g (S1 ++ (S2 ++ (S3 ++ (Y3)))) from by simpa only [List.append_assoc, List.nil_append, List.append_nil] using he)
  have K3 := Lib.hid (K2.out.trans hk)
  clear hs he hk
  have L3 := Lib.hid (ask_len T3.out B2.out)
  go_wp2
  rw [rounds_succ]
  go_wp2_with fail
  refine (insR_any g 60 c 60 60 (((S1) ++ S2) ++ S3) Y3 ([]) w3 (by have h := E3.out; simpa only [List.append_assoc, List.nil_append, List.append_nil] using h) (by simp only [List.length_append, List.length_nil, L1.out, L2.out, L3.out]) (by have := B3.out; omega) (by simp only [List.length_append, List.length_nil, ] <;> omega) (by omega)).mono ?_
  rintro e4 w4 ⟨rfl, S4, hs, he, hk⟩
  have T4 := Lib.hid hs
  have E4 := Lib.hid (show ER w4 g (S1 ++ (S2 ++ (S3 ++ (S4)))) from by simpa only [List.append_assoc, List.nil_append, List.append_nil] using he)
  have K4 := Lib.hid (K3.out.trans hk)
  clear hs he hk
  have L4 := Lib.hid (ask_len T4.out B3.out)
  go_wp2
  refine wp_loop_rounds 3 ?_
  rw [rounds_succ]
  go_wp2_with fail
  refine wp_loop_rounds 2 ?_
  rw [rounds_succ]
  go_wp2_with fail
  refine (sym_any g 60 c _ S1 S2 rfl (by have := L1.out; omega) (by have := L2.out; omega) 0 20 40 ([]) (S3 ++ (S4)) w4 (T1.out).1 (T2.out).1 rfl (by have := L1.out; omega) (by have := L2.out; omega) (by simp only [List.length_append, List.length_nil, L3.out, L4.out] <;> omega) (by omega) (by have h := E4.out; simpa only [List.append_assoc, List.nil_append, List.append_nil] using h)).mono ?_
  rintro e5 w5 ⟨rfl, S5, hs, he, hk⟩
  have T5 := Lib.hid (show StS Ent.loc (X1 ++ (X2)) S5 from sts_two (T1.out) (T2.out) hs)
  have L5 := Lib.hid (show S5.length = 40 - 0 by have h1 := L1.out; have h2 := L2.out; rw [hs.length, List.length_append]; omega)
  have E5 := Lib.hid (show ER w5 g (S5 ++ (S3 ++ (S4))) from by simpa only [List.append_assoc, List.nil_append, List.append_nil] using he)
  have K5 := Lib.hid (K4.out.trans hk)
  clear hs he hk
  go_wp2
  rw [rounds_succ]
  go_wp2_with fail
  rw [rounds_succ]
  go_wp2_with fail
  refine wp_loop_rounds 1 ?_
  rw [rounds_succ]
  go_wp2_with fail
  refine (sym_any g 60 c _ S5 S3 rfl (by have := L5.out; omega) (by have := L3.out; omega) 0 40 60 ([]) (S4) w5 (T5.out).1 (T3.out).1 rfl (by have := L5.out; omega) (by have := L3.out; omega) (by simp only [List.length_append, List.length_nil, L4.out] <;> omega) (by omega) (by have h := E5.out; simpa only [List.append_assoc, List.nil_append, List.append_nil] using h)).mono ?_
  rintro e6 w6 ⟨rfl, S6, hs, he, hk⟩
  have T6 := Lib.hid (show StS Ent.loc (X1 ++ (X2) ++ (X3)) S6 from sts_two (T5.out) (T3.out) hs)
  have L6 := Lib.hid (show S6.length = 60 - 0 by have h1 := L5.out; have h2 := L3.out; rw [hs.length, List.length_append]; omega)
  have E6 := Lib.hid (show ER w6 g (S6 ++ (S4)) from by simpa only [List.append_assoc, List.nil_append, List.append_nil] using he)
  have K6 := Lib.hid (K5.out.trans hk)
  clear hs he hk
  go_wp2
  rw [rounds_succ]
  go_wp2_with fail
  go_end0
  have hy : Y3 = [] := List.eq_nil_of_length_eq_zero (by have := B3.out; omega)
  have hs : S4 = [] := List.eq_nil_of_length_eq_zero (by rw [L4.out])
  exact ⟨rfl, by rw [HL.out, hy, List.append_nil]; have h := E6.out; rw [hs, List.append_nil] at h; rw [StS.srt_eq (by have h := T6.out; simpa only [List.append_assoc, List.append_nil] using h)]; exact h, K6.out⟩
end Go.Proofs.YtilapnejkdgomaaDoor
