/- The walk of the function that TopEliminate hands to Done. Condition: a stack lies in the words. Reverse and Equal on []int64 in the words of rows. Condition: at most 100000 values. The walk of speedAwake. No condition. -/
import Derived.Test.YtkloaopjlbinpaaGreatTfD
set_option linter.unusedVariables false
set_option linter.unusedSimpArgs false
namespace Go.Proofs.YtkloaopjlbinpaaGreat
open Go.RowKit Go.MapKept

end Go.Proofs.YtkloaopjlbinpaaGreat
namespace Go.Proofs.YtkloaopjlbinpaaGreat
open Go.RowKit Go.MapKept

theorem equal_same (w : World) (A A2 : Option Addr) (n c c2 : Nat) (l : List Int) (hl : l.length = n) (hn : n ≤ 100000) (h1 : Reads w (fun _ => True) 1 A n (l.map (.int .i64))) (h2 : Reads w (fun _ => True) 1 A2 n (l.map (.int .i64))) :
    Calls Tryz.prog 7 #[.slice A n c, .slice A2 n c2] w fun e w' => e = .returned (.bool true) ∧ ∃ q, w' = w.drewN q := by
  rcases Nat.eq_zero_or_pos n with h0 | h0
  · subst h0
    exact (Tryz.slices_Equal_int_empty A A2 c 0 c2 w (by omega)).mono fun e w' h => ⟨h.1, 0, h.2⟩
  · obtain ⟨b, o, rfl, -, -, hc⟩ := h1.2 h0
    obtain ⟨b2, o2, rfl, -, -, hc2⟩ := h2.2 h0
    refine (Tryz.slices_Equal_int b o n c b2 o2 n c2 l l w (by omega) (by omega) (by omega) (by omega) (fun j hj => hc j _ (by rw [List.getElem?_map, List.getD_eq_getElem?_getD, List.getElem?_eq_getElem hj]; rfl)) (fun j hj => hc2 j _ (by rw [List.getElem?_map, List.getD_eq_getElem?_getD, List.getElem?_eq_getElem hj]; rfl))).mono fun e w' h => ⟨?_, h.2⟩
    rw [h.1, beq_self_eq_true]
end Go.Proofs.YtkloaopjlbinpaaGreat
namespace Go.Proofs.YtkloaopjlbinpaaGreat
open Go.RowKit Go.MapKept

def aL : List Opn := [⟨1, false, 0⟩, ⟨2, true, 7⟩]
theorem aL_s : runS aL [5].reverse (rst aL 2) = [5] := by decide
theorem aL_a : fin 2 (allW aL [5].reverse) = [(0, 7), (0, 7)] := by decide
theorem ans_eqv (a b : Int) (W : World) : (Op.equalIn 10000 46 (.agg #[.int .i64 a, .int .i64 b]) (.agg #[.int .i64 a, .int .i64 b])).run Tryz.prog W = .ok true W := by
  go_simp
  try simp
set_option maxRecDepth 100000 in
set_option maxHeartbeats 6400000 in
theorem speed_awake (w : World) : Calls Tryz.prog 4 #[] w fun e w' => e = .returned (.bool true) ∧ Below w.heap.size w w' := by
  obtain ⟨W1, hW1⟩ : ∃ W, W = w.alloc (.cells #[.int .i64 5] 2) := ⟨_, rfl⟩
  have b1 : Below w.heap.size w W1 := by rw [hW1]; exact below_alloc _ _
  have r1 : Reads W1 (fun _ => True) 1 (some ⟨w.heap.size, 0, none⟩) 1 ([5].map (.int .i64)) := by rw [hW1]; exact Reads.new w #[.int .i64 5] _ rfl trivial
  have KS := Lib.hid (sstack_any W1 (some ⟨w.heap.size, 0, none⟩) 1 1 [5] rfl (by decide) r1)
  have B1 := Lib.hid b1
  clear b1 r1
  go_enter Tryz.func4, Tryz.ntmps4
  go_wp2_with fail
  rw [← hW1]
  clear hW1
  refine KS.out.mono ?_
  rintro e w2 ⟨nb, nh, g, rfl, hnb, hm, hst, hnh, hf, hb⟩
  have B2 := Lib.hid (B1.out.trans (hb.mono B1.out.size))
  have M2 := Lib.hid hm
  have ST := Lib.hid (And.intro hst (And.intro hnh hf))
  obtain ⟨W3, hW3⟩ : ∃ W, W = w2.alloc (.cells #[.int .i64 1, .bool false, .int .i64 0, .int .i64 2, .bool true, .int .i64 7] 39) := ⟨_, rfl⟩
  obtain ⟨W4, hW4⟩ : ∃ W, W = W3.alloc (.cells #[.int .i64 5] 2) := ⟨_, rfl⟩
  have b3 : Below w2.heap.size w2 W3 := by rw [hW3]; exact below_alloc _ _
  have b4 : Below W3.heap.size W3 W4 := by rw [hW4]; exact below_alloc _ _
  have r3 : Reads W3 (fun _ => True) 3 (some ⟨w2.heap.size, 0, none⟩) 2 (aL.flatMap opC) := by rw [hW3]; exact Reads.new w2 #[.int .i64 1, .bool false, .int .i64 0, .int .i64 2, .bool true, .int .i64 7] _ rfl trivial
  have r4 : Reads W4 (fun _ => True) 1 (some ⟨W3.heap.size, 0, none⟩) 1 ([5].map (.int .i64)) := by rw [hW4]; exact Reads.new W3 #[.int .i64 5] _ rfl trivial
  have KF := Lib.hid (fast_pos W4 (some ⟨w2.heap.size, 0, none⟩) 2 2 aL rfl (by decide) (r3.below b4) (some ⟨W3.heap.size, 0, none⟩) 1 1 [5] rfl (by decide) r4 (by decide))
  have R3 := Lib.hid (r3.below b4)
  have b24 : Below w2.heap.size w2 W4 := b3.trans (b4.mono b3.size)
  have M4 := Lib.hid (M2.out.below b24)
  have B4 := Lib.hid (B2.out.trans (b24.mono B2.out.size))
  have s3 : W3.heap.size = w2.heap.size + 1 := by rw [hW3]; exact World.size_alloc ..
  rw [s3] at KF
  rw [hW3] at hW4
  clear hm hst hnh hf hnb hb b3 b4 r3 r4 b24 KS
  go_wp2_with fail
  rw [← hW4]
  clear hW4 hW3 s3
  refine KF.out.mono ?_
  rintro e w5 ⟨v1, A2, c2, rfl, ho5, hR5, hb5⟩
  rw [aL_s] at ho5
  rw [aL_a] at hR5
  obtain ⟨A1, c1, rfl, -, -, hV5⟩ := own_reads (S := fun _ => True) ho5 (fun _ _ => trivial)
  have B5 := Lib.hid (B4.out.trans (hb5.mono B4.out.size))
  have R5 := Lib.hid (R3.out.below hb5)
  have M5 := Lib.hid (M4.out.below hb5)
  have V5 := Lib.hid hV5
  have A5 := Lib.hid hR5
  clear ho5 hR5 hb5 hV5 KF R3 M4 M2 B2 B4
  have d0 : w5.cell? ⟨w2.heap.size, 0, none⟩ = some (.int .i64 1) := by
    obtain ⟨b, o, e, -, -, hc⟩ := R5.out.2 (by decide)
    cases e
    exact hc 0 _ rfl
  have d1 : w5.cell? ⟨w2.heap.size, 1, none⟩ = some (.bool false) := by
    obtain ⟨b, o, e, -, -, hc⟩ := R5.out.2 (by decide)
    cases e
    exact hc 1 _ rfl
  have d2 : w5.cell? ⟨w2.heap.size, 2, none⟩ = some (.int .i64 0) := by
    obtain ⟨b, o, e, -, -, hc⟩ := R5.out.2 (by decide)
    cases e
    exact hc 2 _ rfl
  go_wp2_with fail
  refine (sdone_any w5 nb g M5.out (fun k hk => ⟨(ST.out.2.2 k hk).1, Int.le_trans (ST.out.2.2 k hk).2 (by decide)⟩) 1 0 false [5] nh ST.out.1 (by have := ST.out.2.1; omega)).mono ?_
  rintro e w6 ⟨nb6, nh6, g6, rfl, hnb, hm, hst, hnh, hf, hb6⟩
  clear d0 d1 d2
  have B6 := Lib.hid (B5.out.trans (hb6.mono B5.out.size))
  have V6 := Lib.hid (V5.out.below hb6)
  have A6 := Lib.hid (A5.out.below hb6)
  clear hnb hm hst hnh hf hb6 V5 A5 R5 M5 B5
  have hE : stE false [5] = 0 := rfl
  have hV : stV false 0 [5] = 5 := rfl
  obtain ⟨W7, hW7⟩ : ∃ W, W = (w6.alloc (.cells #[.int .i64 0, .int .i64 5] 46)).alloc (.cells #[.int .i64 5] 2) := ⟨_, rfl⟩
  have b7 : Below w6.heap.size w6 W7 := by rw [hW7]; exact (below_alloc _ _).alloc (by rw [World.size_alloc]; omega) _
  have r7 : Reads W7 (fun _ => True) 1 (some ⟨w6.heap.size + 1, 0, none⟩) 1 ([5].map (.int .i64)) := by
    have e7 : (w6.alloc (.cells #[.int .i64 0, .int .i64 5] 46)).heap.size = w6.heap.size + 1 := World.size_alloc ..
    rw [hW7, ← e7]; exact Reads.new (w6.alloc (.cells #[.int .i64 0, .int .i64 5] 46)) #[.int .i64 5] _ rfl trivial
  have KE := Lib.hid (fun c d => equal_same W7 A1 (some ⟨w6.heap.size + 1, 0, none⟩) 1 c d [5] rfl (by decide) (V6.out.below b7) r7)
  have B7 := Lib.hid (B6.out.trans (b7.mono B6.out.size))
  have A7 := Lib.hid (A6.out.below b7)
  clear b7 r7 V6 A6 B6
  go_wp2_with fail
  rw [← hW7]
  clear hW7
  refine (KE.out _ _).mono ?_
  rintro e w8 ⟨rfl, q, rfl⟩
  obtain ⟨b, o, rfl, -, -, hc⟩ := A7.out.2 (by decide)
  have d0 : (W7.drewN q).cell? ⟨b, o, none⟩ = some (.int .i64 0) := hc 0 _ rfl
  have d1 : (W7.drewN q).cell? ⟨b, o + 1, none⟩ = some (.int .i64 7) := hc 1 _ rfl
  clear hc
  go_wp2_with fail
  go_ret
  exact ⟨rfl, ⟨B7.out.os, B7.out.tape, B7.out.output, B7.out.size, B7.out.block⟩⟩
end Go.Proofs.YtkloaopjlbinpaaGreat
