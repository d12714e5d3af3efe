/- The walk of the store's Readers. No condition. -/
import Derived.Test.YtpejhgkcofilmaaSnapH
set_option linter.unusedVariables false
namespace Go.Proofs.Ytpejhgkcofilmaa
open Go.RowKit

/-- The stamps of the open readers among the first k. -/
def rdL (B : Nat → Bool) (T : Nat → Int) : Nat → List Value
  | 0 => []
  | k + 1 => rdL B T k ++ if B k = true then [.int .i64 (T k)] else []
theorem rdL_le (B : Nat → Bool) (T : Nat → Int) (k : Nat) : (rdL B T k).length ≤ k := by
  induction k with
  | zero => simp [rdL]
  | succ k ih => unfold rdL; split <;> simp <;> omega

set_option maxRecDepth 100000 in
set_option maxHeartbeats 6400000 in
theorem readers_any (c n : Int) (b1 b2 : Option Nat) (B : Nat → Bool) (T : Nat → Int) (w : World) :
    Calls Try.prog 32 #[sto c n (.map b1) (.map b2) B T] w fun e w' => ∃ v, e = .returned v ∧ w'.ownsRow w.heap.size 2 1 v (rdL B T 8).length (rdL B T 8) ∧ Below w.heap.size w w' := by
  obtain ⟨i0, hi0, hz0, hz1, hz2⟩ := info_parts Try.info2
  have H1 := Lib.hid (heap_alloc_new w (.cells (stoCells c n (.map b1) (.map b2) B T) 57))
  have HI := Lib.hid fun k hk w => arr_index B T k hk w
  go_enter Try.func32, Try.ntmps32
  go_wp2_with (first
    | (with_reducible refine at_box_ (t := 57) ?_; refine box_sto rfl _ rfl _ rfl (c := c) (n := n) (ml := .map b1) (mw := .map b2) (B := B) (T := T) rfl ?_)
    | (with_reducible refine at_load_ (t := 55) ?_; refine get_arr rfl _ rfl w.heap.size rfl H1.out ?_))
  generalize hA : arrV B T = A at *
  clear hA
  have hb0 : Below w.heap.size w (w.alloc (.cells (stoCells c n (.map b1) (.map b2) B T) 57)) := (Below.refl _ _).alloc (Nat.le_refl _) _
  have hs0 : w.heap.size + 1 ≤ (w.alloc (.cells (stoCells c n (.map b1) (.map b2) B T) 57)).heap.size := by simp
  generalize w.alloc (.cells (stoCells c n (.map b1) (.map b2) B T) 57) = w0 at *
  have HB0 := Lib.hid hb0
  have HS0 := Lib.hid hs0
  clear H1 hb0 hs0
  go_loopw [3, 8] (fun v i wr => ∃ k : Nat, k ≤ 8 ∧ i = .int .i64 k ∧ Hid (wr.ownsRow (w.heap.size + 1) 2 1 v (rdL B T k).length (rdL B T k)) ∧ Hid (Below w.heap.size w wr) ∧ Hid (w.heap.size + 1 ≤ wr.heap.size)) (fun _ i _ => 8 - (intOf i).toNat)
  case atStart => exact ⟨0, by omega, rfl, Lib.hid (World.ownsRow_nil _ _ _ _), HB0, HS0⟩
  case round =>
    clear HB0 HS0
    obtain ⟨k, hk, rfl, HO, HB, HS⟩ := hrel
    by_cases hlt : k < 8
    · have hi := HI.out k hlt
      have h8 : (k : Int) < 8 := by omega
      have HBA := Lib.hid fun (o : Obj) => HB.out.alloc HB.out.size o
      have HOA := Lib.hid fun (o : Obj) => HO.out.alloc o
      have HSA := Lib.hid fun (o : Obj) => (show w.heap.size + 1 ≤ (wr.alloc o).heap.size by have := HS.out; simp; omega)
      have HLE := Lib.hid (rdL_le B T k)
      cases hbk : B k with
      | false =>
        rw [hbk] at hi
        have HN := Lib.hid (show rdL B T (k + 1) = rdL B T k by show _ ++ _ = _; rw [if_neg (by simp [hbk]), List.append_nil])
        clear hbk
        go_wp2
        go_roundw
        case rel => exact ⟨k + 1, by omega, by go_num, by rw [HN.out]; exact Lib.hid (HOA.out _), Lib.hid (HBA.out _), Lib.hid (HSA.out _)⟩
        case measure => simp [intOf]; omega
      | true =>
        rw [hbk] at hi
        have HN := Lib.hid (show rdL B T (k + 1) = rdL B T k ++ [.int .i64 (T k)] by show _ ++ _ = _; rw [if_pos hbk])
        have HNW := Lib.hid (Reads.newAt (S := fun _ => True) (size := 1) (n := 1) (wr.alloc (.cells #[.bool true, .int .i64 (T k)] 54)) (wr.heap.size + 1) #[.int .i64 (T k)] 2 (by simp) rfl trivial)
        clear hbk
        go_wp2_with (at_builtin; (refine wpList_append_any rfl (.tmp 13) (.tmp 16) 40 rfl (w.heap.size + 1) 2 i0 _ 1 8 Try.underlying40 hi0 hz0 hz1 hz2 rfl (by omega) _ (rdL B T k).length (rdL B T k) rfl ((HO.out.alloc _).alloc _) _ _ 1 1 _ rfl HNW.out ?k1 ?k2 ?k3 ?k4 ?k5))
        case k1 => first | rfl | (intro u hu; simp at hu; subst hu; rfl)
        case k2 => have := HLE.out; simp only [maxLen]; omega
        case k3 => have := HLE.out; omega
        case k4 => have := HS.out; first | omega | (simp; omega)
        case k5 =>
          intro v' w' ho hg _
          have HO' := Lib.hid (show w'.ownsRow (w.heap.size + 1) 2 1 v' (rdL B T (k + 1)).length (rdL B T (k + 1)) by rw [HN.out, List.length_append]; exact ho)
          have hB : Below w.heap.size w w' := ((HBA.out _).alloc (by have := HS.out; simp; omega) _).grown hg (by have := HS.out; simp; omega) (fun g hg => by have := (HO.out.lt g hg).1; omega)
          have hS : w.heap.size + 1 ≤ w'.heap.size := by have := hg.size; have := HS.out; simp at *; omega
          have HB' := Lib.hid hB
          have HS' := Lib.hid hS
          clear ho hg hB hS
          go_wp2
          go_roundw
          case rel => exact ⟨k + 1, by omega, by go_num, HO', HB', HS'⟩
          case measure => simp [intOf]; omega
    · obtain rfl : k = 8 := by omega
      go_wp2
      go_ret
      refine ⟨_, rfl, ?_, HB.out⟩
      have := HO.out
      exact ⟨this.1, this.2.imp (fun h => h) fun ⟨g, cap, cur, h1, h2, h3⟩ => ⟨g, cap, cur, h1, by omega, h3⟩⟩
end Go.Proofs.Ytpejhgkcofilmaa
