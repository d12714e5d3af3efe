/- The walk of speedStack. Conditions: at most 20 values. -/
import Derived.Test.YtkloaopjlbinpaaTeO
set_option linter.unusedVariables false
set_option linter.unusedSimpArgs false
namespace Go.Proofs.Ytkloaopjlbinpaa
open Go.RowKit Go.MapKept

theorem zero_fits2 : zeroM.Fits 4294967294 := fun k _ => ⟨Int.le_refl _, show (0 : Int) ≤ 4294967294 by decide⟩
theorem stack_hcf (args : Array Value) (W : World) : (callFunc 18 args).run Try.prog W = .ok (.enter 18 args) W := by kernel_rfl
set_option maxRecDepth 100000 in
set_option maxHeartbeats 6400000 in
theorem sstack_any (w : World) (A : Option Addr) (n c : Nat) (l : List Int) (hl : l.length = n) (hn : n ≤ 20) (hA : Reads w (fun _ => True) 1 A n (l.map (.int .i64))) :
    Calls Try.prog 5 #[.slice A n c] w fun e w' => ∃ (nb nh : Nat) (g : Mem), e = .returned (.tuple #[.map (some nb), .bool true]) ∧ w.heap.size ≤ nb ∧ IntMap w' nb g.at ∧ StkI g.val l.reverse nh ∧ nh ≤ n ∧ g.Fits 1 ∧ Below w.heap.size w w' := by
  obtain ⟨W0, hW0⟩ : ∃ W, W = w.alloc (.cells #[.slice A n c] 22) := ⟨_, rfl⟩
  have V0 := Lib.hid (show HB 22 W0 w.heap.size #[.slice A n c] from by rw [hW0]; exact HB.new _ _ _)
  have B0 := Lib.hid (show Below w.heap.size w W0 by rw [hW0]; exact below_alloc _ _)
  have HL := Lib.hid hl
  have HN := Lib.hid hn
  have HA := Lib.hid (hA.below (show Below w.heap.size w W0 by rw [hW0]; exact below_alloc _ _))
  clear hl hn hA
  go_enter Try.func5, Try.ntmps5
  go_upto_region 1 with fail
  rw [← hW0]
  clear hW0
  go_wp2_with fail
  refine (fresh_any _).mono ?_
  rintro e w1 ⟨rfl, hm, hb⟩
  obtain ⟨W2, hW2⟩ : ∃ W, W = w1.alloc (.cells #[.bool true] 4) := ⟨_, rfl⟩
  have b2 : Below w1.heap.size w1 W2 := by rw [hW2]; exact below_alloc _ _
  have s2 : w1.heap.size < W2.heap.size := by rw [hW2, World.size_alloc]; omega
  have B02 := Lib.hid (show Below W0.heap.size W0 W2 from hb.trans (b2.mono hb.size))
  have O2 := Lib.hid (show HB 4 W2 w1.heap.size #[.bool true] from by rw [hW2]; exact HB.new w1 4 #[.bool true])
  have V2 := Lib.hid (V0.out.below B02.out)
  have M2 := Lib.hid (hm.below b2)
  have LT2 := Lib.hid (And.intro s2 (Nat.lt_of_lt_of_le V0.out.lt hb.size))
  have A2 := Lib.hid (HA.out.below B02.out)
  obtain ⟨ob, hob⟩ : ∃ x, x = w1.heap.size := ⟨_, rfl⟩
  obtain ⟨mb, hmb⟩ : ∃ x, x = W0.heap.size := ⟨_, rfl⟩
  have LEM := Lib.hid (show w.heap.size ≤ mb from by rw [hmb]; exact B0.out.size)
  have LTM := Lib.hid (show mb < W2.heap.size from by rw [hmb]; exact M2.out.lt)
  have BB := Lib.hid (show Below w.heap.size w W2 from B0.out.trans (B02.out.mono B0.out.size))
  rw [← hmb] at M2 ⊢
  rw [← hob] at O2 LT2
  clear hm hb b2 s2 V0 HA B0 B02 hmb
  go_upto_region 3 with fail
  rw [← hW2, ← hob]
  clear hW2 hob
  have KD := Lib.hid (done_any 18 #[.pointer (some ⟨w.heap.size, 0, none⟩), .pointer (some ⟨ob, 0, none⟩)] stack_hcf W2 mb zeroM M2.out zero_fits2 (fun _ => False) (fun P' _ => ∃ nh, StkI (cur zeroM P') l.reverse nh ∧ nh ≤ n) (fun h => h) (fun _ _ _ h _ => h) (fun W sb hb _ hs => (stack_do W2 W sb w.heap.size ob A n c l HL.out HN.out A2.out V2.out O2.out hb hs).mono (by
    rintro e w' ⟨rfl, P', h1, h2, h3, h4⟩
    exact ⟨rfl, P', h1, h2, h3.mono fun _ _ h => .inr h, h4⟩)))
  go_wp2_with fail
  refine KD.out.mono ?_
  rintro e w3 ⟨nb, ev, P', rfl, hnb, hm, ⟨nh, hst, hnh⟩, hk⟩
  have M3 := Lib.hid hm
  have ST := Lib.hid (And.intro hst hnh)
  have b3 : Below W2.heap.size W2 w3 := hk.below (Nat.le_refl _) (fun b hb h => by
    rcases h with h | h
    · exact h
    · omega)
  have BF := Lib.hid (show Below w.heap.size w w3 from BB.out.trans (b3.mono BB.out.size))
  have NB := Lib.hid (Nat.le_trans BB.out.size hnb)
  have c3 : w3.cell? ⟨ob, 0, none⟩ = some (.bool true) := (O2.out.below b3).cell 0
  clear hm hst hnh hk hnb KD M2 b3 O2 V2 A2 LT2 LTM LEM BB
  go_wp2_with fail
  go_region
  go_wp2
  go_ret2
  exact ⟨nb, nh, nextM zeroM P', rfl, NB.out, M3.out, ST.out.1, ST.out.2, nextM_fits zero_fits, BF.out.drew⟩
end Go.Proofs.Ytkloaopjlbinpaa
