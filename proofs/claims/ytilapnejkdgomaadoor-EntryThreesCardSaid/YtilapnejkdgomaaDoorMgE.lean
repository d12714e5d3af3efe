/- slices.Insert over entries in one contract; the walks of entry.leaves and of entry.checked. Conditions: at most 1000 entries; the entries' numbers are of their kinds. -/
import Derived.Test.YtilapnejkdgomaaDoorMgD
set_option linter.unusedVariables false
set_option linter.unusedSimpArgs false
namespace Go.Proofs.YtilapnejkdgomaaDoor
open Go.RowKit

theorem ins_any (base n c i q : Nat) (A : Option Addr) (L : List Ent) (x : Ent) (w : World) (hO : OwnE w base (.slice A n c) L) (hx : EBox w q x) (hq : (Value.slice A n c).ownBlock ≠ some q) (hb : base ≤ w.heap.size) (hi : i ≤ n) (hn : n ≤ 1000) :
    Calls Tryd.prog 38 #[.slice A n c, .int .i64 i, .slice (some ⟨q, 0, none⟩) 1 1] w fun e w' =>
      ∃ v', e = .returned v' ∧ OwnE w' base v' (L.take i ++ x :: L.drop i) ∧ w.grownBy w' (Value.slice A n c).ownBlock ∧ (v'.ownBlock = (Value.slice A n c).ownBlock ∨ v'.ownBlock = some w.heap.size) := by
  rcases hO.2 with ⟨h1, h2⟩ | ⟨g, cap, cur, h1, hbg, hg, hnc, hm, hs, ht⟩
  · injection h1 with h1 h3 h4
    subst h1 h3 h4
    obtain rfl : i = 0 := by omega
    obtain rfl : L = [] := List.eq_nil_of_length_eq_zero h2
    exact end_nil base q [] x w hO hx hb hn rfl
  · injection h1 with h1 h3 h4
    subst h1 h4
    have hl : L.length = n := h3.symm
    by_cases hin : i = n
    · subst hin
      have e1 : L.take i ++ x :: L.drop i = L ++ [x] := by rw [List.take_of_length_le (by omega), List.drop_of_length_le (by omega)]
      rw [e1]
      by_cases hc : c = i
      · subst hc; exact end_full base g c q L x w hO hx hb hn hl
      · exact end_room base g i c q L x w hO hx hb hn hl (by omega)
    · by_cases hc : c = n
      · subst hc
        refine (insI_grow base g c i q L x w hO hx hb (by omega) hn).mono ?_
        rintro e w' ⟨v', rfl, ho, hbw, hv⟩
        exact ⟨v', rfl, ho, ⟨hbw.os, hbw.tape, hbw.output, hbw.size, fun k hk _ => hbw.block k hk⟩, .inr hv⟩
      · refine (insI_shift base g n c i q L x w hO hx (fun e => hq (by rw [e]; rfl)) (by omega) (by omega) hn).mono ?_
        rintro e w' ⟨rfl, ho, hgr⟩
        exact ⟨_, rfl, ho, hgr, .inl rfl⟩

theorem Tryd.size37 : (Tryd.prog.info? 37).map (·.size) = some 3 := by kernel_rfl
/-- The word that an entry leaves. -/
def leafV (x : Ent) : Int := if x.wr then x.new else x.val
def leafN (x : Ent) : Int := if x.wr then (x.ver + 1) % 4294967296 else x.ver
set_option maxRecDepth 100000 in
set_option maxHeartbeats 12800000 in
theorem leaves_any (x : Ent) (w : World) (hx : EntOk x) : Calls Tryd.prog 39 #[entV x] w fun e w' => e = .returned (.agg #[.int .i64 (leafV x), .int .u32 (leafN x), .int .u32 0]) ∧ Below w.heap.size w w' := by
  obtain ⟨lo, va, ve, re, ne, b⟩ := x
  obtain ⟨⟨h1, h2⟩, ⟨h3, h4⟩⟩ := hx
  have hw : IntKind.u32.wrap (ve + 1) = (ve + 1) % 4294967296 := by simp [IntKind.wrap, IntKind.bits, IntKind.signed]
  have hB := Lib.hid (show Below w.heap.size w (w.alloc (entO ⟨lo, va, ve, re, ne, b⟩)) from (Below.refl _ _).alloc (Nat.le_refl _) _)
  unfold entV leafV leafN
  cases b with
  | true =>
    go_enter Tryd.func39, Tryd.ntmps39
    go_wp2
    have e3 : ((w.alloc (.cells #[.int .i64 lo, .int .i64 va, .int .u32 ve, .int .u32 re, .int .i64 ne, .bool true] 46)).alloc (.cells #[.int .i64 ne, .int .u32 ((ve + 1) % 4294967296), .int .u32 0] 37)).heap[w.heap.size + 1]? = some (.cells #[.int .i64 ne, .int .u32 ((ve + 1) % 4294967296), .int .u32 0] 37) := by
      have h := heap_alloc_new (w.alloc (.cells #[.int .i64 lo, .int .i64 va, .int .u32 ve, .int .u32 re, .int .i64 ne, .bool true] 46)) (.cells #[.int .i64 ne, .int .u32 ((ve + 1) % 4294967296), .int .u32 0] 37)
      rwa [show (w.alloc (.cells #[.int .i64 lo, .int .i64 va, .int .u32 ve, .int .u32 re, .int .i64 ne, .bool true] 46)).heap.size = w.heap.size + 1 by simp] at h
    refine bodyPost_ret (results_cell_row rfl _ _ (w.heap.size + 1) _ _ _ _ rfl e3 Tryd.underlying37 rfl Tryd.size37) rfl ⟨rfl, ?_⟩
    exact hB.out.alloc hB.out.size _
  | false =>
    go_enter Tryd.func39, Tryd.ntmps39
    go_wp2
    have e3 : ((w.alloc (.cells #[.int .i64 lo, .int .i64 va, .int .u32 ve, .int .u32 re, .int .i64 ne, .bool false] 46)).alloc (.cells #[.int .i64 va, .int .u32 ve, .int .u32 0] 37)).heap[w.heap.size + 1]? = some (.cells #[.int .i64 va, .int .u32 ve, .int .u32 0] 37) := by
      have h := heap_alloc_new (w.alloc (.cells #[.int .i64 lo, .int .i64 va, .int .u32 ve, .int .u32 re, .int .i64 ne, .bool false] 46)) (.cells #[.int .i64 va, .int .u32 ve, .int .u32 0] 37)
      rwa [show (w.alloc (.cells #[.int .i64 lo, .int .i64 va, .int .u32 ve, .int .u32 re, .int .i64 ne, .bool false] 46)).heap.size = w.heap.size + 1 by simp] at h
    refine bodyPost_ret (results_cell_row rfl _ _ (w.heap.size + 1) _ _ _ _ rfl e3 Tryd.underlying37 rfl Tryd.size37) rfl ⟨rfl, ?_⟩
    exact hB.out.alloc hB.out.size _

/-- entry.checked's answer. -/
def chk0 (l : List Ent) : Int := if l.length = 0 then 0 else chk l
set_option maxRecDepth 100000 in
set_option maxHeartbeats 12800000 in
theorem checked_any {S : Nat → Prop} (A : Option Addr) (n c : Nat) (l : List Ent) (w : World) (hl : Ents w S A n l) (hok : ∀ e ∈ l, EntOk e) (hn : n ≤ 1099511627776) (hc : n ≤ c) :
    Calls Tryd.prog 35 #[.slice A n c] w fun e w' => e = .returned (.int .i64 (chk0 l)) ∧ Below w.heap.size w w' := by
  by_cases h0 : n = 0
  · have hc0 : chk0 l = 0 := by unfold chk0; rw [if_pos (by have := hl.1; omega)]
    rw [hc0]
    subst h0
    clear hl hok hc0 hc
    go_enter Tryd.func35, Tryd.ntmps35
    go_wp2
    go_ret
    exact ⟨rfl, Below.refl _ _⟩
  · have hc0 : chk0 l = chk l := by unfold chk0; rw [if_neg (by have := hl.1; omega)]
    rw [hc0]
    have C := Lib.hid (check_any A n c l w hl hok hn hc)
    have k0 : ((n : Int) == 0) = false := beq_eq_false_iff_ne.2 (by omega)
    clear hl hok hc0 hc h0
    go_enter Tryd.func35, Tryd.ntmps35
    go_wp2_with fail
    refine C.out.mono ?_
    rintro e w1 ⟨rfl, hb⟩
    have HB := Lib.hid hb
    clear hb
    go_wp2
    go_ret
    exact ⟨rfl, HB.out⟩
end Go.Proofs.YtilapnejkdgomaaDoor
