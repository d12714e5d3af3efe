/- The walks of the law's great and awake. -/
import Derived.Test.YtpejhgkcofilmaaVerI
set_option linter.unusedVariables false
namespace Go.Proofs.Ytpejhgkcofilmaa
open Go.RowKit

theorem great_any (A : Option Addr) (n c : Nat) (w : World) :
    Calls Try.prog 19 #[.slice A n c] w fun e w' => e = .returned (.bool (decide ((80 : Int) < (n : Int)))) ∧ w = w' := by
  go_enter Try.func19, Try.ntmps19
  go_wp2
  go_ret
  exact ⟨rfl, rfl⟩

/-- The acts of the chapter's example. -/
def exA : List (Int × Int × Bool) := [(3, 30, false), (5, 50, false), (9, 90, false)]
def exL : List (Int × Int) := [(3, 30), (5, 50), (9, 90)]
theorem exA_play : play exA = exL := by decide +kernel
theorem exL_asc : Asc exL := by unfold exL Asc; simp
theorem exC_asc : Asc (exL.drop 1) := exL_asc.drop

set_option maxRecDepth 100000 in
set_option maxHeartbeats 3200000 in
theorem awake_any (w : World) : Calls Try.prog 20 #[] w fun e w' => e = .returned (.bool true) ∧ Below w.heap.size w w' := by
  have hR : Acts (w.alloc (.cells #[.int .i64 3, .int .i64 30, .bool false, .int .i64 5, .int .i64 50, .bool false, .int .i64 9, .int .i64 90, .bool false] 44)) (fun _ => True) (some ⟨w.heap.size, 0, none⟩) 3 exA :=
    ⟨rfl, Reads.newAt w _ _ _ rfl rfl trivial⟩
  have C1 := Lib.hid (made_any _ 3 3 exA _ (fun _ _ => trivial) hR (by decide))
  clear hR
  go_enter Try.func20, Try.ntmps20
  go_wp2_with fail
  refine C1.out.mono ?_
  rintro e w1 ⟨A, n, c, M, cm, rfl, h1, h2, h3, h4, h5, h6, hb1⟩
  rw [exA_play] at h1 h2
  obtain rfl : n = 3 := h1.1
  have hbw : Below w.heap.size w w1 := below_new hb1
  clear C1 hb1 h2 h4 h6
  have H1 := Lib.hid h1
  have C2 := Lib.hid fun W s (hb : Below w1.heap.size w1 W) => at_any A 3 c exL s W (H1.out.below hb) exL_asc (by decide)
  have C3 := Lib.hid fun W s (hb : Below w1.heap.size w1 W) => cut_any (S := fun _ => True) A 3 c exL s W (fun _ _ => trivial) (H1.out.below hb) exL_asc h3 (by decide)
  clear h1 h3 h5
  have B1 := Lib.hid fun o => ((Below.refl w1.heap.size w1).alloc (Nat.le_refl _) o)
  go_wp2_with fail
  refine (C2.out _ 2 (B1.out _)).mono ?_
  rintro e w2 ⟨rfl, hb2⟩
  have e1 : seeV exL 2 = 0 := by decide
  have e2 : seeB exL 2 = false := by decide
  have e3 : seeV exL 8 = 50 := by decide
  have e4 : seeB exL 8 = true := by decide
  rw [e1, e2]
  have q2 : w2.cell? ⟨w1.heap.size, 0, none⟩ = some (.slice A 3 c) := cell_later hb2 (by rw [World.cell?_alloc_at _ _ _ _ rfl]; rfl)
  have b2 : Below w1.heap.size w1 w2 := below_new hb2
  clear hb2
  go_wp2_with fail
  refine (C2.out _ 8 b2).mono ?_
  rintro e w3 ⟨rfl, hb3⟩
  rw [e3, e4]
  have q3 := cell_later hb3 q2
  have b3 := b2.trans (hb3.mono b2.size)
  clear hb3 q2
  go_wp2_with fail
  refine (C3.out _ 6 b3).mono ?_
  rintro e w4 ⟨A', n', c', rfl, g1, g2, g3, hb4⟩
  have e5 : exL.drop (aft exL 6 - 1) = exL.drop 1 := by decide
  rw [e5] at g3
  obtain rfl : n' = 2 := g3.1
  have b4 := b3.trans (hb4.mono b3.size)
  have H4 := Lib.hid g3
  have C5 := Lib.hid fun W s (hb : Below w4.heap.size w4 W) => at_any A' 2 c' (exL.drop 1) s W (H4.out.below hb) exC_asc (by decide)
  clear g1 g2 g3 hb4 q3
  have e6 : seeV (exL.drop 1) 5 = 50 := by decide
  have e7 : seeB (exL.drop 1) 5 = true := by decide
  have e8 : seeV (exL.drop 1) 4 = 0 := by decide
  have e9 : seeB (exL.drop 1) 4 = false := by decide
  have B4 := Lib.hid fun o => ((Below.refl w4.heap.size w4).alloc (Nat.le_refl _) o)
  go_wp2_with fail
  refine (C5.out _ 5 (B4.out _)).mono ?_
  rintro e w5 ⟨rfl, hb5⟩
  rw [e6, e7]
  have q5 : w5.cell? ⟨w4.heap.size, 0, none⟩ = some (.slice A' 2 c') := cell_later hb5 (by rw [World.cell?_alloc_at _ _ _ _ rfl]; rfl)
  have b5 : Below w4.heap.size w4 w5 := below_new hb5
  clear hb5
  go_wp2_with fail
  refine (C5.out _ 4 b5).mono ?_
  rintro e w6 ⟨rfl, hb6⟩
  rw [e8, e9]
  have q6 := cell_later hb6 q5
  have b6 := b5.trans (hb6.mono b5.size)
  clear hb6 q5
  go_wp2_with fail
  refine (len_any A' 2 c' w6).mono ?_
  rintro e w7 ⟨rfl, hb7⟩
  have b7 : Below w.heap.size w w7 := hbw.trans (b4.mono hbw.size |>.trans ((b6.trans (hb7.mono b6.size)).mono (by have := hbw.size; have := b4.size; omega)))
  go_wp2
  go_ret
  exact ⟨rfl, b7⟩

set_option maxRecDepth 100000 in
set_option maxHeartbeats 1600000 in
theorem plays_any (A : Option Addr) (n c : Nat) (acts : List (Int × Int × Bool)) (w : World) (hl : Acts w (fun _ => True) A n acts) :
    Calls Try.prog 3 #[.slice A n c] w fun e w' => e = .returned (.bool true) ∧ Below w.heap.size w w' := by
  have HL := Lib.hid hl
  by_cases h : (80 : Int) < (n : Int)
  · clear hl
    go_enter Try.func3, Try.ntmps3
    go_wp2_with fail
    refine (great_any A n c w).mono ?_
    rintro e w' ⟨rfl, rfl⟩
    go_wp2_with fail
    refine (awake_any w).mono ?_
    rintro e w' ⟨rfl, hb⟩
    go_wp2
    go_ret
    exact ⟨rfl, hb⟩
  · have h' : (n : Int) ≤ 80 := by omega
    have C1 := Lib.hid (made_any A n c acts w (fun _ _ => trivial) hl (by have := hl.1; omega))
    clear hl h
    go_enter Try.func3, Try.ntmps3
    go_wp2_with fail
    refine (great_any A n c w).mono ?_
    rintro e w' ⟨rfl, rfl⟩
    go_wp2_with fail
    refine C1.out.mono ?_
    rintro e w1 ⟨A1, n1, c1, M, cm, rfl, h1, h2, h3, h4, h5, h6, hb1⟩
    clear h1 h2 h3 h4 h5 h6
    go_wp2_with fail
    refine (awake_any _).mono ?_
    rintro e w2 ⟨rfl, hb2⟩
    have hb := hb1.trans ((below_new hb2).mono hb1.size)
    go_wp2
    go_ret
    exact ⟨rfl, hb⟩
end Go.Proofs.Ytpejhgkcofilmaa
