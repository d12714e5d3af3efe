/- The walk of the law VersionCuts. -/
import Derived.Test.YtpejhgkcofilmaaLawB
import Derived.Test.YtpejhgkcofilmaaPure
set_option linter.unusedVariables false
namespace Go.Proofs.Ytpejhgkcofilmaa
open Go.RowKit

theorem run_max_i64 {P : Program} (t u v : TypeId) (x y : Int) (W : World) : Sem.run P (Builtin.max_ #[t, u] v #[.int .i64 x, .int .i64 y]) W = .ok (.int .i64 (if x < y then y else x)) W := rfl
theorem late_stamp (s u : Int) (h0 : -9223372036854775808 ≤ s) (h1 : s ≤ 4611686018427387904) (h2 : 0 ≤ u) (h3 : u ≤ 65535) : s ≤ wrap64 (s + wrap64 u) := by
  rw [IntWalk.wrap64_in u (by omega), IntWalk.wrap64_in _ (by omega)]; omega

/-- The way on which the input is greater than the limit. -/
theorem cuts_great (A : Option Addr) (n c : Nat) (s u : Int) (w : World) (h : (80 : Int) < (n : Int)) :
    Calls Try.prog 5 #[.slice A n c, .int .i64 s, .int .u16 u] w fun e w' => e = .returned (.bool true) ∧ Below w.heap.size w w' := by
  go_enter Try.func5, Try.ntmps5
  go_wp2_with fail
  refine (great_any A n c w).mono ?_
  rintro e w' ⟨rfl, rfl⟩
  go_wp2_with fail
  refine (awake_any w).mono ?_
  rintro e w' ⟨rfl, hb⟩
  go_wp2
  go_ret
  exact ⟨rfl, hb⟩

set_option maxRecDepth 100000 in
set_option maxHeartbeats 6400000 in
theorem cuts_small (A : Option Addr) (n c : Nat) (acts : List (Int × Int × Bool)) (s u : Int) (w : World) (hl : Acts w (fun _ => True) A n acts) (h : (n : Int) ≤ 80)
    (hs : s ≤ 4611686018427387904 → s ≤ wrap64 (s + wrap64 u)) :
    Calls Try.prog 5 #[.slice A n c, .int .i64 s, .int .u16 u] w fun e w' => e = .returned (.bool true) ∧ Below w.heap.size w w' := by
  have C1 := Lib.hid (made_any A n c acts w (fun _ _ => trivial) hl (by have := hl.1; omega))
  have hLen := play_len acts acts.length (Nat.le_refl _)
  have hAsc := play_asc acts acts.length
  rw [List.take_length] at hLen hAsc
  have hn2 : acts.length ≤ 80 := by have := hl.1; omega
  generalize play acts = L at *
  have hL : L.length ≤ 1099511627776 := by omega
  clear hl hLen hn2
  obtain ⟨C, hC⟩ : ∃ C, L.drop (aft L s - 1) = C := ⟨_, rfl⟩
  have HC := Lib.hid (show Asc C by rw [← hC]; exact hAsc.drop)
  have hSee := Lib.hid (show ∀ t, s ≤ t → seeV C t = seeV L t ∧ seeB C t = seeB L t by rw [← hC]; exact fun t ht => see_cut L hAsc s t ht)
  have hAgain := Lib.hid (show aft C s - 1 = 0 by rw [← hC]; exact cut_again L hAsc s)
  have hNext := Lib.hid (show ∀ i, ∀ hi : i + 1 < C.length, C[i].1 < C[i + 1].1 ∧ s < C[i + 1].1 by subst hC; exact fun i hi => cut_next L hAsc s i hi)
  have hle : C.length ≤ L.length := by rw [← hC, List.length_drop]; omega
  have HCE := Lib.hid hC
  clear hC
  have HS := Lib.hid hs
  clear hs
  go_enter Try.func5, Try.ntmps5
  go_wp2_with fail
  refine (great_any A n c w).mono ?_
  rintro e w' ⟨rfl, rfl⟩
  go_wp2_with fail
  refine C1.out.mono ?_
  rintro e w1 ⟨A1, n1, c1, M, cm, rfl, h1, h2, h3, h4, h5, h6, hb1⟩
  have hn1 : n1 = L.length := h1.1
  subst hn1
  have H1 := Lib.hid h1
  have HB := Lib.hid hb1
  have H3 := Lib.hid h3
  clear h1 h2 h3 h4 h5 h6 hb1
  have C2 := Lib.hid fun W t (hb : Below w1.heap.size w1 W) => at_any A1 L.length c1 L t W (H1.out.below hb) hAsc hL
  have C3 := Lib.hid fun W (hb : Below w1.heap.size w1 W) => cut_any (S := fun _ => True) A1 L.length c1 L s W (fun _ _ => trivial) (H1.out.below hb) hAsc H3.out hL
  have B1 := Lib.hid fun o => ((Below.refl w1.heap.size w1).alloc (Nat.le_refl _) o)
  go_wp2_with fail
  refine (C3.out _ (B1.out _)).mono ?_
  rintro e w2 ⟨A2, n2, c2, rfl, g1, g2, g3, hb2⟩
  have q2 : w2.cell? ⟨w1.heap.size, 0, none⟩ = some (.slice A1 L.length c1) := cell_later hb2 (by rw [World.cell?_alloc_at _ _ _ _ rfl]; rfl)
  have b2 := Lib.hid (show Below w1.heap.size w1 w2 from below_new hb2)
  rw [HCE.out] at g3
  have hn2 : n2 = C.length := g3.1
  have hCL : C.length ≤ 1099511627776 := by omega
  have G3 := Lib.hid g3
  have G1 := Lib.hid g1
  subst hn2
  clear g1 g2 g3 hb2
  have C4 := Lib.hid fun W t (hb : Below w2.heap.size w2 W) => at_any A2 C.length c2 C t W (G3.out.below hb) HC.out hCL
  have C5 := Lib.hid fun W (hb : Below w2.heap.size w2 W) => stamps_any A2 C.length c2 C W (G3.out.below hb) hCL
  have C6 := Lib.hid fun W (hb : Below w2.heap.size w2 W) => cut_any (S := fun _ => True) A2 C.length c2 C s W (fun _ _ => trivial) (G3.out.below hb) HC.out G1.out hCL
  have hd1 : decide (L.length < C.length) = false := by simp; omega
  have hd2 : decide (C.length ≤ L.length) = true := by simp; omega
  have q3a : ∀ o, (w2.alloc o).cell? ⟨w1.heap.size, 0, none⟩ = some (.slice A1 L.length c1) := fun o => cell_alloc q2 o
  have q3 : ((w2.alloc (.cells #[.slice A2 C.length c2] 27)).drew).cell? ⟨w1.heap.size, 0, none⟩ = some (.slice A1 L.length c1) := q3a _
  have q4 : ((w2.alloc (.cells #[.slice A2 C.length c2] 27)).drew).cell? ⟨w2.heap.size, 0, none⟩ = some (.slice A2 C.length c2) := by
    rw [World.cell?_drew, World.cell?_alloc_at _ _ _ _ rfl]; rfl
  have B2 := Lib.hid (show Below w2.heap.size w2 ((w2.alloc (.cells #[.slice A2 C.length c2] 27)).drew) from ((Below.refl w2.heap.size w2).alloc (Nat.le_refl _) _).drew)
  have FB := Lib.hid fun W (hb : Below w2.heap.size w2 W) => HB.out.trans ((b2.out.trans (hb.mono b2.out.size)).mono HB.out.size)
  clear q3a q2
  by_cases hbig : (4611686018427387904 : Int) < s
  · clear HS
    go_wp2_with fail
    go_region_held3 (fun w' => w'.cell? ⟨w2.heap.size, 0, none⟩ = some (.slice A2 C.length c2) ∧ w'.cell? ⟨w1.heap.size, 0, none⟩ = some (.slice A1 L.length c1)) (first | exact ⟨q4, q3⟩ | exact ⟨j4, j3⟩ | exact ⟨m4, m3⟩) (first
      | (go_at_call_of 25 (Value.slice A2 C.length c2); refine (len_any _ _ _ _).mono ?_; rintro e w3 ⟨rfl, hb3⟩; have j3 := cell_later hb3 q3; have j4 := cell_later hb3 q4)
      | (go_at_call_of 25 (Value.slice A1 L.length c1); refine (len_any _ _ _ _).mono ?_; rintro e w4 ⟨rfl, hb4⟩; have m3 := cell_later hb4 j3; have m4 := cell_later hb4 j4))
    have b4 := Lib.hid (B2.out.trans ((hb3.trans (hb4.mono hb3.size)).mono B2.out.size))
    have x4 : w4.drew.cell? ⟨w2.heap.size, 0, none⟩ = some (.slice A2 C.length c2) := m4
    have x3 : w4.drew.cell? ⟨w1.heap.size, 0, none⟩ = some (.slice A1 L.length c1) := m3
    clear q3 q4 j3 j4 m3 m4 hb3 hb4
    go_wp2_with fail
    go_region_held3 (fun w' => w'.cell? ⟨w2.heap.size, 0, none⟩ = some (.slice A2 C.length c2) ∧ w'.cell? ⟨w1.heap.size, 0, none⟩ = some (.slice A1 L.length c1)) (first | exact ⟨x4, x3⟩ | exact ⟨y4, y3⟩ | exact ⟨z4, z3⟩ | exact ⟨t4, t3⟩) (first
      | (go_at_call_of 25 (Value.slice A2 C.length c2); refine (len_any _ _ _ _).mono ?_; rintro e w5 ⟨rfl, hb5⟩; have y3 := cell_later hb5 x3; have y4 := cell_later hb5 x4)
      | (go_at_call_of 25 (Value.slice A1 L.length c1); refine (len_any _ _ _ _).mono ?_; rintro e w6 ⟨rfl, hb6⟩; have z3 := cell_later hb6 y3; have z4 := cell_later hb6 y4)
      | (go_at_call 20; refine (awake_any _).mono ?_; rintro e w7 ⟨rfl, hb7⟩; have t3 := cell_later hb7 z3; have t4 := cell_later hb7 z4))
    have hz : Below w4.drew.heap.size w4.drew w7 := (hb5.trans (hb6.mono hb5.size)).trans (hb7.mono (Nat.le_trans hb5.size hb6.size))
    have hf := FB.out w7 (b4.out.drew.trans (hz.mono b4.out.drew.size))
    go_wp2
    go_ret
    exact ⟨rfl, hf⟩
  · have hs2 : s ≤ 4611686018427387904 := by omega
    have HT := Lib.hid (HS.out hs2)
    clear hs2
    go_wp2_with fail
    go_region_held3 (fun w' => w'.cell? ⟨w2.heap.size, 0, none⟩ = some (.slice A2 C.length c2) ∧ w'.cell? ⟨w1.heap.size, 0, none⟩ = some (.slice A1 L.length c1)) (first | exact ⟨q4, q3⟩ | exact ⟨j4, j3⟩ | exact ⟨m4, m3⟩) (first
      | (go_at_call_of 25 (Value.slice A2 C.length c2); refine (len_any _ _ _ _).mono ?_; rintro e w3 ⟨rfl, hb3⟩; have j3 := cell_later hb3 q3; have j4 := cell_later hb3 q4)
      | (go_at_call_of 25 (Value.slice A1 L.length c1); refine (len_any _ _ _ _).mono ?_; rintro e w4 ⟨rfl, hb4⟩; have m3 := cell_later hb4 j3; have m4 := cell_later hb4 j4))
    have b4 := Lib.hid (B2.out.trans ((hb3.trans (hb4.mono hb3.size)).mono B2.out.size))
    have x4 : w4.cell? ⟨w2.heap.size, 0, none⟩ = some (.slice A2 C.length c2) := m4
    have x3 : w4.cell? ⟨w1.heap.size, 0, none⟩ = some (.slice A1 L.length c1) := m3
    clear q3 q4 j3 j4 m3 m4 hb3 hb4 hd1 hd2
    go_wp2_with fail
    refine (C2.out _ _ (b2.out.trans (b4.out.mono b2.out.size))).mono ?_
    rintro e w5 ⟨rfl, hb5⟩
    have b5 := Lib.hid (b4.out.trans (hb5.mono b4.out.size))
    have y4 := cell_later hb5 x4
    clear x3 x4 hb5
    go_wp2_with fail
    refine (C4.out _ _ b5.out).mono ?_
    rintro e w6 ⟨rfl, hb6⟩
    have hSE := hSee.out _ HT.out
    rw [hSE.1, hSE.2]
    have b6 := Lib.hid (b5.out.trans (hb6.mono b5.out.size))
    have z4 := cell_later hb6 y4
    clear y4 hb6 hSE
    generalize wrap64 (s + wrap64 u) = tt at *
    generalize seeV L tt = x at *
    generalize seeB L tt = y at *
    have tx : (x != x) = false := by simp
    have ty : (y != y) = false := by simp
    go_wp2_with fail
    refine (C5.out _ b6.out).mono ?_
    rintro e w8 ⟨v, rfl, ho, hb8⟩
    obtain ⟨As, cs, rfl, g1, g2, g3⟩ := own_reads ho (S := fun _ => True) (fun _ _ => trivial)
    have HG := Lib.hid g3
    have b8 := Lib.hid (b6.out.trans (hb8.mono b6.out.size))
    have t4 := cell_later hb8 z4
    clear z4 ho g1 g2 g3 hb8 tx ty
    go_wp2
    go_loopw [83] (fun i wr => ∃ k : Nat, k ≤ C.length ∧ i = .int .i64 k ∧ wr = w8) (fun i _ => C.length - (intOf i).toNat)
    case atStart => exact ⟨0, Nat.zero_le _, rfl, rfl⟩
    case round =>
      obtain ⟨k, hk, rfl, rfl⟩ := hrel
      by_cases hlt : k < C.length
      · obtain ⟨bs, os, hAs, hbs, _, hsc⟩ := HG.out.2 (by omega)
        have s1 := hsc k _ (stV_get C k hlt)
        subst hAs
        have hi : (k : Int) < (C.length : Int) := by omega
        have hi0 : (0 : Int) ≤ (k : Int) := by omega
        have hmax := fun (x : Int) (W : World) => run_max_i64 (P := Try.prog) 2 2 2 x s W
        have hCb : (C.length : Int) ≤ 1099511627776 := by omega
        by_cases hnx : k + 1 < C.length
        · have s2 := hsc (k + 1) _ (stV_get C (k + 1) hnx)
          have hN := hNext.out k hnx
          clear hsc
          generalize C[k] = p at *
          generalize C[k + 1] = p2 at *
          obtain ⟨x1, y1⟩ := p
          obtain ⟨x2, y2⟩ := p2
          have hN1 : x1 < x2 := hN.1
          have hN2 : s < x2 := hN.2
          have e1 : decide (k + 1 < C.length) = true := by simpa using hnx
          have e2 : (k : Int) + 1 < (C.length : Int) := by omega
          clear hN hnx
          by_cases hxs : x1 < s
          · go_wp2
            go_roundw
            case rel => exact ⟨k + 1, by omega, by go_num, trivial⟩
            case measure => simp [intOf]; omega
          · go_wp2
            go_roundw
            case rel => exact ⟨k + 1, by omega, by go_num, trivial⟩
            case measure => simp [intOf]; omega
        · have e2 : (C.length : Int) ≤ (k : Int) + 1 := by omega
          have e1 : decide (k + 1 < C.length) = false := by simpa using hnx
          clear hsc hnx
          generalize C[k] = p at *
          obtain ⟨x1, y1⟩ := p
          go_wp2
          go_roundw
          case rel => exact ⟨k + 1, by omega, by go_num, trivial⟩
          case measure => simp [intOf]; omega
      · obtain rfl : k = C.length := by omega
        have t5 : wr.drew.cell? ⟨w2.heap.size, 0, none⟩ = some (.slice A2 C.length c2) := t4
        have tn : ((C.length : Int) == (C.length : Int)) = true := by simp
        have bd : Below w2.heap.size w2 wr.drew := b8.out.drew
        have BD := Lib.hid bd
        clear t4 bd
        go_wp2_with fail
        go_region_held3 (fun w' => w'.cell? ⟨w2.heap.size, 0, none⟩ = some (.slice A2 C.length c2)) (first | exact t5 | exact u5 | exact v5 | exact r5 | exact o5) (first
          | (go_at_call 24; refine (C6.out _ BD.out).mono ?_; rintro e w9 ⟨A9, n9, c9, rfl, g1, g2, g3, hb9⟩; have u5 := cell_later hb9 t5; obtain rfl : n9 = C.length := (by have := g3.1; rw [List.length_drop, hAgain.out] at this; omega); clear g1 g2 g3)
          | (go_at_call_of 25 (Value.slice A9 C.length c9); refine (len_any _ _ _ _).mono ?_; rintro e wa ⟨rfl, hba⟩; have v5 := cell_later hba u5)
          | (go_at_call_of 25 (Value.slice A2 C.length c2); refine (len_any _ _ _ _).mono ?_; rintro e wb ⟨rfl, hbb⟩; have r5 := cell_later hbb v5)
          | (go_at_call 20; refine (awake_any _).mono ?_; rintro e wc ⟨rfl, hbc⟩; have o5 := cell_later hbc r5))
        have hz : Below wr.drew.heap.size wr.drew wc := ((hb9.trans (hba.mono hb9.size)).trans (hbb.mono (Nat.le_trans hb9.size hba.size))).trans (hbc.mono (Nat.le_trans hb9.size (Nat.le_trans hba.size hbb.size)))
        have hf := FB.out wc (BD.out.trans (hz.mono BD.out.size))
        go_wp2
        go_ret
        exact ⟨rfl, hf⟩

theorem cuts_any (A : Option Addr) (n c : Nat) (acts : List (Int × Int × Bool)) (s u : Int) (w : World) (hl : Acts w (fun _ => True) A n acts) (hs : -9223372036854775808 ≤ s) (hu : 0 ≤ u ∧ u ≤ 65535) :
    Calls Try.prog 5 #[.slice A n c, .int .i64 s, .int .u16 u] w fun e w' => e = .returned (.bool true) ∧ Below w.heap.size w w' := by
  by_cases h : (80 : Int) < (n : Int)
  · exact cuts_great A n c s u w h
  · refine cuts_small A n c acts s u w hl (by omega) fun h1 => ?_
    exact late_stamp s u hs h1 hu.1 hu.2
end Go.Proofs.Ytpejhgkcofilmaa
