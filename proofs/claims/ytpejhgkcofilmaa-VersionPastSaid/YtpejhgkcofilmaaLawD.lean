/- The walk of the law VersionPast. -/
import Derived.Test.YtpejhgkcofilmaaLawC
import Derived.Deep.DeepCutAuto
set_option linter.unusedVariables false
namespace Go.Proofs.Ytpejhgkcofilmaa
open Go.RowKit

theorem run_min_i64 {P : Program} (t u v : TypeId) (x y : Int) (W : World) : Sem.run P (Builtin.min_ #[t, u] v #[.int .i64 x, .int .i64 y]) W = .ok (.int .i64 (if y < x then y else x)) W := rfl

/-- What the two cuts, in either order, and the later cut leave: their stamps. -/
def late (L : List (Int × Int)) (q : Int) : List (Int × Int) := L.drop (aft L q - 1)

set_option maxRecDepth 100000 in
set_option maxHeartbeats 1600000 in
theorem past_great (A : Option Addr) (n c : Nat) (s v t0 t1 : Int) (ct : Bool) (w : World) (h : (80 : Int) < (n : Int)) :
    Calls Try.prog 6 #[.slice A n c, .agg #[.int .i64 s, .int .i64 v, .bool ct], .agg #[.int .i64 t0, .int .i64 t1]] w fun e w' => e = .returned (.bool true) ∧ Below w.heap.size w w' := by
  go_enter Try.func6, Try.ntmps6
  go_wp2_with fail
  refine (great_any A n c _).mono ?_
  rintro e w' ⟨rfl, rfl⟩
  go_wp2_with fail
  refine (awake_any _).mono ?_
  rintro e w' ⟨rfl, hb⟩
  have hb2 : Below w.heap.size w w' := (((Below.refl w.heap.size w).alloc (Nat.le_refl _) _).alloc (by simp) _).trans (hb.mono (by simp; omega))
  go_wp2
  go_ret
  exact ⟨rfl, hb2⟩

set_option maxRecDepth 100000 in
set_option maxHeartbeats 6400000 in
theorem past_small (A : Option Addr) (n c : Nat) (acts : List (Int × Int × Bool)) (s v t0 t1 : Int) (ct : Bool) (w : World) (hl : Acts w (fun _ => True) A n acts) (h : (n : Int) ≤ 80) :
    Calls Try.prog 6 #[.slice A n c, .agg #[.int .i64 s, .int .i64 v, .bool ct], .agg #[.int .i64 t0, .int .i64 t1]] w fun e w' => e = .returned (.bool true) ∧ Below w.heap.size w w' := by
  have hl2 : Acts ((w.alloc (.cells #[.int .i64 s, .int .i64 v, .bool ct] 44)).alloc (.cells #[.int .i64 t0, .int .i64 t1] 45)) (fun _ => True) A n acts := ⟨hl.1, (hl.2.alloc _).alloc _⟩
  have C1 := Lib.hid (made_any A n c acts _ (fun _ _ => trivial) hl2 (by have := hl.1; omega))
  have hLen := play_len acts acts.length (Nat.le_refl _)
  have hAsc := play_asc acts acts.length
  rw [List.take_length] at hLen hAsc
  have hn2 : acts.length ≤ 80 := by have := hl.1; omega
  generalize play acts = L at *
  have hL : L.length ≤ 1099511627776 := by omega
  have hL3 := Lib.hid (show L.length + 1 ≤ 1099511627776 by omega)
  clear hl hl2 hLen hn2
  go_enter Try.func6, Try.ntmps6
  go_wp2_with fail
  refine (great_any A n c _).mono ?_
  rintro e w' ⟨rfl, rfl⟩
  go_wp2_with fail
  refine C1.out.mono ?_
  rintro e w1 ⟨A1, n1, c1, M, cm, rfl, h1, h2, h3, h4, h5, h6, hb1⟩
  have hn1 : n1 = L.length := h1.1
  subst hn1
  have H1 := Lib.hid h1
  have HB := Lib.hid (show Below w.heap.size w w1 from (((Below.refl w.heap.size w).alloc (Nat.le_refl _) _).alloc (by simp) _).trans (hb1.mono (by simp; omega)))
  have H3 := Lib.hid (And.intro h3 h5)
  have p1 : w1.cell? ⟨w.heap.size, 0, none⟩ = some (.int .i64 s) := cell_later hb1 (by rw [World.cell?_alloc_past _ _ _ (by simp), World.cell?_alloc_at _ _ _ _ rfl]; rfl)
  have p2 : w1.cell? ⟨w.heap.size, 1, none⟩ = some (.int .i64 v) := cell_later hb1 (by rw [World.cell?_alloc_past _ _ _ (by simp), World.cell?_alloc_at _ _ _ _ rfl]; rfl)
  have p3 : w1.cell? ⟨w.heap.size + 1, 0, none⟩ = some (.int .i64 t0) := cell_later hb1 (by rw [World.cell?_alloc_at _ _ _ _ (by simp)]; rfl)
  have p4 : w1.cell? ⟨w.heap.size + 1, 1, none⟩ = some (.int .i64 t1) := cell_later hb1 (by rw [World.cell?_alloc_at _ _ _ _ (by simp)]; rfl)
  clear h1 h2 h3 h4 h5 h6 hb1
  have P := Lib.hid fun W (hb : Below w1.heap.size w1 W) => And.intro (cell_later hb p1) (And.intro (cell_later hb p2) (And.intro (cell_later hb p3) (cell_later hb p4)))
  have C2 := Lib.hid fun W t (hb : Below w1.heap.size w1 W) => at_any A1 L.length c1 L t W (H1.out.below hb) hAsc hL
  have C3 := Lib.hid fun W (hb : Below w1.heap.size w1 W) => add_any (S := fun _ => True) A1 L.length c1 L s v W (fun _ _ => trivial) (H1.out.below hb) H3.out.1 H3.out.2 hL
  have C4 := Lib.hid fun W t (hb : Below w1.heap.size w1 W) => cut_any (S := fun _ => True) A1 L.length c1 L t W (fun _ _ => trivial) (H1.out.below hb) hAsc H3.out.1 hL
  have B1 := Lib.hid fun o => ((Below.refl w1.heap.size w1).alloc (Nat.le_refl _) o)
  have p1a := fun o => cell_alloc p1 o
  have p2a := fun o => cell_alloc p2 o
  clear p1 p2 p3 p4
  go_wp2_with fail
  refine (C3.out _ (B1.out _)).mono ?_
  rintro e w2 ⟨A2, n2, c2, rfl, g1, g2, g3, hb2⟩
  have q2 : w2.cell? ⟨w1.heap.size, 0, none⟩ = some (.slice A1 L.length c1) := cell_later hb2 (by rw [World.cell?_alloc_at _ _ _ _ rfl]; rfl)
  have b2 := Lib.hid (show Below w1.heap.size w1 w2 from below_new hb2)
  have hSee := Lib.hid fun ht => see_add L hAsc s v t0 ht
  have HA2 := Lib.hid (show Asc (addL L s v) from hAsc.add s v)
  have hL2 : (addL L s v).length ≤ 1099511627776 := by have h8 := play1_len L (s, v, false); have h9 : play1 L (s, v, false) = addL L s v := rfl; rw [h9] at h8; exact Nat.le_trans h8 hL3.out
  generalize addL L s v = N at *
  generalize addE L s = E at *
  have G3 := Lib.hid g3
  clear g1 g2 g3 hb2 p1a p2a
  have P2 := Lib.hid fun W (hb : Below w2.heap.size w2 W) => And.intro (cell_later hb q2) (P.out W (b2.out.trans (hb.mono b2.out.size)))
  have C5 := Lib.hid fun W t (hb : Below w2.heap.size w2 W) => at_any A2 n2 c2 N t W (G3.out.below hb) HA2.out hL2
  have B2 := Lib.hid fun o => ((Below.refl w2.heap.size w2).alloc (Nat.le_refl _) o)
  have q2a := fun o => cell_alloc q2 o
  have p3a := fun o => ((P2.out _ (B2.out o)).2.2.2.1)
  clear q2
  go_wp2_with fail
  refine (C2.out _ t0 (b2.out.trans ((B2.out _).mono b2.out.size))).mono ?_
  rintro e w3 ⟨rfl, hb3⟩
  have r3 : w3.cell? ⟨w2.heap.size, 0, none⟩ = some (.slice A2 n2 c2) := cell_later hb3 (by rw [World.cell?_alloc_at _ _ _ _ rfl]; rfl)
  have b3 := Lib.hid (show Below w2.heap.size w2 w3 from below_new hb3)
  have p3b := (P2.out _ b3.out).2.2.2.1
  clear q2a p3a hb3
  go_wp2_with fail
  refine (C5.out _ t0 b3.out).mono ?_
  rintro e w4 ⟨rfl, hb4⟩
  have b4 := Lib.hid (b3.out.trans (hb4.mono b3.out.size))
  obtain ⟨z0, z1, z2, z3, z4⟩ := P2.out _ b4.out
  clear r3 p3b hb4
  have Q2 := Lib.hid (show Below w1.heap.size w1 w4 from b2.out.trans (b4.out.mono b2.out.size))
  go_upto_region 9 with fail
  go_cut [74] (fun v74 wx => v74 = .bool false ∧ wx = w4)
  case first =>
    by_cases hE : E = 0
    · have te : (E != 0) = false := by simp [hE]
      have HE := Lib.hid hE
      clear hE
      by_cases ht : t0 < s
      · have hz := hSee.out (.inr ht)
        have tx : (seeV L t0 != seeV N t0) = false := by rw [hz.1]; simp
        have ty : (seeB L t0 == seeB N t0) = true := by rw [hz.2]; simp
        clear hz
        go_wp2_with fail
        go_meet
        exact ⟨rfl, rfl⟩
      · go_wp2_with fail
        go_meet
        exact ⟨rfl, rfl⟩
    · have te : (E != 0) = true := by simp [hE]
      have hz := hSee.out (.inl hE)
      have tx : (seeV L t0 != seeV N t0) = false := by rw [hz.1]; simp
      have ty : (seeB L t0 == seeB N t0) = true := by rw [hz.2]; simp
      clear hz hE
      go_wp2_with fail
      go_meet
      exact ⟨rfl, rfl⟩
  case rest =>
    obtain ⟨rfl, rfl⟩ := hcut
    obtain ⟨p, q, hpq, hmin, hmax⟩ : ∃ p q : Int, p ≤ q ∧ (∀ W : World, Sem.run Try.prog (Builtin.min_ #[2, 2] 2 #[.int .i64 t0, .int .i64 t1]) W = .ok (.int .i64 p) W) ∧ (∀ W : World, Sem.run Try.prog (Builtin.max_ #[2, 2] 2 #[.int .i64 t0, .int .i64 t1]) W = .ok (.int .i64 q) W) :=
      ⟨_, _, by split <;> split <;> omega, fun W => run_min_i64 _ _ _ _ _ W, fun W => run_max_i64 _ _ _ _ _ W⟩
    have HT := Lib.hid (cut_two L hAsc p q hpq)
    obtain ⟨D, hD⟩ : ∃ D, L.drop (aft L q - 1) = D := ⟨_, rfl⟩
    obtain ⟨F, hF⟩ : ∃ F, L.drop (aft L p - 1) = F := ⟨_, rfl⟩
    have HF := Lib.hid hF
    have HD := Lib.hid hD
    have T1 := Lib.hid (show F.drop (aft F q - 1) = D by rw [← hF, ← hD]; exact HT.out.1)
    have T2 := Lib.hid (show D.drop (aft D p - 1) = D by rw [← hD]; exact HT.out.2)
    have AF := Lib.hid (show Asc F by rw [← hF]; exact hAsc.drop)
    have AD := Lib.hid (show Asc D by rw [← hD]; exact hAsc.drop)
    have LF := Lib.hid (show F.length ≤ 1099511627776 by rw [← hF, List.length_drop]; omega)
    have LD := Lib.hid (show D.length ≤ 1099511627776 by rw [← hD, List.length_drop]; omega)
    clear hD hF hpq HT
    have z0q : ∀ k, (wc.drewN k).cell? ⟨w1.heap.size, 0, none⟩ = some (.slice A1 L.length c1) := fun _ => z0
    go_wp2_with fail
    go_quiet (fail)
    have tok1 : True := trivial
    have tok2 : True := trivial
    have tok3 : True := trivial
    have tok4 : True := trivial
    have tok5 : True := trivial
    have tok6 : True := trivial
    have tok7 : True := trivial
    have tok8 : True := trivial
    have z0d := fun k => (show (wc.drewN k).drew.cell? ⟨w1.heap.size, 0, none⟩ = some (.slice A1 L.length c1) from z0)
    have BD := Lib.hid fun k => (show Below wc.heap.size wc (wc.drewN k).drew from (below_drewN (Below.refl _ _) k).drew)
    go_wp2_with fail
    go_region_held3 (fun w' => w'.cell? ⟨w1.heap.size, 0, none⟩ = some (.slice A1 L.length c1)) (first | exact z0d _ | exact y1 | exact y2 | exact y3 | exact y4 | exact y5 | exact y6 | exact y7 | exact y8) (first
      | (have _t := tok1; go_at_call 24; refine (C4.out _ p (Q2.out.trans ((BD.out _).mono Q2.out.size))).mono ?_; rintro e v1 ⟨A3, n3, c3, rfl, g1, g2, g3, hb1⟩; rw [HF.out] at g3; have y1 := cell_later hb1 (z0d _); have d1 := (BD.out _).trans (hb1.mono (BD.out _).size); clear tok1 g2)
      | (have _t := tok2; go_at_call 24; refine (cut_any (S := fun _ => True) A3 n3 c3 F q v1 (fun _ _ => trivial) g3 AF.out g1 LF.out).mono ?_; rintro e v2 ⟨A4, n4, c4, rfl, g4, g5, g6, hb2⟩; rw [T1.out] at g6; have y2 := cell_later hb2 y1; have d2 := d1.trans (hb2.mono d1.size); clear tok2 g5 g1 g3 g4)
      | (have _t := tok3; go_at_call 26; refine (stamps_any A4 n4 c4 D v2 g6 LD.out).mono ?_; rintro e v3 ⟨s1, rfl, o1, hb3⟩; have y3 := cell_later hb3 y2; have d3 := d2.trans (hb3.mono d2.size); have l1 := g6.1; clear tok3 g6)
      | (have _t := tok4; go_at_call 24; refine (C4.out v3 q (Q2.out.trans (d3.mono Q2.out.size))).mono ?_; rintro e v4 ⟨A5, n5, c5, rfl, g7, g8, g9, hb4⟩; rw [HD.out] at g9; have y4 := cell_later hb4 y3; have d4 := d3.trans (hb4.mono d3.size); clear tok4 g8)
      | (have _t := tok5; go_at_call 24; refine (cut_any (S := fun _ => True) A5 n5 c5 D p v4 (fun _ _ => trivial) g9 AD.out g7 LD.out).mono ?_; rintro e v5 ⟨A6, n6, c6, rfl, ga, gb, gc, hb5⟩; rw [T2.out] at gc; have y5 := cell_later hb5 y4; have d5 := d4.trans (hb5.mono d4.size); clear tok5 gb ga g7 g9)
      | (have _t := tok6; go_at_call 26; refine (stamps_any A6 n6 c6 D v5 gc LD.out).mono ?_; rintro e v6 ⟨s2, rfl, o2, hb6⟩; have y6 := cell_later hb6 y5; have d6 := d5.trans (hb6.mono d5.size); have l2 := gc.1; clear tok6 gc)
      | (have _t := tok7; go_at_call 24; refine (C4.out v6 q (Q2.out.trans (d6.mono Q2.out.size))).mono ?_; rintro e v7 ⟨A7, n7, c7, rfl, gd, ge, gf, hb7⟩; rw [HD.out] at gf; have y7 := cell_later hb7 y6; have d7 := d6.trans (hb7.mono d6.size); clear tok7 ge gd)
      | (have _t := tok8; go_at_call 26; refine (stamps_any A7 n7 c7 D v7 gf LD.out).mono ?_; rintro e v8 ⟨s3, rfl, o3, hb8⟩; have y8 := cell_later hb8 y7; have d8 := d7.trans (hb8.mono d7.size); have l3 := gf.1; clear tok8 gf))
    subst l1 l2 l3
    obtain ⟨B1', cb1, rfl, _, _, r1⟩ := own_reads o1 (S := fun _ => True) (fun _ _ => trivial)
    obtain ⟨B2', cb2, rfl, _, _, r2⟩ := own_reads o2 (S := fun _ => True) (fun _ _ => trivial)
    obtain ⟨B3', cb3, rfl, _, _, r3⟩ := own_reads o3 (S := fun _ => True) (fun _ _ => trivial)
    have R1 := Lib.hid (r1.below ((hb4.trans (hb5.mono hb4.size)).trans ((hb6.mono (Nat.le_trans hb4.size hb5.size)).trans ((hb7.mono (Nat.le_trans hb4.size (Nat.le_trans hb5.size hb6.size))).trans (hb8.mono (Nat.le_trans hb4.size (Nat.le_trans hb5.size (Nat.le_trans hb6.size hb7.size))))))))
    have R2 := Lib.hid (r2.below (hb7.trans (hb8.mono hb7.size)))
    have R3 := Lib.hid r3
    have D8 := Lib.hid d8
    clear o1 o2 o3 r1 r2 r3 hb1 hb2 hb3 hb4 hb5 hb6 hb7 hb8 d1 d2 d3 d4 d5 d6 d7 d8 y1 y2 y3 y4 y5 y6 y7 y8 z0d
    go_wp2
    go_loopw [115] (fun i wr => ∃ k : Nat, k ≤ D.length ∧ i = .int .i64 k ∧ Below v8.heap.size v8 wr) (fun i _ => D.length - (intOf i).toNat)
    case atStart => exact ⟨0, Nat.zero_le _, rfl, Below.refl _ _⟩
    case round =>
      obtain ⟨k, hk, rfl, hbr⟩ := hrel
      by_cases hlt : k < D.length
      · obtain ⟨b1, o1, e1, _, _, f1⟩ := (R1.out.below hbr).2 (by omega)
        obtain ⟨b2', o2, e2, _, _, f2⟩ := (R2.out.below hbr).2 (by omega)
        obtain ⟨b3', o3, e3, _, _, f3⟩ := (R3.out.below hbr).2 (by omega)
        subst e1 e2 e3
        have c1' := f1 k _ (stV_get D k hlt)
        have c2' := f2 k _ (stV_get D k hlt)
        have c3' := f3 k _ (stV_get D k hlt)
        clear f1 f2 f3
        generalize D[k] = pp at *
        obtain ⟨x, y⟩ := pp
        have hi : (k : Int) < (D.length : Int) := by omega
        have hi0 : (0 : Int) ≤ (k : Int) := by omega
        have tx : (x != x) = false := by simp
        have hDb : (D.length : Int) ≤ 1099511627776 := by have := LD.out; omega
        go_wp2_with fail
        go_quiet (fail)
        go_wp2
        go_roundw
        case rel => exact ⟨k + 1, by omega, by go_num, below_drewN hbr _⟩
        case measure => simp [intOf]; omega
      · obtain rfl : k = D.length := by omega
        go_wp2_with fail
        refine (awake_any _).mono ?_
        rintro e v9 ⟨rfl, hb9⟩
        have hf : Below w.heap.size w v9 := HB.out.trans ((Q2.out.trans ((D8.out.trans ((hbr.trans (hb9.mono hbr.size)).mono D8.out.size)).mono Q2.out.size)).mono HB.out.size)
        go_wp2
        go_ret
        exact ⟨rfl, hf⟩

theorem past_any (A : Option Addr) (n c : Nat) (acts : List (Int × Int × Bool)) (s v t0 t1 : Int) (ct : Bool) (w : World) (hl : Acts w (fun _ => True) A n acts) :
    Calls Try.prog 6 #[.slice A n c, .agg #[.int .i64 s, .int .i64 v, .bool ct], .agg #[.int .i64 t0, .int .i64 t1]] w fun e w' => e = .returned (.bool true) ∧ Below w.heap.size w w' := by
  by_cases h : (80 : Int) < (n : Int)
  · exact past_great A n c s v t0 t1 ct w h
  · exact past_small A n c acts s v t0 t1 ct w hl (by omega)
end Go.Proofs.Ytpejhgkcofilmaa
