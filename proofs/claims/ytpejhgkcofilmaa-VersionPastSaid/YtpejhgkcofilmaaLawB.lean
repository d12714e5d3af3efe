/- The walk of the law VersionRebuild. -/
import Derived.Test.YtpejhgkcofilmaaLawA
set_option linter.unusedVariables false
namespace Go.Proofs.Ytpejhgkcofilmaa
open Go.RowKit

theorem cell_alloc {w : World} {a : Addr} {v : Value} (h : w.cell? a = some v) (o : Obj) : (w.alloc o).cell? a = some v :=
  (World.cell?_alloc_lt w o a (World.block_lt_of_cell? w a h)).trans h

theorem play1_pos (l : List (Int × Int)) (a : Int × Int × Bool) (h : ∀ p ∈ l, 0 ≤ p.1) : ∀ p ∈ play1 l a, 0 ≤ p.1 := by
  unfold play1
  split
  · exact fun p hp => h p (List.mem_of_mem_drop hp)
  · unfold addL
    split
    · rename_i h0
      intro p hp
      rw [List.mem_append] at hp
      rcases hp with hp | hp
      · exact h p hp
      · simp only [List.mem_singleton] at hp
        subst hp
        show 0 ≤ a.1
        unfold addE at h0
        split at h0
        · cases h0
        · omega
    · exact h
theorem play_pos (acts : List (Int × Int × Bool)) : ∀ p ∈ play acts, 0 ≤ p.1 := by
  have h : ∀ (l : List (Int × Int)), (∀ p ∈ l, 0 ≤ p.1) → ∀ p ∈ acts.foldl play1 l, 0 ≤ p.1 := by
    induction acts with
    | nil => exact fun l h => h
    | cons a t ih => exact fun l h => ih _ (play1_pos l a h)
  exact h [] (by simp)
theorem lastP_snoc (l : List (Int × Int)) (p : Int × Int) : lastP (l ++ [p]) = p := by simp [lastP]
theorem add_next (L : List (Int × Int)) (ha : Asc L) (hp : ∀ p ∈ L, 0 ≤ p.1) (k : Nat) (hk : k < L.length) (hL : L.length ≤ 1024) :
    addE (L.take k) L[k].1 = 0 ∧ addL (L.take k) L[k].1 L[k].2 = L.take (k + 1) ∧ addE (L.take (k + 1)) L[k].1 = 12 := by
  have h0 : ¬ L[k].1 < 0 := by have := hp _ (List.getElem_mem hk); omega
  have e1 : addE (L.take k) L[k].1 = 0 := by
    unfold addE
    rw [if_neg h0, if_neg, if_neg (by simp; omega)]
    rintro ⟨h1, h2⟩
    rcases Nat.eq_zero_or_pos k with rfl | hk0
    · simp at h1
    · obtain ⟨m, hm⟩ : ∃ m, k = m + 1 := ⟨k - 1, by omega⟩
      obtain ⟨hml, hP⟩ := lastP_get (L.take k) m (by simp; omega)
      rw [hP, List.getElem_take] at h2
      have := List.pairwise_iff_getElem.1 ha m k (by omega) hk (by omega)
      omega
  refine ⟨e1, ?_, ?_⟩
  · unfold addL
    rw [if_pos e1, List.take_succ_eq_append_getElem hk]
  · unfold addE
    rw [if_neg h0, if_pos]
    rw [List.take_succ_eq_append_getElem hk, lastP_snoc]
    exact ⟨isEmpty_no _ (by simp; omega), Int.le_refl _⟩

/-- A world in which variables lie at blocks w.heap.size (which holds X) and w.heap.size + 1 (which holds the list L). -/
structure Rb (w : World) (S : Nat → Prop) (L : List (Int × Int)) (X : Value) (A : Option Addr) (n c : Nat) (wr : World) : Prop where
  box : wr.heap[w.heap.size + 1]? = some (.cells #[.slice A n c] 27 (0, 0))
  res : wr.heap[w.heap.size]? = some (.cells #[X] 27 (0, 0))
  list : Ones wr (Off S w.heap.size (w.heap.size + 2)) A n L
  hc : n ≤ c
  hA : A = none → c = 0
  below : Below w.heap.size w wr
theorem Rb.lt {w wr : World} {S L X A n c} (h : Rb w S L X A n c wr) : w.heap.size + 2 ≤ wr.heap.size := lt_of_block h.box
theorem Rb.later {w wr w' : World} {S L X A n c} (h : Rb w S L X A n c wr) (hb : Below wr.heap.size wr w') : Rb w S L X A n c w' where
  box := (hb.block _ (by have := h.lt; omega)).trans h.box
  res := (hb.block _ (by have := h.lt; omega)).trans h.res
  list := h.list.below hb
  hc := h.hc
  hA := h.hA
  below := h.below.trans (hb.mono (by have := h.lt; omega))
theorem Rb.set {w wr w' : World} {S L L' X A n c A' n' c'} (h : Rb w S L X A n c wr) (hb : Below wr.heap.size wr w') (h1 : Ones w' (Off S w.heap.size (w.heap.size + 2)) A' n' L')
    (h3 : n' ≤ c') (h5 : A' = none → c' = 0) : Rb w S L' X A' n' c' (w'.setCell ⟨w.heap.size + 1, 0, none⟩ (.slice A' n' c')) where
  box := one_setCell ((h.later hb).box)
  res := (Below.heap_setCell _ _ _ _ (by simp)).trans (h.later hb).res
  list := h1.setCell (off_not (by simp) (by simp)) _
  hc := h3
  hA := h5
  below := (h.later hb).below.setCell (by simp) _

/-- The relation of the loop in VersionRebuild. -/
def RbRel (w : World) (L : List (Int × Int)) (X : Value) (As : Option Addr) (i : Value) (wr : World) : Prop :=
  ∃ (k : Nat) (A : Option Addr) (n c : Nat), k ≤ L.length ∧ i = .int .i64 k ∧ Rb w (fun _ => True) (L.take k) X A n c wr ∧ Reads wr (fun b => w.heap.size + 2 ≤ b) 1 As L.length (stV L)

set_option maxRecDepth 100000 in
set_option maxHeartbeats 6400000 in
theorem rebuild_any (A : Option Addr) (n c : Nat) (acts : List (Int × Int × Bool)) (s : Int) (w : World) (hl : Acts w (fun _ => True) A n acts) :
    Calls Try.prog 8 #[.slice A n c, .int .i64 s] w fun e w' => e = .returned (.bool true) ∧ Below w.heap.size w w' := by
  by_cases h : (80 : Int) < (n : Int)
  · clear hl
    go_enter Try.func8, Try.ntmps8
    go_wp2_with fail
    refine (great_any A n c w).mono ?_
    rintro e w' ⟨rfl, rfl⟩
    go_wp2_with fail
    refine (awake_any w).mono ?_
    rintro e w' ⟨rfl, hb⟩
    go_wp2
    go_ret
    exact ⟨rfl, hb⟩
  · have h' : (n : Int) ≤ 80 := by omega
    have C1 := Lib.hid (made_any A n c acts w (fun _ _ => trivial) hl (by have := hl.1; omega))
    have hLen := play_len acts acts.length (Nat.le_refl _)
    have hAsc := play_asc acts acts.length
    have hPos := play_pos acts
    rw [List.take_length] at hLen hAsc
    have hn2 : acts.length ≤ 80 := by have := hl.1; omega
    generalize play acts = L at *
    have hL : L.length ≤ 1099511627776 := by omega
    have hL2 : L.length ≤ 1024 := by omega
    clear hl h hLen hn2
    go_enter Try.func8, Try.ntmps8
    go_wp2_with fail
    refine (great_any A n c w).mono ?_
    rintro e w' ⟨rfl, rfl⟩
    go_wp2_with fail
    refine C1.out.mono ?_
    rintro e w1 ⟨A1, n1, c1, M, cm, rfl, h1, h2, h3, h4, h5, h6, hb1⟩
    have hn1 : n1 = L.length := h1.1
    subst hn1
    have H1 := Lib.hid h1
    have HB := Lib.hid hb1
    clear h1 h2 h3 h4 h5 h6 hb1
    have C2 := Lib.hid fun W t (hb : Below w1.heap.size w1 W) => at_any A1 L.length c1 L t W (H1.out.below hb) hAsc hL
    have C3 := Lib.hid fun W (hb : Below w1.heap.size w1 W) => stamps_any A1 L.length c1 L W (H1.out.below hb) hL
    have RB : Rb w1 (fun _ => True) (L.take 0) (.slice A1 L.length c1) none 0 0 ((w1.alloc (.cells #[.slice A1 L.length c1] 27)).alloc (.cells #[.slice none 0 0] 27)) := by
      refine ⟨heap_alloc_at _ _ _ (by simp), (Below.heap_alloc _ _ _ (by simp)).trans (heap_alloc_at _ _ _ rfl), ⟨rfl, ?_⟩, Nat.le_refl _, fun _ => rfl, ((Below.refl _ _).alloc (Nat.le_refl _) _).alloc (by simp) _⟩
      simpa [flat] using Reads.none_
    have HRB := Lib.hid RB
    clear RB
    go_wp2_with fail
    refine (C3.out _ HRB.out.below).mono ?_
    rintro e w2 ⟨v, rfl, ho, hb2⟩
    obtain ⟨As, cs, rfl, g1, g2, g3⟩ := own_reads ho (S := fun b => w1.heap.size + 2 ≤ b) (fun b hb => by simp at hb; omega)
    have R2 := Lib.hid (HRB.out.later hb2)
    have HG := Lib.hid g3
    clear ho g1 g2 g3 hb2
    go_wp2
    go_loopw [33] (fun i wr => RbRel w1 L (.slice A1 L.length c1) As i wr) (fun i _ => L.length - (intOf i).toNat)
    case atStart => exact ⟨0, none, 0, 0, Nat.zero_le _, rfl, R2.out, HG.out⟩
    case round =>
      obtain ⟨k, Ak, nk, ck, hk, rfl, rb, hs⟩ := hrel
      by_cases hlt : k < L.length
      · have hx := see_self L hAsc k hlt
        have hy := add_next L hAsc hPos k hlt hL2
        obtain ⟨bs, os, hAs, hbs, _, hsc⟩ := hs.2 (by omega)
        have s1 := hsc k _ (stV_get L k hlt)
        have C4 := C2.out wr L[k].1 rb.below
        rw [hx.1, hx.2] at C4
        have HC4 := Lib.hid C4
        have HX := Lib.hid hy
        clear C4 hx hy hsc
        have HS := Lib.hid hs
        clear hs
        subst hAs
        generalize L[k] = p at *
        obtain ⟨x, y⟩ := p
        have q1 := cell_of_one rb.res
        have RBK := Lib.hid rb
        clear rb
        have hi : (k : Int) < (L.length : Int) := by omega
        have hi0 : (0 : Int) ≤ (k : Int) := by omega
        go_wp2_with fail
        refine HC4.out.mono ?_
        rintro e w3 ⟨rfl, hb3⟩
        have q2 := cell_of_one (RBK.out.later hb3).box
        have R3 := Lib.hid (RBK.out.later hb3)
        have S3 := Lib.hid (HS.out.below hb3)
        clear q1 s1 hb3 HC4
        have C5 := add_any (S := Off (fun _ => True) w1.heap.size (w1.heap.size + 2)) Ak nk ck (L.take k) x y w3 (off_new (fun _ _ => trivial) (by omega) R3.out.lt) R3.out.list R3.out.hc R3.out.hA (by simp; omega)
        rw [HX.out.1, HX.out.2.1] at C5
        have HC5 := Lib.hid C5
        clear C5
        go_wp2_with fail
        refine HC5.out.mono ?_
        rintro e w4 ⟨A4, n4, c4, rfl, g1, g2, g3, hb4⟩
        have G4 := Lib.hid (And.intro g1 (And.intro g2 g3))
        have R4 := Lib.hid (R3.out.later hb4)
        have S4 := Lib.hid (S3.out.below hb4)
        clear g1 g2 g3 q2 HC5
        have B4 := Lib.hid fun o => ((Below.refl w4.heap.size w4).alloc (Nat.le_refl _) o)
        have HB4 := Lib.hid hb4
        clear hb4
        have C6 := fun W (hb : Below w4.heap.size w4 W) => add_any (S := fun _ => True) A4 n4 c4 (L.take (k + 1)) x y W (fun _ _ => trivial) ⟨(G4.out.2.2.below hb).1, (G4.out.2.2.below hb).2.any⟩ G4.out.1 G4.out.2.1 (by simp; omega)
        have HC6 := Lib.hid C6
        clear C6
        go_wp2_with fail
        refine (HC6.out _ (B4.out _)).mono ?_
        rintro e w5 ⟨A5, n5, c5, rfl, _, _, _, hb5⟩
        rw [HX.out.2.2]
        have r1 : w5.cell? ⟨w4.heap.size, 0, none⟩ = some (.slice A4 n4 c4) := cell_later hb5 (by rw [World.cell?_alloc_at _ _ _ _ rfl]; rfl)
        have hb45 : Below w4.heap.size w4 w5 := below_new hb5
        have R5 := Lib.hid (R4.out.later hb45)
        have S5 := Lib.hid (S4.out.below hb45)
        have L5 := Lib.hid (G4.out.2.2.below hb45)
        have B5 := Lib.hid fun o => ((Below.refl w5.heap.size w5).alloc (Nat.le_refl _) o)
        have rr : ∀ o, (w5.alloc o).cell? ⟨w4.heap.size, 0, none⟩ = some (.slice A4 n4 c4) := fun o => cell_alloc r1 o
        have rb1 : ∀ o, (w5.alloc o).cell? ⟨w1.heap.size + 1, 0, none⟩ = some (.slice Ak nk ck) := fun o => cell_alloc (cell_of_one R5.out.box) o
        have rb2 : ∀ o, (w5.alloc o).frozen? ⟨w1.heap.size + 1, 0, none⟩ = false := fun o => free_of_one (R5.out.later (B5.out o)).box
        have FIN := Lib.hid fun o => R5.out.set (B5.out o) (L5.out.below (B5.out o)) G4.out.1 G4.out.2.1
        have FIN2 := Lib.hid fun o => (S5.out.below (B5.out o)).setCell (p := ⟨w1.heap.size + 1, 0, none⟩) (by simp) (.slice A4 n4 c4)
        clear r1 hb5 hb45 HC6
        go_wp2
        go_roundw
        case rel => exact ⟨k + 1, A4, n4, c4, by omega, by go_num, FIN.out _, FIN2.out _⟩
        case measure => simp [intOf]; omega
      · obtain rfl : k = L.length := by omega
        rw [List.take_length] at rb
        have q1 := cell_of_one rb.res
        have RBK := Lib.hid rb
        have hnk : nk = L.length := rb.list.1
        clear rb hs
        subst hnk
        have C4 := Lib.hid (C2.out wr s RBK.out.below)
        go_wp2_with fail
        refine C4.out.mono ?_
        rintro e w3 ⟨rfl, hb3⟩
        have R3 := Lib.hid (RBK.out.later hb3)
        have q2 := cell_of_one R3.out.box
        clear q1 hb3
        have C5 := Lib.hid (at_any Ak L.length ck L s w3 R3.out.list hAsc hL)
        go_wp2_with fail
        refine C5.out.mono ?_
        rintro e w4 ⟨rfl, hb4⟩
        have R4 := Lib.hid (R3.out.later hb4)
        clear q2 hb4
        have q3 := cell_of_one R4.out.box
        have q4 := cell_of_one R4.out.res
        generalize seeV L s = x at *
        generalize seeB L s = y at *
        have tx : (x == x) = true := by simp
        have ty : (y == y) = true := by simp
        have b0 : Below w4.heap.size w4 w4.drew := (Below.refl _ _).drew
        have q5 : w4.drew.cell? ⟨w1.heap.size + 1, 0, none⟩ = some (.slice Ak L.length ck) := q3
        have q6 : w4.drew.cell? ⟨w1.heap.size, 0, none⟩ = some (.slice A1 L.length c1) := q4
        go_wp2_with fail
        go_region_held3 (fun w' => w'.cell? ⟨w1.heap.size + 1, 0, none⟩ = some (.slice Ak L.length ck) ∧ w'.cell? ⟨w1.heap.size, 0, none⟩ = some (.slice A1 L.length c1)) (first | exact ⟨q5, q6⟩ | exact ⟨j5, j6⟩ | exact ⟨m5, m6⟩ | exact ⟨n5, n6⟩) (first
          | (go_at_call_of 25 (Value.slice Ak L.length ck); refine (len_any _ _ _ _).mono ?_; rintro e w5 ⟨rfl, hb5⟩; have j5 := cell_later hb5 q5; have j6 := cell_later hb5 q6)
          | (go_at_call_of 25 (Value.slice A1 L.length c1); refine (len_any _ _ _ _).mono ?_; rintro e w6 ⟨rfl, hb6⟩; have m5 := cell_later hb6 j5; have m6 := cell_later hb6 j6)
          | (go_at_call 20; refine (awake_any _).mono ?_; rintro e w7 ⟨rfl, hb7⟩; have n5 := cell_later hb7 m5; have n6 := cell_later hb7 m6))
        have hz : Below w1.heap.size w1 w4 := R4.out.below
        have hf : Below w.heap.size w w7 := HB.out.trans ((hz.trans (((b0.trans (hb5.mono (Nat.le_refl _))).trans ((hb6.mono hb5.size).trans (hb7.mono (Nat.le_trans hb5.size hb6.size)))).mono hz.size)).mono HB.out.size)
        go_wp2
        go_ret
        exact ⟨rfl, hf⟩
end Go.Proofs.Ytpejhgkcofilmaa
