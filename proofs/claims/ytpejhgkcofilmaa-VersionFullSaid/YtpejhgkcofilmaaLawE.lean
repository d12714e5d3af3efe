/- The walk of the law VersionFull. -/
import Derived.Test.YtpejhgkcofilmaaLawC
set_option linter.unusedVariables false
namespace Go.Proofs.Ytpejhgkcofilmaa
open Go.RowKit

/-- The first j versions that the law adds: stamps 1, 2, .. with the values -1, -2, .. -/
def FL (j : Nat) : List (Int × Int) := (List.range j).map fun (i : Nat) => ((i : Int) + 1, -((i : Int) + 1))
theorem FL_length (j : Nat) : (FL j).length = j := by simp [FL]
theorem FL_get (j i : Nat) (h : i < (FL j).length) : (FL j)[i] = ((i : Int) + 1, -((i : Int) + 1)) := by simp [FL]
theorem FL_asc (j : Nat) : Asc (FL j) := by
  unfold Asc
  rw [List.pairwise_iff_getElem]
  intro a b ha hb hab
  rw [FL_get, FL_get]
  show (a : Int) + 1 < (b : Int) + 1
  omega
theorem FL_succ (j : Nat) : FL (j + 1) = FL j ++ [((j : Int) + 1, -((j : Int) + 1))] := by simp [FL, List.range_succ]
theorem FL_last (j : Nat) : (lastP (FL (j + 1))) = ((j : Int) + 1, -((j : Int) + 1)) := by rw [FL_succ, lastP_snoc]
/-- Adding number j + 1 to the first j, below the limit. -/
theorem FL_add (j : Nat) (h : j < 1024) : addE (FL j) ((j : Int) + 1) = 0 ∧ addL (FL j) ((j : Int) + 1) (-((j : Int) + 1)) = FL (j + 1) := by
  have e : addE (FL j) ((j : Int) + 1) = 0 := by
    unfold addE
    rw [if_neg (by omega), if_neg, if_neg (by rw [FL_length]; omega)]
    rintro ⟨h1, h2⟩
    rcases j with _ | m
    · simp [FL] at h1
    · rw [FL_last] at h2
      simp at h2
      omega
  exact ⟨e, by unfold addL; rw [if_pos e, FL_succ]⟩
/-- At the limit nothing is added. -/
theorem FL_full (s v : Int) (h : 1024 < s) : addE (FL 1024) s = 9 ∧ addL (FL 1024) s v = FL 1024 := by
  have e : addE (FL 1024) s = 9 := by
    unfold addE
    rw [if_neg (by omega), if_neg, if_pos (by rw [FL_length]; exact Nat.le_refl _)]
    rintro ⟨_, h2⟩
    have := FL_last 1023
    rw [this] at h2
    simp at h2
    omega
  exact ⟨e, by unfold addL; rw [e]; rfl⟩
theorem FL_aft (j : Nat) (s : Int) (hj : (j : Int) ≤ s) : aft (FL j) s = j := by
  have h1 := aft_le (FL j) s
  rw [FL_length] at h1
  rcases Nat.lt_or_ge (aft (FL j) s) j with h | h
  · have hk : aft (FL j) s < (FL j).length := by rw [FL_length]; exact h
    have := (aft_iff (FL j) s (FL_asc j) _ hk).2 (Nat.le_refl _)
    rw [FL_get] at this
    simp at this
    omega
  · omega
theorem FL_mid (j : Nat) (s : Nat) (hj : s ≤ j) : aft (FL j) (s : Int) = s := by
  have h1 := aft_le (FL j) (s : Int)
  rw [FL_length] at h1
  rcases Nat.lt_trichotomy (aft (FL j) (s : Int)) s with h | h | h
  · have hk : aft (FL j) (s : Int) < (FL j).length := by rw [FL_length]; omega
    have := (aft_iff (FL j) s (FL_asc j) _ hk).2 (Nat.le_refl _)
    rw [FL_get] at this
    simp at this
    omega
  · exact h
  · have hk : s < (FL j).length := by rw [FL_length]; omega
    have := (aft_pos (FL j) s (FL_asc j) s hk).2 h
    rw [FL_get] at this
    simp at this
    omega
/-- Behind the cut at 500 there is room. -/
theorem FL_room (j : Nat) (h1 : 1000 ≤ j) (h2 : j ≤ 1024) (s v : Int) (hs : 1024 < s) : addE ((FL j).drop 499) s = 0 := by
  unfold addE
  rw [if_neg (by omega), if_neg, if_neg (by rw [List.length_drop, FL_length]; omega)]
  rintro ⟨_, h⟩
  obtain ⟨m, hm⟩ : ∃ m, j = m + 1 := ⟨j - 1, by omega⟩
  have hl : ((FL j).drop 499).length = (m - 499) + 1 := by rw [List.length_drop, FL_length]; omega
  obtain ⟨hk, hP⟩ := lastP_get _ _ hl
  rw [hP, List.getElem_drop, FL_get] at h
  simp at h
  omega
theorem FL_see (j : Nat) (h : 0 < j) (s : Int) (hs : (j : Int) ≤ s) : seeV (FL j) s = -(j : Int) ∧ seeB (FL j) s = true := by
  have e := FL_aft j s hs
  obtain ⟨m, rfl⟩ : ∃ m, j = m + 1 := ⟨j - 1, by omega⟩
  have hm : m < (FL (m + 1)).length := by rw [FL_length]; omega
  have := see_some (FL (m + 1)) s m e hm
  rw [FL_get] at this
  exact ⟨by rw [this.1]; simp, this.2⟩

/-- A variable of the list's type lies at block w.heap.size. -/
structure Ob (w : World) (S : Nat → Prop) (L : List (Int × Int)) (A : Option Addr) (n c : Nat) (wr : World) : Prop where
  box : wr.heap[w.heap.size]? = some (.cells #[.slice A n c] 27 (0, 0))
  list : Ones wr (Off S w.heap.size (w.heap.size + 1)) A n L
  hc : n ≤ c
  hA : A = none → c = 0
  below : Below w.heap.size w wr
theorem Ob.lt {w wr : World} {S L A n c} (h : Ob w S L A n c wr) : w.heap.size + 1 ≤ wr.heap.size := lt_of_block h.box
theorem Ob.later {w wr w' : World} {S L A n c} (h : Ob w S L A n c wr) (hb : Below wr.heap.size wr w') : Ob w S L A n c w' where
  box := (hb.block _ (by have := h.lt; omega)).trans h.box
  list := h.list.below hb
  hc := h.hc
  hA := h.hA
  below := h.below.trans (hb.mono (by have := h.lt; omega))
theorem Ob.set {w wr w' : World} {S L L' A n c A' n' c'} (h : Ob w S L A n c wr) (hb : Below wr.heap.size wr w') (h1 : Ones w' (Off S w.heap.size (w.heap.size + 1)) A' n' L')
    (h3 : n' ≤ c') (h5 : A' = none → c' = 0) : Ob w S L' A' n' c' (w'.setCell ⟨w.heap.size, 0, none⟩ (.slice A' n' c')) where
  box := one_setCell ((h.later hb).box)
  list := h1.setCell (off_not (by simp) (by simp)) _
  hc := h3
  hA := h5
  below := (h.later hb).below.setCell (by simp) _

/-- The relation of the loop in VersionFull. -/
def FuRel (w : World) (N : Nat) (i : Value) (wr : World) : Prop :=
  ∃ (k : Nat) (A : Option Addr) (n c : Nat), k ≤ N ∧ i = .int .i64 ((k : Int) + 1) ∧ Ob w (fun _ => True) (FL (min k 1024)) A n c wr

set_option maxRecDepth 100000 in
set_option maxHeartbeats 6400000 in
theorem full_at (m : Int) (N : Nat) (w : World) (h0 : 0 ≤ m) (h1 : m ≤ 255) (hN : (N : Int) = 1020 + m % 8) :
    Calls Try.prog 7 #[.int .u8 m] w fun e w' => e = .returned (.bool true) ∧ Below w.heap.size w w' := by
  have hN2 : N ≤ 1027 := by omega
  have hN3 : 1020 ≤ N := by omega
  have HN := Lib.hid hN
  clear hN
  go_enter Try.func7, Try.ntmps7
  go_wp2
  have C1 := Lib.hid fun (W : World) (A : Option Addr) (n c k : Nat) (hk : k ≤ 1027) (ob : Ob w (fun _ => True) (FL (min k 1024)) A n c W) =>
    add_any (S := Off (fun _ => True) w.heap.size (w.heap.size + 1)) A n c (FL (min k 1024)) ((k : Int) + 1) (-((k : Int) + 1)) W (off_new (fun _ _ => trivial) (by omega) ob.lt) ob.list ob.hc ob.hA (by rw [FL_length]; omega)
  go_loopw [5] (fun i wr => FuRel w N i wr) (fun i _ => N + 1 - (intOf i).toNat)
  case atStart =>
    refine ⟨0, none, 0, 0, Nat.zero_le _, rfl, ⟨heap_alloc_at _ _ _ rfl, ⟨rfl, ?_⟩, Nat.le_refl _, fun _ => rfl, (Below.refl _ _).alloc (Nat.le_refl _) _⟩⟩
    simpa [flat, FL] using Reads.none_
  case round =>
    obtain ⟨k, A, n, c, hk, rfl, ob⟩ := hrel
    by_cases hlt : k < N
    · have t1 : (k : Int) + 1 ≤ 1020 + m % 8 := by have := HN.out; omega
      have C2 := C1.out wr A n c k (by omega) ob
      have q1 := cell_of_one ob.box
      have OB := Lib.hid ob
      clear ob
      by_cases hk2 : k < 1024
      · have hm : min k 1024 = k := by omega
        have hm2 : min (k + 1) 1024 = k + 1 := by omega
        rw [hm, (FL_add k hk2).1, (FL_add k hk2).2] at C2
        have HC := Lib.hid C2
        have HM := Lib.hid hm2
        have g1 : (k : Int) + 1 ≤ 1024 := by omega
        clear C2 hm hm2 hk2
        go_wp2_with fail
        refine HC.out.mono ?_
        rintro e w1 ⟨A1, n1, c1, rfl, h1, h2, h3, hb1⟩
        have O1 := Lib.hid (OB.out.later hb1)
        have HB1 := Lib.hid fun o => (show Below wr.heap.size wr (w1.alloc o) from hb1.alloc hb1.size o)
        have q2a := fun o => cell_of_one (OB.out.later (HB1.out o)).box
        have q3a := fun o => free_of_one (OB.out.later (HB1.out o)).box
        have FIN := Lib.hid fun o => OB.out.set (HB1.out o) (h3.alloc o) h1 h2
        clear q1 hb1 h1 h2 h3
        go_wp2
        go_roundw
        case rel => exact ⟨k + 1, A1, n1, c1, by omega, by go_num, by rw [HM.out]; exact FIN.out _⟩
        case measure => simp [intOf]; omega
      · have hm : min k 1024 = 1024 := by omega
        have hm2 : min (k + 1) 1024 = 1024 := by omega
        have hff := FL_full ((k : Int) + 1) (-((k : Int) + 1)) (by omega)
        rw [hm, hff.1, hff.2] at C2
        clear hff
        have HC := Lib.hid C2
        have HM := Lib.hid hm2
        have g1 : (1024 : Int) < (k : Int) + 1 := by omega
        clear C2 hm hm2 hk2
        go_wp2_with fail
        refine HC.out.mono ?_
        rintro e w1 ⟨A1, n1, c1, rfl, h1, h2, h3, hb1⟩
        have O1 := Lib.hid (OB.out.later hb1)
        have HB1 := Lib.hid fun o => (show Below wr.heap.size wr (w1.alloc o) from hb1.alloc hb1.size o)
        have q2a := fun o => cell_of_one (OB.out.later (HB1.out o)).box
        have q3a := fun o => free_of_one (OB.out.later (HB1.out o)).box
        have FIN := Lib.hid fun o => OB.out.set (HB1.out o) (h3.alloc o) h1 h2
        clear q1 hb1 h1 h2 h3
        go_wp2
        go_roundw
        case rel => exact ⟨k + 1, A1, n1, c1, by omega, by go_num, by rw [HM.out]; exact FIN.out _⟩
        case measure => simp [intOf]; omega
    · obtain rfl : k = N := by omega
      have t1 : 1020 + m % 8 < (k : Int) + 1 := by have := HN.out; omega
      have q1 := cell_of_one ob.box
      obtain ⟨j, hj⟩ : ∃ j, min k 1024 = j := ⟨_, rfl⟩
      rw [hj] at ob
      have hj1 : 1000 ≤ j := by omega
      have hj2 : j ≤ 1024 := by omega
      have OB := Lib.hid ob
      have HJ := Lib.hid hj
      clear ob hj
      have C3 := Lib.hid (show Calls Try.prog _ _ _ _ by
        have h := cut_any (S := fun _ => True) A n c (FL j) 500 wr (fun _ _ => trivial) ⟨OB.out.list.1, OB.out.list.2.any⟩ (FL_asc j) OB.out.hc (by rw [FL_length]; omega)
        have e5 : aft (FL j) 500 = 500 := by have := FL_mid j 500 (by omega); simpa using this
        rw [e5] at h
        exact h)
      have hmin := fun W : World => (show Sem.run Try.prog (Builtin.min_ #[3, 3] 3 #[.int .i64 (1020 + m % 8), .int .i64 1024]) W = .ok (.int .i64 j) W by
        have h : (if (1024 : Int) < 1020 + m % 8 then (1024 : Int) else 1020 + m % 8) = j := by have := HN.out; have := HJ.out; split <;> omega
        rw [← h]; rfl)
      have hjI : (j : Int) ≤ 1024 := by omega
      have hjI0 : (0 : Int) ≤ (j : Int) := by omega
      have hee : (-(j : Int) == -(j : Int)) = true := by simp
      have HJ12 := Lib.hid (And.intro hj1 hj2)
      clear hj1 hj2 hlt hk
      go_wp2_with fail
      refine C3.out.mono ?_
      rintro e w1 ⟨A1, n1, c1, rfl, h1, h2, h3, hb1⟩
      have C4 := Lib.hid (show Calls Try.prog _ _ _ _ by
        have h := add_any (S := fun _ => True) A1 n1 c1 ((FL j).drop 499) 1099511627776 7 w1 (fun _ _ => trivial) h3 h1 h2 (by rw [List.length_drop, FL_length]; have := HJ12.out.2; omega)
        rw [FL_room j HJ12.out.1 HJ12.out.2 _ 7 (by omega)] at h
        exact h)
      have HB1 := Lib.hid hb1
      clear h1 h2 h3 hb1 q1
      go_wp2_with fail
      refine C4.out.mono ?_
      rintro e w2 ⟨A2, n2, c2, rfl, h1, h2, h3, hb2⟩
      have b2 := Lib.hid (HB1.out.trans (hb2.mono HB1.out.size))
      have q2a := fun o => cell_of_one (OB.out.later (b2.out.alloc b2.out.size o)).box
      have C5 := Lib.hid fun o => (show Calls Try.prog _ _ _ _ by
        have h := at_any A n c (FL j) 1125899906842624 (w2.alloc o) (OB.out.later (b2.out.alloc b2.out.size o)).list (FL_asc j) (by rw [FL_length]; have := HJ12.out.2; omega)
        rw [(FL_see j (by have := HJ12.out.1; omega) 1125899906842624 (by have := HJ12.out.2; omega)).1, (FL_see j (by have := HJ12.out.1; omega) 1125899906842624 (by have := HJ12.out.2; omega)).2] at h
        exact h)
      clear h1 h2 h3 hb2
      go_wp2_with fail
      refine (C5.out _).mono ?_
      rintro e w3 ⟨rfl, hb3⟩
      have b3 := Lib.hid ((b2.out.alloc b2.out.size _).trans (hb3.mono (by have := b2.out.size; simp; omega)))
      clear q2a hb3
      go_wp2_with fail
      refine (awake_any _).mono ?_
      rintro e w4 ⟨rfl, hb4⟩
      have hf : Below w.heap.size w w4 := OB.out.below.trans ((b3.out.trans (hb4.mono b3.out.size)).mono OB.out.below.size)
      go_wp2
      go_ret
      exact ⟨rfl, hf⟩

theorem full_any (m : Int) (w : World) (h : 0 ≤ m ∧ m ≤ 255) :
    Calls Try.prog 7 #[.int .u8 m] w fun e w' => e = .returned (.bool true) ∧ Below w.heap.size w w' :=
  full_at m (1020 + m % 8).toNat w h.1 h.2 (by omega)
end Go.Proofs.Ytpejhgkcofilmaa
