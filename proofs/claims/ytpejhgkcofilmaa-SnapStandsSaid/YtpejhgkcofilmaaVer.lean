/- The walks of package version and of sort.Search, slices.Clip, slices.Clone: what each call returns. Conditions: the lists' stamps ascend; at most 2^40 versions. -/
import Derived.Test.YtpejhgkcofilmaaBase
import Derived.Test.YtpejhgkcofilmaaProg
set_option linter.unusedVariables false
namespace Go.Proofs.Ytpejhgkcofilmaa
open Go.RowKit

/-- The cells of a list of versions. -/
def flat (l : List (Int × Int)) : List Value := l.flatMap fun p => [.int .i64 p.1, .int .i64 p.2]
theorem flat_length (l : List (Int × Int)) : (flat l).length = l.length * 2 := by
  induction l with
  | nil => rfl
  | cons a t ih => simp only [flat, List.flatMap_cons, List.length_append, List.length_cons, List.length_nil] at *; omega
theorem flat_get (l : List (Int × Int)) (i : Nat) (h : i < l.length) : (flat l)[2 * i]? = some (.int .i64 l[i].1) ∧ (flat l)[2 * i + 1]? = some (.int .i64 l[i].2) := by
  induction l generalizing i with
  | nil => simp at h
  | cons a t ih =>
    cases i with
    | zero => simp [flat]
    | succ k =>
      have := ih k (by simpa using h)
      simpa [flat, Nat.mul_add] using this

/-- The slice (A, n) holds the versions l, in a block that meets S. -/
def Ones (w : World) (S : Nat → Prop) (A : Option Addr) (n : Nat) (l : List (Int × Int)) : Prop := n = l.length ∧ Reads w S 2 A n (flat l)
theorem Ones.cell {w : World} {S : Nat → Prop} {n : Nat} {A : Option Addr} {l : List (Int × Int)} (h : Ones w S A n l) (i : Nat) (hi : i < l.length) :
    ∃ b o, A = some ⟨b, o, none⟩ ∧ b < w.heap.size ∧ w.cell? ⟨b, o + i * 2, none⟩ = some (.int .i64 l[i].1) ∧ w.cell? ⟨b, o + i * 2 + 1, none⟩ = some (.int .i64 l[i].2) := by
  obtain ⟨rfl, h1, h2⟩ := h
  obtain ⟨b, o, e, hb, _, hc⟩ := h2 (by omega)
  have := flat_get l i hi
  refine ⟨b, o, e, hb, ?_, ?_⟩
  · rw [Nat.mul_comm]; exact hc _ _ this.1
  · rw [Nat.mul_comm, Nat.add_assoc]; exact hc _ _ this.2

set_option maxHeartbeats 400000 in
theorem clo_any (b o n c i bl bs : Nat) (x s : Int) (w : World) (hi : i < n) (hn : n ≤ 1099511627776)
    (hl : w.cell? ⟨bl, 0, none⟩ = some (.slice (some ⟨b, o, none⟩) n c)) (hs : w.cell? ⟨bs, 0, none⟩ = some (.int .i64 s))
    (hx : w.cell? ⟨b, o + i * 2, none⟩ = some (.int .i64 x)) :
    Calls Try.prog 76 #[.int .i64 i, .pointer (some ⟨bl, 0, none⟩), .pointer (some ⟨bs, 0, none⟩)] w fun e w' => e = .returned (.bool (decide (s < x))) ∧ ∃ m, w' = w.drewN m := by
  have h0 : (0 : Int) ≤ (i : Int) := by omega
  have h1 : (i : Int) < (n : Int) := by omega
  go_enter Try.func76, Try.ntmps76
  go_wp2
  go_quiet (fail)
  go_wp2
  go_ret
  exact ⟨rfl, _, rfl⟩

set_option maxHeartbeats 400000 in
theorem search_any (n r bl bs : Nat) (w : World) (hr : r ≤ n) (hn : n ≤ 1099511627776)
    (hf : Hid (∀ i m : Nat, i < n → Calls Try.prog 76 #[.int .i64 i, .pointer (some ⟨bl, 0, none⟩), .pointer (some ⟨bs, 0, none⟩)] (w.drewN m) fun e w' => e = .returned (.bool (decide (r ≤ i))) ∧ ∃ k, w' = w.drewN k)) :
    Calls Try.prog 75 #[.int .i64 n, .func (.func 76) #[] #[.pointer (some ⟨bl, 0, none⟩), .pointer (some ⟨bs, 0, none⟩)]] w fun e w' => e = .returned (.int .i64 r) ∧ ∃ m, w' = w.drewN m := by
  go_enter Try.func75, Try.ntmps75
  go_wp2
  go_loopw [5, 6] (fun i j wr => ∃ a b m : Nat, a ≤ r ∧ r ≤ b ∧ b ≤ n ∧ i = .int .i64 a ∧ j = .int .i64 b ∧ wr = w.drewN m) (fun i j _ => (intOf j - intOf i).toNat)
  case atStart => exact ⟨0, n, 0, by omega, by omega, by omega, rfl, rfl, rfl⟩
  case round =>
    obtain ⟨a, b, m, ha, hb, hbn, rfl, rfl, rfl⟩ := hrel
    by_cases hlt : a < b
    · go_wp2_with fail
      obtain ⟨h, hh⟩ : ∃ h : Nat, ((a : Int) + b) / 2 = h := ⟨(a + b) / 2, by omega⟩
      have h1 : a ≤ h := by omega
      have h2 : h < b := by omega
      rw [hh]
      clear hh
      by_cases hrh : r ≤ h
      · refine (hf.out h m (by omega)).mono ?_
        rintro e w' ⟨rfl, k, rfl⟩
        have hd : decide (r ≤ h) = true := by simpa using hrh
        rw [hd]
        clear hd
        go_wp2
        go_roundw
        case rel => exact ⟨a, h, k, by omega, by omega, by omega, rfl, rfl, rfl⟩
        case measure => simp [intOf]; omega
      · refine (hf.out h m (by omega)).mono ?_
        rintro e w' ⟨rfl, k, rfl⟩
        have hd : decide (r ≤ h) = false := by simpa using hrh
        rw [hd]
        clear hd
        go_wp2
        go_roundw
        case rel => exact ⟨h + 1, b, k, by omega, by omega, by omega, by go_num, rfl, rfl⟩
        case measure => simp [intOf]; omega
    · go_wp2
      obtain rfl : a = r := by omega
      go_ret
      exact ⟨rfl, _, rfl⟩

/-- How many versions have a stamp of at most s. -/
def aft (l : List (Int × Int)) (s : Int) : Nat := (l.takeWhile fun p => decide (p.1 ≤ s)).length
/-- The stamps ascend. -/
def Asc (l : List (Int × Int)) : Prop := l.Pairwise fun p q => p.1 < q.1
theorem aft_le (l : List (Int × Int)) (s : Int) : aft l s ≤ l.length := by
  unfold aft; induction l with
  | nil => simp
  | cons a t ih => simp only [List.takeWhile_cons]; split <;> simp <;> omega
theorem aft_iff (l : List (Int × Int)) (s : Int) (ha : Asc l) (i : Nat) (hi : i < l.length) : (s < l[i].1) ↔ aft l s ≤ i := by
  induction l generalizing i with
  | nil => simp at hi
  | cons a t ih =>
    have ha' := List.pairwise_cons.1 ha
    cases i with
    | zero =>
      simp only [aft, List.takeWhile_cons, List.getElem_cons_zero]
      split
      · rename_i h; simp at h; simp; omega
      · rename_i h; simp at h; simp; omega
    | succ k =>
      have hk : k < t.length := by simpa using hi
      have := ih ha'.2 k hk
      simp only [List.getElem_cons_succ, aft, List.takeWhile_cons] at *
      split
      · simp; omega
      · rename_i h
        have := ha'.1 _ (List.getElem_mem hk)
        simp at h ⊢; omega

set_option maxHeartbeats 400000 in
theorem after_any {S : Nat → Prop} (A : Option Addr) (n c : Nat) (l : List (Int × Int)) (s : Int) (w : World) (hl : Ones w S A n l) (ha : Asc l) (hn : l.length ≤ 1099511627776) :
    Calls Try.prog 58 #[.agg #[.slice A n c], .int .i64 s] w fun e w' => e = .returned (.int .i64 (aft l s)) ∧ Below w.heap.size w w' := by
  obtain ⟨rfl, hR⟩ := hl
  go_enter Try.func58, Try.ntmps58
  go_wp2_with fail
  refine (search_any l.length (aft l s) w.heap.size (w.heap.size + 1) _ (aft_le l s) hn (Lib.hid fun i m hi => ?_)).mono ?_
  · obtain ⟨b, o, rfl, hb, h1, h2⟩ := (show Ones w S A l.length l from ⟨rfl, hR⟩).cell i hi
    refine (clo_any b o l.length c i w.heap.size (w.heap.size + 1) l[i].1 s _ hi hn ?_ ?_ ?_).mono ?_
    · show World.cell? _ _ = _
      rw [World.cell?_drewN, World.cell?_alloc_past _ _ _ (by simp), World.cell?_alloc_at _ _ _ _ rfl]; rfl
    · rw [World.cell?_drewN, World.cell?_alloc_at _ _ _ _ (by simp)]; rfl
    · rw [World.cell?_drewN, World.cell?_alloc_past _ _ _ (by simp; omega), World.cell?_alloc_past _ _ _ hb]; exact h1
    · rintro e w' ⟨rfl, k, rfl⟩
      refine ⟨?_, m + k, by rw [World.drewN_drewN]⟩
      congr 2
      exact decide_eq_decide.2 (aft_iff l s ha i hi)
  · rintro e w' ⟨rfl, k, rfl⟩
    go_wp2
    go_ret
    exact ⟨rfl, below_drewN (((Below.refl _ _).alloc (Nat.le_refl _) _).alloc (by simp) _) _⟩

/-- What At answers. -/
def seeB (l : List (Int × Int)) (s : Int) : Bool := decide (0 < aft l s)
def seeV (l : List (Int × Int)) (s : Int) : Int := if aft l s = 0 then 0 else (l[aft l s - 1]?.getD (0, 0)).2

set_option maxHeartbeats 400000 in
theorem at_any {S : Nat → Prop} (A : Option Addr) (n c : Nat) (l : List (Int × Int)) (s : Int) (w : World) (hl : Ones w S A n l) (ha : Asc l) (hn : l.length ≤ 1099511627776) :
    Calls Try.prog 22 #[.agg #[.slice A n c], .int .i64 s] w fun e w' => e = .returned (.tuple #[.int .i64 (seeV l s), .bool (seeB l s)]) ∧ Below w.heap.size w w' := by
  have hle := aft_le l s
  rcases Nat.eq_zero_or_pos (aft l s) with h0 | h0
  · have HB : seeB l s = false := by simp [seeB, h0]
    have HV : seeV l s = 0 := by simp [seeV, h0]
    rw [HB, HV]
    clear HB HV
    have H0 := Lib.hid h0
    clear h0
    go_enter Try.func22, Try.ntmps22
    go_wp2_with fail
    refine (after_any A n c l s _ (⟨hl.1, hl.2.alloc _⟩ : Ones _ S A n l) ha hn).mono ?_
    rintro e w' ⟨rfl, hb⟩
    rw [H0.out]
    go_wp2
    go_ret2
    exact ⟨rfl, ((Below.refl _ _).alloc (Nat.le_refl _) _).trans (hb.mono (by simp))⟩
  · obtain ⟨k, hk⟩ : ∃ k, aft l s = k + 1 := ⟨aft l s - 1, by omega⟩
    have hi : k < l.length := by omega
    obtain ⟨b, o, rfl, hb, h1, h2⟩ := hl.cell k hi
    have HB : seeB l s = true := by simp [seeB, h0]
    have HV : seeV l s = l[k].2 := by simp [seeV, hk, hi]
    rw [HB, HV]
    clear HB HV
    have hkn : k < n := by have := hl.1; omega
    have hx : ∀ W : World, Below w.heap.size w W → W.cell? ⟨b, o + k * 2 + 1, none⟩ = some (.int .i64 l[k].2) := fun W hW => (hW.cell (p := ⟨b, o + k * 2 + 1, none⟩) hb).trans h2
    clear h1 h2 h0 hle
    generalize l[k].2 = y at *
    have HK := Lib.hid hk
    clear hk
    have g1 : (0 : Int) ≤ (k : Int) := by omega
    have g2 : (k : Int) < (n : Int) := by omega
    go_enter Try.func22, Try.ntmps22
    go_wp2_with fail
    refine (after_any _ n c l s _ (⟨hl.1, hl.2.alloc _⟩ : Ones _ S _ n l) ha hn).mono ?_
    rintro e w' ⟨rfl, hb'⟩
    rw [HK.out]
    have hbw : Below w.heap.size w w' := ((Below.refl _ _).alloc (Nat.le_refl _) _).trans (hb'.mono (by simp))
    have hy := hx w' hbw
    have hc : w'.cell? ⟨w.heap.size, 0, none⟩ = some (.slice (some ⟨b, o, none⟩) n c) := by
      rw [hb'.cell (by simp), World.cell?_alloc_at _ _ _ _ rfl]; rfl
    have HX := Lib.hid hx
    clear hx
    have hn2 : n ≤ 1099511627776 := by have := hl.1; omega
    go_wp2
    go_ret2
    exact ⟨rfl, hbw⟩
end Go.Proofs.Ytpejhgkcofilmaa
