/- The acts of trim's laws in memory; the walk of great. No condition. -/
import Derived.Test.YtpejhgkcofilmaaTrD
set_option linter.unusedVariables false
namespace Go.Proofs.Ytpejhgkcofilmaa
open Go.RowKit

/-- An act: its kind, its number, its puts and the slice that holds them. -/
structure TAct where
  kind : Int
  n : Int
  A : Option Addr
  m : Nat
  c : Nat
  ps : List (Int × Int)
def putC (p : Int × Int) : List Value := [.int .i8 p.1, .int .i8 p.2]
def tactC (a : TAct) : List Value := [.int .u8 a.kind, .int .u8 a.n, .slice a.A a.m a.c]
def TAct.Nums (a : TAct) : Prop := (0 ≤ a.kind ∧ a.kind ≤ 255 ∧ 0 ≤ a.n ∧ a.n ≤ 255) ∧ ∀ p ∈ a.ps, -128 ≤ p.1 ∧ p.1 ≤ 127 ∧ -128 ≤ p.2 ∧ p.2 ≤ 127
def TAct.ok (a : TAct) (w : World) (S : Nat → Prop) : Prop := a.Nums ∧ a.m = a.ps.length ∧ Reads w S 2 a.A a.m (a.ps.flatMap putC)
def TActs (w : World) (S : Nat → Prop) (A : Option Addr) (n : Nat) (l : List TAct) : Prop := n = l.length ∧ Reads w S 3 A n (l.flatMap tactC) ∧ ∀ a ∈ l, a.ok w S
theorem TAct.ok.below {a : TAct} {w w' : World} {S : Nat → Prop} (h : a.ok w S) (hb : Below w.heap.size w w') : a.ok w' S := ⟨h.1, h.2.1, h.2.2.below hb⟩
theorem TActs.below {w w' : World} {S : Nat → Prop} {A : Option Addr} {n : Nat} {l : List TAct} (h : TActs w S A n l) (hb : Below w.heap.size w w') : TActs w' S A n l := ⟨h.1, h.2.1.below hb, fun a ha => (h.2.2 a ha).below hb⟩
theorem flat_get2 {α : Type} {f : α → List Value} {s : Nat} (hf : ∀ x, (f x).length = s) (l : List α) (i : Nat) (h : i < l.length) (j : Nat) (hj : j < s) : (l.flatMap f)[i * s + j]? = (f l[i])[j]? := by
  induction l generalizing i with
  | nil => simp at h
  | cons a t ih =>
    cases i with
    | zero =>
      simp only [List.flatMap_cons, Nat.zero_mul, Nat.zero_add, List.getElem_cons_zero]
      rw [List.getElem?_append_left (by rw [hf]; exact hj)]
    | succ k =>
      have := ih k (by simpa using h)
      simp only [List.flatMap_cons, List.getElem_cons_succ]
      rw [List.getElem?_append_right (by rw [hf, Nat.succ_mul]; omega), ← this, hf]
      congr 1
      rw [Nat.succ_mul]; omega
theorem TActs.cell {w : World} {S : Nat → Prop} {A : Option Addr} {n : Nat} {l : List TAct} (h : TActs w S A n l) (k : Nat) (hk : k < l.length) :
    ∃ b o, A = some ⟨b, o, none⟩ ∧ ∀ w', Below w.heap.size w w' → w'.cell? ⟨b, o + k * 3, none⟩ = some (.int .u8 l[k].kind) ∧ w'.cell? ⟨b, o + k * 3 + 1, none⟩ = some (.int .u8 l[k].n) ∧ w'.cell? ⟨b, o + k * 3 + 2, none⟩ = some (.slice l[k].A l[k].m l[k].c) := by
  obtain ⟨rfl, h1, _⟩ := h
  obtain ⟨b, o, e, hb, hS, hc⟩ := h1.2 (by omega)
  refine ⟨b, o, e, fun w' hb' => ?_⟩
  have g := fun (j : Nat) (u : Value) (hj : j < 3) (hu : (tactC l[k])[j]? = some u) => (hb'.cell (p := ⟨b, o + (k * 3 + j), none⟩) hb).trans (hc (k * 3 + j) u ((flat_get2 (s := 3) (fun _ => rfl) l k hk j hj).trans hu))
  refine ⟨?_, ?_, ?_⟩
  · have := g 0 _ (by omega) rfl; rwa [← Nat.add_assoc] at this
  · have := g 1 _ (by omega) rfl; rwa [← Nat.add_assoc] at this
  · have := g 2 _ (by omega) rfl; rwa [← Nat.add_assoc] at this
theorem TAct.ok.cell {w : World} {S : Nat → Prop} {a : TAct} (h : a.ok w S) (k : Nat) (hk : k < a.ps.length) :
    ∃ b o, a.A = some ⟨b, o, none⟩ ∧ ∀ w', Below w.heap.size w w' → w'.cell? ⟨b, o + k * 2, none⟩ = some (.int .i8 a.ps[k].1) ∧ w'.cell? ⟨b, o + k * 2 + 1, none⟩ = some (.int .i8 a.ps[k].2) := by
  obtain ⟨_, h0, h1⟩ := h
  obtain ⟨b, o, e, hb, hS, hc⟩ := h1.2 (by omega)
  refine ⟨b, o, e, fun w' hb' => ?_⟩
  have g := fun (j : Nat) (u : Value) (hj : j < 2) (hu : (putC a.ps[k])[j]? = some u) => (hb'.cell (p := ⟨b, o + (k * 2 + j), none⟩) hb).trans (hc (k * 2 + j) u ((flat_get2 (s := 2) (fun _ => rfl) a.ps k hk j hj).trans hu))
  refine ⟨?_, ?_⟩
  · have := g 0 _ (by omega) rfl; rwa [← Nat.add_assoc] at this
  · have := g 1 _ (by omega) rfl; rwa [← Nat.add_assoc] at this

/-- Is the input beyond the laws' bounds? -/
def greatB (l : List TAct) : Bool := (l.take 40).any (fun a => decide (8 < a.m)) || decide (40 < l.length)

theorem great_step (l : List TAct) (k : Nat) (hk : k < l.length) : (l.take (k + 1)).any (fun a => decide (8 < a.m)) = ((l.take k).any (fun a => decide (8 < a.m)) || decide (8 < l[k].m)) := by
  rw [List.take_succ_eq_append_getElem hk, List.any_append, List.any_cons, List.any_nil, Bool.or_false]
theorem great_hit (l : List TAct) (k : Nat) (hk : k < l.length) (h40 : k < 40) (h : decide (8 < l[k].m) = true) : greatB l = true := by
  have hm : l[k] ∈ l.take 40 := by
    rw [List.mem_iff_getElem]
    exact ⟨k, by rw [List.length_take]; omega, by rw [List.getElem_take]⟩
  unfold greatB
  rw [List.any_eq_true.2 ⟨l[k], hm, h⟩]
  rfl

set_option maxRecDepth 100000 in
set_option maxHeartbeats 3200000 in
theorem great51_any {S : Nat → Prop} (A : Option Addr) (n c : Nat) (l : List TAct) (w : World) (hl : TActs w S A n l) :
    Calls Try.prog 42 #[.slice A n c] w fun e w' => e = .returned (.bool (greatB l)) ∧ w' = w := by
  have HL := Lib.hid hl
  have HN := Lib.hid hl.1
  clear hl
  go_enter Try.func42, Try.ntmps42
  go_wp2
  go_loopw [3] (fun i wr => ∃ k : Nat, k ≤ l.length ∧ k ≤ 40 ∧ i = .int .i64 k ∧ (l.take k).any (fun a => decide (8 < a.m)) = false ∧ wr = w) (fun i _ => l.length - (intOf i).toNat)
  case atStart => exact ⟨0, by omega, by omega, rfl, rfl, rfl⟩
  case round =>
    obtain ⟨k, hk, hk4, rfl, hf, rfl⟩ := hrel
    by_cases hlt : k < l.length
    · by_cases h40 : k < 40
      · have hi : (k : Int) < (n : Int) := by have := HN.out; omega
        have hi4 : (k : Int) < 40 := by omega
        obtain ⟨b, o, rfl, hc⟩ := HL.out.cell k hlt
        have h2 := (hc wr (Below.refl _ _)).2.2
        have HK := Lib.hid hlt
        have H4 := Lib.hid h40
        have HT := Lib.hid (great_step l k hlt)
        rw [hf, Bool.false_or] at HT
        have HG := Lib.hid (great_hit l k hlt h40)
        clear hf hc hk hk4
        generalize l[k].m = m at *
        generalize l[k].A = A1 at *
        generalize l[k].c = c1 at *
        clear hlt h40
        by_cases hm : 8 < m
        · have hm' : (8 : Int) < (m : Int) := by omega
          have HG' := Lib.hid (HG.out (decide_eq_true hm))
          clear HG HT hm
          go_wp2
          go_ret
          exact ⟨by rw [HG'.out]; rfl, rfl⟩
        · have hm' : (m : Int) ≤ 8 := by omega
          have HT' := Lib.hid (HT.out.trans (decide_eq_false hm))
          clear HG HT hm
          go_wp2
          go_roundw
          case rel => exact ⟨k + 1, HK.out, by have := H4.out; omega, by go_num, HT'.out, by first | rfl | trivial⟩
          case measure => exact meas_up _ _ HK.out
      · have hi : (k : Int) < (n : Int) := by have := HN.out; omega
        obtain rfl : k = 40 := by omega
        have hn : (40 : Int) < (n : Int) := by omega
        have HG := Lib.hid (show greatB l = true by unfold greatB; rw [hf, decide_eq_true hlt]; rfl)
        clear hf hk hk4 hlt h40 hi
        go_wp2
        go_ret
        exact ⟨by rw [HG.out]; rfl, rfl⟩
    · obtain rfl : k = l.length := by omega
      have hi : (n : Int) ≤ (l.length : Int) := by have := HN.out; omega
      have hn : (n : Int) ≤ 40 := by omega
      have HG := Lib.hid (show greatB l = false by unfold greatB; rw [List.take_length] at hf; rw [show l.take 40 = l from List.take_of_length_le hk4, hf, decide_eq_false (by omega)]; rfl)
      clear hf hk hk4 hlt
      go_wp2
      go_ret
      exact ⟨by rw [HG.out, ← decide_eq_false (show ¬ (40 : Int) < (n : Int) by omega)]; rfl, rfl⟩
end Go.Proofs.Ytpejhgkcofilmaa
