/- The walks of version.Stamps and Add: what each call returns. Conditions: stamps ascend; at most 2^40 versions. -/
import Derived.Test.YtpejhgkcofilmaaVerB
set_option linter.unusedVariables false
namespace Go.Proofs.Ytpejhgkcofilmaa
open Go.RowKit

theorem cut_any {S : Nat → Prop} (A : Option Addr) (n c : Nat) (l : List (Int × Int)) (s : Int) (w : World) (hS : ∀ b, w.heap.size ≤ b → S b) (hl : Ones w S A n l) (ha : Asc l) (hc : n ≤ c) (hn : l.length ≤ 1099511627776) :
    Calls Try.prog 24 #[.agg #[.slice A n c], .int .i64 s] w fun e w' => ∃ A' n' c', e = .returned (.agg #[.slice A' n' c']) ∧ n' ≤ c' ∧ (A' = none → c' = 0) ∧ Ones w' S A' n' (l.drop (aft l s - 1)) ∧ Below w.heap.size w w' := by
  have hle := aft_le l s
  have h1 := hl.1
  refine (cut_at A n c (aft l s - 1) l s (aft l s) w hS hl hc (by omega) (by omega) ?_ (Lib.hid fun W hb => after_any A n c l s W (hl.below hb) ha hn)).mono ?_
  · show _ ∨ _
    rcases Nat.eq_zero_or_pos (aft l s) with h | h
    · right; omega
    · left; omega
  · rintro e w' ⟨A', c', h⟩
    exact ⟨A', _, c', h⟩

/-- The error of Add, and the list behind it. -/
def addE (l : List (Int × Int)) (s : Int) : Int := if s < 0 then 3 else if l.isEmpty = false ∧ s ≤ (lastP l).1 then 12 else if 1024 ≤ l.length then 9 else 0
def addL (l : List (Int × Int)) (s v : Int) : List (Int × Int) := if addE l s = 0 then l ++ [(s, v)] else l

/-- What Add leaves: the list, the error. -/
def AddEnd (S : Nat → Prop) (l : List (Int × Int)) (E : Int) (w : World) (e : Ending) (w' : World) : Prop :=
  ∃ A' n' c', e = .returned (.tuple #[.agg #[.slice A' n' c'], .int .i64 E]) ∧ n' ≤ c' ∧ (A' = none → c' = 0) ∧ Ones w' S A' n' l ∧ Below w.heap.size w w'

set_option maxHeartbeats 800000 in
theorem add_err {S : Nat → Prop} (A : Option Addr) (n c : Nat) (l : List (Int × Int)) (s v x y E : Int) (ok : Bool) (w : World) (hS : ∀ b, w.heap.size ≤ b → S b) (hl : Ones w S A n l) (hc : n ≤ c) (hA : A = none → c = 0) (hn' : n ≤ 1099511627776)
    (hL : Hid (∀ W, Below w.heap.size w W → Calls Try.prog 60 #[.agg #[.slice A n c]] W fun e w' => e = .returned (.tuple #[.int .i64 x, .int .i64 y, .bool ok]) ∧ Below W.heap.size W w'))
    (hE : (s < 0 ∧ E = 3) ∨ (0 ≤ s ∧ ok = true ∧ s ≤ x ∧ E = 12) ∨ (0 ≤ s ∧ ok = true ∧ x < s ∧ (1024 : Int) ≤ (n : Int) ∧ E = 9)) :
    Calls Try.prog 27 #[.agg #[.slice A n c], .int .i64 s, .int .i64 v] w (AddEnd S l E w) := by
  have hl' := Lib.hid (hl.off (w.heap.size + 2))
  have HA := Lib.hid hA
  clear hl hA
  have fin : ∀ w1, Below (w.heap.size + 2) ((w.alloc (.cells #[.slice A n c] 27)).alloc (.cells #[.slice none 0 0] 27)) w1 → AddEnd S l E w (.returned (.tuple #[.agg #[.slice A n c], .int .i64 E])) (w1.setCell ⟨w.heap.size + 1, 0, none⟩ (.slice A n c)) := by
    intro w1 hb
    have hb' : Below w.heap.size w w1 := (((Below.refl _ _).alloc (Nat.le_refl _) _).alloc (by simp) _).trans (hb.mono (by omega))
    exact ⟨A, n, c, rfl, hc, HA.out, (((hl'.out.below hb').setCell (off_not (by simp) (by simp)) _).on), hb'.setCell (by simp) _⟩
  have FIN := Lib.hid fin
  clear fin
  have L2 := Lib.hid (hL.out ((w.alloc (.cells #[.slice A n c] 27)).alloc (.cells #[.slice none 0 0] 27)) (((Below.refl _ _).alloc (Nat.le_refl _) _).alloc (by simp) _))
  have p0 : ((w.alloc (.cells #[.slice A n c] 27)).alloc (.cells #[.slice none 0 0] 27)).cell? ⟨w.heap.size, 0, none⟩ = some (.slice A n c) := by
    rw [World.cell?_alloc_past _ _ _ (by simp), World.cell?_alloc_at _ _ _ _ rfl]; rfl
  have p1 : ((w.alloc (.cells #[.slice A n c] 27)).alloc (.cells #[.slice none 0 0] 27)).cell? ⟨w.heap.size + 1, 0, none⟩ = some (.slice none 0 0) := by
    rw [World.cell?_alloc_at _ _ _ _ (by simp)]; rfl
  have p2 : ((w.alloc (.cells #[.slice A n c] 27)).alloc (.cells #[.slice none 0 0] 27)).frozen? ⟨w.heap.size + 1, 0, none⟩ = false := World.frozen?_alloc_at _ _ _ _ (by simp)
  have hsz : ((w.alloc (.cells #[.slice A n c] 27)).alloc (.cells #[.slice none 0 0] 27)).heap.size = w.heap.size + 2 := by simp
  have P0 := Lib.hid p0
  have P1 := Lib.hid p1
  have P2 := Lib.hid p2
  have HSZ := Lib.hid hsz
  clear p0 p1 p2 hsz
  rcases hE with ⟨h1, rfl⟩ | ⟨h1, rfl, h2, rfl⟩ | ⟨h1, rfl, h2, h3, rfl⟩
  all_goals
    go_enter Try.func27, Try.ntmps27
    go_wp2_with fail
    refine L2.out.mono ?_
    rintro e w1 ⟨rfl, hb1⟩
    have q0 := cell_later hb1 P0.out
    have q1 := cell_later hb1 P1.out
    have q2 := frozen_later hb1 P1.out P2.out
    rw [HSZ.out] at hb1
    clear L2 HA hl' hL hn' hc hS
    go_wp2
    refine bodyPost_ret (v := .tuple #[.agg #[.slice A n c], .int .i64 _]) ?_ rfl (FIN.out w1 hb1)
    have hc2 : (w1.setCell ⟨w.heap.size + 1, 0, none⟩ (.slice A n c)).cell? ⟨w.heap.size + 1, 0, none⟩ = some (.slice A n c) := World.cell?_setCell_same _ _ _ q1
    simp [results, Try.results27, go_sem, hc2]

theorem flat_snoc (l : List (Int × Int)) (s v : Int) : flat (l ++ [(s, v)]) = flat l ++ [.int .i64 s, .int .i64 v] := by simp [flat]

set_option maxRecDepth 100000 in
set_option maxHeartbeats 1600000 in
theorem add_ok {S : Nat → Prop} (A : Option Addr) (n c : Nat) (l : List (Int × Int)) (s v x y : Int) (ok : Bool) (w : World) (hS : ∀ b, w.heap.size ≤ b → S b) (hl : Ones w S A n l) (hc : n ≤ c)
    (hL : Hid (∀ W, Below w.heap.size w W → Calls Try.prog 60 #[.agg #[.slice A n c]] W fun e w' => e = .returned (.tuple #[.int .i64 x, .int .i64 y, .bool ok]) ∧ Below W.heap.size W w'))
    (hE : 0 ≤ s ∧ (n : Int) < 1024 ∧ (ok = false ∨ (ok = true ∧ x < s))) (hA : A = none → n = 0) :
    Calls Try.prog 27 #[.agg #[.slice A n c], .int .i64 s, .int .i64 v] w (AddEnd S (l ++ [(s, v)]) 0 w) := by
  obtain ⟨i0, hi0, hz0, hz1, hz2⟩ := info_parts Try.info128
  have hl' := Lib.hid (hl.off (w.heap.size + 2))
  have HA := Lib.hid hA
  have hnl := Lib.hid hl.1
  clear hl hA
  have fin : ∀ g cap w1 w2, Below (w.heap.size + 2) ((w.alloc (.cells #[.slice A n c] 27)).alloc (.cells #[.slice none 0 0] 27)) w1 → w.heap.size + 2 ≤ w1.heap.size → n + 1 ≤ cap → w1.heap.size + 1 ≤ g →
      w2.ownsRow (w1.heap.size + 1) 128 2 (.slice (some ⟨g, 0, none⟩) (n + 1) cap) (n + 1) (flat l ++ [.int .i64 s, .int .i64 v]) → Below (w1.heap.size + 1) (w1.alloc (.cells #[.int .i64 s, .int .i64 v] 128)) w2 →
      AddEnd S (l ++ [(s, v)]) 0 w (.returned (.tuple #[.agg #[.slice (some ⟨g, 0, none⟩) (n + 1) cap], .int .i64 0])) (w2.setCell ⟨w.heap.size + 1, 0, none⟩ (.slice (some ⟨g, 0, none⟩) (n + 1) cap)) := by
    intro g cap w1 w2 hb hsz h1 h2 h3 h4
    have hb' : Below w.heap.size w w1 := (((Below.refl _ _).alloc (Nat.le_refl _) _).alloc (by simp) _).trans (hb.mono (by omega))
    have hb2 : Below w.heap.size w w2 := (hb'.alloc hb'.size _).trans (h4.mono (by omega))
    refine ⟨_, _, _, rfl, h1, by simp, ⟨by simp [hnl.out], ?_⟩, hb2.setCell (by simp) _⟩
    rw [flat_snoc]
    exact ((Reads.of_own (S := Off S w.heap.size (w.heap.size + 2)) h3 (off_new hS (by omega) (by omega))).setCell (off_not (by simp) (by simp)) _).on
  have FIN := Lib.hid fin
  clear fin
  have L2 := Lib.hid (hL.out ((w.alloc (.cells #[.slice A n c] 27)).alloc (.cells #[.slice none 0 0] 27)) (((Below.refl _ _).alloc (Nat.le_refl _) _).alloc (by simp) _))
  have p0 : ((w.alloc (.cells #[.slice A n c] 27)).alloc (.cells #[.slice none 0 0] 27)).cell? ⟨w.heap.size, 0, none⟩ = some (.slice A n c) := by
    rw [World.cell?_alloc_past _ _ _ (by simp), World.cell?_alloc_at _ _ _ _ rfl]; rfl
  have p1 : ((w.alloc (.cells #[.slice A n c] 27)).alloc (.cells #[.slice none 0 0] 27)).cell? ⟨w.heap.size + 1, 0, none⟩ = some (.slice none 0 0) := by
    rw [World.cell?_alloc_at _ _ _ _ (by simp)]; rfl
  have p2 : ((w.alloc (.cells #[.slice A n c] 27)).alloc (.cells #[.slice none 0 0] 27)).frozen? ⟨w.heap.size + 1, 0, none⟩ = false := World.frozen?_alloc_at _ _ _ _ (by simp)
  have hsz : ((w.alloc (.cells #[.slice A n c] 27)).alloc (.cells #[.slice none 0 0] 27)).heap.size = w.heap.size + 2 := by simp
  have P0 := Lib.hid p0
  have P1 := Lib.hid p1
  have P2 := Lib.hid p2
  have HSZ := Lib.hid hsz
  have RL : ∀ w1, Below (w.heap.size + 2) ((w.alloc (.cells #[.slice A n c] 27)).alloc (.cells #[.slice none 0 0] 27)) w1 → Reads w1 (Off S w.heap.size (w.heap.size + 2)) 2 A n (flat l) := fun w1 hb =>
    (hl'.out.below ((((Below.refl _ _).alloc (Nat.le_refl _) _).alloc (by simp) _).trans (hb.mono (by omega)))).2
  have HRL := Lib.hid RL
  clear p0 p1 p2 hsz RL hl' hL
  obtain ⟨e1, e2, e3⟩ := hE
  rcases e3 with rfl | ⟨rfl, e3⟩
  all_goals
    go_enter Try.func27, Try.ntmps27
    go_wp2_with fail
    refine L2.out.mono ?_
    rintro e w1 ⟨rfl, hb1⟩
    have q0 := cell_later hb1 P0.out
    have q1 := cell_later hb1 P1.out
    have q2 := frozen_later hb1 P1.out P2.out
    have hs1 := hb1.size
    rw [HSZ.out] at hb1 hs1
    have HS1 := Lib.hid hs1
    have HC := Lib.hid hc
    clear hs1 L2 hc
    go_wp2_with fail
    refine (clip_any A n c w1 HC.out (by omega)).mono ?_
    rintro e w' ⟨rfl, rfl⟩
    have HR := Lib.hid ((HRL.out w1 hb1).alloc (.cells #[.int .i64 s, .int .i64 v] 128))
    have HN := Lib.hid (Reads.new (S := fun _ => True) (size := 2) (n := 1) w1 #[.int .i64 s, .int .i64 v] 128 rfl trivial)
    go_wp2_with (at_builtin; refine wpList_append_new rfl (.tmp 37) (.tmp 41) 25 rfl 128 i0 _ 2 16 Try.underlying25 hi0 hz0 hz1 hz2 rfl (by omega) A n n _ (flat l) rfl HR.out ?k0 _ 1 1 _ _ rfl HN.out (by omega) ?k1 (by omega) ?k2 (by omega) ?k3)
    case k0 => exact HA.out
    case k1 => intro u hu; simp at hu; rcases hu with rfl | rfl <;> rfl
    case k2 => simp only [maxLen]; omega
    case k3 =>
      intro g cap w2 g1 g2 g3 g4
      have hlt : w.heap.size + 1 < w1.heap.size := HS1.out
      have r1 : w2.cell? ⟨w.heap.size + 1, 0, none⟩ = some (.slice none 0 0) := by
        rw [g4.cell (by simp; omega), World.cell?_alloc_past _ _ _ hlt]; exact q1
      have r2 : w2.frozen? ⟨w.heap.size + 1, 0, none⟩ = false := by
        rw [g4.frozen (by simp; omega), World.frozen?_alloc_past _ _ _ hlt]; exact q2
      have HF := Lib.hid (FIN.out g cap w1 w2 hb1 HS1.out g1 (by simpa using g2) (by simpa using g3) (by simpa using g4))
      clear g1 g2 g3 g4 hlt
      go_wp2
      refine bodyPost_ret (v := .tuple #[.agg #[.slice (some ⟨g, 0, none⟩) (n + 1) cap], .int .i64 0]) ?_ rfl HF.out
      have hc2 : (w2.setCell ⟨w.heap.size + 1, 0, none⟩ (.slice (some ⟨g, 0, none⟩) (n + 1) cap)).cell? ⟨w.heap.size + 1, 0, none⟩ = some (.slice (some ⟨g, 0, none⟩) (n + 1) cap) := World.cell?_setCell_same _ _ _ r1
      simp [results, Try.results27, go_sem, hc2]
end Go.Proofs.Ytpejhgkcofilmaa
