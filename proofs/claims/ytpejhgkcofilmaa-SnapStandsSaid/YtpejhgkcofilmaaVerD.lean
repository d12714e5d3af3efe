/- The walks of version.Stamps and of the reference's At and Cut: what each call returns. Conditions: stamps ascend; at most 2^40 versions. -/
import Derived.Test.YtpejhgkcofilmaaVerC
set_option linter.unusedVariables false
namespace Go.Proofs.Ytpejhgkcofilmaa
open Go.RowKit

/-- The cells of a list of stamps. -/
def stV (l : List (Int × Int)) : List Value := l.map fun p => .int .i64 p.1
theorem stV_one (l : List (Int × Int)) : ∀ u ∈ stV l, u.oneCell' = true := by
  intro u hu
  simp only [stV, List.mem_map] at hu
  obtain ⟨p, _, rfl⟩ := hu
  rfl
theorem stV_take (l : List (Int × Int)) (k : Nat) (h : k < l.length) : stV (l.take (k + 1)) = stV (l.take k) ++ [.int .i64 l[k].1] := by
  unfold stV; rw [List.take_succ_eq_append_getElem h, List.map_append]; rfl
theorem flat_take (l : List (Int × Int)) (k : Nat) (h : k < l.length) : flat (l.take (k + 1)) = flat (l.take k) ++ [.int .i64 l[k].1, .int .i64 l[k].2] := by
  unfold flat; rw [List.take_succ_eq_append_getElem h, List.flatMap_append]; rfl

/-- The cells of element k, in every later world. -/
theorem Ones.later {w : World} {S : Nat → Prop} {n : Nat} {A : Option Addr} {l : List (Int × Int)} (h : Ones w S A n l) (k : Nat) (hk : k < l.length) :
    ∃ b o, A = some ⟨b, o, none⟩ ∧ b < w.heap.size ∧ ∀ W, Below w.heap.size w W → W.cell? ⟨b, o + k * 2, none⟩ = some (.int .i64 l[k].1) ∧ W.cell? ⟨b, o + k * 2 + 1, none⟩ = some (.int .i64 l[k].2) := by
  obtain ⟨b, o, rfl, hb, h1, h2⟩ := h.cell k hk
  exact ⟨b, o, rfl, hb, fun W hW => ⟨(hW.cell (p := ⟨b, o + k * 2, none⟩) hb).trans h1, (hW.cell (p := ⟨b, o + k * 2 + 1, none⟩) hb).trans h2⟩⟩

/-- The relation of the loop in Stamps. -/
def StRel (w : World) (l : List (Int × Int)) (L : Nat) (v i : Value) (wr : World) : Prop :=
  ∃ k : Nat, k ≤ l.length ∧ i = .int .i64 k ∧ wr.ownsRow (w.heap.size + 1) 2 1 v k (stV (l.take k)) ∧ Below w.heap.size w wr ∧ w.heap.size + 1 ≤ wr.heap.size

set_option maxRecDepth 100000 in
set_option maxHeartbeats 1600000 in
theorem stamps_any {S : Nat → Prop} (A : Option Addr) (n c : Nat) (l : List (Int × Int)) (w : World) (hl : Ones w S A n l) (hn : l.length ≤ 1099511627776) :
    Calls Try.prog 26 #[.agg #[.slice A n c]] w fun e w' => ∃ v, e = .returned v ∧ w'.ownsRow w.heap.size 2 1 v n (stV l) ∧ Below w.heap.size w w' := by
  obtain ⟨i0, hi0, hz0, hz1, hz2⟩ := info_parts Try.info2
  obtain ⟨rfl, hR⟩ := hl
  go_enter Try.func26, Try.ntmps26
  go_wp2
  go_loopw [3, 9] (fun v i wr => StRel w l 0 v i wr) (fun _ i _ => l.length - (intOf i).toNat)
  case atStart => exact ⟨0, Nat.zero_le _, rfl, World.ownsRow_nil _ _ _ _, (Below.refl _ _).alloc (Nat.le_refl _) _, by simp⟩
  case round =>
    obtain ⟨k, hk, rfl, hown, hb, hsz⟩ := hrel
    by_cases hlt : k < l.length
    · obtain ⟨b, o, rfl, hbb, hcell⟩ := (show Ones w S A l.length l from ⟨rfl, hR⟩).later k hlt
      have h1 := (hcell wr hb).1
      have h2 := (hcell wr hb).2
      have hst := Lib.hid (stV_take l k hlt)
      clear hcell hR
      generalize l[k] = p at *
      obtain ⟨x, y⟩ := p
      have HO := Lib.hid hown
      clear hown
      have HN := Lib.hid (Reads.newAt (S := fun _ => True) (size := 1) (n := 1) (wr.alloc (.cells #[.int .i64 x, .int .i64 y] 128)) (wr.heap.size + 1) #[.int .i64 x] 2 (by simp) rfl trivial)
      have hi : (k : Int) < (l.length : Int) := by omega
      go_wp2_with (at_builtin; (refine wpList_append_any rfl (.tmp 13) (.tmp 16) 40 rfl (w.heap.size + 1) 2 i0 _ 1 8 Try.underlying40 hi0 hz0 hz1 hz2 rfl (by omega) _ k (stV (l.take k)) rfl ((HO.out.alloc _).alloc _) _ _ 1 1 _ rfl HN.out ?k1 ?k2 ?k3 ?k4 ?k5))
      case k1 => first | rfl | (intro u hu; simp at hu; subst hu; rfl)
      case k2 => simp only [maxLen]; omega
      case k3 => omega
      case k4 => first | omega | (simp; omega)
      case k5 =>
        intro v' w' ho hg _
        have HO' := Lib.hid (show w'.ownsRow (w.heap.size + 1) 2 1 v' (k + 1) (stV (l.take (k + 1))) by rw [hst.out]; exact ho)
        have hB : Below w.heap.size w w' := ((hb.alloc (by omega) _).alloc (by simp; omega) _).grown hg (by simp; omega) (fun g hg => by have := (HO.out.lt g hg).1; omega)
        have hS : w.heap.size + 1 ≤ w'.heap.size := by have := hg.size; simp at this; omega
        clear ho hg hst
        go_wp2
        go_roundw
        case rel => exact ⟨k + 1, by omega, by go_num, HO'.out, hB, hS⟩
        case measure => simp [intOf]; omega
    · obtain rfl : k = l.length := by omega
      have HO := Lib.hid hown
      clear hown
      go_wp2
      go_ret
      refine ⟨_, rfl, ?_, hb⟩
      have := HO.out
      rw [List.take_length] at this
      exact ⟨this.1, this.2.imp (fun h => h) fun ⟨g, cap, cur, h1, h2, h3⟩ => ⟨g, cap, cur, h1, by omega, h3⟩⟩
end Go.Proofs.Ytpejhgkcofilmaa
