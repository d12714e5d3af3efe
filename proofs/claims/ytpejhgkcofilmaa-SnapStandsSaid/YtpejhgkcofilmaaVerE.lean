/- The walks of the reference's At and Cut: what each call returns. Conditions: stamps ascend; at most 2^40 versions. -/
import Derived.Test.YtpejhgkcofilmaaVerD
set_option linter.unusedVariables false
namespace Go.Proofs.Ytpejhgkcofilmaa
open Go.RowKit

theorem aft_pos (l : List (Int × Int)) (s : Int) (ha : Asc l) (i : Nat) (hi : i < l.length) : (l[i].1 ≤ s) ↔ i < aft l s := by
  have := aft_iff l s ha i hi
  omega

/-- The relation of the loop in the reference's At. -/
def RatRel (w : World) (l : List (Int × Int)) (s : Int) (m i : Value) (wr : World) : Prop :=
  ∃ k : Nat, k ≤ l.length ∧ i = .int .i64 k ∧ m = .int .i64 ((min k (aft l s) : Nat) - 1 : Int) ∧ wr = w

set_option maxRecDepth 100000 in
set_option maxHeartbeats 1600000 in
theorem rat_any {S : Nat → Prop} (A : Option Addr) (n c : Nat) (l : List (Int × Int)) (s : Int) (w : World) (hl : Ones w S A n l) (ha : Asc l) (hn : l.length ≤ 1099511627776) :
    Calls Try.prog 23 #[.slice A n c, .int .i64 s] w fun e w' => e = .returned (.int .i64 ((aft l s : Nat) - 1 : Int)) ∧ w' = w := by
  obtain ⟨rfl, hR⟩ := hl
  have hle := aft_le l s
  go_enter Try.func23, Try.ntmps23
  go_wp2
  go_loopw [5, 6] (fun m i wr => RatRel w l s m i wr) (fun _ i _ => l.length - (intOf i).toNat)
  case atStart => exact ⟨0, Nat.zero_le _, rfl, by simp, rfl⟩
  case round =>
    obtain ⟨k, hk, rfl, rfl, rfl⟩ := hrel
    by_cases hlt : k < l.length
    · obtain ⟨b, o, rfl, hbb, hcell⟩ := (show Ones wr S A l.length l from ⟨rfl, hR⟩).later k hlt
      have h1 := (hcell wr (Below.refl _ _)).1
      have hp := aft_pos l s ha k hlt
      clear hcell hR
      generalize l[k] = p at *
      obtain ⟨x, y⟩ := p
      have hi : (k : Int) < (l.length : Int) := by omega
      by_cases hx : x ≤ s
      · have h2 : k < aft l s := hp.1 hx
        clear hp
        go_wp2
        go_roundw
        case rel => exact ⟨k + 1, by omega, by go_num, by congr 1; omega, rfl⟩
        case measure => simp [intOf]; omega
      · have h2 : aft l s ≤ k := by rcases Nat.lt_or_ge k (aft l s) with h | h; exact absurd (hp.2 h) hx; exact h
        have hx' : s < x := by omega
        clear hp hx
        go_wp2
        go_roundw
        case rel => exact ⟨k + 1, by omega, by go_num, by congr 1; omega, rfl⟩
        case measure => simp [intOf]; omega
    · obtain rfl : k = l.length := by omega
      go_wp2
      go_ret
      exact ⟨by rw [Nat.min_eq_right hle]; rfl, rfl⟩

/-- The relation of the loop in the reference's Cut. -/
def RcutRel (w : World) (l : List (Int × Int)) (s : Int) (v i : Value) (wr : World) : Prop :=
  ∃ k : Nat, k ≤ l.length ∧ i = .int .i64 k ∧ wr.ownsRow w.heap.size 35 2 v (k - (aft l s - 1)) (flat ((l.take k).drop (aft l s - 1))) ∧ Below w.heap.size w wr

theorem flat_pick (l : List (Int × Int)) (k d : Nat) (h : k < l.length) (hd : d ≤ k) : flat ((l.take (k + 1)).drop d) = flat ((l.take k).drop d) ++ [.int .i64 l[k].1, .int .i64 l[k].2] := by
  rw [List.take_succ_eq_append_getElem h, List.drop_append_of_le_length (by simp; omega)]
  unfold flat
  rw [List.flatMap_append]
  rfl
theorem Try.info35 : (Try.prog.info? 35).map (fun i => (i.zero, i.size, i.bytes)) = some (some (.agg #[.int .i64 0, .int .i64 0]), 2, 16) := by kernel_rfl

set_option maxRecDepth 100000 in
set_option maxHeartbeats 1600000 in
theorem rcut_any {S : Nat → Prop} (A : Option Addr) (n c : Nat) (l : List (Int × Int)) (s : Int) (w : World) (hl : Ones w S A n l) (ha : Asc l) (hn : l.length ≤ 1099511627776) :
    Calls Try.prog 55 #[.slice A n c, .int .i64 s] w fun e w' => ∃ v, e = .returned v ∧ w'.ownsRow w.heap.size 35 2 v (n - (aft l s - 1)) (flat (l.drop (aft l s - 1))) ∧ Below w.heap.size w w' := by
  obtain ⟨i0, hi0, hz0, hz1, hz2⟩ := info_parts Try.info35
  obtain ⟨rfl, hR⟩ := hl
  have hle := aft_le l s
  go_enter Try.func55, Try.ntmps55
  go_wp2
  go_loopw [5, 6] (fun v i wr => RcutRel w l s v i wr) (fun _ i _ => l.length - (intOf i).toNat)
  case atStart => exact ⟨0, Nat.zero_le _, rfl, by simpa [flat] using World.ownsRow_nil _ _ _ _, Below.refl _ _⟩
  case round =>
    obtain ⟨k, hk, rfl, hown, hb⟩ := hrel
    by_cases hlt : k < l.length
    · obtain ⟨b, o, rfl, hbb, hcell⟩ := (show Ones w S A l.length l from ⟨rfl, hR⟩).later k hlt
      have h1 := (hcell wr hb).1
      have h2 := (hcell wr hb).2
      have HO := Lib.hid hown
      clear hown hcell
      have hi : (k : Int) < (l.length : Int) := by omega
      by_cases hc : k + 1 < l.length ∧ ∃ h : k + 1 < l.length, l[k + 1].1 ≤ s
      · obtain ⟨h3, h4, h5⟩ := hc
        obtain ⟨b', o', e, hbb', hcell'⟩ := (show Ones w S _ l.length l from ⟨rfl, hR⟩).later (k + 1) h3
        have e1 : b = b' := by injection e with e; injection e
        have e2 : o = o' := by injection e with e; injection e
        subst e1 e2
        have h6 := (hcell' wr hb).1
        have h7 := (aft_pos l s ha (k + 1) h3).1 h5
        clear hcell' e hR
        generalize l[k + 1] = p at *
        obtain ⟨x', y'⟩ := p
        have t1 : ((k : Int) + 1 == (l.length : Int)) = false := by simp; omega
        have t2 : (k : Int) + 1 < (l.length : Int) := by omega
        have HD := Lib.hid (show (flat ((l.take (k + 1)).drop (aft l s - 1))) = flat ((l.take k).drop (aft l s - 1)) by rw [List.drop_eq_nil_of_le (by simp; omega), List.drop_eq_nil_of_le (by simp; omega)])
        have HN := Lib.hid (show k + 1 - (aft l s - 1) = k - (aft l s - 1) by omega)
        clear hle
        go_wp2
        go_roundw
        case rel => exact ⟨k + 1, by omega, by go_num, by rw [HD.out, HN.out]; exact HO.out, hb⟩
        case measure => simp [intOf]; omega
      · have h7 : aft l s ≤ k + 1 := by
          rcases Nat.lt_or_ge (k + 1) (aft l s) with h | h
          · exact absurd ⟨by omega, by omega, (aft_pos l s ha (k + 1) (by omega)).2 h⟩ hc
          · exact h
        have HD := Lib.hid (flat_pick l k (aft l s - 1) hlt (by omega))
        have HN := Lib.hid (show k + 1 - (aft l s - 1) = k - (aft l s - 1) + 1 by omega)
        have hrest : (k + 1 = l.length) ∨ (k + 1 < l.length ∧ ∃ x' : Int, s < x' ∧ wr.cell? ⟨b, o + (k + 1) * 2, none⟩ = some (.int .i64 x')) := by
          rcases Nat.lt_or_ge (k + 1) l.length with h | h
          · obtain ⟨b', o', e, hbb', hcell'⟩ := (show Ones w S _ l.length l from ⟨rfl, hR⟩).later (k + 1) h
            have e1 : b = b' := by injection e with e; injection e
            have e2 : o = o' := by injection e with e; injection e
            subst e1 e2
            refine .inr ⟨h, l[k + 1].1, ?_, (hcell' wr hb).1⟩
            rcases Int.lt_or_le s l[k + 1].1 with h' | h'
            · exact h'
            · exact absurd ⟨h, h, h'⟩ hc
          · exact .inl (by omega)
        clear hc hR
        generalize l[k] = p at *
        obtain ⟨x, y⟩ := p
        have HN' := Lib.hid (Reads.newAt (S := fun _ => True) (size := 2) (n := 1) wr wr.heap.size #[.int .i64 x, .int .i64 y] 35 rfl rfl trivial)
        have hle' : aft l s ≤ 1099511627776 := by omega
        clear hle
        rcases hrest with h3 | ⟨h3, x', h4, h5⟩
        · have t1 : ((k : Int) + 1 == (l.length : Int)) = true := by simp; omega
          clear h3
          go_wp2_with (at_builtin; refine wpList_append_any rfl (.tmp 28) (.tmp 33) 28 rfl w.heap.size 35 i0 _ 2 16 Try.underlying28 hi0 hz0 hz1 hz2 rfl (by omega) _ _ _ rfl (HO.out.alloc _) _ _ 1 1 _ rfl HN'.out ?k1 ?k2 ?k3 ?k4 ?k5)
          case k1 => first | (exact ⟨rfl, rfl⟩) | (intro u hu; simp at hu; rcases hu with rfl | rfl <;> rfl)
          case k2 => simp only [maxLen]; omega
          case k3 => omega
          case k4 => have := hb.size; first | omega | (simp; omega)
          case k5 =>
            intro v' w' ho hg _
            have HO' := Lib.hid ho
            have hB := (hb.alloc hb.size _).grown hg (by have := hb.size; simp; omega) (fun g hg => (HO.out.lt g hg).1)
            clear ho hg
            go_wp2
            go_roundw
            case rel => exact ⟨k + 1, by omega, by go_num, by rw [HD.out, HN.out]; exact HO'.out, hB⟩
            case measure => simp [intOf]; omega
        · have t1 : ((k : Int) + 1 == (l.length : Int)) = false := by simp; omega
          have t2 : (k : Int) + 1 < (l.length : Int) := by omega
          clear h3
          go_wp2_with (at_builtin; refine wpList_append_any rfl (.tmp 28) (.tmp 33) 28 rfl w.heap.size 35 i0 _ 2 16 Try.underlying28 hi0 hz0 hz1 hz2 rfl (by omega) _ _ _ rfl (HO.out.alloc _) _ _ 1 1 _ rfl HN'.out ?m1 ?m2 ?m3 ?m4 ?m5)
          case m1 => first | (exact ⟨rfl, rfl⟩) | (intro u hu; simp at hu; rcases hu with rfl | rfl <;> rfl)
          case m2 => simp only [maxLen]; omega
          case m3 => omega
          case m4 => have := hb.size; first | omega | (simp; omega)
          case m5 =>
            intro v' w' ho hg _
            have HO' := Lib.hid ho
            have hB := (hb.alloc hb.size _).grown hg (by have := hb.size; simp; omega) (fun g hg => (HO.out.lt g hg).1)
            clear ho hg
            go_wp2
            go_roundw
            case rel => exact ⟨k + 1, by omega, by go_num, by rw [HD.out, HN.out]; exact HO'.out, hB⟩
            case measure => simp [intOf]; omega
    · obtain rfl : k = l.length := by omega
      have HO := Lib.hid hown
      clear hown
      go_wp2
      go_ret
      refine ⟨_, rfl, ?_, hb⟩
      have := HO.out
      rwa [List.take_length] at this
end Go.Proofs.Ytpejhgkcofilmaa
