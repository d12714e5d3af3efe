/- The walks of the lexer's digit, letter, run and blank. No condition. -/
import Derived.Test.YtjknmfnelkhmcaaDoorLxS
set_option linter.unusedVariables false
set_option linter.unusedSimpArgs false
namespace Go.Proofs.YtjknmfnelkhmcaaDoor
open Go.RowKit

def digZ (r : Int) : Bool := decide (48 ≤ r) && decide (r ≤ 57)
def letZ (r : Int) : Bool := decide (r = 95) || (decide (97 ≤ r) && decide (r ≤ 122)) || (decide (65 ≤ r) && decide (r ≤ 90))
theorem digZ_nat (n : Nat) : digZ n = digN n := by
  unfold digZ digN
  rw [show decide ((48 : Int) ≤ (n : Int)) = decide (48 ≤ n) from decide_eq_decide.2 (by omega), show decide ((n : Int) ≤ 57) = decide (n ≤ 57) from decide_eq_decide.2 (by omega)]
theorem letZ_nat (n : Nat) : letZ n = letN n := by
  unfold letZ letN
  rw [show decide ((n : Int) = 95) = decide (n = 95) from decide_eq_decide.2 (by omega), show decide ((97 : Int) ≤ (n : Int)) = decide (97 ≤ n) from decide_eq_decide.2 (by omega), show decide ((n : Int) ≤ 122) = decide (n ≤ 122) from decide_eq_decide.2 (by omega),
    show decide ((65 : Int) ≤ (n : Int)) = decide (65 ≤ n) from decide_eq_decide.2 (by omega), show decide ((n : Int) ≤ 90) = decide (n ≤ 90) from decide_eq_decide.2 (by omega)]
theorem digZ_high {r : Int} (h : 128 ≤ r) : digZ r = false := by
  unfold digZ
  rw [decide_eq_false (show ¬ r ≤ 57 by omega), Bool.and_false]
theorem letZ_high {r : Int} (h : 128 ≤ r) : letZ r = false := by
  unfold letZ
  rw [decide_eq_false (show ¬ r = 95 by omega), decide_eq_false (show ¬ r ≤ 122 by omega), decide_eq_false (show ¬ r ≤ 90 by omega), Bool.and_false, Bool.and_false]
  rfl

set_option maxRecDepth 100000 in
theorem digit_any (r : Int) (w : World) : Calls Tryd.prog 27 #[.int .i32 r] w fun e w' => e = .returned (.bool (digZ r)) ∧ w' = w := by
  unfold digZ
  by_cases h1 : 48 ≤ r
  · by_cases h2 : r ≤ 57
    all_goals (
      go_enter Tryd.func27, Tryd.ntmps27
      go_wp2
      go_ret
      exact ⟨by first | (simp [h1, h2]; done) | (simp [h1, h2]; omega), rfl⟩)
  · go_enter Tryd.func27, Tryd.ntmps27
    go_wp2
    go_ret
    exact ⟨by first | (simp [h1]; done) | (simp [h1]; omega), rfl⟩
set_option maxRecDepth 100000 in
set_option maxHeartbeats 1600000 in
theorem letter_any (r : Int) (w : World) : Calls Tryd.prog 32 #[.int .i32 r] w fun e w' => e = .returned (.bool (letZ r)) ∧ w' = w := by
  unfold letZ
  by_cases h0 : r = 95
  · subst h0
    go_enter Tryd.func32, Tryd.ntmps32
    go_wp2
    go_ret
    exact ⟨rfl, rfl⟩
  · by_cases h1 : 97 ≤ r <;> by_cases h2 : r ≤ 122 <;> by_cases h3 : 65 ≤ r <;> by_cases h4 : r ≤ 90
    all_goals first
      | (exfalso; omega)
      | (go_enter Tryd.func32, Tryd.ntmps32
         go_wp2
         go_ret
         exact ⟨by first | (simp [h0, h1, h2, h3, h4]; done) | (simp [h0, h1, h2, h3, h4]; rw [beq_eq_false_iff_ne.2 h0, decide_eq_false (by omega), decide_eq_false (by omega)]; rfl), rfl⟩)

theorem width_pos (s : ByteArray) (pos : Nat) (h : pos < s.size) : 1 ≤ (Utf8.decode s pos).2 := by
  by_cases ha : (s[pos]'h).toNat < 128
  · rw [decode_ascii s pos h ha]
    exact Nat.le_refl _
  · exact (decode_high s pos h (by omega)).2
theorem word_step (l : List UInt8) : ∀ (k : Nat) (hk : k < l.length), k ≤ (word l).length → (partB l[k] = true → k + 1 ≤ (word l).length) ∧ (partB l[k] = false → (word l).length = k) := by
  induction l with
  | nil => intro k hk; cases hk
  | cons b t ih =>
    intro k hk h
    unfold word at *
    rw [List.takeWhile_cons] at *
    cases k with
    | zero =>
      rw [List.getElem_cons_zero]
      refine ⟨fun hp => ?_, fun hp => ?_⟩
      · rw [if_pos hp, List.length_cons]; omega
      · rw [if_neg (by rw [hp]; decide)]; rfl
    | succ k =>
      rw [List.getElem_cons_succ]
      by_cases hb : partB b = true
      · rw [if_pos hb, List.length_cons] at *
        obtain ⟨g1, g2⟩ := ih k (by simpa using hk) (by omega)
        exact ⟨fun hp => by have := g1 hp; omega, fun hp => by have := g2 hp; omega⟩
      · rw [if_neg hb] at h
        simp at h
theorem word_all {l : List UInt8} (h : l.length ≤ (word l).length) : word l = l := by
  have := word_take l
  rw [List.take_of_length_le h] at this
  exact this.symm
theorem iter_below (w : World) (s : ByteArray) (p : Nat) : Below w.heap.size w (w.iter s p) := (Below.refl _ _).alloc (Nat.le_refl _) _
theorem bs_get (l : List UInt8) (k : Nat) (hk : k < l.length) (h : k < (bs l).size) : (bs l)[k]'h = l[k] := rfl

set_option maxRecDepth 100000 in
set_option maxHeartbeats 1600000 in
theorem run_any (l : List UInt8) (w : World) :
    Calls Tryd.prog 26 #[.string (bs l)] w fun e w' => e = .returned (.string (bs (word l))) ∧ Below w.heap.size w w' := by
  go_enter Tryd.func26, Tryd.ntmps26
  go_wp2
  go_loopw [3] (fun _ wr => ∃ k : Nat, k ≤ l.length ∧ k ≤ (word l).length ∧ wr = w.iter (bs l) k) (fun _ wr => l.length - wr.iterPos w.heap.size)
  case atStart => exact ⟨0, by omega, by omega, rfl⟩
  case round =>
    obtain ⟨k, hk, hw, rfl⟩ := hrel
    by_cases hp : k < l.length
    · have hps : k < (bs l).size := hp
      have HK := Lib.hid hp
      obtain ⟨s1, s2⟩ := word_step l k hp hw
      by_cases ha : (l[k]).toNat < 128
      · have hnx : ∀ ty, (Instr.next (.pointer (some ⟨w.heap.size, 0, none⟩)) true ty).run Tryd.prog (w.iter (bs l) k) = .ok (.tuple #[.bool true, .int .i64 k, .int .i32 (l[k]).toNat]) (w.iter (bs l) (k + 1)) := fun ty => run_next_ascii w (bs l) k ty hps ha
        have HL := Lib.hid (letter_any ((l[k]).toNat : Int) (w.iter (bs l) (k + 1)))
        have HD := Lib.hid (digit_any ((l[k]).toNat : Int) (w.iter (bs l) (k + 1)))
        rw [letZ_nat] at HL
        rw [digZ_nat] at HD
        by_cases h1 : letN (l[k]).toNat = true
        · have hpart : partB l[k] = true := by unfold partB partN; rw [h1]; rfl
          have S1 := Lib.hid (s1 hpart)
          rw [h1] at HL
          clear s1 s2 hpart h1 HD hw
          generalize (l[k]).toNat = c at *
          clear hps hp
          go_wp2_with fail
          refine HL.out.mono ?_
          rintro e w1 ⟨rfl, rfl⟩
          go_wp2
          go_roundw
          case rel => exact ⟨k + 1, HK.out, S1.out, rfl⟩
          case measure => rw [World.iterPos_iter, World.iterPos_iter]; have := HK.out; omega
        · have h1f : letN (l[k]).toNat = false := by simpa using h1
          rw [h1f] at HL
          by_cases h2 : digN (l[k]).toNat = true
          · have hpart : partB l[k] = true := by unfold partB partN; rw [h2, Bool.or_true]
            have S1 := Lib.hid (s1 hpart)
            rw [h2] at HD
            clear s1 s2 hpart h1 h2 h1f hw
            generalize (l[k]).toNat = c at *
            clear hps hp
            go_wp2_with fail
            refine HL.out.mono ?_
            rintro e w1 ⟨rfl, rfl⟩
            go_wp2_with fail
            refine HD.out.mono ?_
            rintro e w1 ⟨rfl, rfl⟩
            go_wp2
            go_roundw
            case rel => exact ⟨k + 1, HK.out, S1.out, rfl⟩
            case measure => rw [World.iterPos_iter, World.iterPos_iter]; have := HK.out; omega
          · have h2f : digN (l[k]).toNat = false := by simpa using h2
            rw [h2f] at HD
            have hpart : partB l[k] = false := by unfold partB partN; rw [h1f, h2f]; rfl
            have S2 := Lib.hid (s2 hpart)
            have HE := Lib.hid (bs_head l k)
            have hkz : (k : Int) ≤ ((bs l).size : Int) := by omega
            clear s1 s2 hpart h1 h2 h1f h2f hw
            generalize (l[k]).toNat = c at *
            clear hp hps
            go_wp2_with fail
            refine HL.out.mono ?_
            rintro e w1 ⟨rfl, rfl⟩
            go_wp2_with fail
            refine HD.out.mono ?_
            rintro e w1 ⟨rfl, rfl⟩
            go_wp2
            go_ret
            exact ⟨by rw [HE.out, ← S2.out, word_take]; rfl, iter_below _ _ _⟩
      · have hnx : ∀ ty, (Instr.next (.pointer (some ⟨w.heap.size, 0, none⟩)) true ty).run Tryd.prog (w.iter (bs l) k) = .ok (.tuple #[.bool true, .int .i64 k, .int .i32 (Utf8.decode (bs l) k).1]) (w.iter (bs l) (k + (Utf8.decode (bs l) k).2)) := fun ty => run_next_any w (bs l) k ty hps
        have hhi := (decode_high (bs l) k hps (by rw [bs_get l k hp]; omega)).1
        have hpart : partB l[k] = false := by
          cases hq : partB l[k] with
          | false => rfl
          | true => exact absurd (part_low hq) ha
        have S2 := Lib.hid (s2 hpart)
        have HE := Lib.hid (bs_head l k)
        have HL := Lib.hid (letter_any ((Utf8.decode (bs l) k).1 : Int) (w.iter (bs l) (k + (Utf8.decode (bs l) k).2)))
        have HD := Lib.hid (digit_any ((Utf8.decode (bs l) k).1 : Int) (w.iter (bs l) (k + (Utf8.decode (bs l) k).2)))
        rw [letZ_high (by omega)] at HL
        rw [digZ_high (by omega)] at HD
        have hkz : (k : Int) ≤ ((bs l).size : Int) := by omega
        clear s1 s2 hpart hw hhi ha
        generalize (Utf8.decode (bs l) k).1 = c at *
        generalize k + (Utf8.decode (bs l) k).2 = k2 at *
        clear hp hps
        go_wp2_with fail
        refine HL.out.mono ?_
        rintro e w1 ⟨rfl, rfl⟩
        go_wp2_with fail
        refine HD.out.mono ?_
        rintro e w1 ⟨rfl, rfl⟩
        go_wp2
        go_ret
        exact ⟨by rw [HE.out, ← S2.out, word_take]; rfl, iter_below _ _ _⟩
    · have hps : ¬ k < (bs l).size := hp
      have hnx : ∀ ty, (Instr.next (.pointer (some ⟨w.heap.size, 0, none⟩)) true ty).run Tryd.prog (w.iter (bs l) k) = _ := fun ty => run_next_end w (bs l) k ty hps
      have HE := Lib.hid (word_all (l := l) (by omega))
      clear hp hps hw hk
      go_wp2
      go_ret
      exact ⟨by rw [HE.out]; rfl, iter_below _ _ _⟩
end Go.Proofs.YtjknmfnelkhmcaaDoor
