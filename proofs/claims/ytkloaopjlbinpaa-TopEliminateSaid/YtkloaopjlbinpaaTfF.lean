/- Reverse and Equal on []int64 in the words of rows. Condition: at most 100000 values. -/
import Derived.Test.YtkloaopjlbinpaaTfE
set_option linter.unusedVariables false
set_option linter.unusedSimpArgs false
namespace Go.Proofs.Ytkloaopjlbinpaa
open Go.RowKit Go.MapKept

theorem rev_own {w : World} {base : Nat} {v : Value} {l : List Int} (h : w.ownsRow base 2 1 v l.length (l.map (.int .i64))) (hlen : l.length ≤ 100000) :
    Calls Try.prog 15 #[v] w fun e w' => e = .returned (.tuple #[]) ∧ w'.ownsRow base 2 1 v l.length (l.reverse.map (.int .i64)) ∧ w.grownBy w' v.ownBlock := by
  rcases h.2 with ⟨rfl, h0⟩ | ⟨g, cap, cur, rfl, hb, hg, hn, hm, hs, ht⟩
  · have hl : l = [] := List.eq_nil_of_length_eq_zero h0
    subst hl
    refine (Try.slices_Reverse_int_empty none 0 w).mono fun e w' he => ⟨he.1, ?_, ?_⟩
    · rw [he.2]; exact World.ownsRow_nil _ _ _ _
    · rw [he.2]; exact ⟨rfl, rfl, rfl, Nat.le_refl _, fun _ _ _ => rfl⟩
  · rw [Nat.mul_one] at ht
    refine (Try.slices_Reverse_int g 0 cap l w (holds_of_blockI hg ht) (by omega)).mono fun e w' he => ?_
    obtain ⟨rfl, n, rfl⟩ := he
    have e1 : Sort.putRow (Value.int .i64) (Sort.ahead w n) g 0 l.reverse.toArray = Sort.grow (Sort.putRow (Value.int .i64) (Sort.ahead w n) g 0 l.reverse.toArray) #[] := (Sort.grow_empty _).symm
    rw [e1]
    exact ⟨rfl, ownsRow_sortedI (List.length_reverse) hb hg hn hm (by omega), grownBy_sortedI _⟩
theorem equal_same (w : World) (A A2 : Option Addr) (n c c2 : Nat) (l : List Int) (hl : l.length = n) (hn : n ≤ 100000) (h1 : Reads w (fun _ => True) 1 A n (l.map (.int .i64))) (h2 : Reads w (fun _ => True) 1 A2 n (l.map (.int .i64))) :
    Calls Try.prog 16 #[.slice A n c, .slice A2 n c2] w fun e w' => e = .returned (.bool true) ∧ ∃ q, w' = w.drewN q := by
  rcases Nat.eq_zero_or_pos n with h0 | h0
  · subst h0
    exact (Try.slices_Equal_int_empty A A2 c 0 c2 w (by omega)).mono fun e w' h => ⟨h.1, 0, h.2⟩
  · obtain ⟨b, o, rfl, -, -, hc⟩ := h1.2 h0
    obtain ⟨b2, o2, rfl, -, -, hc2⟩ := h2.2 h0
    refine (Try.slices_Equal_int b o n c b2 o2 n c2 l l w (by omega) (by omega) (by omega) (by omega) (fun j hj => hc j _ (by rw [List.getElem?_map, List.getD_eq_getElem?_getD, List.getElem?_eq_getElem hj]; rfl)) (fun j hj => hc2 j _ (by rw [List.getElem?_map, List.getD_eq_getElem?_getD, List.getElem?_eq_getElem hj]; rfl))).mono fun e w' h => ⟨?_, h.2⟩
    rw [h.1, beq_self_eq_true]
end Go.Proofs.Ytkloaopjlbinpaa
