/- The stack's Push, Pop and Walk over a space whose words hold a stack. Conditions: less than 128 nodes, at most 70000 writes. -/
import Derived.Test.YtkloaopjlbinpaaTeE
import Derived.Test.YtkloaopjlbinpaaTeP
set_option linter.unusedVariables false
set_option linter.unusedSimpArgs false
namespace Go.Proofs.Ytkloaopjlbinpaa
open Go.RowKit Go.MapKept

theorem wrap_len (l : List Int) (nh : Nat) (h : l.length ≤ nh ∧ nh ≤ 128) : IntKind.i64.wrap ((l.length : Int) + 1) = (l.length : Int) + 1 := wrap_i64 _ (by omega) (by omega)
theorem stk_push {X : Nat → Prop} {w : World} {base sb : Nat} {g : Mem} {P : List (Int × Int)} (h : SpE w X base sb g P) (hX : ∀ b, w.heap.size ≤ b → X b) (hn : P.length ≤ 70000) {l : List Int} {nh : Nat} (hs : StkI (cur g P) l nh) (hh : nh < 128) (v : Int) :
    Calls Try.prog 19 #[.pointer (some ⟨sb, 0, none⟩), .agg #[.int .i64 1, .int .i64 96, .int .i64 128], .int .i64 16, .int .i64 v] w fun e w' => e = .returned (.int .i64 0) ∧ KX X w w' ∧ ∃ P' nh', SpE w' X base sb g P' ∧ StkI (cur g P') (v :: l) nh' ∧ nh' ≤ nh + 1 ∧ P'.length ≤ P.length + 7 := by
  have hl := hs.len
  have wl := wrap_len l nh hl
  obtain ⟨ns, fs, hs⟩ := hs
  rcases fs with _ | ⟨f, fs⟩
  · refine (push_any h hX (by omega) v (adr nh) [(2, (nh : Int) + 1)] (by simp) ⟨by unfold inM adr; omega, by unfold inM adr; omega⟩ (cur g P 16) (cur g P 17) l.length (by rw [cur_push]; exact if_neg (by decide)) (by rw [cur_push]; exact if_neg (by decide)) (by rw [cur_push]; exact (if_neg (by decide)).trans hs.held) (by unfold adr; omega)
      (fun W Y hS hY => take_new hS hY (by omega) nh hh hs.free hs.h2)).mono fun e w' he => ⟨he.1, he.2.2, _, nh + 1, he.2.1, ⟨nh :: ns, [], ?_⟩, Nat.le_refl _, by simp⟩
    rw [wl, cur_app, cur_push]
    simp only [List.foldl_cons, List.foldl_nil]
    refine hs.push_new hh (fun b b1 b2 b3 b4 b5 b6 => ?_) ?_ ?_ ?_ ?_ ?_ <;> unfold setI
    · rw [if_neg b6, if_neg b5, if_neg b4, if_neg b3, if_neg b2, if_neg b1]
    · rw [if_neg (by decide), if_neg (by decide), if_neg (by decide), if_neg (by unfold adr; omega), if_neg (by unfold adr; omega), if_pos rfl]
    · rw [if_neg (by unfold adr; omega), if_neg (by unfold adr; omega), if_neg (by unfold adr; omega), if_neg (by unfold adr; omega), if_pos rfl]
    · rw [if_neg (by unfold adr; omega), if_neg (by unfold adr; omega), if_neg (by unfold adr; omega), if_pos rfl]
    · rw [if_neg (by decide), if_neg (by decide), if_pos rfl]
    · rw [if_pos rfl]
  · have hf : f < 128 := Nat.lt_of_lt_of_le (hs.lt f (by simp)) hs.le
    refine (push_any h hX (by omega) v (adr f) [(1, cur g P (adr f)), (3, IntKind.i64.wrap (cur g P 3 + -1))] (by simp) ⟨by unfold inM adr; omega, by unfold inM adr; omega⟩ (cur g P 16) (cur g P 17) l.length
      (by rw [cur_app]; simp only [List.foldl_cons, List.foldl_nil]; unfold setI; rw [if_neg (by decide), if_neg (by decide)])
      (by rw [cur_app]; simp only [List.foldl_cons, List.foldl_nil]; unfold setI; rw [if_neg (by decide), if_neg (by decide)])
      (by rw [cur_app]; simp only [List.foldl_cons, List.foldl_nil]; unfold setI; rw [if_neg (by decide), if_neg (by decide)]; exact hs.held) (by unfold adr; omega)
      (fun W Y hS hY => take_free hS hY (by omega) f hf (adr f) (cur g P (adr f)) (cur g P 3) rfl hs.free.1 rfl rfl)).mono fun e w' he => ⟨he.1, he.2.2, _, nh, he.2.1, ⟨f :: ns, fs, ?_⟩, Nat.le_succ _, by simp⟩
    rw [wl, cur_app, cur_app]
    simp only [List.foldl_cons, List.foldl_nil]
    refine hs.push_free (fun b b1 b2 b3 b4 b5 b6 b7 => ?_) ?_ ?_ ?_ ?_ ?_ <;> unfold setI
    · rw [if_neg b7, if_neg b6, if_neg b5, if_neg b4, if_neg b3, if_neg b2, if_neg b1]
    · rw [if_neg (by decide), if_neg (by decide), if_neg (by decide), if_neg (by unfold adr; omega), if_neg (by unfold adr; omega), if_neg (by decide), if_pos rfl]
    · rw [if_neg (by unfold adr; omega), if_neg (by unfold adr; omega), if_neg (by unfold adr; omega), if_neg (by unfold adr; omega), if_pos rfl]
    · rw [if_neg (by unfold adr; omega), if_neg (by unfold adr; omega), if_neg (by unfold adr; omega), if_pos rfl]
    · rw [if_neg (by decide), if_neg (by decide), if_pos rfl]
    · rw [if_pos rfl]
theorem stk_none {X : Nat → Prop} {w : World} {base sb : Nat} {g : Mem} (h : SpE w X base sb g []) (hX : ∀ b, w.heap.size ≤ b → X b) {nh : Nat} (hs : StkI g.val [] nh) :
    Calls Try.prog 23 #[.pointer (some ⟨sb, 0, none⟩), .agg #[.int .i64 1, .int .i64 96, .int .i64 128], .int .i64 16] w fun e w' => e = .returned (.tuple #[.int .i64 0, .int .i64 8]) ∧ SpE w' X base sb g [] ∧ KX X w w' := by
  refine pop_empty h hX ?_
  obtain ⟨ns, fs, hs⟩ := hs
  have hv := hs.vals
  rcases ns with _ | ⟨n, ns⟩
  · exact hs.top
  · cases hv
theorem stk_pop {X : Nat → Prop} {w : World} {base sb : Nat} {g : Mem} {P : List (Int × Int)} (h : SpE w X base sb g P) (hX : ∀ b, w.heap.size ≤ b → X b) (hn : P.length ≤ 70000) {l : List Int} {nh : Nat} {v : Int} (hs : StkI (cur g P) (v :: l) nh) :
    Calls Try.prog 23 #[.pointer (some ⟨sb, 0, none⟩), .agg #[.int .i64 1, .int .i64 96, .int .i64 128], .int .i64 16] w fun e w' => e = .returned (.tuple #[.int .i64 v, .int .i64 0]) ∧ KX X w w' ∧ ∃ P', SpE w' X base sb g P' ∧ StkI (cur g P') l nh ∧ P'.length ≤ P.length + 7 := by
  have hl := hs.len
  have wl : IntKind.i64.wrap (((v :: l).length : Int) + -1) = (l.length : Int) := by
    rw [List.length_cons] at hl ⊢
    rw [wrap_i64 _ (by omega) (by omega)]
    omega
  obtain ⟨ns, fs, hs⟩ := hs
  rcases ns with _ | ⟨n, ns⟩
  · have := hs.vals; cases this
  · have hf : n < 128 := Nat.lt_of_lt_of_le (hs.lt n (by simp)) hs.le
    have hv := hs.vals
    rw [List.map_cons] at hv
    injection hv with hv1 hv2
    refine (pop_any h hX (by omega) n hf (adr n) (cur g P (adr n)) v (cur g P 1) (cur g P 3) (cur g P 17) (v :: l).length rfl hs.top.1 rfl hv1 rfl rfl rfl hs.held).mono fun e w' he => ⟨he.1, he.2.2, _, he.2.1, ⟨ns, n :: fs, ?_⟩, by simp⟩
    rw [wl, cur_app]
    simp only [List.foldl_cons, List.foldl_nil]
    refine hs.pop (fun b b1 b2 b3 b4 b5 b6 => ?_) ?_ ?_ ?_ ?_ <;> unfold setI
    · rw [if_neg b6, if_neg b5, if_neg b4, if_neg b2, if_neg b1, if_neg b3]
    · rw [if_neg (by unfold adr; omega), if_neg (by unfold adr; omega), if_neg (by unfold adr; omega), if_neg (by unfold adr; omega), if_neg (by unfold adr; omega), if_pos rfl]
    · rw [if_neg (by decide), if_neg (by decide), if_neg (by decide), if_neg (by decide), if_pos rfl]
    · rw [if_neg (by decide), if_neg (by decide), if_pos rfl]
    · rw [if_pos rfl]
end Go.Proofs.Ytkloaopjlbinpaa
