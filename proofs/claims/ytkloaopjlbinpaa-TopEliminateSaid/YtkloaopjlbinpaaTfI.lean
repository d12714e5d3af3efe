/- Done at TopEliminate's closure, in one contract. Condition: a stack lies in the words. -/
import Derived.Test.YtkloaopjlbinpaaTfG
set_option linter.unusedVariables false
set_option linter.unusedSimpArgs false
namespace Go.Proofs.Ytkloaopjlbinpaa
open Go.RowKit Go.MapKept

theorem walk_done (w : World) (kb br bv be : Nat) (g : Mem) (l : List Int) (nh : Nat) (hm : IntMap w kb g.at) (hf : g.Fits 4294967294) (hst : StkI g.val l nh) (h3 : HB 44 w br #[.int .i64 16]) (h7 : HB 22 w bv #[.slice none 0 0]) (h8 : HB 34 w be #[.int .i64 0]) (n1 : br ≠ bv) (n2 : br ≠ be) (n3 : bv ≠ be) (nk : kb ≠ bv) :
    Calls Try.prog 11 #[.map (some kb), .func (.func 12) #[] #[.pointer (some ⟨br, 0, none⟩), .pointer (some ⟨bv, 0, none⟩), .pointer (some ⟨be, 0, none⟩)]] w fun e w' => ∃ (nb : Nat) (ev v : Value), e = .returned (.tuple #[.map (some nb), ev, .bool true]) ∧ HB 22 w' bv #[v] ∧ HB 34 w' be #[.int .i64 0] ∧ w'.ownsRow w.heap.size 2 1 v l.length (l.map (.int .i64)) ∧ KX (fun b => b = bv ∨ w.heap.size ≤ b) w w' := by
  refine (done_own 12 #[.pointer (some ⟨br, 0, none⟩), .pointer (some ⟨bv, 0, none⟩), .pointer (some ⟨be, 0, none⟩)] top_hcf w kb g hm hf (fun b => b = bv) (fun _ Y W => ∃ v, (∀ b, v.ownBlock = some b → Y b) ∧ HB 22 W bv #[v] ∧ HB 34 W be #[.int .i64 0] ∧ W.ownsRow w.heap.size 2 1 v l.length (l.map (.int .i64))) nk
    (fun P' Y W W' h hk => ?_) (fun W sb hb hsb hs => (top_do w W sb br bv be g l nh h3 h7 h8 n1 n2 n3 hst hb hs).mono fun e w' h => ?_)).mono fun e w' h => ?_
  · obtain ⟨v, hy, k7, k8, ho⟩ := h
    exact ⟨v, hy, k7.kx hk (fun h => by have := h7.lt; have := h.1; omega), k8.kx hk (fun h => by have := h8.lt; have := h.1; omega), own_kx ho hk (fun b hb h => h.2 (hy b hb))⟩
  · obtain ⟨rfl, v, hs', hk, k7, k8, ho⟩ := h
    exact ⟨rfl, [], fun b => v.ownBlock = some b, hs', fun b hb => (ho.lt b hb).2, by simp, hk, v, fun b h => h, k7, k8, ho⟩
  · obtain ⟨nb, ev, P', Y, rfl, -, -, ⟨v, -, k7, k8, ho⟩, hk⟩ := h
    exact ⟨nb, ev, v, rfl, k7, k8, ho, hk⟩
end Go.Proofs.Ytkloaopjlbinpaa
