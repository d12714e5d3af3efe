/- What the law SnapWhole keeps from commit to commit. No condition. -/
import Derived.Test.YtpejhgkcofilmaaSnapK
set_option linter.unusedVariables false
namespace Go.Proofs.Ytpejhgkcofilmaa
open Go.RowKit

/-- The two entries of a commit. -/
def twoE (a i v : Int) : List Ent := [⟨0, a, i, 0, v, true⟩, ⟨2, a, i, 0, v, true⟩]
/-- The state behind i commits: the two cells' lists are one and the same. -/
def Good (i : Int) (g : Int → Option (List (Int × Int))) (W : Int → Option Int) (last : Int) : Prop :=
  ∃ L, listOf 3 g 0 = L ∧ listOf 3 g 2 = L ∧ Asc L ∧ (∀ p ∈ L, p.1 ≤ i) ∧ L[0]? = some (0, 0) ∧ (lastP L).2 = last ∧ (W 0).getD 0 = i ∧ (W 2).getD 0 = i ∧ ∀ k, ((listOf 3 g k).length : Int) ≤ i + 1
theorem good_0 : Good 0 noG noW 0 :=
  ⟨[(0, 0)], rfl, rfl, by simp [Asc], by simp, rfl, rfl, rfl, rfl, fun k => by have := listOf_no 3 k; omega⟩
section
variable {i : Int} {g : Int → Option (List (Int × Int))} {W : Int → Option Int} {last : Int}
theorem two_ok (a i v : Int) (h : 0 ≤ i) (h' : i ≤ 1000) : ∀ e ∈ twoE a i v, EntOk e := by
  intro e he
  unfold twoE at he
  simp only [List.mem_cons, List.not_mem_nil, or_false] at he
  rcases he with rfl | rfl <;> (unfold EntOk; dsimp only; omega)
theorem two_chk (a i v : Int) (h : 0 ≤ i) (h' : i ≤ 1000) : chk (twoE a i v) = 0 := by
  have e1 : ∀ lo : Int, lo = 0 ∨ lo = 2 → entE ⟨lo, a, i, 0, v, true⟩ = 0 := by
    intro lo hlo
    unfold entE
    dsimp only
    rw [if_neg (by omega), if_neg (by simp), if_neg (by omega), if_neg (by simp)]
  unfold chk twoE
  rw [if_neg (by simp), if_neg (by simp)]
  simp [chkL, e1 0 (.inl rfl), e1 2 (.inr rfl)]
theorem Good.len (h : Good i g W last) (k : Int) : ((listOf 3 g k).length : Int) ≤ i + 1 := by
  obtain ⟨_, _, _, _, _, _, _, _, _, hl⟩ := h
  exact hl k
theorem Good.wrong (h : Good i g W last) (h0 : 0 ≤ i) (h1 : i ≤ 1000) (v : Int) : wrongE 3 g W (twoE last i v) = 0 := by
  obtain ⟨L, l0, l2, _, _, _, hl, w0, w2, _⟩ := h
  unfold wrongE
  rw [two_chk last i v h0 h1]
  have e1 : (twoE last i v).any (fun e => !inC 3 e) = false := by simp [twoE, inC]
  have e2 : (twoE last i v).any (fun e => !asIs 3 g W e) = false := by simp [twoE, asIs, l0, l2, hl, w0, w2]
  rw [e1, e2]
  simp
theorem Good.add (h : Good i g W last) (h0 : 0 ≤ i) (h1 : i ≤ 1000) (v : Int) : ∀ e ∈ twoE last i v, e.wr = true → addE (listOf 3 g e.loc) (i + 1) = 0 := by
  obtain ⟨L, l0, l2, _, hle, hh, _, _, _, hlen⟩ := h
  have key : addE L (i + 1) = 0 := by
    have hlen' : (L.length : Int) ≤ i + 1 := by rw [← l0]; exact hlen 0
    have hne : L ≠ [] := by rintro rfl; simp at hh
    unfold addE
    have hlast : (lastP L).1 ≤ i := by
      cases hk : L.length with
      | zero => exact absurd (List.eq_nil_of_length_eq_zero hk) hne
      | succ k =>
        obtain ⟨hkl, hP⟩ := lastP_get L k hk
        rw [hP]
        exact hle _ (List.getElem_mem hkl)
    rw [if_neg (by omega), if_neg (fun x => by have := x.2; omega), if_neg (by omega)]
  intro e he _
  unfold twoE at he
  simp only [List.mem_cons, List.not_mem_nil, or_false] at he
  rcases he with rfl | rfl
  · show addE (listOf 3 g 0) (i + 1) = 0; rw [l0]; exact key
  · show addE (listOf 3 g 2) (i + 1) = 0; rw [l2]; exact key
theorem acc_two (g : Int → Option (List (Int × Int))) (a i v : Int) (k : Int) : accG 3 i g (twoE a i v) k = if k = 2 then some (listOf 3 g 2 ++ [(i + 1, v)]) else if k = 0 then some (listOf 3 g 0 ++ [(i + 1, v)]) else none := rfl
theorem Good.next (h : Good i g W last) (h0 : 0 ≤ i) (h1 : i ≤ 1000) (v : Int) :
    Good (i + 1) (fun k => (accG 3 i g (twoE last i v) k).or (g k)) (fun k => if (accG 3 i g (twoE last i v) k).isSome then some (((W k).getD 0 + 1) % 4294967296) else W k) v := by
  obtain ⟨L, l0, l2, ha, hle, hh, _, w0, w2, hlen⟩ := h
  have a0 : accG 3 i g (twoE last i v) 0 = some (L ++ [(i + 1, v)]) := by rw [acc_two, if_neg (by decide), if_pos rfl, l0]
  have a2 : accG 3 i g (twoE last i v) 2 = some (L ++ [(i + 1, v)]) := by rw [acc_two, if_pos rfl, l2]
  have hlen' : (L.length : Int) ≤ i + 1 := by rw [← l0]; exact hlen 0
  refine ⟨L ++ [(i + 1, v)], ?_, ?_, ?_, ?_, ?_, ?_, ?_, ?_, ?_⟩
  · unfold listOf; rw [if_pos (by decide)]; show ((accG 3 i g (twoE last i v) 0).or (g 0)).getD [(0, 0)] = _; rw [a0]; rfl
  · unfold listOf; rw [if_pos (by decide)]; show ((accG 3 i g (twoE last i v) 2).or (g 2)).getD [(0, 0)] = _; rw [a2]; rfl
  · unfold Asc at *
    rw [List.pairwise_append]
    refine ⟨ha, by simp, fun p hp q hq => ?_⟩
    simp only [List.mem_singleton] at hq
    subst hq
    have := hle p hp
    show p.1 < i + 1
    omega
  · intro p hp
    rcases List.mem_append.1 hp with hp | hp
    · have := hle p hp; omega
    · simp only [List.mem_singleton] at hp; subst hp; exact Int.le_refl _
  · cases hL : L with
    | nil => rw [hL] at hh; simp at hh
    | cons p t => rw [hL] at hh; simpa using hh
  · unfold lastP; simp
  · dsimp only; rw [a0]; simp [w0]; omega
  · dsimp only; rw [a2]; simp [w2]; omega
  · intro k
    unfold listOf
    by_cases hk : 0 ≤ k ∧ k < 3
    · rw [if_pos hk]
      show ((((accG 3 i g (twoE last i v) k).or (g k)).getD [(0, 0)]).length : Int) ≤ _
      rw [acc_two]
      by_cases k2 : k = 2
      · rw [if_pos k2, l2]; simp; omega
      · rw [if_neg k2]
        by_cases k0 : k = 0
        · rw [if_pos k0, l0]; simp; omega
        · rw [if_neg k0]
          have := hlen k
          unfold listOf at this
          rw [if_pos hk] at this
          simp only [Option.or]
          omega
    · rw [if_neg hk]; simp; omega
/-- A reader that is open sees the same value in both cells. -/
theorem Good.see (h : Good i g W last) (t : Int) (ht : 0 ≤ t) : listOf 3 g 0 = listOf 3 g 2 ∧ Asc (listOf 3 g 2) ∧ seeB (listOf 3 g 2) t = true := by
  obtain ⟨L, l0, l2, ha, hle, hh, _⟩ := h
  refine ⟨by rw [l0, l2], by rw [l2]; exact ha, ?_⟩
  rw [l2]
  cases hL : L with
  | nil => rw [hL] at hh; simp at hh
  | cons p r =>
    rw [hL] at hh
    simp at hh
    subst hh
    simp [seeB, aft, ht]
end
end Go.Proofs.Ytpejhgkcofilmaa
