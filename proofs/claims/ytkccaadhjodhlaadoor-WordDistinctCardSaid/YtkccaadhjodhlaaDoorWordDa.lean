/- Two words' text forms: the numerals of different numbers differ; a held word's text tells its reference. No condition. -/
import Derived.Test.YtkccaadhjodhlaaDoorWordY
import Derived.Test.YtkccaadhjodhlaaDoorWordV
set_option linter.unusedVariables false
namespace Go.Proofs.YtkccaadhjodhlaaDoor
open Go.RowKit

theorem digits_of (u : Nat) : ∀ c ∈ Lib.decDigits u, 48 ≤ c.toNat ∧ c.toNat ≤ 57 := by
  induction u using Nat.strongRecOn with
  | _ u ih =>
    intro c hc
    rw [Lib.decDigits] at hc
    split at hc
    · simp only [List.mem_singleton] at hc
      subst hc
      simp only [UInt8.toNat_ofNat']
      omega
    · rename_i h
      rcases List.mem_append.1 hc with hc | hc
      · exact ih _ (by omega) c hc
      · simp only [List.mem_singleton] at hc
        subst hc
        simp only [UInt8.toNat_ofNat']
        omega
def decode (l : List UInt8) : Nat := l.foldl (fun n c => 10 * n + (c.toNat - 48)) 0
theorem decode_dec (u : Nat) : decode (Lib.decDigits u) = u := by
  induction u using Nat.strongRecOn with
  | _ u ih =>
    rw [Lib.decDigits]
    split
    · simp only [decode, List.foldl_cons, List.foldl_nil, UInt8.toNat_ofNat']
      omega
    · rename_i h
      have := ih (u / 10) (by omega)
      unfold decode at *
      rw [List.foldl_append, this]
      simp only [List.foldl_cons, List.foldl_nil, UInt8.toNat_ofNat']
      omega
theorem dec_inj {u v : Nat} (h : Lib.decDigits u = Lib.decDigits v) : u = v := by rw [← decode_dec u, h, decode_dec]
theorem no_byte (u : Nat) (b : UInt8) (hb : b.toNat < 48 ∨ 57 < b.toNat) : b ∉ Lib.decDigits u := fun h => by
  have := digits_of u b h
  omega
/-- Two lists that are equal up to a byte that neither part ahead of it holds. -/
theorem split_at {a b c d : List UInt8} {x : UInt8} (ha : x ∉ a) (hc : x ∉ c) (h : a ++ x :: b = c ++ x :: d) : a = c ∧ b = d := by
  induction a generalizing c with
  | nil =>
    cases c with
    | nil => simpa using h
    | cons y t =>
      simp only [List.nil_append, List.cons_append, List.cons.injEq] at h
      exact absurd (h.1 ▸ List.mem_cons_self) hc
  | cons y t ih =>
    cases c with
    | nil =>
      simp only [List.nil_append, List.cons_append, List.cons.injEq] at h
      exact absurd (h.1 ▸ List.mem_cons_self) ha
    | cons z s =>
      simp only [List.cons_append, List.cons.injEq] at h
      obtain ⟨h1, h2⟩ := ih (fun hx => ha (List.mem_cons_of_mem _ hx)) (fun hx => hc (List.mem_cons_of_mem _ hx)) h.2
      exact ⟨by rw [h.1, h1], h2⟩

theorem txt_held (v n s : Int) (hk : kindV s = 1) : txt v n s = (Lib.itoa v ++ 46 :: Lib.decDigits n.toNat) ++ 35 :: (Lib.decDigits (whoA s).toNat ++ 58 :: Lib.decDigits (whoB s).toNat) := by
  simp [txt, hk]
theorem kindV_ref {a b : Int} (h : wOk a b) : kindV (rVal a b) = 1 := by
  obtain ⟨e1, e2, e3, e4⟩ := whoA_rVal h
  have hr : rVal a b ≠ 0 := by
    intro h0
    rw [h0] at e1
    have := h.1
    rw [show whoA 0 = 0 by decide] at e1
    omega
  unfold kindV
  rw [if_neg hr, e1, if_pos (by have := h.1; omega)]
theorem txt_diff (v n : Int) {a b c d : Int} (h : wOk a b) (h' : wOk c d) (e : txt v n (rVal a b) = txt v n (rVal c d)) : a = c ∧ b = d := by
  rw [txt_held v n _ (kindV_ref h), txt_held v n _ (kindV_ref h')] at e
  obtain ⟨e1, e2, _, _⟩ := whoA_rVal h
  obtain ⟨e3, e4, _, _⟩ := whoA_rVal h'
  rw [e1, e2, e3, e4] at e
  have e5 := List.append_cancel_left e
  simp only [List.cons.injEq, true_and] at e5
  obtain ⟨h1, h2⟩ := split_at (no_byte _ 58 (.inr (by decide))) (no_byte _ 58 (.inr (by decide))) e5
  have h3 := dec_inj h1
  have h4 := dec_inj h2
  obtain ⟨k1, k2, k3, k4⟩ := h
  obtain ⟨m1, m2, m3, m4⟩ := h'
  omega
theorem txt_plain (v n s : Int) (hk : kindV s = 1) : txt v n s ≠ txt v n 0 := by
  intro e
  have h1 : (35 : UInt8) ∈ txt v n s := by rw [txt_held v n s hk]; simp
  rw [e] at h1
  have hk0 : kindV 0 = 0 := by decide
  simp only [txt, hk0] at h1
  have h2 : (35 : UInt8) ∉ Lib.itoa v := by
    unfold Lib.itoa
    split
    · intro h
      rcases List.mem_cons.1 h with h | h
      · exact absurd h (by decide)
      · exact no_byte _ 35 (.inl (by decide)) h
    · exact no_byte _ 35 (.inl (by decide))
  simp only [show ¬ ((0 : Int) = 2) by decide, if_false, show ¬ ((0 : Int) = 1) by decide, List.append_nil, or_false] at h1
  rcases List.mem_append.1 h1 with h | h
  · exact h2 h
  · split at h
    · rcases List.mem_cons.1 h with h | h
      · exact absurd h (by decide)
      · exact no_byte _ 35 (.inl (by decide)) h
    · cases h
end Go.Proofs.YtkccaadhjodhlaaDoor
