/- The text form of syntax trees, in plain Lean; the shape of a valid expression. No condition. -/
import Derived.Test.YthfjkdgaiaokdaaDoorSxO
import Derived.Test.YthfjkdgaiaokdaaDoorSxS
import Derived.Lib.ItoaLen
set_option linter.unusedVariables false
set_option linter.unusedSimpArgs false
namespace Go.Proofs.YthfjkdgaiaokdaaDoor
open Go.RowKit

/-- An operand's text out of the expression's. -/
def par (e : Ex) (t : Str) : Str := if e.kind = 5 ∨ e.kind = 3 ∨ e.kind = 4 ∨ (e.kind = 6 ∧ 0 < e.orr.length) then [40] ++ t ++ [41] else t
mutual
def txE : Ex → Str
  | .mk k n s m a o => if k = 0 then Lib.itoa n else if k = 1 then Lib.formatBool (decide (n = 1)) else if k = 2 then s
    else if k = 3 then [110, 111, 116, 32] ++ (opEs a).headD [] else if k = 4 then [45] ++ (opEs a).headD []
    else if k = 5 then (opEs a).headD [] ++ [32] ++ m ++ [32] ++ ((opEs a).drop 1).headD []
    else if k = 7 then [104, 111, 115, 116, 46] ++ s ++ [40] ++ Lib.join (txEs a) [44, 32] ++ [41]
    else s ++ [46] ++ m ++ [40] ++ Lib.join (txEs a) [44, 32] ++ [41] ++ (if o.length = 0 then [] else [32, 101, 108, 115, 101, 32] ++ (opEs o).headD [])
def txEs : List Ex → List Str
  | [] => []
  | e :: t => txE e :: txEs t
def opEs : List Ex → List Str
  | [] => []
  | e :: t => par e (txE e) :: opEs t
end
/-- An operand's text. -/
def opE (e : Ex) : Str := par e (txE e)
theorem txEs_map : ∀ l : List Ex, txEs l = l.map txE
  | [] => by rw [txEs]; rfl
  | e :: t => by rw [txEs, txEs_map t]; rfl
theorem opEs_map : ∀ l : List Ex, opEs l = l.map opE
  | [] => by rw [opEs]; rfl
  | e :: t => by rw [opEs, opEs_map t]; rfl
mutual
/-- Its numbers are int64. -/
def Ex.Wd : Ex → Prop
  | .mk _ n _ _ a o => InR n ∧ Ex.Wds a ∧ Ex.Wds o
def Ex.Wds : List Ex → Prop
  | [] => True
  | e :: t => e.Wd ∧ Ex.Wds t
end
theorem Ex.Wds_mem : ∀ {l : List Ex}, Ex.Wds l → ∀ e ∈ l, e.Wd
  | a :: t, h, e, he => by
    rw [Ex.Wds] at h
    rcases List.mem_cons.1 he with rfl | he
    · exact h.1
    · exact Ex.Wds_mem h.2 e he
mutual
theorem XV.wd {w : World} {S : Nat → Prop} : ∀ {e : Ex} {cs : List Value}, XV w S e cs → e.Wd
  | .mk k n s m a o, cs, h => by
    rw [XV] at h
    obtain ⟨A, na, ca, O, no, co, _, h0, h2, h3, h4, h5⟩ := h
    rw [Ex.Wd]
    refine ⟨h0, ?_, ?_⟩
    · cases a with
      | nil => rw [Ex.Wds]; trivial
      | cons e t =>
        obtain ⟨b, q, _, _, _, hx⟩ := h4 (by rw [h2.1]; simp)
        exact XLf.wd hx
    · cases o with
      | nil => rw [Ex.Wds]; trivial
      | cons e t =>
        obtain ⟨b, q, _, _, _, hx⟩ := h5 (by rw [h3.1]; simp)
        exact XLf.wd hx
theorem XLf.wd {w : World} {S : Nat → Prop} {b q : Nat} : ∀ {i : Nat} {l : List Ex}, XLf w S b q i l → Ex.Wds l
  | _, [], _ => by rw [Ex.Wds]; trivial
  | i, e :: t, h => by
    rw [XLf] at h
    obtain ⟨⟨cs, h1, _⟩, h3⟩ := h
    rw [Ex.Wds]
    exact ⟨XV.wd h1, XLf.wd h3⟩
end
theorem chkEs_all {d : Int} : ∀ {l : List Ex}, chkEs d l = 0 → ∀ x ∈ l, chkE d x = 0
  | [], _, x, h => by cases h
  | e :: t, h, x, hx => by
    rw [chkEs] at h
    split at h
    · exact absurd h (by assumption)
    · rename_i h3
      rcases List.mem_cons.1 hx with rfl | hx
      · exact Classical.not_not.1 h3
      · exact chkEs_all h x hx
/-- What a valid expression's fields are. -/
theorem chkE_fields {d k n : Int} {s m : Str} {a o : List Ex} (h : chkE d (.mk k n s m a o) = 0) : d ≤ 12 ∧ 0 ≤ k ∧ k ≤ 7 ∧ formE (.mk k n s m a o) = true ∧ ((k = 2 ∨ 6 ≤ k) → nameOk s = true) ∧ (k = 6 → nameOk m = true) ∧ (k ≤ 1 → 0 ≤ n ∧ (k = 1 → n ≤ 1)) ∧ (∀ x ∈ a, chkE (d + 1) x = 0) ∧ (∀ x ∈ o, chkE (d + 1) x = 0) := by
  rw [chkE] at h
  split at h
  · exact absurd h (by assumption)
  rename_i h0
  have hh : headE d (.mk k n s m a o) = 0 := Classical.not_not.1 h0
  split at h
  · exact absurd h (by assumption)
  rename_i h1
  have ha := chkEs_all (Classical.not_not.1 h1)
  have ho := chkEs_all h
  clear h h0 h1
  have e : headE d (.mk k n s m a o) = if 12 < d then 18 else if k < 0 ∨ 7 < k then 2 else if formE (.mk k n s m a o) = false then 5 else if ((k = 2 ∨ 6 ≤ k) ∧ nameOk s = false) ∨ (k = 6 ∧ nameOk m = false) then 16 else if k ≤ 1 ∧ (n < 0 ∨ (k = 1 ∧ 1 < n)) then 3 else 0 := rfl
  rw [e] at hh
  split at hh
  · cases hh
  split at hh
  · cases hh
  split at hh
  · cases hh
  split at hh
  · cases hh
  split at hh
  · cases hh
  rename_i e1 e2 e3 e4 e5
  refine ⟨by omega, by omega, by omega, by simpa using e3, fun hk => ?_, fun hk => ?_, fun hk => ?_, ha, ho⟩
  · cases hq : nameOk s with
    | true => rfl
    | false => exact absurd (.inl ⟨hk, hq⟩) e4
  · cases hq : nameOk m with
    | true => rfl
    | false => exact absurd (.inr ⟨hk, hq⟩) e4
  · omega
/-- The shapes of valid expressions. -/
inductive Shape (d : Int) : Ex → Prop where
  | num (n : Int) (h : 0 ≤ n) : Shape d (.mk 0 n [] [] [] [])
  | bool (n : Int) (h : n = 0 ∨ n = 1) : Shape d (.mk 1 n [] [] [] [])
  | var (s : Str) (h : nameOk s = true) : Shape d (.mk 2 0 s [] [] [])
  | not (x : Ex) (h : chkE (d + 1) x = 0) : Shape d (.mk 3 0 [] [] [x] [])
  | neg (x : Ex) (h : chkE (d + 1) x = 0) : Shape d (.mk 4 0 [] [] [x] [])
  | bin (m : Str) (x y : Ex) (hm : sgns.contains m = true) (h1 : chkE (d + 1) x = 0) (h2 : chkE (d + 1) y = 0) : Shape d (.mk 5 0 [] m [x, y] [])
  | call (s m : Str) (a o : List Ex) (hs : nameOk s = true) (hm : nameOk m = true) (ha : a.length ≤ 4) (h1 : ∀ x ∈ a, chkE (d + 1) x = 0) (ho : o.length ≤ 1) (h2 : ∀ x ∈ o, chkE (d + 1) x = 0) : Shape d (.mk 6 0 s m a o)
  | host (s : Str) (a : List Ex) (hs : nameOk s = true) (ha : a.length ≤ 4) (h1 : ∀ x ∈ a, chkE (d + 1) x = 0) : Shape d (.mk 7 0 s [] a [])
theorem shape_of {d : Int} {e : Ex} (h : chkE d e = 0) : Shape d e ∧ d ≤ 12 := by
  obtain ⟨k, n, s, m, a, o⟩ := e
  obtain ⟨hd, hk0, hk7, hf, hs, hm, hn, ha, ho⟩ := chkE_fields h
  refine ⟨?_, hd⟩
  rw [formE_mk] at hf
  by_cases e0 : k = 0 ∨ k = 1
  · rw [if_pos e0] at hf
    simp only [Bool.and_eq_true, decide_eq_true_eq, beq_iff_eq, List.length_eq_zero_iff] at hf
    obtain ⟨⟨⟨rfl, rfl⟩, rfl⟩, rfl⟩ := hf
    rcases e0 with rfl | rfl
    · exact .num n (hn (by decide)).1
    · have := hn (by decide)
      exact .bool n (by omega)
  rw [if_neg e0] at hf
  by_cases e2 : k = 2
  · rw [if_pos e2] at hf
    simp only [Bool.and_eq_true, decide_eq_true_eq, beq_iff_eq, List.length_eq_zero_iff] at hf
    obtain ⟨⟨⟨rfl, rfl⟩, rfl⟩, rfl⟩ := hf
    subst e2
    exact .var s (hs (.inl rfl))
  rw [if_neg e2] at hf
  by_cases e3 : k = 3 ∨ k = 4
  · rw [if_pos e3] at hf
    simp only [Bool.and_eq_true, decide_eq_true_eq, beq_iff_eq, List.length_eq_zero_iff] at hf
    obtain ⟨⟨⟨⟨rfl, rfl⟩, rfl⟩, hl⟩, rfl⟩ := hf
    obtain ⟨x, rfl⟩ := List.length_eq_one_iff.1 hl
    rcases e3 with rfl | rfl
    · exact .not x (ha x (by simp))
    · exact .neg x (ha x (by simp))
  rw [if_neg e3] at hf
  by_cases e5 : k = 5
  · rw [if_pos e5] at hf
    simp only [Bool.and_eq_true, decide_eq_true_eq, beq_iff_eq, List.length_eq_zero_iff] at hf
    obtain ⟨⟨⟨⟨rfl, rfl⟩, hc⟩, hl⟩, rfl⟩ := hf
    obtain ⟨x, y, rfl⟩ : ∃ x y, a = [x, y] := by
      match a, hl with
      | [x, y], _ => exact ⟨x, y, rfl⟩
    subst e5
    exact .bin m x y hc (ha x (by simp)) (ha y (by simp))
  rw [if_neg e5] at hf
  by_cases e6 : k = 6
  · rw [if_pos e6] at hf
    simp only [Bool.and_eq_true, decide_eq_true_eq, beq_iff_eq, List.length_eq_zero_iff] at hf
    obtain ⟨⟨rfl, hl⟩, hl2⟩ := hf
    subst e6
    exact .call s m a o (hs (.inr (by decide))) (hm rfl) hl ha hl2 ho
  rw [if_neg e6] at hf
  simp only [Bool.and_eq_true, decide_eq_true_eq, beq_iff_eq, List.length_eq_zero_iff] at hf
  obtain ⟨⟨⟨rfl, rfl⟩, hl⟩, rfl⟩ := hf
  obtain rfl : k = 7 := by omega
  exact .host s a (hs (.inr (by decide))) hl ha
theorem name_len {s : Str} (h : nameOk s = true) : s.length ≤ 24 := by
  unfold nameOk at h
  simp only [Bool.and_eq_true, decide_eq_true_eq] at h
  exact h.1.2
theorem sgn_len {m : Str} (h : sgns.contains m = true) : m.length ≤ 3 := by
  have h2 : ∀ x ∈ sgns, x.length ≤ 3 := by decide
  exact h2 m (by simpa using h)
theorem par_len (e : Ex) (t : Str) : (par e t).length ≤ t.length + 2 := by
  unfold par
  split <;> simp
theorem join_len (sep : Str) : ∀ l : List Str, (Lib.join l sep).length ≤ (l.map List.length).sum + l.length * sep.length
  | [] => by simp [Lib.join, List.intercalate]
  | [x] => by simp [Lib.join, List.intercalate]
  | x :: y :: t => by
    have ih := join_len sep (y :: t)
    have e : Lib.join (x :: y :: t) sep = x ++ sep ++ Lib.join (y :: t) sep := by simp [Lib.join, List.intercalate]
    rw [e]
    simp only [List.length_append, List.map_cons, List.sum_cons, List.length_cons] at ih ⊢
    rw [Nat.succ_mul]
    omega
theorem bool_len (b : Bool) : (Lib.formatBool b).length ≤ 5 := by cases b <;> decide
theorem sizes_sum : ∀ l : List Ex, Ex.sizes l = (l.map Ex.size).sum
  | [] => by rw [Ex.sizes]; rfl
  | e :: t => by rw [Ex.sizes, sizes_sum t]; simp
theorem sum_le {α : Type} (f g : α → Nat) (c : Nat) : ∀ l : List α, (∀ x ∈ l, f x ≤ c * g x) → (l.map f).sum ≤ c * (l.map g).sum
  | [], _ => by simp
  | x :: t, h => by
    have h1 := h x (by simp)
    have h2 := sum_le f g c t fun y hy => h y (by simp [hy])
    simp only [List.map_cons, List.sum_cons, Nat.mul_add]
    omega
theorem txE_len (e : Ex) : ∀ d, chkE d e = 0 → e.Wd → (txE e).length ≤ 130 * e.size := by
  obtain ⟨N, hN⟩ : ∃ N, N = e.size := ⟨_, rfl⟩
  induction N using Nat.strongRecOn generalizing e with
  | _ N ih =>
    intro d h hw
    rcases (shape_of h).1 with ⟨n, hn⟩ | ⟨n, hn⟩ | ⟨s, hs⟩ | ⟨x, hx⟩ | ⟨x, hx⟩ | ⟨m, x, y, hm, hx, hy⟩ | ⟨s, m, a, o, hs, hm, ha, h1, ho, h2⟩ | ⟨s, a, hs, ha, h1⟩
    · rw [Ex.Wd] at hw
      have := Lib.itoa_length_le n hw.1.1 hw.1.2
      rw [txE, Ex.size, if_pos rfl, Ex.sizes]
      omega
    · have := bool_len (decide (n = 1))
      rw [txE, Ex.size, if_neg (by decide), if_pos rfl, Ex.sizes]
      omega
    · have := name_len hs
      simp only [txE, Ex.size, Ex.sizes]
      simp
      omega
    all_goals rw [Ex.Wd] at hw
    · have hwx := Ex.Wds_mem hw.2.1 x (by simp)
      rw [Ex.size, Ex.sizes, Ex.sizes] at hN
      have := ih x.size (by omega) x rfl _ hx hwx
      have h3 := par_len x (txE x)
      simp only [txE, opEs, Ex.size, Ex.sizes]
      simp
      omega
    · have hwx := Ex.Wds_mem hw.2.1 x (by simp)
      rw [Ex.size, Ex.sizes, Ex.sizes] at hN
      have := ih x.size (by omega) x rfl _ hx hwx
      have h3 := par_len x (txE x)
      simp only [txE, opEs, Ex.size, Ex.sizes]
      simp
      omega
    · have hwx := Ex.Wds_mem hw.2.1 x (by simp)
      have hwy := Ex.Wds_mem hw.2.1 y (by simp)
      rw [Ex.size, Ex.sizes, Ex.sizes, Ex.sizes] at hN
      have h1 := ih x.size (by omega) x rfl _ hx hwx
      have h2 := ih y.size (by omega) y rfl _ hy hwy
      have h3 := par_len x (txE x)
      have h4 := par_len y (txE y)
      have h5 := sgn_len hm
      simp only [txE, opEs, Ex.size, Ex.sizes]
      simp
      omega
    · have hA : (a.map fun x => (txE x).length).sum ≤ 130 * (a.map Ex.size).sum := sum_le _ _ _ _ fun x hx => ih x.size (by
        have := Ex.sizes_mem hx
        rw [hN, Ex.size]; omega) x rfl _ (h1 x hx) (Ex.Wds_mem hw.2.1 x hx)
      have hj := join_len [44, 32] (txEs a)
      rw [txEs_map, List.map_map, List.length_map] at hj
      have hj' : (Lib.join (a.map txE) [44, 32]).length ≤ (a.map fun x => (txE x).length).sum + a.length * 2 := hj
      have n1 := name_len hs
      have n2 := name_len hm
      have hO : (if o.length = 0 then [] else [32, 101, 108, 115, 101, 32] ++ (opEs o).headD []).length ≤ 130 * Ex.sizes o + 8 := by
        match o, ho, h2, hN with
        | [], _, _, _ => simp
        | [x], _, h2, hN =>
          have h3 := ih x.size (by rw [hN, Ex.size, Ex.sizes, Ex.sizes]; omega) x rfl _ (h2 x (by simp)) (Ex.Wds_mem hw.2.2 x (by simp))
          have h4 := par_len x (txE x)
          simp only [opEs, Ex.sizes]
          simp
          omega
      rw [txE, Ex.size, sizes_sum a, txEs_map]
      rw [if_neg (by decide), if_neg (by decide), if_neg (by decide), if_neg (by decide), if_neg (by decide), if_neg (by decide), if_neg (by decide)]
      simp only [List.length_append, List.length_cons, List.length_nil] at hO ⊢
      omega
    · have hA : (a.map fun x => (txE x).length).sum ≤ 130 * (a.map Ex.size).sum := sum_le _ _ _ _ fun x hx => ih x.size (by
        have := Ex.sizes_mem hx
        rw [hN, Ex.size]; omega) x rfl _ (h1 x hx) (Ex.Wds_mem hw.2.1 x hx)
      have hj := join_len [44, 32] (txEs a)
      rw [txEs_map, List.map_map, List.length_map] at hj
      have hj' : (Lib.join (a.map txE) [44, 32]).length ≤ (a.map fun x => (txE x).length).sum + a.length * 2 := hj
      have n1 := name_len hs
      rw [txE, Ex.size, sizes_sum a, txEs_map]
      rw [if_neg (by decide), if_neg (by decide), if_neg (by decide), if_neg (by decide), if_neg (by decide), if_neg (by decide), if_pos rfl]
      simp only [List.length_append, List.length_cons, List.length_nil]
      omega
end Go.Proofs.YthfjkdgaiaokdaaDoor
