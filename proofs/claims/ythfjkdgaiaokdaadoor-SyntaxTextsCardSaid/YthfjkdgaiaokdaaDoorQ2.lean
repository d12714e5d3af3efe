/- The tokens of an expression's text form, and that the parser reads them as that expression. Conditions: a valid expression, numbers of int64. The tokens of statements and programs, and that the parser reads them as those. Conditions: valid statements. -/
import Derived.Test.YthfjkdgaiaokdaaDoorQ1
import Derived.Test.YthfjkdgaiaokdaaDoorSxP
import Derived.Test.YthfjkdgaiaokdaaDoorSxY
set_option linter.unusedVariables false
set_option linter.unusedSimpArgs false
namespace Go.Proofs.YthfjkdgaiaokdaaDoor

def sgTk (m : Str) : Tk := if m = tAnd ∨ m = tOr then (4, m) else (3, m)
/-- Lists of tokens with commas between them. -/
def cm : List (List Tk) → List Tk
  | [] => []
  | [x] => x
  | x :: y :: t => x ++ (3, [44]) :: cm (y :: t)
/-- An operand's tokens out of the expression's. -/
def pT (e : Ex) (t : List Tk) : List Tk := if e.kind = 5 ∨ e.kind = 3 ∨ e.kind = 4 ∨ (e.kind = 6 ∧ 0 < e.orr.length) then (3, [40]) :: (t ++ [(3, [41])]) else t
mutual
def tkE : Ex → List Tk
  | .mk k n s m a o => if k = 0 then [(2, Lib.itoa n)] else if k = 1 then [(4, if n = 1 then tTrue else tFalse)] else if k = 2 then [(1, s)]
    else if k = 3 then (4, tNot) :: (tkOs a).headD [] else if k = 4 then (3, [45]) :: (tkOs a).headD []
    else if k = 5 then (tkOs a).headD [] ++ sgTk m :: ((tkOs a).drop 1).headD []
    else if k = 7 then (4, tHost) :: (3, [46]) :: (1, s) :: (3, [40]) :: (cm (tkEs a) ++ [(3, [41])])
    else (1, s) :: (3, [46]) :: (1, m) :: (3, [40]) :: (cm (tkEs a) ++ (3, [41]) :: (if o.length = 0 then [] else (4, tElse) :: (tkOs o).headD []))
def tkEs : List Ex → List (List Tk)
  | [] => []
  | e :: t => tkE e :: tkEs t
def tkOs : List Ex → List (List Tk)
  | [] => []
  | e :: t => pT e (tkE e) :: tkOs t
end
def tkO (e : Ex) : List Tk := pT e (tkE e)
theorem tkEs_map : ∀ l : List Ex, tkEs l = l.map tkE
  | [] => by rw [tkEs]; rfl
  | e :: t => by rw [tkEs, tkEs_map t]; rfl
theorem tkOs_map : ∀ l : List Ex, tkOs l = l.map tkO
  | [] => by rw [tkOs]; rfl
  | e :: t => by rw [tkOs, tkOs_map t]; rfl
section
variable (n : Int) (s m : Str) (x y : Ex) (a : List Ex)
theorem tk_num : tkE (.mk 0 n [] [] [] []) = [(2, Lib.itoa n)] := by rw [tkE, if_pos rfl]
theorem tk_bool : tkE (.mk 1 n [] [] [] []) = [(4, if n = 1 then tTrue else tFalse)] := by rw [tkE, if_neg (by decide), if_pos rfl]
theorem tk_var : tkE (.mk 2 0 s [] [] []) = [(1, s)] := by rw [tkE, if_neg (by decide), if_neg (by decide), if_pos rfl]
theorem tk_not : tkE (.mk 3 0 [] [] [x] []) = (4, tNot) :: tkO x := by rw [tkE, if_neg (by decide), if_neg (by decide), if_neg (by decide), if_pos rfl, tkOs_map]; rfl
theorem tk_neg : tkE (.mk 4 0 [] [] [x] []) = (3, [45]) :: tkO x := by rw [tkE, if_neg (by decide), if_neg (by decide), if_neg (by decide), if_neg (by decide), if_pos rfl, tkOs_map]; rfl
theorem tk_bin : tkE (.mk 5 0 [] m [x, y] []) = tkO x ++ sgTk m :: tkO y := by rw [tkE, if_neg (by decide), if_neg (by decide), if_neg (by decide), if_neg (by decide), if_neg (by decide), if_pos rfl, tkOs_map]; rfl
theorem tk_call : tkE (.mk 6 0 s m a []) = (1, s) :: (3, [46]) :: (1, m) :: (3, [40]) :: (cm (a.map tkE) ++ [(3, [41])]) := by
  rw [tkE, if_neg (by decide), if_neg (by decide), if_neg (by decide), if_neg (by decide), if_neg (by decide), if_neg (by decide), if_neg (by decide), if_pos (by rfl), tkEs_map]
theorem tk_or : tkE (.mk 6 0 s m a [x]) = (1, s) :: (3, [46]) :: (1, m) :: (3, [40]) :: (cm (a.map tkE) ++ (3, [41]) :: (4, tElse) :: tkO x) := by
  rw [tkE, if_neg (by decide), if_neg (by decide), if_neg (by decide), if_neg (by decide), if_neg (by decide), if_neg (by decide), if_neg (by decide), if_neg (by simp), tkEs_map, tkOs_map]; rfl
theorem tk_host : tkE (.mk 7 0 s [] a []) = (4, tHost) :: (3, [46]) :: (1, s) :: (3, [40]) :: (cm (a.map tkE) ++ [(3, [41])]) := by
  rw [tkE, if_neg (by decide), if_neg (by decide), if_neg (by decide), if_neg (by decide), if_neg (by decide), if_neg (by decide), if_pos (by rfl), tkEs_map]
end
/-- The rest does not carry on a call. -/
def nS (r : List Tk) : Prop := isT [46] r = false ∧ isT tElse r = false
/-- The rest does not carry on a chain. -/
def nOp (r : List Tk) : Prop := ∀ lv, opAt lv r = false
section
variable {X : List Tk} {a : Ex} {r : List Tk} {u : Nat}
theorem pC_stop {lv f : Nat} (h : opAt lv r = false) (hf : 1 ≤ f) : pC f lv a r = .ok a r := by
  obtain ⟨f, rfl⟩ : ∃ g, f = g + 1 := ⟨f - 1, by omega⟩
  rw [pC, if_neg (by rw [h]; exact Bool.false_ne_true)]
/-- From the unary form down to a level. -/
theorem pB_down (h1 : 1 ≤ u) (hU : ∀ g, u ≤ g → pU g X = .ok a r) : ∀ (n lv f : Nat), lv + n = 5 → (∀ l, lv ≤ l → opAt l r = false) → u + 1 + n ≤ f → pB f lv X = .ok a r := by
  intro n
  induction n with
  | zero =>
    intro lv f hl _ hf
    obtain ⟨f, rfl⟩ : ∃ g, f = g + 1 := ⟨f - 1, by omega⟩
    rw [pB, if_pos (by omega), hU f (by omega)]
  | succ n ih =>
    intro lv f hl ho hf
    obtain ⟨f, rfl⟩ : ∃ g, f = g + 1 := ⟨f - 1, by omega⟩
    rw [pB, if_neg (by omega), ih (lv + 1) f (by omega) (fun l h => ho l (by omega)) (by omega)]
    exact pC_stop (ho lv (Nat.le_refl _)) (by omega)
/-- From a level down to a lower one. -/
theorem pB_up (h1 : 1 ≤ u) : ∀ (n lv f : Nat), lv + n ≤ 5 → (∀ g, u ≤ g → pB g (lv + n) X = .ok a r) → (∀ l, lv ≤ l → opAt l r = false) → u + n ≤ f → pB f lv X = .ok a r := by
  intro n
  induction n with
  | zero => intro lv f _ h _ hf; exact h f hf
  | succ n ih =>
    intro lv f hl h ho hf
    obtain ⟨f, rfl⟩ : ∃ g, f = g + 1 := ⟨f - 1, by omega⟩
    rw [pB, if_neg (by omega), ih (lv + 1) f (by omega) (fun g hg => by have := h g hg; rwa [show lv + 1 + n = lv + (n + 1) by omega]) (fun l h => ho l (by omega)) (by omega)]
    exact pC_stop (ho lv (Nat.le_refl _)) (by omega)
end
theorem sg_level {m : Str} (h : sgns.contains m = true) (Y : List Tk) : ∃ l, l ≤ 4 ∧ opAt l (sgTk m :: Y) = true ∧ (∀ l', l' ≠ l → opAt l' (sgTk m :: Y) = false) ∧ nS (sgTk m :: Y) ∧ textT (sgTk m :: Y) = m := by
  have hm : m ∈ sgns := by simpa using h
  have far : ∀ l' t, opAt (l' + 5) (t :: Y) = false := fun l' t => by simp [opAt, sgnsAt]
  simp only [sgns, List.mem_cons, List.not_mem_nil, or_false] at hm
  rcases hm with rfl | rfl | rfl | rfl | rfl | rfl | rfl | rfl | rfl | rfl | rfl | rfl | rfl
  · exact ⟨3, by decide, rfl, fun l' h => match l', h with | 0, _ => rfl | 1, _ => rfl | 2, _ => rfl | 3, h => absurd rfl h | 4, _ => rfl | l' + 5, _ => far _ _, ⟨rfl, rfl⟩, rfl⟩
  · exact ⟨3, by decide, rfl, fun l' h => match l', h with | 0, _ => rfl | 1, _ => rfl | 2, _ => rfl | 3, h => absurd rfl h | 4, _ => rfl | l' + 5, _ => far _ _, ⟨rfl, rfl⟩, rfl⟩
  · exact ⟨4, by decide, rfl, fun l' h => match l', h with | 0, _ => rfl | 1, _ => rfl | 2, _ => rfl | 3, _ => rfl | 4, h => absurd rfl h | l' + 5, _ => far _ _, ⟨rfl, rfl⟩, rfl⟩
  · exact ⟨4, by decide, rfl, fun l' h => match l', h with | 0, _ => rfl | 1, _ => rfl | 2, _ => rfl | 3, _ => rfl | 4, h => absurd rfl h | l' + 5, _ => far _ _, ⟨rfl, rfl⟩, rfl⟩
  · exact ⟨4, by decide, rfl, fun l' h => match l', h with | 0, _ => rfl | 1, _ => rfl | 2, _ => rfl | 3, _ => rfl | 4, h => absurd rfl h | l' + 5, _ => far _ _, ⟨rfl, rfl⟩, rfl⟩
  · exact ⟨2, by decide, rfl, fun l' h => match l', h with | 0, _ => rfl | 1, _ => rfl | 2, h => absurd rfl h | 3, _ => rfl | 4, _ => rfl | l' + 5, _ => far _ _, ⟨rfl, rfl⟩, rfl⟩
  · exact ⟨2, by decide, rfl, fun l' h => match l', h with | 0, _ => rfl | 1, _ => rfl | 2, h => absurd rfl h | 3, _ => rfl | 4, _ => rfl | l' + 5, _ => far _ _, ⟨rfl, rfl⟩, rfl⟩
  · exact ⟨2, by decide, rfl, fun l' h => match l', h with | 0, _ => rfl | 1, _ => rfl | 2, h => absurd rfl h | 3, _ => rfl | 4, _ => rfl | l' + 5, _ => far _ _, ⟨rfl, rfl⟩, rfl⟩
  · exact ⟨2, by decide, rfl, fun l' h => match l', h with | 0, _ => rfl | 1, _ => rfl | 2, h => absurd rfl h | 3, _ => rfl | 4, _ => rfl | l' + 5, _ => far _ _, ⟨rfl, rfl⟩, rfl⟩
  · exact ⟨2, by decide, rfl, fun l' h => match l', h with | 0, _ => rfl | 1, _ => rfl | 2, h => absurd rfl h | 3, _ => rfl | 4, _ => rfl | l' + 5, _ => far _ _, ⟨rfl, rfl⟩, rfl⟩
  · exact ⟨2, by decide, rfl, fun l' h => match l', h with | 0, _ => rfl | 1, _ => rfl | 2, h => absurd rfl h | 3, _ => rfl | 4, _ => rfl | l' + 5, _ => far _ _, ⟨rfl, rfl⟩, rfl⟩
  · exact ⟨1, by decide, rfl, fun l' h => match l', h with | 0, _ => rfl | 1, h => absurd rfl h | 2, _ => rfl | 3, _ => rfl | 4, _ => rfl | l' + 5, _ => far _ _, ⟨rfl, rfl⟩, rfl⟩
  · exact ⟨0, by decide, rfl, fun l' h => match l', h with | 0, h => absurd rfl h | 1, _ => rfl | 2, _ => rfl | 3, _ => rfl | 4, _ => rfl | l' + 5, _ => far _ _, ⟨rfl, rfl⟩, rfl⟩
theorem ne_t {b : Bool} (h : b = false) : ¬ b = true := by rw [h]; exact Bool.false_ne_true
section
variable (f : Nat) (X : List Tk) (s : Str)
theorem pU_not : pU (f + 1) ((4, tNot) :: X) = match pU f X with
    | .bad r => .bad r
    | .ok e r => .ok (.mk 3 0 [] [] [e] []) r := by rw [pU, if_pos (by rfl)]; rfl
theorem pU_neg : pU (f + 1) ((3, [45]) :: X) = match pU f X with
    | .bad r => .bad r
    | .ok e r => .ok (.mk 4 0 [] [] [e] []) r := by rw [pU, if_neg (by exact ne_t rfl), if_pos (by rfl)]; rfl
theorem pU_true : pU (f + 1) ((4, tTrue) :: X) = .ok (.mk 1 1 [] [] [] []) X := by rw [pU, if_neg (by exact ne_t rfl), if_neg (by exact ne_t rfl), if_pos (by rfl)]; rfl
theorem pU_false : pU (f + 1) ((4, tFalse) :: X) = .ok (.mk 1 0 [] [] [] []) X := by rw [pU, if_neg (by exact ne_t rfl), if_neg (by exact ne_t rfl), if_neg (by exact ne_t rfl), if_pos (by rfl)]; rfl
theorem pU_opn : pU (f + 1) ((3, [40]) :: X) = match pB f 0 X with
      | .bad r => .bad r
      | .ok e r => if isT [41] r = true then .ok e r.tail else .bad r := by rw [pU, if_neg (by exact ne_t rfl), if_neg (by exact ne_t rfl), if_neg (by exact ne_t rfl), if_neg (by exact ne_t rfl), if_pos (by rfl)]; rfl
theorem pU_host : pU (f + 1) ((4, tHost) :: X) = pH f X := by rw [pU, if_neg (by exact ne_t rfl), if_neg (by exact ne_t rfl), if_neg (by exact ne_t rfl), if_neg (by exact ne_t rfl), if_neg (by exact ne_t rfl), if_pos (by rfl)]; rfl
theorem pU_num : pU (f + 1) ((2, s) :: X) = .ok (.mk 0 (numT s) [] [] [] []) X := by rw [pU, if_neg (by exact ne_t rfl), if_neg (by exact ne_t rfl), if_neg (by exact ne_t rfl), if_neg (by exact ne_t rfl), if_neg (by exact ne_t rfl), if_neg (by exact ne_t rfl), if_pos (by rfl)]; rfl
theorem pU_name : pU (f + 1) ((1, s) :: X) = if isT [46] X = true then pK f s X else .ok (.mk 2 0 s [] [] []) X := by rw [pU, if_neg (by exact ne_t rfl), if_neg (by exact ne_t rfl), if_neg (by exact ne_t rfl), if_neg (by exact ne_t rfl), if_neg (by exact ne_t rfl), if_neg (by exact ne_t rfl), if_neg (by show ¬ (1 : Int) = 2; decide), if_pos (by rfl)]; rfl
end
theorem pK_go (f : Nat) (n m : Str) (X : List Tk) : pK (f + 1) n ((3, [46]) :: (1, m) :: X) = match pA f X with
        | .bad r => .bad r
        | .ok a r => if isT tElse r = true then match pU f r.tail with
            | .bad r' => .bad r'
            | .ok o r' => .ok (.mk 6 0 n m a [o]) r'
          else .ok (.mk 6 0 n m a []) r := by rw [pK, if_pos (by rfl), if_pos (by rfl)]; rfl
theorem pH_go (f : Nat) (m : Str) (X : List Tk) : pH (f + 1) ((3, [46]) :: (1, m) :: X) = match pA f X with
        | .bad r => .bad r
        | .ok a r => .ok (.mk 7 0 m [] a []) r := by rw [pH, if_pos (by rfl), if_pos (by rfl)]; rfl
/-- What is shown of each valid expression. -/
structure Rd (e : Ex) : Prop where
  head : ∃ t T, tkE e = t :: T ∧ isT [41] [t] = false
  raw : e.kind ≠ 5 → ∀ (r : List Tk) (f : Nat), nS r → 8 * (tkE e ++ r).length + 1 ≤ f → pU f (tkE e ++ r) = .ok e r
  bin : ∀ (r : List Tk) (f : Nat), nS r → nOp r → 8 * (tkE e ++ r).length + 7 ≤ f → pB f 0 (tkE e ++ r) = .ok e r
theorem isT_head (s : Str) (t : Tk) (T : List Tk) : isT s (t :: T) = isT s [t] := rfl
theorem Rd.opr {e : Ex} (h : Rd e) (r : List Tk) (f : Nat) (hr : nS r) (hf : 8 * (tkO e ++ r).length + 1 ≤ f) : pU f (tkO e ++ r) = .ok e r := by
  unfold tkO pT at *
  by_cases hp : e.kind = 5 ∨ e.kind = 3 ∨ e.kind = 4 ∨ (e.kind = 6 ∧ 0 < e.orr.length)
  · rw [if_pos hp] at hf ⊢
    simp only [List.cons_append, List.append_assoc, List.nil_append, List.length_cons, List.length_append] at hf ⊢
    obtain ⟨f, rfl⟩ : ∃ g, f = g + 1 := ⟨f - 1, by omega⟩
    rw [pU_opn, h.bin ((3, [41]) :: r) f ⟨rfl, rfl⟩ (fun lv => by
      match lv with
      | 0 => rfl
      | 1 => rfl
      | 2 => rfl
      | 3 => rfl
      | 4 => rfl
      | l + 5 => simp [opAt, sgnsAt]) (by simp only [List.length_append, List.length_cons]; omega)]
    rfl
  · rw [if_neg hp] at hf ⊢
    exact h.raw (fun h5 => hp (.inl h5)) r f hr hf
theorem Rd.ohead {e : Ex} (h : Rd e) : ∃ t T, tkO e = t :: T ∧ isT [41] [t] = false := by
  unfold tkO pT
  split
  · exact ⟨_, _, rfl, rfl⟩
  · exact h.head
/-- An expression that isn't a chain, out of its unary form. -/
theorem Rd.of_raw {e : Ex} (hk : e.kind ≠ 5) (hh : ∃ t T, tkE e = t :: T ∧ isT [41] [t] = false) (h : ∀ (r : List Tk) (f : Nat), nS r → 8 * (tkE e ++ r).length + 1 ≤ f → pU f (tkE e ++ r) = .ok e r) : Rd e :=
  ⟨hh, fun _ => h, fun r f hr ho hf => pB_down (u := 8 * (tkE e ++ r).length + 1) (by omega) (fun g hg => h r g hr hg) 5 0 f rfl (fun l _ => ho l) (by omega)⟩
theorem nOp_sep {s : Str} (h : ∀ l, l ≤ 4 → (sgnsAt l).contains s = false) (r : List Tk) : nOp ((3, s) :: r) := fun lv => by
  unfold opAt
  by_cases hl : lv ≤ 4
  · dsimp only
    rw [h lv hl, Bool.and_false]
  · obtain ⟨k, rfl⟩ : ∃ k, lv = k + 5 := ⟨lv - 5, by omega⟩
    simp [sgnsAt]
theorem nOp_cls (r : List Tk) : nOp ((3, [41]) :: r) := nOp_sep (by decide) r
theorem nOp_com (r : List Tk) : nOp ((3, [44]) :: r) := nOp_sep (by decide) r
theorem nOp_sem (r : List Tk) : nOp ((3, [59]) :: r) := nOp_sep (by decide) r
theorem nOp_brc (r : List Tk) : nOp ((3, [123]) :: r) := nOp_sep (by decide) r
theorem cm_cons (x : List Tk) (y : Ex) (t : List Ex) : cm (x :: (y :: t).map tkE) = x ++ (3, [44]) :: cm ((y :: t).map tkE) := rfl
/-- The arguments of a call, behind the parenthesis. -/
theorem pL_read : ∀ (a : List Ex), a ≠ [] → (∀ x ∈ a, Rd x) → ∀ (acc : List Ex) (r : List Tk) (f : Nat), 8 * (cm (a.map tkE) ++ (3, [41]) :: r).length + 8 ≤ f → pL f acc (cm (a.map tkE) ++ (3, [41]) :: r) = .ok (acc ++ a) r
  | [], h, _, _, _, _, _ => absurd rfl h
  | [x], _, h, acc, r, f, hf => by
    obtain ⟨f, rfl⟩ : ∃ g, f = g + 1 := ⟨f - 1, by omega⟩
    have hx := (h x (List.mem_cons_self ..)).bin ((3, [41]) :: r) f ⟨rfl, rfl⟩ (nOp_cls r) (by have : cm ([x].map tkE) = tkE x := rfl; rw [this] at hf; omega)
    show pL (f + 1) acc (tkE x ++ (3, [41]) :: r) = _
    rw [pL, hx]
    rfl
  | x :: y :: t, _, h, acc, r, f, hf => by
    obtain ⟨f, rfl⟩ : ∃ g, f = g + 1 := ⟨f - 1, by omega⟩
    rw [List.map_cons, cm_cons] at hf ⊢
    simp only [List.append_assoc, List.cons_append, List.length_append, List.length_cons] at hf ⊢
    have hx := (h x (List.mem_cons_self ..)).bin ((3, [44]) :: (cm ((y :: t).map tkE) ++ (3, [41]) :: r)) f ⟨rfl, rfl⟩ (nOp_com _) (by simp only [List.length_append, List.length_cons]; omega)
    rw [pL, hx]
    have ih := pL_read (y :: t) (by simp) (fun z hz => h z (List.mem_cons_of_mem _ hz)) (acc ++ [x]) r f (by simp only [List.length_append, List.length_cons]; omega)
    show pL f (acc ++ [x]) (cm ((y :: t).map tkE) ++ (3, [41]) :: r) = _
    rw [ih, List.append_assoc]
    rfl
theorem cm_head {a : List Ex} (ha : a ≠ []) (h : ∀ x ∈ a, Rd x) (r : List Tk) : isT [41] (cm (a.map tkE) ++ r) = false := by
  match a, ha with
  | [x], _ =>
    obtain ⟨t, T, e, ht⟩ := (h x (List.mem_cons_self ..)).head
    show isT [41] (tkE x ++ r) = false
    rw [e]; exact ht
  | x :: y :: z, _ =>
    obtain ⟨t, T, e, ht⟩ := (h x (List.mem_cons_self ..)).head
    show isT [41] ((tkE x ++ _) ++ r) = false
    rw [e]; exact ht
theorem pA_read (a : List Ex) (h : ∀ x ∈ a, Rd x) (r : List Tk) (f : Nat) (hf : 8 * (cm (a.map tkE) ++ (3, [41]) :: r).length + 9 ≤ f) : pA f ((3, [40]) :: (cm (a.map tkE) ++ (3, [41]) :: r)) = .ok a r := by
  obtain ⟨f, rfl⟩ : ∃ g, f = g + 1 := ⟨f - 1, by omega⟩
  rw [pA, if_pos (by rfl)]
  by_cases ha : a = []
  · subst ha; rfl
  · have e := cm_head ha h ((3, [41]) :: r)
    rw [if_neg (by exact ne_t e)]
    exact pL_read a ha h [] r f (by omega)
theorem kw_nokey {s : Str} (h : nameOk s = true) : kwords.contains s = false := by
  unfold nameOk at h
  simp only [Bool.and_eq_true, Bool.not_eq_true'] at h
  exact h.2
theorem rd_any : ∀ (k : Nat) (e : Ex), e.size ≤ k → ∀ d : Int, chkE d e = 0 → Rd e := by
  intro k
  induction k with
  | zero => intro e h; obtain ⟨_, _, _, _, _, _⟩ := e; rw [Ex.size] at h; omega
  | succ k ih =>
    intro e hz d hc
    have kids : ∀ x ∈ e.args, chkE (d + 1) x = 0 → Rd x := fun x hx hc => ih x (by obtain ⟨_, _, _, _, a, o⟩ := e; have := Ex.sizes_mem (show x ∈ a from hx); rw [Ex.size] at hz; omega) (d + 1) hc
    have okid : ∀ x ∈ e.orr, chkE (d + 1) x = 0 → Rd x := fun x hx hc => ih x (by obtain ⟨_, _, _, _, a, o⟩ := e; have := Ex.sizes_mem (show x ∈ o from hx); rw [Ex.size] at hz; omega) (d + 1) hc
    obtain ⟨hs, -⟩ := shape_of hc
    clear ih hz hc
    cases hs with
    | num n h =>
      refine Rd.of_raw (by show (0 : Int) ≠ 5; decide) ⟨_, _, tk_num n, rfl⟩ fun r f hr hf => ?_
      obtain ⟨f, rfl⟩ : ∃ g, f = g + 1 := ⟨f - 1, by omega⟩
      rw [tk_num, List.cons_append, List.nil_append, pU_num, numT_itoa n h]
    | bool n h =>
      refine Rd.of_raw (by show (1 : Int) ≠ 5; decide) ⟨_, _, tk_bool n, by split <;> rfl⟩ fun r f hr hf => ?_
      obtain ⟨f, rfl⟩ : ∃ g, f = g + 1 := ⟨f - 1, by omega⟩
      rw [tk_bool, List.cons_append, List.nil_append]
      rcases h with rfl | rfl
      · rw [if_neg (by decide), pU_false]
      · rw [if_pos rfl, pU_true]
    | var s h =>
      refine Rd.of_raw (by show (2 : Int) ≠ 5; decide) ⟨_, _, tk_var s, rfl⟩ fun r f hr hf => ?_
      obtain ⟨f, rfl⟩ : ∃ g, f = g + 1 := ⟨f - 1, by omega⟩
      rw [tk_var, List.cons_append, List.nil_append, pU_name, if_neg (ne_t hr.1)]
    | not x h =>
      have hx := kids x (by simp [Ex.args]) h
      refine Rd.of_raw (by show (3 : Int) ≠ 5; decide) ⟨_, _, tk_not x, rfl⟩ fun r f hr hf => ?_
      rw [tk_not, List.cons_append] at hf ⊢
      simp only [List.length_cons] at hf
      obtain ⟨f, rfl⟩ : ∃ g, f = g + 1 := ⟨f - 1, by omega⟩
      rw [pU_not, hx.opr r f hr (by omega)]
    | neg x h =>
      have hx := kids x (by simp [Ex.args]) h
      refine Rd.of_raw (by show (4 : Int) ≠ 5; decide) ⟨_, _, tk_neg x, rfl⟩ fun r f hr hf => ?_
      rw [tk_neg, List.cons_append] at hf ⊢
      simp only [List.length_cons] at hf
      obtain ⟨f, rfl⟩ : ∃ g, f = g + 1 := ⟨f - 1, by omega⟩
      rw [pU_neg, hx.opr r f hr (by omega)]
    | bin m x y hm h1 h2 =>
      have hx := kids x (by simp [Ex.args]) h1
      have hy := kids y (by simp [Ex.args]) h2
      refine ⟨?_, fun h => absurd rfl h, fun r f hr ho hf => ?_⟩
      · obtain ⟨t, T, e, ht⟩ := hx.ohead
        rw [tk_bin, e]
        exact ⟨_, _, rfl, ht⟩
      · obtain ⟨l, hl, hl1, hl2, hl3, hl4⟩ := sg_level hm (tkO y ++ r)
        rw [tk_bin] at hf ⊢
        simp only [List.append_assoc, List.cons_append, List.length_append, List.length_cons] at hf ⊢
        generalize hY : tkO y ++ r = Y at *
        have hYl : Y.length = (tkO y).length + r.length := by rw [← hY, List.length_append]
        generalize hS : sgTk m :: Y = Z at *
        have hZl : Z.length = Y.length + 1 := by rw [← hS]; rfl
        have hZt : Z.tail = Y := by rw [← hS]; rfl
        refine pB_up (u := 8 * (tkO x ++ Z).length + 7 - l) (by rw [List.length_append]; omega) l 0 f (by omega) (fun g hg => ?_) (fun l _ => ho l) (by rw [List.length_append]; omega)
        rw [List.length_append] at hg
        rw [Nat.zero_add]
        obtain ⟨g, rfl⟩ : ∃ q, g = q + 1 := ⟨g - 1, by omega⟩
        rw [pB, if_neg (by omega)]
        rw [pB_down (u := 8 * (tkO x ++ Z).length + 1) (by omega) (fun q hq => hx.opr Z q hl3 hq) (4 - l) (l + 1) g (by omega) (fun l' h => hl2 l' (by omega)) (by rw [List.length_append]; omega)]
        dsimp only
        obtain ⟨g, rfl⟩ : ∃ q, g = q + 1 := ⟨g - 1, by omega⟩
        rw [pC, if_pos hl1, hZt]
        rw [pB_down (u := 8 * Y.length + 1) (by omega) (fun q hq => by rw [← hY] at hq ⊢; exact hy.opr r q hr hq) (4 - l) (l + 1) g (by omega) (fun l' h => ho l') (by omega)]
        dsimp only
        rw [hl4]
        exact pC_stop (ho l) (by omega)
    | call s m a o h1 h2 h3 h4 h5 h6 =>
      have ha : ∀ x ∈ a, Rd x := fun x hx => kids x hx (h4 x hx)
      refine Rd.of_raw (by show (6 : Int) ≠ 5; decide) ?_ fun r f hr hf => ?_
      · match o, h5 with
        | [], _ => exact ⟨_, _, tk_call .., rfl⟩
        | [x], _ => exact ⟨_, _, tk_or .., rfl⟩
      · match o, h5, okid, h6, hf with
        | [], _, _, _, hf =>
          rw [tk_call] at hf ⊢
          simp only [List.append_assoc, List.cons_append, List.nil_append, List.length_append, List.length_cons] at hf ⊢
          obtain ⟨f, rfl⟩ : ∃ g, f = g + 2 := ⟨f - 2, by omega⟩
          rw [pU_name, if_pos (by rfl), pK_go, pA_read a ha r f (by simp only [List.length_append, List.length_cons]; omega)]
          dsimp only
          rw [if_neg (ne_t hr.2)]
        | [x], _, okid, h6, hf =>
          have hx := okid x (by simp [Ex.orr]) (h6 x (by simp))
          rw [tk_or] at hf ⊢
          simp only [List.append_assoc, List.cons_append, List.nil_append, List.length_append, List.length_cons] at hf ⊢
          obtain ⟨f, rfl⟩ : ∃ g, f = g + 2 := ⟨f - 2, by omega⟩
          rw [pU_name, if_pos (by rfl), pK_go, pA_read a ha _ f (by simp only [List.length_append, List.length_cons]; omega)]
          dsimp only
          rw [if_pos (by rfl), List.tail_cons, hx.opr r f hr (by rw [List.length_append]; omega)]
    | host s a h1 h2 h3 =>
      have ha : ∀ x ∈ a, Rd x := fun x hx => kids x hx (h3 x hx)
      refine Rd.of_raw (by show (7 : Int) ≠ 5; decide) ⟨_, _, tk_host .., rfl⟩ fun r f hr hf => ?_
      rw [tk_host] at hf ⊢
      simp only [List.append_assoc, List.cons_append, List.nil_append, List.length_append, List.length_cons] at hf ⊢
      obtain ⟨f, rfl⟩ : ∃ g, f = g + 2 := ⟨f - 2, by omega⟩
      rw [pU_host, pH_go, pA_read a ha r f (by simp only [List.length_append, List.length_cons]; omega)]
/-- A valid expression's tokens are read as it. -/
theorem pE_read {d : Int} {e : Ex} (h : chkE d e = 0) (r : List Tk) (hr : nS r) (ho : nOp r) : pE (tkE e ++ r) = .ok e r :=
  (rd_any e.size e (Nat.le_refl _) d h).bin r _ hr ho (Nat.le_refl _)
end Go.Proofs.YthfjkdgaiaokdaaDoor
namespace Go.Proofs.YthfjkdgaiaokdaaDoor

def sTk (s : Str) : Tk := (3, s)
mutual
def tkS : St → List Tk
  | .mk k s n e b l => if k = 0 then (4, tLet) :: (1, s) :: (3, [61]) :: (tkE e ++ [(3, [59])]) else if k = 1 then (1, s) :: (3, [61]) :: (tkE e ++ [(3, [59])])
    else if k = 2 then tkE e ++ [(3, [59])] else if k = 5 then (4, tRet) :: (tkE e ++ [(3, [59])]) else if k = 6 then [(4, tAbt), (2, Lib.itoa n), (3, [59])]
    else if k = 4 then (4, tRep) :: (2, Lib.itoa n) :: (3, [123]) :: (tkSs b ++ [(3, [125])])
    else (4, tIf) :: (tkE e ++ (3, [123]) :: (tkSs b ++ (3, [125]) :: (if l.length = 0 then [] else (4, tElse) :: (3, [123]) :: (tkSs l ++ [(3, [125])]))))
def tkSs : List St → List Tk
  | [] => []
  | s :: t => tkS s ++ tkSs t
end
section
variable (s : Str) (n : Int) (e : Ex) (b l : List St)
theorem ts_let : tkS (.mk 0 s 0 e [] []) = (4, tLet) :: (1, s) :: (3, [61]) :: (tkE e ++ [(3, [59])]) := by rw [tkS, if_pos rfl]
theorem ts_set : tkS (.mk 1 s 0 e [] []) = (1, s) :: (3, [61]) :: (tkE e ++ [(3, [59])]) := by rw [tkS, if_neg (by decide), if_pos rfl]
theorem ts_do : tkS (.mk 2 [] 0 e [] []) = tkE e ++ [(3, [59])] := by rw [tkS, if_neg (by decide), if_neg (by decide), if_pos rfl]
theorem ts_ret : tkS (.mk 5 [] 0 e [] []) = (4, tRet) :: (tkE e ++ [(3, [59])]) := by rw [tkS, if_neg (by decide), if_neg (by decide), if_neg (by decide), if_pos rfl]
theorem ts_abt : tkS (.mk 6 [] n (.mk 0 0 [] [] [] []) [] []) = [(4, tAbt), (2, Lib.itoa n), (3, [59])] := by rw [tkS, if_neg (by decide), if_neg (by decide), if_neg (by decide), if_neg (by decide), if_pos rfl]
theorem ts_rep : tkS (.mk 4 [] n (.mk 0 0 [] [] [] []) b []) = (4, tRep) :: (2, Lib.itoa n) :: (3, [123]) :: (tkSs b ++ [(3, [125])]) := by rw [tkS, if_neg (by decide), if_neg (by decide), if_neg (by decide), if_neg (by decide), if_neg (by decide), if_pos rfl]
theorem ts_if : tkS (.mk 3 [] 0 e b []) = (4, tIf) :: (tkE e ++ (3, [123]) :: (tkSs b ++ [(3, [125])])) := by rw [tkS, if_neg (by decide), if_neg (by decide), if_neg (by decide), if_neg (by decide), if_neg (by decide), if_neg (by decide), if_pos (by rfl)]
theorem ts_ifelse (h : l ≠ []) : tkS (.mk 3 [] 0 e b l) = (4, tIf) :: (tkE e ++ (3, [123]) :: (tkSs b ++ (3, [125]) :: (4, tElse) :: (3, [123]) :: (tkSs l ++ [(3, [125])]))) := by rw [tkS, if_neg (by decide), if_neg (by decide), if_neg (by decide), if_neg (by decide), if_neg (by decide), if_neg (by decide), if_neg (fun e => h (List.eq_nil_of_length_eq_zero e))]
end
section
variable (f : Nat) (X : List Tk) (s : Str)
theorem pS_if : pS (f + 1) ((4, tIf) :: X) = pI f X := by rw [pS, if_pos (by rfl)]; rfl
theorem pS_rep : pS (f + 1) ((4, tRep) :: (2, s) :: X) = match pBl f X with
        | .bad r => .bad r
        | .ok b r => .ok (.mk 4 [] (numT s) emE b []) r := by rw [pS, if_neg (by exact ne_t rfl), if_pos (by rfl), if_pos (by rfl)]; rfl
theorem pS_let : pS (f + 1) ((4, tLet) :: (1, s) :: (3, [61]) :: X) = pN (fun e => .mk 0 s 0 e [] []) X := by rw [pS, if_neg (by exact ne_t rfl), if_neg (by exact ne_t rfl), if_pos (by rfl), if_pos (by rfl), if_pos (by rfl)]; rfl
theorem pS_ret : pS (f + 1) ((4, tRet) :: X) = pN (fun e => .mk 5 [] 0 e [] []) X := by rw [pS, if_neg (by exact ne_t rfl), if_neg (by exact ne_t rfl), if_neg (by exact ne_t rfl), if_pos (by rfl)]; rfl
theorem pS_abt : pS (f + 1) ((4, tAbt) :: (2, s) :: (3, [59]) :: X) = .ok (.mk 6 [] (numT s) emE [] []) X := by rw [pS, if_neg (by exact ne_t rfl), if_neg (by exact ne_t rfl), if_neg (by exact ne_t rfl), if_neg (by exact ne_t rfl), if_pos (by rfl), if_pos (by rfl), if_pos (by rfl)]; rfl
theorem pS_host : pS (f + 1) ((4, tHost) :: X) = match pH (8 * ((4, tHost) :: X : List Tk).length + 7) X with
      | .bad r => .bad r
      | .ok e r => if isT [59] r = true then .ok (.mk 2 [] 0 e [] []) r.tail else .bad r := by rw [pS, if_neg (by exact ne_t rfl), if_neg (by exact ne_t rfl), if_neg (by exact ne_t rfl), if_neg (by exact ne_t rfl), if_neg (by exact ne_t rfl), if_pos (by rfl)]; rfl
theorem pS_call : pS (f + 1) ((1, s) :: (3, [46]) :: X) = match pK (8 * ((1, s) :: (3, [46]) :: X : List Tk).length + 7) s ((3, [46]) :: X) with
      | .bad r => .bad r
      | .ok e r => if isT [59] r = true then .ok (.mk 2 [] 0 e [] []) r.tail else .bad r := by rw [pS, if_neg (by exact ne_t rfl), if_neg (by exact ne_t rfl), if_neg (by exact ne_t rfl), if_neg (by exact ne_t rfl), if_neg (by exact ne_t rfl), if_neg (by exact ne_t rfl), if_pos (by rfl), if_pos (by rfl)]; rfl
theorem pS_set : pS (f + 1) ((1, s) :: (3, [61]) :: X) = pN (fun e => .mk 1 s 0 e [] []) X := by rw [pS, if_neg (by exact ne_t rfl), if_neg (by exact ne_t rfl), if_neg (by exact ne_t rfl), if_neg (by exact ne_t rfl), if_neg (by exact ne_t rfl), if_neg (by exact ne_t rfl), if_pos (by rfl), if_neg (by exact ne_t rfl), if_pos (by rfl)]; rfl
end
theorem pN_read {d : Int} {e : Ex} (h : chkE d e = 0) (k : Ex → St) (r : List Tk) : pN k (tkE e ++ (3, [59]) :: r) = .ok (k e) r := by
  unfold pN
  rw [pE_read h _ ⟨rfl, rfl⟩ (nOp_sem r)]
  rfl
/-- What is shown of each valid statement. -/
structure RdS (s : St) : Prop where
  head : ∃ t T, tkS s = t :: T ∧ isT [125] [t] = false ∧ isT tElse [t] = false
  raw : ∀ (r : List Tk) (f : Nat), isT tElse r = false → 4 * (tkS s ++ r).length + 3 ≤ f → pS f (tkS s ++ r) = .ok s r
theorem pM_read : ∀ (b : List St), (∀ s ∈ b, RdS s) → ∀ (acc : List St) (r : List Tk) (f : Nat), 4 * (tkSs b ++ (3, [125]) :: r).length + 4 ≤ f → pM f acc (tkSs b ++ (3, [125]) :: r) = .ok (acc ++ b) r
  | [], _, acc, r, f, hf => by
    obtain ⟨f, rfl⟩ : ∃ g, f = g + 1 := ⟨f - 1, by omega⟩
    rw [tkSs, List.nil_append, pM, if_pos (by rfl), List.append_nil]
    rfl
  | s :: t, h, acc, r, f, hf => by
    obtain ⟨f, rfl⟩ : ∃ g, f = g + 1 := ⟨f - 1, by omega⟩
    have hs := h s (List.mem_cons_self ..)
    rw [tkSs, List.append_assoc] at hf ⊢
    obtain ⟨x, X, e, h1, h2⟩ := hs.head
    have hq : isT tElse (tkSs t ++ (3, [125]) :: r) = false := by
      match t with
      | [] => rw [tkSs]; rfl
      | y :: z =>
        obtain ⟨y1, Y1, e1, _, h4⟩ := (h y (by simp)).head
        rw [tkSs, e1]; exact h4
    have hlen : 1 ≤ (tkS s).length := by rw [e]; simp
    rw [pM, if_neg (ne_t (by rw [e]; exact h1)), hs.raw _ f hq (by omega)]
    dsimp only
    rw [List.length_append] at hf
    rw [pM_read t (fun z hz => h z (List.mem_cons_of_mem _ hz)) (acc ++ [s]) r f (by omega), List.append_assoc]
    rfl
theorem pBl_read (b : List St) (h : ∀ s ∈ b, RdS s) (r : List Tk) (f : Nat) (hf : 4 * ((3, [123]) :: (tkSs b ++ (3, [125]) :: r)).length + 1 ≤ f) : pBl f ((3, [123]) :: (tkSs b ++ (3, [125]) :: r)) = .ok b r := by
  obtain ⟨f, rfl⟩ : ∃ g, f = g + 1 := ⟨f - 1, by omega⟩
  rw [List.length_cons] at hf
  rw [pBl, if_pos (by rfl)]
  exact pM_read b h [] r f (by omega)
theorem call_head {d : Int} {e : Ex} (h : chkE d e = 0) (hk : e.kind = 6 ∨ e.kind = 7) : (∃ s T, tkE e = (1, s) :: (3, [46]) :: T) ∨ ∃ T, tkE e = (4, tHost) :: T := by
  obtain ⟨hs, -⟩ := shape_of h
  cases hs with
  | call s m a o h1 h2 h3 h4 h5 h6 =>
    match o, h5 with
    | [], _ => exact .inl ⟨_, _, tk_call ..⟩
    | [x], _ => exact .inl ⟨_, _, tk_or ..⟩
  | host s a h1 h2 h3 => exact .inr ⟨_, tk_host ..⟩
  | num n h => simp [Ex.kind] at hk
  | bool n h => simp [Ex.kind] at hk
  | var s h => simp [Ex.kind] at hk
  | not x h => simp [Ex.kind] at hk
  | neg x h => simp [Ex.kind] at hk
  | bin m x y hm h1 h2 => simp [Ex.kind] at hk
theorem isT_one (x s : Str) : isT x [(1, s)] = false := rfl
theorem rdS_any : ∀ (k : Nat) (s : St), s.size ≤ k → ∀ d : Int, chkS d s = 0 → RdS s := by
  intro k
  induction k with
  | zero => intro s h; obtain ⟨_, _, _, _, _, _⟩ := s; rw [St.size] at h; omega
  | succ k ih =>
    intro x hz d hc
    have kids : ∀ (y : St) (D : Int), y.size < x.size → chkS D y = 0 → RdS y := fun y D h hc => ih y (by omega) D hc
    obtain ⟨hs, -⟩ := shapeS_of hc
    clear ih hz hc
    cases hs with
    | let_ s e hs he =>
      refine ⟨⟨_, _, ts_let .., rfl, rfl⟩, fun r f hr hf => ?_⟩
      obtain ⟨f, rfl⟩ : ∃ g, f = g + 1 := ⟨f - 1, by omega⟩
      rw [ts_let]
      simp only [List.append_assoc, List.cons_append, List.nil_append]
      rw [pS_let, pN_read he]
    | set_ s e hs he =>
      refine ⟨⟨_, _, ts_set .., rfl, rfl⟩, fun r f hr hf => ?_⟩
      obtain ⟨f, rfl⟩ : ∃ g, f = g + 1 := ⟨f - 1, by omega⟩
      rw [ts_set]
      simp only [List.append_assoc, List.cons_append, List.nil_append]
      rw [pS_set, pN_read he]
    | do_ e hk he =>
      have hR := rd_any e.size e (Nat.le_refl _) 1 he
      have h5 : e.kind ≠ 5 := by omega
      rcases call_head he hk with ⟨s, T, eq⟩ | ⟨T, eq⟩
      · refine ⟨⟨(1, s), _, by rw [ts_do, eq]; rfl, rfl, rfl⟩, fun r f hr hf => ?_⟩
        obtain ⟨f, rfl⟩ : ∃ g, f = g + 1 := ⟨f - 1, by omega⟩
        have h1 := hR.raw h5 ((3, [59]) :: r) (8 * (tkE e ++ (3, [59]) :: r).length + 8) ⟨rfl, rfl⟩ (by omega)
        rw [ts_do, List.append_assoc, List.cons_append, List.nil_append]
        rw [eq] at h1 ⊢
        simp only [List.cons_append] at h1 ⊢
        rw [pU_name, if_pos (by rfl)] at h1
        rw [pS_call, h1]
        rfl
      · refine ⟨⟨(4, tHost), _, by rw [ts_do, eq]; rfl, rfl, rfl⟩, fun r f hr hf => ?_⟩
        obtain ⟨f, rfl⟩ : ∃ g, f = g + 1 := ⟨f - 1, by omega⟩
        have h1 := hR.raw h5 ((3, [59]) :: r) (8 * (tkE e ++ (3, [59]) :: r).length + 8) ⟨rfl, rfl⟩ (by omega)
        rw [ts_do, List.append_assoc, List.cons_append, List.nil_append]
        rw [eq] at h1 ⊢
        simp only [List.cons_append] at h1 ⊢
        rw [pU_host] at h1
        rw [pS_host, h1]
        rfl
    | return_ e he =>
      refine ⟨⟨_, _, ts_ret .., rfl, rfl⟩, fun r f hr hf => ?_⟩
      obtain ⟨f, rfl⟩ : ∃ g, f = g + 1 := ⟨f - 1, by omega⟩
      rw [ts_ret]
      simp only [List.append_assoc, List.cons_append, List.nil_append]
      rw [pS_ret, pN_read he]
    | abort_ n h0 =>
      refine ⟨⟨_, _, ts_abt .., rfl, rfl⟩, fun r f hr hf => ?_⟩
      obtain ⟨f, rfl⟩ : ∃ g, f = g + 1 := ⟨f - 1, by omega⟩
      rw [ts_abt]
      simp only [List.append_assoc, List.cons_append, List.nil_append]
      rw [pS_abt, numT_itoa n h0]
      rfl
    | repeat_ n b h0 h1 hb =>
      have hB : ∀ s ∈ b, RdS s := fun s hs => kids s (d + 1) (by rw [St.size]; have := St.sizes_mem hs; omega) (chkSs_all hb s hs)
      refine ⟨⟨_, _, ts_rep .., rfl, rfl⟩, fun r f hr hf => ?_⟩
      obtain ⟨f, rfl⟩ : ∃ g, f = g + 1 := ⟨f - 1, by omega⟩
      rw [ts_rep] at hf ⊢
      simp only [List.append_assoc, List.cons_append, List.nil_append, List.length_cons] at hf ⊢
      rw [pS_rep, pBl_read b hB r f (by rw [List.length_cons]; omega), numT_itoa n h0]
      rfl
    | if_ e b l he hb hl =>
      have hB : ∀ s ∈ b, RdS s := fun s hs => kids s (d + 1) (by rw [St.size]; have := St.sizes_mem hs; omega) (chkSs_all hb s hs)
      have hL : ∀ s ∈ l, RdS s := fun s hs => kids s (d + 1) (by rw [St.size]; have := St.sizes_mem hs; omega) (chkSs_all hl s hs)
      by_cases h0 : l = []
      · subst h0
        refine ⟨⟨_, _, ts_if .., rfl, rfl⟩, fun r f hr hf => ?_⟩
        obtain ⟨f, rfl⟩ : ∃ g, f = g + 2 := ⟨f - 2, by omega⟩
        rw [ts_if] at hf ⊢
        simp only [List.append_assoc, List.cons_append, List.nil_append, List.length_cons, List.length_append] at hf ⊢
        rw [pS_if, pI, pE_read he _ ⟨rfl, rfl⟩ (nOp_brc _)]
        dsimp only
        rw [pBl_read b hB r f (by simp only [List.length_append, List.length_cons]; omega)]
        dsimp only
        rw [if_neg (ne_t hr)]
      · refine ⟨⟨_, _, ts_ifelse _ _ _ h0, rfl, rfl⟩, fun r f hr hf => ?_⟩
        obtain ⟨f, rfl⟩ : ∃ g, f = g + 2 := ⟨f - 2, by omega⟩
        rw [ts_ifelse _ _ _ h0] at hf ⊢
        simp only [List.append_assoc, List.cons_append, List.nil_append, List.length_cons, List.length_append] at hf ⊢
        rw [pS_if, pI, pE_read he _ ⟨rfl, rfl⟩ (nOp_brc _)]
        dsimp only
        rw [pBl_read b hB _ f (by simp only [List.length_append, List.length_cons]; omega)]
        dsimp only
        rw [if_pos (by rfl), if_neg (by exact ne_t rfl), List.tail_cons, pBl_read l hL r f (by simp only [List.length_append, List.length_cons]; omega)]
/-- The tokens of parameters. -/
def tkPs : List Str → List Tk
  | [] => []
  | [x] => [(1, x)]
  | x :: y :: t => (1, x) :: (3, [44]) :: tkPs (y :: t)
def tkD (d : Decl') : List Tk := [(4, tSto), (1, d.name), (1, d.kind), (3, [59])]
def tkOp (o : Oper') : List Tk := (4, tOp) :: (1, o.name) :: (3, [40]) :: (tkPs o.params ++ (3, [41]) :: (3, [123]) :: (tkSs o.body ++ [(3, [125])]))
/-- A program's tokens, the end among them. -/
def tkP (p : Prog') : List Tk := (p.stores.map tkD).flatten ++ ((p.opers.map tkOp).flatten ++ [(0, [])])
theorem pQ_read : ∀ (l : List Str), l ≠ [] → ∀ (acc : List Str) (r : List Tk) (f : Nat), (tkPs l).length < f → pQ f acc (tkPs l ++ (3, [41]) :: r) = .ok (acc ++ l) r
  | [], h, _, _, _, _ => absurd rfl h
  | [x], _, acc, r, f, hf => by
    obtain ⟨f, rfl⟩ : ∃ g, f = g + 1 := ⟨f - 1, by omega⟩
    rfl
  | x :: y :: t, _, acc, r, f, hf => by
    obtain ⟨f, rfl⟩ : ∃ g, f = g + 1 := ⟨f - 1, by omega⟩
    have ih := pQ_read (y :: t) (by simp) (acc ++ [x]) r f (by rw [tkPs, List.length_cons, List.length_cons] at hf; omega)
    rw [tkPs, List.cons_append, List.cons_append, pQ, if_pos (by rfl), if_neg (by exact ne_t rfl), if_pos (by rfl)]
    show pQ f (acc ++ [x]) (tkPs (y :: t) ++ (3, [41]) :: r) = _
    rw [ih, List.append_assoc]
    rfl
theorem pPs_read (l : List Str) (r : List Tk) : pPs ((3, [40]) :: (tkPs l ++ (3, [41]) :: r)) = .ok l r := by
  unfold pPs
  rw [if_pos (by rfl)]
  by_cases hl : l = []
  · subst hl; rfl
  · rw [if_neg (ne_t (by
      match l, hl with
      | [x], _ => rfl
      | x :: y :: t, _ => rfl))]
    exact pQ_read l hl [] r _ (by simp only [List.length_cons, List.length_append]; omega)
theorem pO_read (o : Oper') (h : chkSs 1 o.body = 0) (r : List Tk) : pO (tkOp o ++ r).tail = .ok o r := by
  show pO ((1, o.name) :: ((3, [40]) :: (tkPs o.params ++ (3, [41]) :: (3, [123]) :: (tkSs o.body ++ [(3, [125])])) ++ r)) = _
  unfold pO
  rw [if_pos (by rfl)]
  rw [List.tail_cons]
  simp only [List.append_assoc, List.cons_append, List.nil_append]
  rw [pPs_read]
  dsimp only
  unfold pBk
  rw [pBl_read o.body (fun s hs => rdS_any s.size s (Nat.le_refl _) 1 (chkSs_all h s hs)) r _ (by omega)]
  rfl
theorem pD_read (d : Decl') (r : List Tk) : pD (tkD d ++ r).tail = .ok d r := rfl
theorem pG_opers : ∀ (os : List Oper'), (∀ o ∈ os, chkSs 1 o.body = 0) → ∀ (ds : List Decl') (acc : List Oper') (f : Nat), (os.map tkOp).flatten.length < f → pG f ds acc ((os.map tkOp).flatten ++ [(0, [])]) = .ok ⟨ds, acc ++ os⟩ [(0, [])]
  | [], _, ds, acc, f, hf => by
    obtain ⟨f, rfl⟩ : ∃ g, f = g + 1 := ⟨f - 1, by omega⟩
    rw [List.append_nil]
    rfl
  | o :: os, h, ds, acc, f, hf => by
    obtain ⟨f, rfl⟩ : ∃ g, f = g + 1 := ⟨f - 1, by omega⟩
    have ih := pG_opers os (fun x hx => h x (List.mem_cons_of_mem _ hx)) ds (acc ++ [o]) f (by
      rw [List.map_cons, List.flatten_cons, List.length_append] at hf
      have : 1 ≤ (tkOp o).length := by unfold tkOp; simp
      omega)
    rw [List.map_cons, List.flatten_cons, List.append_assoc, pG, if_neg (by show ¬ (4 : Int) = 0; decide), if_neg (by exact ne_t rfl), if_pos (by rfl), pO_read o (h o (List.mem_cons_self ..))]
    dsimp only
    rw [ih, List.append_assoc]
    rfl
theorem pG_stores (os : List Oper') (ho : ∀ o ∈ os, chkSs 1 o.body = 0) : ∀ (ds : List Decl') (acc : List Decl') (f : Nat), ((ds.map tkD).flatten ++ (os.map tkOp).flatten).length < f → pG f acc [] ((ds.map tkD).flatten ++ ((os.map tkOp).flatten ++ [(0, [])])) = .ok ⟨acc ++ ds, os⟩ [(0, [])]
  | [], acc, f, hf => by
    have := pG_opers os ho acc [] f (by simpa using hf)
    rw [List.append_nil]
    exact this
  | d :: ds, acc, f, hf => by
    obtain ⟨f, rfl⟩ : ∃ g, f = g + 1 := ⟨f - 1, by omega⟩
    have ih := pG_stores os ho ds (acc ++ [d]) f (by
      rw [List.map_cons, List.flatten_cons, List.append_assoc, List.length_append] at hf
      have : 1 ≤ (tkD d).length := by unfold tkD; simp
      omega)
    rw [List.map_cons, List.flatten_cons, List.append_assoc, pG, if_neg (by show ¬ (4 : Int) = 0; decide), if_pos (by rfl), pD_read d]
    dsimp only
    rw [ih, List.append_assoc]
    rfl
/-- A valid program's tokens are read as it. -/
theorem pP_read {p : Prog'} (h : chkP p = 0) : pP (tkP p) = .ok p [(0, [])] := by
  obtain ⟨-, -, -, hos, -, -⟩ := chkP_ok h
  obtain ⟨ds, os⟩ := p
  exact pG_stores os (fun o ho => (hos o ho).2.2.2) ds [] _ (by unfold tkP; simp only [List.length_append, List.length_cons, List.length_nil]; omega)
end Go.Proofs.YthfjkdgaiaokdaaDoor
