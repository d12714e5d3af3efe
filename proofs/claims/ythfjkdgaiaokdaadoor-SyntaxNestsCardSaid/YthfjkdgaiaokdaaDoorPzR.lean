/- What SyntaxNests asks of the checks and the text form, in plain Lean. Condition: a valid program. -/
import Derived.Test.YthfjkdgaiaokdaaDoorQM
set_option linter.unusedVariables false
set_option linter.unusedSimpArgs false
namespace Go.Proofs.YthfjkdgaiaokdaaDoor

theorem headS_deep {d k : Int} {s : Str} {n : Int} {e : Ex} {nb nl : Nat} (h : headS d k s n e nb nl = 0) : headS (d + 1) k s n e nb nl = 0 ∨ headS (d + 1) k s n e nb nl = 18 := by
  unfold headS at *
  by_cases h1 : 12 < d + 1
  · exact .inr (by rw [if_pos h1])
  · left
    rw [if_neg h1]
    rwa [if_neg (by omega)] at h
theorem chkS_parts0 {d k : Int} {s : Str} {n : Int} {e : Ex} {b l : List St} (h : chkS d (.mk k s n e b l) = 0) : headS d k s n e b.length l.length = 0 ∧ ¬ (hasX k = true ∧ chkE 1 e ≠ 0) ∧ chkSs (d + 1) b = 0 ∧ chkSs (d + 1) l = 0 := by
  rw [chkS] at h
  split at h
  · exact absurd h (by assumption)
  rename_i h1
  split at h
  · rename_i h2; exact absurd h h2.2
  rename_i h2
  split at h
  · exact absurd h (by assumption)
  rename_i h3
  exact ⟨Classical.not_not.1 h1, h2, Classical.not_not.1 h3, h⟩
mutual
theorem chkS_deep : ∀ (s : St) (d : Int), chkS d s = 0 → chkS (d + 1) s = 0 ∨ chkS (d + 1) s = 18
  | .mk k s n e b l, d, h => by
    obtain ⟨h1, h2, h3, h4⟩ := chkS_parts0 h
    have hb := chkSs_deep b (d + 1) h3
    have hl := chkSs_deep l (d + 1) h4
    rw [chkS]
    rcases headS_deep h1 with e1 | e1
    · rw [if_neg (by simp [e1]), if_neg h2]
      rcases hb with e2 | e2
      · rw [if_neg (by simp [e2])]; exact hl
      · rw [if_pos (by simp [e2])]; exact .inr e2
    · rw [if_pos (by simp [e1])]; exact .inr e1
theorem chkSs_deep : ∀ (l : List St) (d : Int), chkSs d l = 0 → chkSs (d + 1) l = 0 ∨ chkSs (d + 1) l = 18
  | [], d, _ => by rw [chkSs]; exact .inl rfl
  | s :: t, d, h => by
    rw [chkSs] at h
    split at h
    · exact absurd h (by assumption)
    rename_i h1
    have hs := chkS_deep s d (Classical.not_not.1 h1)
    have ht := chkSs_deep t d h
    rw [chkSs]
    rcases hs with e | e
    · rw [if_neg (by simp [e])]; exact ht
    · rw [if_pos (by simp [e])]; exact .inr e
end
/-- The body in a Repeat. -/
def rep (n : Int) (b : List St) : St := .mk 4 [] n (.mk 0 0 [] [] [] []) b []
theorem rep_chk (n : Int) (b : List St) (h0 : 0 ≤ n) (h64 : n ≤ 64) (d : Int) (hd : ¬ 12 < d) : chkSs d [rep n b] = chkSs (d + 1) b := by
  have hh : headS d 4 [] n (.mk 0 0 [] [] [] []) b.length 0 = 0 := by
    unfold headS
    rw [if_neg hd, if_neg (by omega), if_neg, if_neg (by rintro ⟨h, _⟩; omega), if_neg (by omega)]
    simp [hasX, emptyE, Ex.kind, Ex.num, Ex.name, Ex.meth, Ex.args, Ex.orr]
  have h1 : chkS d (rep n b) = chkSs (d + 1) b := by
    unfold rep
    rw [chkS]
    rw [if_neg (by simp [hh]), if_neg (by rintro ⟨h, _⟩; cases h)]
    by_cases h : chkSs (d + 1) b ≠ 0
    · rw [if_pos h]
    · rw [if_neg h, chkSs, Classical.not_not.1 h]
  rw [chkSs, chkSs, h1]
  by_cases h : chkSs (d + 1) b ≠ 0
  · rw [if_pos h]
  · rw [if_neg h, Classical.not_not.1 h]
/-- The program with the first operation's body in a Repeat. -/
def nest (n : Int) (ds : List Decl') (o : Oper') (os : List Oper') : Prog' := ⟨ds, ⟨o.name, o.params, [rep n o.body]⟩ :: os⟩
theorem nest_chk {n : Int} {ds : List Decl'} {o : Oper'} {os : List Oper'} (h0 : 0 ≤ n) (h64 : n ≤ 64) (h : chkP ⟨ds, o :: os⟩ = 0) : chkP (nest n ds o os) = 0 ∨ chkP (nest n ds o os) = 18 := by
  obtain ⟨h1, h2, h3, h4⟩ := chkP_zero.1 h
  dsimp only at h1 h2 h3 h4
  rw [runC] at h4
  split at h4
  · exact absurd h4 (by assumption)
  rename_i h5
  have h5 := Classical.not_not.1 h5
  have hc : operC [] (⟨o.name, o.params, [rep n o.body]⟩ : Oper') = chkSs 2 o.body := by
    unfold operC at h5 ⊢
    dsimp only
    split at h5
    · exact absurd h5 (by assumption)
    rename_i e1
    rw [if_neg e1]
    split at h5
    · cases h5
    rename_i e2
    rw [if_neg e2]
    split at h5
    · exact absurd h5 (by assumption)
    rename_i e3
    rw [if_neg e3]
    exact rep_chk n o.body h0 h64 1 (by omega)
  have hb : chkSs 1 o.body = 0 := by
    unfold operC at h5
    split at h5
    · exact absurd h5 (by assumption)
    split at h5
    · cases h5
    split at h5
    · exact absurd h5 (by assumption)
    exact h5
  rcases chkSs_deep o.body 1 hb with e | e
  · left
    refine chkP_zero.2 ⟨h1, by simpa [nest] using h2, h3, ?_⟩
    show runC operC Oper'.name [] (⟨o.name, o.params, [rep n o.body]⟩ :: os) = 0
    rw [runC, if_neg (by rw [hc]; exact fun h => h e)]
    exact h4
  · right
    unfold chkP nest
    rw [storesL_run, opersL_run]
    dsimp only
    rw [if_neg (by simp only [List.length_cons] at h2 ⊢; omega), if_neg (by simp [h3]), runC, if_pos (by rw [hc]; exact fun h => by rw [show (1 : Int) + 1 = 2 from rfl, h] at e; cases e), hc]
    exact e
/-- A statement's lines, one step deeper. -/
def LenS (s : St) : Prop := ∀ d : Nat, (txS d s).length + 2 * s.ns ≤ (txS (d + 1) s).length
theorem lens_all : ∀ (b : List St), (∀ s ∈ b, LenS s) → ∀ d : Nat, (txSs d b).length + 2 * St.nss b ≤ (txSs (d + 1) b).length
  | [], _, d => by rw [txSs, txSs, St.nss]; exact Nat.le_refl _
  | s :: t, h, d => by
    have h1 := h s (List.mem_cons_self ..) d
    have h2 := lens_all t (fun z hz => h z (List.mem_cons_of_mem _ hz)) d
    rw [txSs, txSs, St.nss, List.length_append, List.length_append]
    omega
theorem lenS_any : ∀ (k : Nat) (s : St), s.size ≤ k → ∀ D : Int, chkS D s = 0 → LenS s := by
  intro k
  induction k with
  | zero => intro s h; obtain ⟨_, _, _, _, _, _⟩ := s; rw [St.size] at h; omega
  | succ k ih =>
    intro x hz D hc
    have kids : ∀ (y : St) (D : Int), y.size < x.size → chkS D y = 0 → LenS y := fun y D h hc => ih y (by omega) D hc
    obtain ⟨hs, -⟩ := shapeS_of hc
    clear ih hz hc
    intro d
    cases hs with
    | let_ s e hs he =>
      have q : ∀ d, txS d (.mk 0 s 0 e [] []) = lineT d ([108, 101, 116, 32] ++ s ++ [32, 61, 32] ++ txE e ++ [59]) := fun d => by rw [txS, if_pos rfl]
      rw [q, q, lineT_len, lineT_len, St.ns, St.nss]; omega
    | set_ s e hs he =>
      have q : ∀ d, txS d (.mk 1 s 0 e [] []) = lineT d (s ++ [32, 61, 32] ++ txE e ++ [59]) := fun d => by rw [txS, if_neg (by decide), if_pos rfl]
      rw [q, q, lineT_len, lineT_len, St.ns, St.nss]; omega
    | do_ e hk he =>
      have q : ∀ d, txS d (.mk 2 [] 0 e [] []) = lineT d (txE e ++ [59]) := fun d => by rw [txS, if_neg (by decide), if_neg (by decide), if_pos rfl]
      rw [q, q, lineT_len, lineT_len, St.ns, St.nss]; omega
    | return_ e he =>
      have q : ∀ d, txS d (.mk 5 [] 0 e [] []) = lineT d ([114, 101, 116, 117, 114, 110, 32] ++ txE e ++ [59]) := fun d => by rw [txS, if_neg (by decide), if_neg (by decide), if_neg (by decide), if_pos rfl]
      rw [q, q, lineT_len, lineT_len, St.ns, St.nss]; omega
    | abort_ n h0 =>
      have q : ∀ d, txS d (.mk 6 [] n (.mk 0 0 [] [] [] []) [] []) = lineT d ([97, 98, 111, 114, 116, 32] ++ Lib.itoa n ++ [59]) := fun d => by rw [txS, if_neg (by decide), if_neg (by decide), if_neg (by decide), if_neg (by decide), if_pos rfl]
      rw [q, q, lineT_len, lineT_len, St.ns, St.nss]; omega
    | repeat_ n b h0 h1 hb =>
      have hB := lens_all b (fun s hs => kids s (D + 1) (by rw [St.size]; have := St.sizes_mem hs; omega) (chkSs_all hb s hs)) (d + 1)
      have q : ∀ d, txS d (.mk 4 [] n (.mk 0 0 [] [] [] []) b []) = lineT d ([114, 101, 112, 101, 97, 116, 32] ++ Lib.itoa n ++ [32, 123]) ++ txSs (d + 1) b ++ lineT d [125] := fun d => by rw [txS, if_neg (by decide), if_neg (by decide), if_neg (by decide), if_neg (by decide), if_neg (by decide), if_pos rfl]
      rw [q, q, St.ns]
      simp only [List.length_append, lineT_len]
      rw [show St.nss [] = 0 from rfl]
      omega
    | if_ e b l he hb hl =>
      have hB := lens_all b (fun s hs => kids s (D + 1) (by rw [St.size]; have := St.sizes_mem hs; omega) (chkSs_all hb s hs)) (d + 1)
      have hL := lens_all l (fun s hs => kids s (D + 1) (by rw [St.size]; have := St.sizes_mem hs; omega) (chkSs_all hl s hs)) (d + 1)
      have q : ∀ d, txS d (.mk 3 [] 0 e b l) = lineT d ([105, 102, 32] ++ txE e ++ [32, 123]) ++ txSs (d + 1) b ++ (if l.length = 0 then [] else lineT d [125, 32, 101, 108, 115, 101, 32, 123] ++ txSs (d + 1) l) ++ lineT d [125] := fun d => by rw [txS, if_neg (by decide), if_neg (by decide), if_neg (by decide), if_neg (by decide), if_neg (by decide), if_neg (by decide)]
      rw [q, q, St.ns]
      by_cases h0 : l.length = 0
      · obtain rfl := List.eq_nil_of_length_eq_zero h0
        rw [if_pos h0, if_pos h0]
        simp only [List.length_append, lineT_len, List.length_nil]
        rw [show St.nss [] = 0 from rfl]
        omega
      · rw [if_neg h0, if_neg h0]
        simp only [List.length_append, lineT_len]
        omega
theorem nest_len {n : Int} {ds : List Decl'} {o : Oper'} {os : List Oper'} (h : chkP ⟨ds, o :: os⟩ = 0) : (txP ⟨ds, o :: os⟩).length + 2 * St.nss o.body < (txP (nest n ds o os)).length := by
  obtain ⟨-, -, -, hos, -, -⟩ := chkP_ok h
  have hb := (hos o (List.mem_cons_self ..)).2.2.2
  have hl := lens_all o.body (fun s hs => lenS_any s.size s (Nat.le_refl _) 1 (chkSs_all hb s hs)) 1
  have e : txSs 1 [rep n o.body] = lineT 1 ([114, 101, 112, 101, 97, 116, 32] ++ Lib.itoa n ++ [32, 123]) ++ txSs (1 + 1) o.body ++ lineT 1 [125] := by
    unfold rep
    rw [txSs, txSs, txS, if_neg (by decide), if_neg (by decide), if_neg (by decide), if_neg (by decide), if_neg (by decide), if_pos rfl, List.append_nil]
  have e2 : ∀ x : Oper', (operT x).length = (lineT 0 (([111, 112, 32] : Str) ++ x.name ++ [40] ++ Lib.join x.params [44, 32] ++ [41, 32, 123])).length + (txSs 1 x.body).length + (lineT 0 [125]).length := fun x => by unfold operT; rw [List.length_append, List.length_append]
  unfold txP nest
  simp only [List.map_cons, List.flatten_cons, List.length_append, e2]
  rw [e, List.length_append, List.length_append, lineT_len 1, lineT_len 1]
  omega
theorem nest_size (n : Int) (ds : List Decl') (o : Oper') (os : List Oper') : opNs (nest n ds o os).opers = opNs (o :: os) + 1 ∧ opXs (nest n ds o os).opers = opXs (o :: os) := by
  have e1 : St.nss [rep n o.body] = 1 + St.nss o.body := by
    unfold rep
    rw [St.nss, St.ns, St.nss]
    rfl
  have e2 : St.xss [rep n o.body] = St.xss o.body := by
    unfold rep
    rw [St.xss, St.xs, St.xss, if_neg (by decide)]
    show 0 + St.xss o.body + 0 + 0 = _
    omega
  unfold nest
  rw [opNs, opXs, opNs, opXs]
  show St.nss [rep n o.body] + opNs os = St.nss o.body + opNs os + 1 ∧ St.xss [rep n o.body] + opXs os = St.xss o.body + opXs os
  rw [e1, e2]
  omega
theorem nest_ne (n : Int) (ds : List Decl') (o : Oper') (os : List Oper') : (⟨ds, o :: os⟩ : Prog') ≠ nest n ds o os := fun e => by
  have h := congrArg (fun p => opNs p.opers) e
  have h2 := (nest_size n ds o os).1
  dsimp only at h
  omega
end Go.Proofs.YthfjkdgaiaokdaaDoor
