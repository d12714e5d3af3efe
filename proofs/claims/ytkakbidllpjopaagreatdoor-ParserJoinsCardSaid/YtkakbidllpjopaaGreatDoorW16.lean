/- The text form of a valid program is read by the lexer as its tokens. Conditions: a valid program, numbers of int64. The text form of valid expressions, statements and programs is read by the lexer as their tokens; so a text form tells its program. Conditions: valid, numbers of int64; at most 65536 bytes. What the lifting of each parser card needs: the heap that the start-up code leaves meets the rows' condition; the condition says what the package variables hold. No condition. -/
import Derived.Test.YtkakbidllpjopaaGreatDoorW15
import Derived.Test.YtkakbidllpjopaaGreatDoorRows
import Derived.Test.YtkakbidllpjopaaGreatDoorChecked
import Derived.ProofKit
import Derived.LaidMore
import Derived.OpenShut
import Derived.Stop.Joined
import Derived.RowKit
import Derived.RowKit3
import Derived.RowKitTokens
import Derived.LaidLaws
import Derived.Test.YtkakbidllpjopaaGreatDoorW14
import Derived.Lib.LaidTab
import Derived.Stop.LaidErr
set_option linter.unusedVariables false
set_option linter.unusedSimpArgs false
namespace Go.Proofs.YtkakbidllpjopaaGreatDoor.Lx

theorem zword_again {x : List UInt8} (h : ∀ b ∈ x, partB b = true) {b : UInt8} (hb : partB b = false) (y : List UInt8) : word (x ++ b :: y) = x := by
  unfold word
  rw [List.takeWhile_append_of_pos h, List.takeWhile_cons, if_neg (by rw [hb]; exact Bool.false_ne_true), List.append_nil]
theorem zword_parts (l : List UInt8) : ∀ b ∈ word l, partB b = true := fun b hb => by
  unfold word at hb
  induction l with
  | nil => cases hb
  | cons a t ih =>
    rw [List.takeWhile_cons] at hb
    split at hb
    · next h =>
      rcases List.mem_cons.1 hb with rfl | hb
      · exact h
      · exact ih hb
    · cases hb
theorem znext_word {l l' : List UInt8} (h : word l = word l') (hn : word l ≠ []) : nextT l = nextT l' := by
  unfold nextT
  rw [h] at hn ⊢
  by_cases h1 : headDig (word l') = true
  · rw [if_pos h1, if_pos h1]
  · rw [if_neg h1, if_neg h1]
    by_cases h2 : kws.contains (word l') = true
    · rw [if_pos h2, if_pos h2]
    · rw [if_neg h2, if_neg h2]
      by_cases h3 : 24 < (word l').length
      · rw [if_pos h3, if_pos h3]
      · rw [if_neg h3, if_neg h3, if_pos hn, if_pos hn]
theorem znext_sgn {l : List UInt8} (hn : word l = []) : nextT l = match sgs.find? (fun x => x.isPrefixOf l) with
    | some x => (3, x, 0)
    | none => (0, [], 5) := by
  unfold nextT
  rw [hn]
  rfl
theorem zscanG_succ (f k : Nat) (l : List UInt8) : scanG (f + 1) k l = if l = [] then .ok [] else if (nextT l).2.2 ≠ 0 then .error (k, (nextT l).2.2) else match scanG f (k + (nextT l).2.1.length + blankA false (l.drop (nextT l).2.1.length)) ((l.drop (nextT l).2.1.length).drop (blankA false (l.drop (nextT l).2.1.length))) with
    | .error e => .error e
    | .ok ts => .ok (⟨(nextT l).1, (nextT l).2.1, k⟩ :: ts) := rfl
/-- Where a token begins there is no blank. -/
theorem zblank_zero {l : List UInt8} (h1 : (nextT l).2.2 = 0) : blankA false l = 0 := by
  cases l with
  | nil => rfl
  | cons a l =>
    have hw : wsB a = false ∧ a ≠ 35 := by
      by_cases hn : word (a :: l) = []
      · rw [znext_sgn hn] at h1
        cases hf : sgs.find? (fun x => x.isPrefixOf (a :: l)) with
        | none => rw [hf] at h1; cases h1
        | some x =>
          have hm := List.mem_of_find?_eq_some hf
          have hp := List.find?_some hf
          simp only [sgs, List.mem_cons, List.not_mem_nil, or_false] at hm
          rcases hm with rfl | rfl | rfl | rfl | rfl | rfl | rfl | rfl | rfl | rfl | rfl | rfl | rfl | rfl | rfl | rfl | rfl | rfl | rfl <;>
            (simp [List.isPrefixOf] at hp; try obtain ⟨rfl, _⟩ := hp) <;> (try subst hp) <;> exact ⟨rfl, by decide⟩
      · have h3 := zword_parts (a :: l) a (by
          unfold word at hn ⊢
          rw [List.takeWhile_cons] at hn ⊢
          split at hn
          · next h => rw [if_pos h]; exact List.mem_cons_self ..
          · exact absurd rfl hn)
        constructor
        · cases hws : wsB a with
          | false => rfl
          | true =>
            simp [wsB] at hws
            rcases hws with ((rfl | rfl) | rfl) | rfl <;> cases h3
        · rintro rfl; cases h3
    simp [blankA, hw.1, hw.2]
/-- The text is read as these tokens (kinds and texts). -/
def Lexes (l : List UInt8) (ts : List (Int × List UInt8)) : Prop := ∀ k f, l.length < f → ∃ us : List Tok, scanG f (k + blankA false l) (l.drop (blankA false l)) = .ok us ∧ us.map (fun t => (t.kind, t.text)) = ts
theorem lex_nil : Lexes [] [] := fun k f hf => by
  obtain ⟨f, rfl⟩ : ∃ g, f = g + 1 := ⟨f - 1, by simp at hf; omega⟩
  exact ⟨[], rfl, rfl⟩
theorem lex_blank {b : UInt8} {l : List UInt8} {ts : List (Int × List UInt8)} (hb : wsB b = true) (h : Lexes l ts) : Lexes (b :: l) ts := fun k f hf => by
  rw [List.length_cons] at hf
  obtain ⟨us, h1, h2⟩ := h (k + 1) f (by omega)
  have e : blankA false (b :: l) = blankA false l + 1 := by simp [blankA, hb]
  refine ⟨us, ?_, h2⟩
  rw [e, List.drop_succ_cons, show k + (blankA false l + 1) = k + 1 + blankA false l by omega]
  exact h1
theorem lex_tok {x r : List UInt8} {kk : Int} {ts : List (Int × List UInt8)} (hn : nextT (x ++ r) = (kk, x, 0)) (hx : x ≠ []) (h : Lexes r ts) : Lexes (x ++ r) ((kk, x) :: ts) := fun k f hf => by
  obtain ⟨f, rfl⟩ : ∃ g, f = g + 1 := ⟨f - 1, by omega⟩
  have hl := List.length_pos_iff.2 hx
  rw [List.length_append] at hf
  obtain ⟨us, h1, h2⟩ := h (k + x.length) f (by omega)
  have e : blankA false (x ++ r) = 0 := zblank_zero (by rw [hn])
  refine ⟨⟨kk, x, k⟩ :: us, ?_, by rw [List.map_cons, h2]⟩
  rw [e, List.drop_zero, zscanG_succ, if_neg (by intro e; rw [List.append_eq_nil_iff] at e; exact hx e.1), hn, Nat.add_zero]
  dsimp only
  rw [if_neg (by simp), List.drop_left, h1]
/-- A text that ends a word and a sign. -/
def Gd (r : List UInt8) : Prop := ∀ b t, r = b :: t → partB b = false ∧ b ≠ 61
theorem word_gd {x r : List UInt8} (h : ∀ b ∈ x, partB b = true) (hr : Gd r) : word (x ++ r) = x := by
  cases r with
  | nil =>
    rw [List.append_nil]
    unfold word
    have := List.takeWhile_append_of_pos (p := partB) (l₁ := x) (l₂ := []) h
    simpa using this
  | cons b t => exact zword_again h (hr b t rfl).1 t
theorem gd_cons {b : UInt8} (t : List UInt8) (h1 : partB b = false) (h2 : b ≠ 61) : Gd (b :: t) := by
  intro b' t' e
  injection e with e1 e2
  subst e1
  exact ⟨h1, h2⟩
/-- A word is read as what it is. -/
theorem lex_word {x r : List UInt8} {kk : Int} {ts : List (Int × List UInt8)} (hp : ∀ b ∈ x, partB b = true) (hx : x ≠ []) (hk : nextT x = (kk, x, 0)) (hr : Gd r) (h : Lexes r ts) : Lexes (x ++ r) ((kk, x) :: ts) := by
  refine lex_tok ?_ hx h
  have e1 := word_gd hp hr
  have e2 := word_gd (r := []) hp (fun b t e => by cases e)
  rw [List.append_nil] at e2
  rw [znext_word (e1.trans e2.symm) (by rw [e1]; exact hx)]
  exact hk
/-- The signs that no byte carries on. -/
def lone : List UInt8 := [43, 45, 42, 47, 37, 40, 41, 123, 125, 44, 46, 59]
theorem lex_sign {b : UInt8} {r : List UInt8} {ts : List (Int × List UInt8)} (hb : b ∈ lone) (h : Lexes r ts) : Lexes (b :: r) ((3, [b]) :: ts) := by
  refine lex_tok (x := [b]) ?_ (by simp) h
  simp only [lone, List.mem_cons, List.not_mem_nil, or_false] at hb
  rcases hb with rfl | rfl | rfl | rfl | rfl | rfl | rfl | rfl | rfl | rfl | rfl | rfl <;>
    (rw [znext_sgn (by simp [word, List.takeWhile_cons, partB, partN, letN, digN])]; simp [sgs, List.find?_cons, List.isPrefixOf])
/-- A sign before a byte that doesn't carry it on. -/
theorem lex_sgn {x r : List UInt8} {ts : List (Int × List UInt8)} (hx : x ∈ sgs) (hr : ∃ b t, r = b :: t ∧ b ≠ 61) (h : Lexes r ts) : Lexes (x ++ r) ((3, x) :: ts) := by
  obtain ⟨b, t, rfl, hb⟩ := hr
  have hb' : (61 == b) = false := beq_eq_false_iff_ne.2 (Ne.symm hb)
  have key : word (x ++ b :: t) = [] ∧ (sgs.find? (fun z => z.isPrefixOf (x ++ b :: t))) = some x ∧ x ≠ [] := by
    simp only [sgs, List.mem_cons, List.not_mem_nil, or_false] at hx
    rcases hx with rfl | rfl | rfl | rfl | rfl | rfl | rfl | rfl | rfl | rfl | rfl | rfl | rfl | rfl | rfl | rfl | rfl | rfl | rfl <;>
      exact ⟨by simp [word, List.takeWhile_cons, partB, partN, letN, digN], by simp [sgs, List.find?_cons, List.isPrefixOf, hb'], by simp⟩
  refine lex_tok ?_ key.2.2 h
  rw [znext_sgn key.1, key.2.1]
end Go.Proofs.YtkakbidllpjopaaGreatDoor.Lx
namespace Go.Proofs.YtkakbidllpjopaaGreatDoor
open Lx (Lexes Gd gd_cons lex_blank lex_sign lex_sgn lex_word lex_nil)

theorem part_let {b : UInt8} (h : letB b = true) : Lx.partB b = true ∧ Lx.digB b = false := by
  unfold letB at h
  unfold Lx.partB Lx.partN Lx.letN Lx.digB Lx.digN
  simp only [Bool.or_eq_true, Bool.and_eq_true, beq_iff_eq, decide_eq_true_eq, UInt8.le_iff_toNat_le] at h
  have h95 : (95 : UInt8).toNat = 95 := rfl
  have h97 : (97 : UInt8).toNat = 97 := rfl
  have h122 : (122 : UInt8).toNat = 122 := rfl
  have h65 : (65 : UInt8).toNat = 65 := rfl
  have h90 : (90 : UInt8).toNat = 90 := rfl
  have hx : b.toNat = 95 ∨ (97 ≤ b.toNat ∧ b.toNat ≤ 122) ∨ (65 ≤ b.toNat ∧ b.toNat ≤ 90) := by
    rcases h with (h | h) | h
    · subst h; exact .inl rfl
    · omega
    · omega
  constructor
  · simp only [Bool.or_eq_true, Bool.and_eq_true, decide_eq_true_eq]; omega
  · simp only [Bool.and_eq_false_iff, decide_eq_false_iff_not]; omega
theorem part_dig {b : UInt8} (h : digB b = true) : Lx.partB b = true := by
  unfold digB at h
  unfold Lx.partB Lx.partN Lx.letN Lx.digN
  simp only [Bool.and_eq_true, decide_eq_true_eq, UInt8.le_iff_toNat_le] at h
  have h48 : (48 : UInt8).toNat = 48 := rfl
  have h57 : (57 : UInt8).toNat = 57 := rfl
  simp only [Bool.or_eq_true, Bool.and_eq_true, decide_eq_true_eq]; omega
theorem nameL_part : ∀ (s : Str) (i : Nat), nameL i s = true → ∀ b ∈ s, Lx.partB b = true
  | [], _, _, b, h => by cases h
  | a :: t, i, h, b, hb => by
    rw [nameL, Bool.and_eq_true, Bool.or_eq_true, Bool.and_eq_true] at h
    rcases List.mem_cons.1 hb with rfl | hb
    · rcases h.1 with h1 | h1
      · exact (part_let h1).1
      · exact part_dig h1.2
    · exact nameL_part t (i + 1) h.2 b hb
theorem word_all {s : Str} (h : ∀ b ∈ s, Lx.partB b = true) : Lx.word s = s := by
  have := Lx.word_gd (r := []) h (fun b t e => by cases e)
  rwa [List.append_nil] at this
theorem next_name {s : Str} (h : nameOk s = true) : Lx.nextT s = (1, s, 0) ∧ (∀ b ∈ s, Lx.partB b = true) ∧ s ≠ [] := by
  unfold nameOk at h
  simp only [Bool.and_eq_true, decide_eq_true_eq, Bool.not_eq_true'] at h
  obtain ⟨⟨⟨h1, h2⟩, h3⟩, h4⟩ := h
  have hp := nameL_part s 0 h1
  have hw := word_all hp
  have hne : s ≠ [] := by rintro rfl; simp at h2
  refine ⟨?_, hp, hne⟩
  have hd : Lx.headDig s = false := by
    cases s with
    | nil => rfl
    | cons a t =>
      rw [nameL, Bool.and_eq_true, Bool.or_eq_true, Bool.and_eq_true] at h1
      rcases h1.1 with h | h
      · exact (part_let h).2
      · exact absurd h.1 (by decide)
  have hk : Lx.kws.contains s = false := h4
  unfold Lx.nextT
  rw [hw, if_neg (by rw [hd]; exact Bool.false_ne_true), if_neg (by rw [hk]; exact Bool.false_ne_true), if_neg (by omega), if_pos hne]
section
variable {r : Str} {ts : List Tk}
theorem lx_name {s : Str} (hs : nameOk s = true) (hr : Gd r) (h : Lexes r ts) : Lexes (s ++ r) ((1, s) :: ts) := by
  obtain ⟨h1, h2, h3⟩ := next_name hs
  exact lex_word h2 h3 h1 hr h
theorem lx_kw {s : Str} (hs : s ∈ kwords) (hr : Gd r) (h : Lexes r ts) : Lexes (s ++ r) ((4, s) :: ts) := by
  have hb : (∀ b ∈ s, Lx.partB b = true) ∧ s ≠ [] ∧ Lx.nextT s = (4, s, 0) := by
    simp only [kwords, List.mem_cons, List.not_mem_nil, or_false] at hs
    rcases hs with rfl | rfl | rfl | rfl | rfl | rfl | rfl | rfl | rfl | rfl | rfl | rfl | rfl | rfl <;> exact ⟨by decide, by decide, by decide⟩
  exact lex_word hb.1 hb.2.1 hb.2.2 hr h
theorem lx_num {n : Int} (h0 : 0 ≤ n) (h1 : n ≤ 9223372036854775807) (hr : Gd r) (h : Lexes r ts) : Lexes (Lib.itoa n ++ r) ((2, Lib.itoa n) :: ts) := by
  have hp : ∀ b ∈ Lib.itoa n, Lx.partB b = true ∧ Lx.digB b = true := fun b hb => by
    rw [dn_itoa n h0] at hb
    have := List.all_eq_true.1 (dn_all n.natAbs) b hb
    refine ⟨?_, this⟩
    unfold Lx.partB Lx.partN
    unfold Lx.digB at this
    rw [this, Bool.or_true]
  have hw := word_all fun b hb => (hp b hb).1
  have hne : Lib.itoa n ≠ [] := by rw [dn_itoa n h0]; exact dn_ne _
  refine lex_word (fun b hb => (hp b hb).1) hne ?_ hr h
  have hd : Lx.headDig (Lib.itoa n) = true := by
    cases hq : Lib.itoa n with
    | nil => exact absurd hq hne
    | cons b t => exact (hp b (by rw [hq]; exact List.mem_cons_self ..)).2
  have he : Lx.numE (Lib.itoa n) = 0 := by rw [dn_itoa n h0, dn_numE, if_pos (by omega)]
  unfold Lx.nextT
  rw [hw, if_pos hd, he]
end
theorem gd_sp (t : Str) : Gd (32 :: t) := gd_cons t (by decide) (by decide)
theorem gd_nl (t : Str) : Gd (10 :: t) := gd_cons t (by decide) (by decide)
theorem gd_cls (t : Str) : Gd (41 :: t) := gd_cons t (by decide) (by decide)
theorem gd_opn (t : Str) : Gd (40 :: t) := gd_cons t (by decide) (by decide)
theorem gd_com (t : Str) : Gd (44 :: t) := gd_cons t (by decide) (by decide)
theorem gd_dot (t : Str) : Gd (46 :: t) := gd_cons t (by decide) (by decide)
theorem gd_sem (t : Str) : Gd (59 :: t) := gd_cons t (by decide) (by decide)
section
variable (n : Int) (s m : Str) (x y : Ex) (a : List Ex)
theorem tx_num : txE (.mk 0 n [] [] [] []) = Lib.itoa n := by rw [txE, if_pos rfl]
theorem tx_bool : txE (.mk 1 n [] [] [] []) = if n = 1 then tTrue else tFalse := by
  rw [txE, if_neg (by decide), if_pos rfl]
  by_cases h : n = 1
  · rw [if_pos h, decide_eq_true h]; rfl
  · rw [if_neg h, decide_eq_false h]; rfl
theorem tx_var : txE (.mk 2 0 s [] [] []) = s := by rw [txE, if_neg (by decide), if_neg (by decide), if_pos rfl]
theorem tx_not : txE (.mk 3 0 [] [] [x] []) = [110, 111, 116, 32] ++ opE x := by rw [txE, if_neg (by decide), if_neg (by decide), if_neg (by decide), if_pos rfl, opEs_map]; rfl
theorem tx_neg : txE (.mk 4 0 [] [] [x] []) = [45] ++ opE x := by rw [txE, if_neg (by decide), if_neg (by decide), if_neg (by decide), if_neg (by decide), if_pos rfl, opEs_map]; rfl
theorem tx_bin : txE (.mk 5 0 [] m [x, y] []) = opE x ++ [32] ++ m ++ [32] ++ opE y := by rw [txE, if_neg (by decide), if_neg (by decide), if_neg (by decide), if_neg (by decide), if_neg (by decide), if_pos rfl, opEs_map]; rfl
theorem tx_call : txE (.mk 6 0 s m a []) = s ++ [46] ++ m ++ [40] ++ Lib.join (a.map txE) [44, 32] ++ [41] := by
  rw [txE, if_neg (by decide), if_neg (by decide), if_neg (by decide), if_neg (by decide), if_neg (by decide), if_neg (by decide), if_neg (by decide), if_pos (by rfl), txEs_map, List.append_nil]
theorem tx_or : txE (.mk 6 0 s m a [x]) = s ++ [46] ++ m ++ [40] ++ Lib.join (a.map txE) [44, 32] ++ [41] ++ ([32, 101, 108, 115, 101, 32] ++ opE x) := by
  rw [txE, if_neg (by decide), if_neg (by decide), if_neg (by decide), if_neg (by decide), if_neg (by decide), if_neg (by decide), if_neg (by decide), if_neg (by simp), txEs_map, opEs_map]; rfl
theorem tx_host : txE (.mk 7 0 s [] a []) = [104, 111, 115, 116, 46] ++ s ++ [40] ++ Lib.join (a.map txE) [44, 32] ++ [41] := by
  rw [txE, if_neg (by decide), if_neg (by decide), if_neg (by decide), if_neg (by decide), if_neg (by decide), if_neg (by decide), if_pos (by rfl), txEs_map]
end
/-- What is shown of each valid expression. -/
def LxE (e : Ex) : Prop := ∀ (r : Str) (ts : List Tk), Gd r → Lexes r ts → Lexes (txE e ++ r) (tkE e ++ ts)
theorem LxE.opr {e : Ex} (h : LxE e) (r : Str) (ts : List Tk) (hr : Gd r) (hl : Lexes r ts) : Lexes (opE e ++ r) (tkO e ++ ts) := by
  unfold opE par tkO pT
  by_cases hp : e.kind = 5 ∨ e.kind = 3 ∨ e.kind = 4 ∨ (e.kind = 6 ∧ 0 < e.orr.length)
  · rw [if_pos hp, if_pos hp]
    simp only [List.append_assoc, List.cons_append, List.nil_append]
    exact lex_sign (by decide) (h _ _ (gd_cls r) (lex_sign (by decide) hl))
  · rw [if_neg hp, if_neg hp]
    exact h r ts hr hl
theorem join_cons (x y : Str) (t : List Str) (sep : Str) : Lib.join (x :: y :: t) sep = x ++ sep ++ Lib.join (y :: t) sep := by simp [Lib.join, List.intercalate]
theorem lx_join : ∀ (a : List Ex), (∀ x ∈ a, LxE x) → ∀ (r : Str) (ts : List Tk), Gd r → Lexes r ts → Lexes (Lib.join (a.map txE) [44, 32] ++ r) (cm (a.map tkE) ++ ts)
  | [], _, r, ts, hr, hl => hl
  | [x], h, r, ts, hr, hl => by
    have e : Lib.join ([x].map txE) [44, 32] = txE x := by simp [Lib.join, List.intercalate]
    rw [e]
    exact h x (List.mem_cons_self ..) r ts hr hl
  | x :: y :: t, h, r, ts, hr, hl => by
    have ih := lx_join (y :: t) (fun z hz => h z (List.mem_cons_of_mem _ hz)) r ts hr hl
    have e1 : cm ((x :: y :: t).map tkE) = tkE x ++ (3, [44]) :: cm ((y :: t).map tkE) := rfl
    rw [List.map_cons, List.map_cons, join_cons, ← List.map_cons, e1]
    simp only [List.append_assoc, List.cons_append, List.nil_append]
    exact h x (List.mem_cons_self ..) _ _ (gd_com _) (lex_sign (by decide) (lex_blank (by decide) ih))
theorem lx_op {m : Str} (hm : sgns.contains m = true) {r : Str} {ts : List Tk} (h : Lexes r ts) : Lexes (m ++ 32 :: r) (sgTk m :: ts) := by
  have hm : m ∈ sgns := by simpa using hm
  have hb : Lexes (32 :: r) ts := lex_blank (by decide) h
  have hs : ∀ x, x ∈ Lx.sgs → Lexes (x ++ 32 :: r) ((3, x) :: ts) := fun x hx => lex_sgn hx ⟨32, r, rfl, by decide⟩ hb
  have hk : ∀ x, x ∈ kwords → Lexes (x ++ 32 :: r) ((4, x) :: ts) := fun x hx => lx_kw hx (gd_sp r) hb
  simp only [sgns, List.mem_cons, List.not_mem_nil, or_false] at hm
  rcases hm with rfl | rfl | rfl | rfl | rfl | rfl | rfl | rfl | rfl | rfl | rfl | rfl | rfl
  · exact hs _ (by decide)
  · exact hs _ (by decide)
  · exact hs _ (by decide)
  · exact hs _ (by decide)
  · exact hs _ (by decide)
  · exact hs _ (by decide)
  · exact hs _ (by decide)
  · exact hs _ (by decide)
  · exact hs _ (by decide)
  · exact hs _ (by decide)
  · exact hs _ (by decide)
  · exact hk _ (by decide)
  · exact hk _ (by decide)
theorem lxE_any : ∀ (k : Nat) (e : Ex), e.size ≤ k → ∀ d : Int, chkE d e = 0 → e.Wd → LxE e := by
  intro k
  induction k with
  | zero => intro e h; obtain ⟨_, _, _, _, _, _⟩ := e; rw [Ex.size] at h; omega
  | succ k ih =>
    intro e hz d hc hwd
    have wa : ∀ x ∈ e.args, x.Wd := fun x hx => by obtain ⟨_, _, _, _, a, o⟩ := e; rw [Ex.Wd] at hwd; exact Ex.Wds_mem hwd.2.1 x hx
    have wo : ∀ x ∈ e.orr, x.Wd := fun x hx => by obtain ⟨_, _, _, _, a, o⟩ := e; rw [Ex.Wd] at hwd; exact Ex.Wds_mem hwd.2.2 x hx
    have kids : ∀ x ∈ e.args, chkE (d + 1) x = 0 → LxE x := fun x hx hc => ih x (by obtain ⟨_, _, _, _, a, o⟩ := e; have := Ex.sizes_mem (show x ∈ a from hx); rw [Ex.size] at hz; omega) (d + 1) hc (wa x hx)
    have okid : ∀ x ∈ e.orr, chkE (d + 1) x = 0 → LxE x := fun x hx hc => ih x (by obtain ⟨_, _, _, _, a, o⟩ := e; have := Ex.sizes_mem (show x ∈ o from hx); rw [Ex.size] at hz; omega) (d + 1) hc (wo x hx)
    obtain ⟨hs, -⟩ := shape_of hc
    clear ih hz hc wa wo
    intro r ts hr hl
    cases hs with
    | num n h =>
      rw [Ex.Wd] at hwd
      have hw1 := hwd.1.2
      rw [tx_num, tk_num]
      exact lx_num h hw1 hr hl
    | bool n h =>
      rw [tx_bool, tk_bool]
      by_cases h1 : n = 1
      · rw [if_pos h1]; exact lx_kw (by decide) hr hl
      · rw [if_neg h1]; exact lx_kw (by decide) hr hl
    | var s h =>
      rw [tx_var, tk_var]
      exact lx_name h hr hl
    | not x h =>
      rw [tx_not, tk_not, List.append_assoc]
      exact lx_kw (s := tNot) (r := 32 :: (opE x ++ r)) (by decide) (gd_sp _) (lex_blank (by decide) ((kids x (by simp [Ex.args]) h).opr r ts hr hl))
    | neg x h =>
      rw [tx_neg, tk_neg, List.append_assoc]
      exact lex_sign (by decide) ((kids x (by simp [Ex.args]) h).opr r ts hr hl)
    | bin m x y hm h1 h2 =>
      have hx := kids x (by simp [Ex.args]) h1
      have hy := kids y (by simp [Ex.args]) h2
      rw [tx_bin, tk_bin]
      simp only [List.append_assoc, List.cons_append, List.nil_append]
      exact hx.opr _ _ (gd_sp _) (lex_blank (by decide) (lx_op hm (hy.opr r ts hr hl)))
    | call s m a o h1 h2 h3 h4 h5 h6 =>
      have ha : ∀ x ∈ a, LxE x := fun x hx => kids x hx (h4 x hx)
      match o, h5, okid, h6 with
      | [], _, _, _ =>
        rw [tx_call, tk_call]
        simp only [List.append_assoc, List.cons_append, List.nil_append]
        exact lx_name h1 (gd_dot _) (lex_sign (by decide) (lx_name h2 (gd_opn _) (lex_sign (by decide) (lx_join a ha _ _ (gd_cls r) (lex_sign (by decide) hl)))))
      | [x], _, okid, h6 =>
        have hx := okid x (by simp [Ex.orr]) (h6 x (by simp))
        rw [tx_or, tk_or]
        simp only [List.append_assoc, List.cons_append, List.nil_append]
        exact lx_name h1 (gd_dot _) (lex_sign (by decide) (lx_name h2 (gd_opn _) (lex_sign (by decide) (lx_join a ha _ _ (gd_cls _) (lex_sign (by decide) (lex_blank (by decide) (lx_kw (s := tElse) (r := 32 :: (opE x ++ r)) (by decide) (gd_sp _) (lex_blank (by decide) (hx.opr r ts hr hl)))))))))
    | host s a h1 h2 h3 =>
      have ha : ∀ x ∈ a, LxE x := fun x hx => kids x hx (h3 x hx)
      rw [tx_host, tk_host]
      simp only [List.append_assoc, List.cons_append, List.nil_append]
      exact lx_kw (s := tHost) (r := 46 :: (s ++ 40 :: (Lib.join (a.map txE) [44, 32] ++ 41 :: r))) (by decide) (gd_dot _) (lex_sign (by decide) (lx_name h1 (gd_opn _) (lex_sign (by decide) (lx_join a ha _ _ (gd_cls r) (lex_sign (by decide) hl)))))
theorem lxE {d : Int} {e : Ex} (h : chkE d e = 0) (hw : e.Wd) : LxE e := lxE_any e.size e (Nat.le_refl _) d h hw
theorem lx_ind (d : Nat) {X : Str} {ts : List Tk} (h : Lexes X ts) : Lexes (Lib.repeatL [32, 32] d ++ X) ts := by
  induction d with
  | zero => exact h
  | succ d ih =>
    have e : Lib.repeatL [32, 32] (d + 1) = ([32, 32] : Str) ++ Lib.repeatL [32, 32] d := rfl
    rw [e]
    exact lex_blank (by decide) (lex_blank (by decide) ih)
theorem lx_line (d : Nat) (s : Str) {r : Str} {ts : List Tk} (h : Lexes (s ++ 10 :: r) ts) : Lexes (lineT d s ++ r) ts := by
  unfold lineT
  rw [List.append_assoc, List.append_assoc]
  exact lx_ind d h
theorem lx_nl {r : Str} {ts : List Tk} (h : Lexes r ts) : Lexes (10 :: r) ts := lex_blank (by decide) h
def LxS (s : St) : Prop := ∀ (d : Nat) (r : Str) (ts : List Tk), Lexes r ts → Lexes (txS d s ++ r) (tkS s ++ ts)
theorem lx_all : ∀ (b : List St), (∀ s ∈ b, LxS s) → ∀ (d : Nat) (r : Str) (ts : List Tk), Lexes r ts → Lexes (txSs d b ++ r) (tkSs b ++ ts)
  | [], _, d, r, ts, h => by rw [txSs, tkSs]; exact h
  | s :: t, hb, d, r, ts, h => by
    rw [txSs, tkSs, List.append_assoc, List.append_assoc]
    exact hb s (List.mem_cons_self ..) d _ _ (lx_all t (fun z hz => hb z (List.mem_cons_of_mem _ hz)) d r ts h)
section
variable (d : Nat) (s : Str) (n : Int) (e : Ex) (b l : List St)
theorem tl_let : txS d (.mk 0 s 0 e [] []) = lineT d ([108, 101, 116, 32] ++ s ++ [32, 61, 32] ++ txE e ++ [59]) := by rw [txS, if_pos rfl]
theorem tl_set : txS d (.mk 1 s 0 e [] []) = lineT d (s ++ [32, 61, 32] ++ txE e ++ [59]) := by rw [txS, if_neg (by decide), if_pos rfl]
theorem tl_do : txS d (.mk 2 [] 0 e [] []) = lineT d (txE e ++ [59]) := by rw [txS, if_neg (by decide), if_neg (by decide), if_pos rfl]
theorem tl_ret : txS d (.mk 5 [] 0 e [] []) = lineT d ([114, 101, 116, 117, 114, 110, 32] ++ txE e ++ [59]) := by rw [txS, if_neg (by decide), if_neg (by decide), if_neg (by decide), if_pos rfl]
theorem tl_abt : txS d (.mk 6 [] n (.mk 0 0 [] [] [] []) [] []) = lineT d ([97, 98, 111, 114, 116, 32] ++ Lib.itoa n ++ [59]) := by rw [txS, if_neg (by decide), if_neg (by decide), if_neg (by decide), if_neg (by decide), if_pos rfl]
theorem tl_rep : txS d (.mk 4 [] n (.mk 0 0 [] [] [] []) b []) = lineT d ([114, 101, 112, 101, 97, 116, 32] ++ Lib.itoa n ++ [32, 123]) ++ txSs (d + 1) b ++ lineT d [125] := by rw [txS, if_neg (by decide), if_neg (by decide), if_neg (by decide), if_neg (by decide), if_neg (by decide), if_pos rfl]
theorem tl_if : txS d (.mk 3 [] 0 e b []) = lineT d ([105, 102, 32] ++ txE e ++ [32, 123]) ++ txSs (d + 1) b ++ lineT d [125] := by rw [txS, if_neg (by decide), if_neg (by decide), if_neg (by decide), if_neg (by decide), if_neg (by decide), if_neg (by decide), if_pos (by rfl), List.append_nil]
theorem tl_ifelse (h : l ≠ []) : txS d (.mk 3 [] 0 e b l) = lineT d ([105, 102, 32] ++ txE e ++ [32, 123]) ++ txSs (d + 1) b ++ (lineT d [125, 32, 101, 108, 115, 101, 32, 123] ++ txSs (d + 1) l) ++ lineT d [125] := by rw [txS, if_neg (by decide), if_neg (by decide), if_neg (by decide), if_neg (by decide), if_neg (by decide), if_neg (by decide), if_neg (fun e => h (List.eq_nil_of_length_eq_zero e))]
end
theorem lx_eq {r : Str} {ts : List Tk} (h : Lexes r ts) : Lexes (61 :: 32 :: r) ((3, [61]) :: ts) := lex_sgn (x := [61]) (by decide) ⟨32, r, rfl, by decide⟩ (lex_blank (by decide) h)
theorem lxS_any : ∀ (k : Nat) (s : St), s.size ≤ k → ∀ D : Int, chkS D s = 0 → s.Wd → LxS s := by
  intro k
  induction k with
  | zero => intro s h; obtain ⟨_, _, _, _, _, _⟩ := s; rw [St.size] at h; omega
  | succ k ih =>
    intro x hz D hc hwd
    have kids : ∀ (y : St) (D : Int), y.size < x.size → chkS D y = 0 → y.Wd → LxS y := fun y D h hc hw => ih y (by omega) D hc hw
    obtain ⟨hs, -⟩ := shapeS_of hc
    clear ih hz hc
    intro d r ts hl
    have we : x.expr.Wd := by obtain ⟨_, _, _, _, _, _⟩ := x; rw [St.Wd] at hwd; exact hwd.2.1
    cases hs with
    | let_ s e hs he =>
      rw [tl_let, ts_let]
      refine lx_line d _ ?_
      simp only [List.append_assoc, List.cons_append, List.nil_append]
      exact lx_kw (s := tLet) (r := 32 :: (s ++ 32 :: 61 :: 32 :: (txE e ++ 59 :: 10 :: r))) (by decide) (gd_sp _) (lex_blank (by decide) (lx_name hs (gd_sp _) (lex_blank (by decide) (lx_eq (lxE he we _ _ (gd_sem _) (lex_sign (by decide) (lx_nl hl)))))))
    | set_ s e hs he =>
      rw [tl_set, ts_set]
      refine lx_line d _ ?_
      simp only [List.append_assoc, List.cons_append, List.nil_append]
      exact lx_name hs (gd_sp _) (lex_blank (by decide) (lx_eq (lxE he we _ _ (gd_sem _) (lex_sign (by decide) (lx_nl hl)))))
    | do_ e hk he =>
      rw [tl_do, ts_do]
      refine lx_line d _ ?_
      simp only [List.append_assoc, List.cons_append, List.nil_append]
      exact lxE he we _ _ (gd_sem _) (lex_sign (by decide) (lx_nl hl))
    | return_ e he =>
      rw [tl_ret, ts_ret]
      refine lx_line d _ ?_
      simp only [List.append_assoc, List.cons_append, List.nil_append]
      exact lx_kw (s := tRet) (r := 32 :: (txE e ++ 59 :: 10 :: r)) (by decide) (gd_sp _) (lex_blank (by decide) (lxE he we _ _ (gd_sem _) (lex_sign (by decide) (lx_nl hl))))
    | abort_ n h0 =>
      rw [St.Wd] at hwd
      rw [tl_abt, ts_abt]
      refine lx_line d _ ?_
      simp only [List.append_assoc, List.cons_append, List.nil_append]
      exact lx_kw (s := tAbt) (r := 32 :: (Lib.itoa n ++ 59 :: 10 :: r)) (by decide) (gd_sp _) (lex_blank (by decide) (lx_num h0 hwd.1.2 (gd_sem _) (lex_sign (by decide) (lx_nl hl))))
    | repeat_ n b h0 h1 hb =>
      rw [St.Wd] at hwd
      have hB : ∀ s ∈ b, LxS s := fun s hs => kids s (D + 1) (by rw [St.size]; have := St.sizes_mem hs; omega) (chkSs_all hb s hs) (St.Wds_mem hwd.2.2.1 s hs)
      rw [tl_rep, ts_rep, List.append_assoc, List.append_assoc]
      refine lx_line d _ ?_
      simp only [List.append_assoc, List.cons_append, List.nil_append]
      exact lx_kw (s := tRep) (r := 32 :: (Lib.itoa n ++ 32 :: 123 :: 10 :: (txSs (d + 1) b ++ (lineT d [125] ++ r)))) (by decide) (gd_sp _) (lex_blank (by decide) (lx_num h0 hwd.1.2 (gd_sp _) (lex_blank (by decide) (lex_sign (by decide) (lx_nl (lx_all b hB (d + 1) _ _ (lx_line d _ (lex_sign (by decide) (lx_nl hl)))))))))
    | if_ e b l he hb hlc =>
      rw [St.Wd] at hwd
      have hB : ∀ s ∈ b, LxS s := fun s hs => kids s (D + 1) (by rw [St.size]; have := St.sizes_mem hs; omega) (chkSs_all hb s hs) (St.Wds_mem hwd.2.2.1 s hs)
      have hL : ∀ s ∈ l, LxS s := fun s hs => kids s (D + 1) (by rw [St.size]; have := St.sizes_mem hs; omega) (chkSs_all hlc s hs) (St.Wds_mem hwd.2.2.2 s hs)
      by_cases h0 : l = []
      · subst h0
        rw [tl_if, ts_if, List.append_assoc, List.append_assoc]
        refine lx_line d _ ?_
        simp only [List.append_assoc, List.cons_append, List.nil_append]
        exact lx_kw (s := tIf) (r := 32 :: (txE e ++ 32 :: 123 :: 10 :: (txSs (d + 1) b ++ (lineT d [125] ++ r)))) (by decide) (gd_sp _) (lex_blank (by decide) (lxE he we _ _ (gd_sp _) (lex_blank (by decide) (lex_sign (by decide) (lx_nl (lx_all b hB (d + 1) _ _ (lx_line d _ (lex_sign (by decide) (lx_nl hl)))))))))
      · rw [tl_ifelse _ _ _ _ h0, ts_ifelse _ _ _ h0]
        simp only [List.append_assoc]
        refine lx_line d _ ?_
        simp only [List.append_assoc, List.cons_append, List.nil_append]
        refine lx_kw (s := tIf) (r := 32 :: (txE e ++ 32 :: 123 :: 10 :: (txSs (d + 1) b ++ (lineT d [125, 32, 101, 108, 115, 101, 32, 123] ++ (txSs (d + 1) l ++ (lineT d [125] ++ r)))))) (by decide) (gd_sp _) (lex_blank (by decide) (lxE he we _ _ (gd_sp _) (lex_blank (by decide) (lex_sign (by decide) (lx_nl (lx_all b hB (d + 1) _ _ (lx_line d _ ?_)))))))
        exact lex_sign (by decide) (lex_blank (by decide) (lx_kw (s := tElse) (r := 32 :: 123 :: 10 :: (txSs (d + 1) l ++ (lineT d [125] ++ r))) (by decide) (gd_sp _) (lex_blank (by decide) (lex_sign (by decide) (lx_nl (lx_all l hL (d + 1) _ _ (lx_line d _ (lex_sign (by decide) (lx_nl hl)))))))))
theorem lx_pars : ∀ (l : List Str), (∀ s ∈ l, nameOk s = true) → ∀ (r : Str) (ts : List Tk), Gd r → Lexes r ts → Lexes (Lib.join l [44, 32] ++ r) (tkPs l ++ ts)
  | [], _, r, ts, hr, hl => hl
  | [x], h, r, ts, hr, hl => by
    have e : Lib.join [x] [44, 32] = x := by simp [Lib.join, List.intercalate]
    rw [e]
    exact lx_name (h x (List.mem_cons_self ..)) hr hl
  | x :: y :: t, h, r, ts, hr, hl => by
    have ih := lx_pars (y :: t) (fun z hz => h z (List.mem_cons_of_mem _ hz)) r ts hr hl
    rw [join_cons, tkPs]
    simp only [List.append_assoc, List.cons_append, List.nil_append]
    exact lx_name (h x (List.mem_cons_self ..)) (gd_com _) (lex_sign (by decide) (lex_blank (by decide) ih))
theorem lx_store {d : Decl'} (h : nameOk d.name = true ∧ nameOk d.kind = true) {r : Str} {ts : List Tk} (hl : Lexes r ts) : Lexes (storeT d ++ r) (tkD d ++ ts) := by
  unfold storeT
  refine lx_line 0 _ ?_
  simp only [List.append_assoc, List.cons_append, List.nil_append]
  exact lx_kw (s := tSto) (r := 32 :: (d.name ++ 32 :: (d.kind ++ 59 :: 10 :: r))) (by decide) (gd_sp _) (lex_blank (by decide) (lx_name h.1 (gd_sp _) (lex_blank (by decide) (lx_name h.2 (gd_sem _) (lex_sign (by decide) (lx_nl hl))))))
theorem lx_oper {o : Oper'} (h : nameOk o.name = true ∧ o.params.length ≤ 4 ∧ freshL [] o.params = 0 ∧ chkSs 1 o.body = 0) (hw : St.Wds o.body) {r : Str} {ts : List Tk} (hl : Lexes r ts) : Lexes (operT o ++ r) (tkOp o ++ ts) := by
  have hB : ∀ s ∈ o.body, LxS s := fun s hs => lxS_any s.size s (Nat.le_refl _) 1 (chkSs_all h.2.2.2 s hs) (St.Wds_mem hw s hs)
  unfold operT tkOp
  rw [List.append_assoc, List.append_assoc]
  refine lx_line 0 _ ?_
  simp only [List.append_assoc, List.cons_append, List.nil_append]
  exact lx_kw (s := tOp) (r := 32 :: (o.name ++ 40 :: (Lib.join o.params [44, 32] ++ 41 :: 32 :: 123 :: 10 :: (txSs 1 o.body ++ (lineT 0 [125] ++ r))))) (by decide) (gd_sp _) (lex_blank (by decide) (lx_name h.1 (gd_opn _) (lex_sign (by decide) (lx_pars o.params (freshL_all h.2.2.1) _ _ (gd_cls _) (lex_sign (by decide) (lex_blank (by decide) (lex_sign (by decide) (lx_nl (lx_all o.body hB 1 _ _ (lx_line 0 _ (lex_sign (by decide) (lx_nl hl))))))))))))
theorem lx_opers : ∀ (os : List Oper'), (∀ o ∈ os, nameOk o.name = true ∧ o.params.length ≤ 4 ∧ freshL [] o.params = 0 ∧ chkSs 1 o.body = 0) → (∀ o ∈ os, St.Wds o.body) → Lexes (os.map operT).flatten (os.map tkOp).flatten
  | [], _, _ => lex_nil
  | o :: t, h, hw => by
    have ih := lx_opers t (fun z hz => h z (List.mem_cons_of_mem _ hz)) fun z hz => hw z (List.mem_cons_of_mem _ hz)
    exact lx_oper (h o (List.mem_cons_self ..)) (hw o (List.mem_cons_self ..)) ih
theorem lx_stores : ∀ (ds : List Decl'), (∀ d ∈ ds, nameOk d.name = true ∧ nameOk d.kind = true) → ∀ (r : Str) (ts : List Tk), Lexes r ts → Lexes ((ds.map storeT).flatten ++ r) ((ds.map tkD).flatten ++ ts)
  | [], _, r, ts, hl => hl
  | d :: t, h, r, ts, hl => by
    have ih := lx_stores t (fun z hz => h z (List.mem_cons_of_mem _ hz)) r ts hl
    rw [List.map_cons, List.map_cons, List.flatten_cons, List.flatten_cons, List.append_assoc, List.append_assoc]
    exact lx_store (h d (List.mem_cons_self ..)) ih
def tkt (t : Lx.Tok) : Tk := (t.kind, t.text)
/-- A valid program's text is read as its tokens. -/
theorem scan_print {p : Prog'} (h : chkP p = 0) (hw : ∀ o ∈ p.opers, St.Wds o.body) (h6 : (txP p).length ≤ 65536) : ∃ L, Lx.scanL (txP p) = (L, 0, 0) ∧ L.map tkt = tkP p := by
  obtain ⟨-, -, hds, hos, -, -⟩ := chkP_ok h
  have hl : Lexes (txP p) ((p.stores.map tkD).flatten ++ (p.opers.map tkOp).flatten) := lx_stores _ hds _ _ (lx_opers _ hos hw)
  obtain ⟨us, h1, h2⟩ := hl 0 ((txP p).length + 1) (by omega)
  rw [Nat.zero_add] at h1
  refine ⟨us ++ [⟨0, [], (txP p).length⟩], ?_, ?_⟩
  · unfold Lx.scanL Lx.scanR
    rw [if_neg (by omega), h1]
  · rw [List.map_append]
    show us.map tkt ++ [(0, [])] = _
    rw [show us.map tkt = us.map (fun t => (t.kind, t.text)) from rfl, h2]
    unfold tkP
    rw [List.append_assoc]
/-- Equal text forms, equal programs. -/
theorem txP_inj {p q : Prog'} (hp : chkP p = 0) (hq : chkP q = 0) (wp : ∀ o ∈ p.opers, St.Wds o.body) (wq : ∀ o ∈ q.opers, St.Wds o.body) (h6 : (txP p).length ≤ 65536) (h : txP p = txP q) : p = q := by
  obtain ⟨L, h1, h2⟩ := scan_print hp wp h6
  obtain ⟨M, h3, h4⟩ := scan_print hq wq (h ▸ h6)
  rw [h, h3] at h1
  injection h1 with h1
  have e := pP_read hp
  rw [← h2, ← h1, h4, pP_read hq] at e
  injection e with e
  exact e.symm
end Go.Proofs.YtkakbidllpjopaaGreatDoor
namespace Go.Proofs.YtkakbidllpjopaaGreatDoor
open Go.ChangeShapes Go.WideShapes Go.ChangeAt Go.WideMaps Go.WideElems Go.RowKit

theorem own : ownKnob Tryz.prog.godebug = none := by kernel_rfl
/-- The door's own heap meets the condition. -/
theorem door_met (os : Os) (args : Array Value) : laidMetH Tryz.prog Rows.parserBackRow.laid ((World.doorLaid Tryz.prog 65 os).forCall (fun _ _ => 0) ⟨#[], args, []⟩).memory :=
  laidMetH_of_parts3 (fuel := 8) (laidMet_of_run' 8 (by kernel_rfl) (by kernel_rfl)) (by kernel_rfl) (by kernel_rfl)
set_option maxRecDepth 100000 in
theorem row_of_trod {H : Type} {enc : TypeId × Value → H} {w : World} {base fuel n : Nat} {sp : Nat → Bool} {held : Bool} {t : TypeId} {cs : List Value} {ls : List (List UInt8)} {p : List MemPlace} (ht : Tryz.prog.underlying t = some (.array n 9))
    (h : DataW.trod enc Tryz.prog w base sp held fuel t cs = some (.agg (ls.map fun l => .lit (.string l)), p)) (hl : ls.length = n) (hct : Tryz.prog.cellsOf t = n) : cs = ls.map fun l => Value.string (bs l) := by
  obtain ⟨xs, m, _, hx, hcs, hxl, hf⟩ := DataW.trod_array ht h
  rw [hct] at hcs
  have c1 : Tryz.prog.cellsOf 9 = 1 := by kernel_rfl
  rw [c1] at hf
  have hxm : xs.map (·.1) = ls.map fun l => .lit (.string l) := by
    injection hx with hx _
    injection hx with hx
    exact hx.symm
  apply List.ext_getElem?
  intro i
  by_cases hi : i < n
  · have h1 := hf i hi
    rw [Nat.mul_one] at h1
    have hxi : i < xs.length := by omega
    rw [List.getElem?_eq_getElem hxi] at h1
    obtain ⟨s, hs, hv, _⟩ := DataW.trod_string Tryz.underlying9 h1
    have h2 : xs[i].1 = .lit (.string ls[i]) := by
      have := congrArg (fun l => l[i]?) hxm
      simp only [List.getElem?_map, List.getElem?_eq_getElem hxi, List.getElem?_eq_getElem (show i < ls.length by omega), Option.map_some] at this
      exact Option.some.inj this
    rw [hv] at h2
    have h3 : s.data.toList = ls[i] := by
      injection h2 with h2
      injection h2
    have hci : i < cs.length := by omega
    have h4 : cs[i] = .string s := by
      rw [List.drop_eq_getElem_cons hci] at hs
      have := congrArg List.head? hs
      exact Option.some.inj this
    rw [List.getElem?_eq_getElem hci, h4, List.getElem?_map, List.getElem?_eq_getElem (show i < ls.length by omega), ← h3, Option.map_some, bs_eta]
  · rw [List.getElem?_eq_none (by omega), List.getElem?_eq_none (by simp; omega)]
theorem var_row {w : World} {n : String} {g : Nat} {cs : Array Value} (hg : Tryz.prog.globalNamed n = some g) (h : w.var? Tryz.prog n = some cs) : ∃ t fr, w.heap[g]? = some (.cells cs t fr) := by
  simp only [World.var?, hg, Option.bind_some] at h
  split at h
  · rename_i c t fr he
    injection h with h
    subst h
    exact ⟨_, _, he⟩
  · cases h
theorem gPowT : (Tryz.prog.globals[3]?).map (·.type) = some 206 := by kernel_rfl
theorem ww_of_laid {w : World} (h : laidMetH Tryz.prog Rows.parserBackRow.laid w) : WW w := by
  have hpow : Lib.TabIs Tryz.prog w "internal/strconv.uint64pow10" .u64 Lib.pow10Tab := by
    rw [MakeChecks.laidMetH_plain _ _ _ (by kernel_rfl)] at h
    exact Lib.tabIs_of_head gPow gPowT Tryz.underlying206 Tryz.underlying157 (by kernel_rfl) (by kernel_rfl) h.tail.tail
  have h : laidMet Tryz.prog Rows.parserBackRow.laid w := h
  obtain ⟨ps, hv, hnd, hc⟩ := h
  obtain ⟨g1, t1, cs1, f1, p1, q1, _, _, _, _, hv, _⟩ := hv
  obtain ⟨g2, t2, cs2, f2, p2, q2, _, _, _, _, hv, _⟩ := hv
  obtain ⟨g3, t3, cs3, f3, p3, q3, _, _, _, _, hv, _⟩ := hv
  obtain ⟨g4, t4, cs4, f4, p4, q4, hg4, ht4, hw4, hd4, hv, _⟩ := hv
  obtain ⟨g5, t5, cs5, f5, p5, q5, hg5, ht5, hw5, hd5, hv, _⟩ := hv
  obtain ⟨g6, t6, cs6, f6, p6, q6, hg6, ht6, hw6, hd6, hv, _⟩ := hv
  obtain ⟨g7, t7, cs7, f7, p7, q7, hg7, ht7, hw7, hd7, hv, _⟩ := hv
  obtain rfl : g4 = 5 := Option.some.inj (hg4.symm.trans (by kernel_rfl))
  obtain rfl : g5 = 4 := Option.some.inj (hg5.symm.trans (by kernel_rfl))
  obtain rfl : g6 = 0 := Option.some.inj (hg6.symm.trans (by kernel_rfl))
  obtain rfl : g7 = 1 := Option.some.inj (hg7.symm.trans (by kernel_rfl))
  obtain rfl : t4 = 122 := Option.some.inj (ht4.symm.trans (by kernel_rfl))
  obtain rfl : t5 = 122 := Option.some.inj (ht5.symm.trans (by kernel_rfl))
  obtain rfl : t6 = 149 := Option.some.inj (ht6.symm.trans (by kernel_rfl))
  obtain rfl : t7 = 150 := Option.some.inj (ht7.symm.trans (by kernel_rfl))
  obtain ⟨u4, r4, h4⟩ := var_row hg4 hw4
  obtain ⟨u5, r5, h5⟩ := var_row hg5 hw5
  obtain ⟨u6, r6, h6⟩ := var_row hg6 hw6
  obtain ⟨u7, r7, h7⟩ := var_row hg7 hw7
  have e6 := row_of_trod (ls := Lx.kws) Tryz.underlying149 hd6 rfl (by kernel_rfl)
  have e6' := row_of_trod (ls := kwords) Tryz.underlying149 hd6 rfl (by kernel_rfl)
  have e7 := row_of_trod (ls := Lx.sgs) Tryz.underlying150 hd7 rfl (by kernel_rfl)
  obtain ⟨fu, u, v, e4, _, _⟩ := iface_of_trod Tryz.underlying122 hd4
  obtain ⟨fu5, u5', v5', e5, _, _⟩ := iface_of_trod Tryz.underlying122 hd5
  refine ⟨⟨⟨u6, r6, ?_⟩, ⟨u7, r7, ?_⟩, .iface u v, ?_, .inr ⟨u, v, rfl⟩⟩, ⟨⟨u6, r6, ?_⟩, hpow⟩, .iface u5' v5', ?_, .inr ⟨u5', v5', rfl⟩⟩
  · rw [h6]
    have := e6
    first
      | (rw [show cs6 = (cs6.toList).toArray from rfl, e6]; rfl)
      | (rw [← e6])
      | (simpa using e6)
  · rw [h7]
    first
      | (rw [← e7])
      | (rw [show cs7 = (cs7.toList).toArray from rfl, e7]; rfl)
  · rw [cell_of_row _ _ _ _ _ _ h4, ← Array.getElem?_toList, e4]
    rfl
  · exact h6.trans (by rw [← e6'])
  · rw [cell_of_row _ _ _ _ _ _ h5, ← Array.getElem?_toList, e5]
    rfl
end Go.Proofs.YtkakbidllpjopaaGreatDoor
