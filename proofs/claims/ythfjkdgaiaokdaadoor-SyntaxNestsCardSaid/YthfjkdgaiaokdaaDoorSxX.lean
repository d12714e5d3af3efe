/- The printer's walk: lists of statements; how long a text is; strings.Join of parameters. Conditions: valid statements; the library's tables are laid (SxW). -/
import Derived.Test.YthfjkdgaiaokdaaDoorSxW
set_option linter.unusedVariables false
set_option linter.unusedSimpArgs false
namespace Go.Proofs.YthfjkdgaiaokdaaDoor
open Go.RowKit

theorem stmtAt_any (e : St) : StmtAt e := by
  obtain ⟨N, hN⟩ : ∃ N, N = e.size := ⟨_, rfl⟩
  induction N using Nat.strongRecOn generalizing e with
  | _ N ih =>
    intro d D w0 S cs B b l w hD hw hc hz hlen hx hB0 hwB hBw hp
    have key : ∀ x : St, x.size < e.size → StmtAt x := fun x hlt => ih x.size (by omega) x rfl
    clear ih hN
    rcases (shapeS_of hc).1 with ⟨s, x, hs, he⟩ | ⟨s, x, hs, he⟩ | ⟨x, hk, he⟩ | ⟨x, bb, ll, he, hb, hl⟩ | ⟨n, bb, h0, h1, hb⟩ | ⟨x, he⟩ | ⟨n, h0⟩
    · exact stmt_let s x d D w0 S cs B b l w hD hw hc hz hlen hx hB0 hwB hBw hp
    · exact stmt_set s x d D w0 S cs B b l w hD hw hc hz hlen hx hB0 hwB hBw hp
    · exact stmt_do x d D w0 S cs B b l w hD hw hc hz hlen hx hB0 hwB hBw hp
    · have ihb : AllAt bb := allAt_of fun y hy => key y (by rw [St.size]; have := St.sizes_mem hy; omega)
      by_cases hl0 : ll = []
      · subst hl0
        exact stmt_if x bb ihb d D w0 S cs B b l w hD hw hc hz hlen hx hB0 hwB hBw hp
      · exact stmt_ifelse x bb ll ihb (allAt_of fun y hy => key y (by rw [St.size]; have := St.sizes_mem hy; omega)) hl0 d D w0 S cs B b l w hD hw hc hz hlen hx hB0 hwB hBw hp
    · exact stmt_repeat n bb (allAt_of fun y hy => key y (by rw [St.size]; have := St.sizes_mem hy; omega)) d D w0 S cs B b l w hD hw hc hz hlen hx hB0 hwB hBw hp
    · exact stmt_return x d D w0 S cs B b l w hD hw hc hz hlen hx hB0 hwB hBw hp
    · exact stmt_abort n d D w0 S cs B b l w hD hw hc hz hlen hx hB0 hwB hBw hp
theorem allAt_any (l : List St) : AllAt l := allAt_of fun e _ => stmtAt_any e
mutual
/-- Its numbers are int64. -/
def St.Wd : St → Prop
  | .mk _ _ n e b l => InR n ∧ e.Wd ∧ St.Wds b ∧ St.Wds l
def St.Wds : List St → Prop
  | [] => True
  | e :: t => e.Wd ∧ St.Wds t
end
theorem St.Wds_mem : ∀ {l : List St}, St.Wds l → ∀ e ∈ l, e.Wd
  | a :: t, h, e, he => by
    rw [St.Wds] at h
    rcases List.mem_cons.1 he with rfl | he
    · exact h.1
    · exact St.Wds_mem h.2 e he
mutual
theorem SV.wd {w : World} {S : Nat → Prop} : ∀ {e : St} {cs : List Value}, SV w S e cs → e.Wd
  | .mk k s n e b l, cs, h => by
    rw [SV] at h
    obtain ⟨ex, B, nb, cb, L, nl, cl, h1, h0, h2, h3, h4, h5, h6⟩ := h
    rw [St.Wd]
    refine ⟨h0, h2.wd, ?_, ?_⟩
    · cases b with
      | nil => rw [St.Wds]; trivial
      | cons e t =>
        obtain ⟨b, q, _, _, _, hx⟩ := h5 (by rw [h3.1]; simp)
        exact SLf.wd hx
    · cases l with
      | nil => rw [St.Wds]; trivial
      | cons e t =>
        obtain ⟨b, q, _, _, _, hx⟩ := h6 (by rw [h4.1]; simp)
        exact SLf.wd hx
theorem SLf.wd {w : World} {S : Nat → Prop} {b q : Nat} : ∀ {i : Nat} {l : List St}, SLf w S b q i l → St.Wds l
  | _, [], _ => by rw [St.Wds]; trivial
  | i, e :: t, h => by
    rw [SLf] at h
    obtain ⟨⟨cs, h1, _⟩, h3⟩ := h
    rw [St.Wds]
    exact ⟨SV.wd h1, SLf.wd h3⟩
end
theorem SL.wds {w : World} {S : Nat → Prop} {A : Option Addr} {n c : Nat} {l : List St} (h : SL w S A n c l) : St.Wds l := by
  cases l with
  | nil => rw [St.Wds]; trivial
  | cons e t =>
    obtain ⟨b, q, _, _, _, hx⟩ := h.2 (by rw [h.1.1]; simp)
    exact SLf.wd hx
theorem txSs_len {d : Nat} : ∀ {l : List St}, (∀ x ∈ l, (txS d x).length ≤ 300 * x.size) → (txSs d l).length ≤ 300 * St.sizes l
  | [], _ => by simp [txSs, St.sizes]
  | e :: t, h => by
    have h1 := h e (by simp)
    have h2 := txSs_len (l := t) fun x hx => h x (by simp [hx])
    rw [txSs, St.sizes, List.length_append, Nat.mul_add]
    omega
theorem txS_len (e : St) : ∀ d : Nat, chkS (d : Int) e = 0 → e.Wd → (txS d e).length ≤ 300 * e.size := by
  obtain ⟨N, hN⟩ : ∃ N, N = e.size := ⟨_, rfl⟩
  induction N using Nat.strongRecOn generalizing e with
  | _ N ih =>
    intro d h hw
    obtain ⟨hsh, hd⟩ := shapeS_of h
    have key : ∀ l : List St, (∀ x ∈ l, x.size < e.size) → chkSs ((d : Int) + 1) l = 0 → St.Wds l → (txSs (d + 1) l).length ≤ 300 * St.sizes l := fun l h1 h2 h3 =>
      txSs_len fun x hx => ih x.size (by have := h1 x hx; omega) x rfl (d + 1) (chkSs_all h2 x hx) (St.Wds_mem h3 x hx)
    clear ih hN h
    rcases hsh with ⟨s, x, hs, he⟩ | ⟨s, x, hs, he⟩ | ⟨x, hk, he⟩ | ⟨x, bb, ll, he, hb, hl⟩ | ⟨n, bb, h0, h1, hb⟩ | ⟨x, he⟩ | ⟨n, h0⟩
    all_goals rw [St.Wd] at hw
    · have h1 := name_len hs
      have h2 := txE_len x 1 he hw.2.1
      rw [txS, if_pos rfl, lineT_len, St.size]
      simp only [List.length_append, List.length_cons, List.length_nil]
      omega
    · have h1 := name_len hs
      have h2 := txE_len x 1 he hw.2.1
      rw [txS, if_neg (by decide), if_pos rfl, lineT_len, St.size]
      simp only [List.length_append, List.length_cons, List.length_nil]
      omega
    · have h2 := txE_len x 1 he hw.2.1
      rw [txS, if_neg (by decide), if_neg (by decide), if_pos rfl, lineT_len, St.size]
      simp only [List.length_append, List.length_cons, List.length_nil]
      omega
    · have h2 := txE_len x 1 he hw.2.1
      have h3 := key bb (fun y hy => by rw [St.size]; have := St.sizes_mem hy; omega) hb hw.2.2.1
      have h4 := key ll (fun y hy => by rw [St.size]; have := St.sizes_mem hy; omega) hl hw.2.2.2
      have h5 : (if ll.length = 0 then [] else lineT d [125, 32, 101, 108, 115, 101, 32, 123] ++ txSs (d + 1) ll).length ≤ 40 + 300 * St.sizes ll := by
        split
        · simp
        · rw [List.length_append, lineT_len]
          simp only [List.length_cons, List.length_nil]
          omega
      rw [txS, if_neg (by decide), if_neg (by decide), if_neg (by decide), if_neg (by decide), if_neg (by decide), if_neg (by decide), St.size]
      rw [List.length_append, List.length_append, List.length_append, lineT_len, lineT_len]
      simp only [List.length_append, List.length_cons, List.length_nil] at h5 ⊢
      omega
    · have h2 := Lib.itoa_length_le n hw.1.1 hw.1.2
      have h3 := key bb (fun y hy => by rw [St.size]; have := St.sizes_mem hy; omega) hb hw.2.2.1
      rw [txS, if_neg (by decide), if_neg (by decide), if_neg (by decide), if_neg (by decide), if_neg (by decide), if_pos rfl, St.size]
      simp only [List.length_append, lineT_len, List.length_cons, List.length_nil]
      omega
    · have h2 := txE_len x 1 he hw.2.1
      rw [txS, if_neg (by decide), if_neg (by decide), if_neg (by decide), if_pos rfl, lineT_len, St.size]
      simp only [List.length_append, List.length_cons, List.length_nil]
      omega
    · have h2 := Lib.itoa_length_le n hw.1.1 hw.1.2
      rw [txS, if_neg (by decide), if_neg (by decide), if_neg (by decide), if_neg (by decide), if_pos rfl, lineT_len, St.size]
      simp only [List.length_append, List.length_cons, List.length_nil]
      omega
/-- strings.Join of a slice of strings. -/
theorem join_ss {w : World} {S : Nat → Prop} {A : Option Addr} {n c : Nat} {l : List Str} (h : SS w S A n c l) (sep : Str) (hN : l.length ≤ 100000) (hlen : (Lib.join l sep).length ≤ 100000000) :
    Calls Tryd.prog 25 #[.slice A n c, .string (bs sep)] w fun e w' => e = .returned (.string (bs (Lib.join l sep))) ∧ Below w.heap.size w w' := by
  cases l with
  | nil =>
    obtain rfl : n = 0 := h.1
    refine (Tryd.strings_Join_none A c (bs sep) w).mono ?_
    rintro e w' ⟨rfl, rfl⟩
    exact ⟨rfl, Below.refl _ _⟩
  | cons x t =>
    obtain ⟨b, q, rfl, hb, _, hcell⟩ := h.2.2 (by rw [h.1]; simp)
    have e : ((x :: t).map bs).map (fun s => s.data.toList) = x :: t := by
      rw [List.map_map]
      exact (List.map_congr_left fun y _ => rfl).trans (List.map_id _)
    have hJ := Tryd.strings_Join b q c ((x :: t).map bs) (bs sep) w (fun j y hy => by
      rw [List.getElem?_map] at hy
      obtain ⟨z, hz, rfl⟩ := Option.map_eq_some_iff.1 hy
      obtain ⟨cs, ⟨s, hs, rfl⟩, hr⟩ := hcell j (by rw [h.1]; exact (List.getElem?_eq_some_iff.1 hz).1)
      obtain rfl : z = s := by rw [hz] at hs; injection hs
      have := hr 0 _ rfl
      simpa using this) hb (by rw [List.length_map]; omega) (by rw [List.length_map, ← h.1]; exact h.2.1.1) (by rw [e, bs_list]; omega)
    rw [e, bs_list, List.length_map, ← h.1] at hJ
    exact hJ
end Go.Proofs.YthfjkdgaiaokdaaDoor
